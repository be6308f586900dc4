/- ZonemapMonotone: the plain statement. No condition beyond those in the statement. -/
import Derived.Test.YtdokabaeddaipaaPx9
import Derived.Test.YtdokabaeddaipaaK3
namespace Go.Proofs.Ytdokabaeddaipaa.Pure
open Go.RowKit Go.Proofs.YtdokabaeddaipaaW.PrintWords Go.Proofs.YtdokabaeddaipaaW.PrintLast Go.Proofs.Ytdokabaeddaipaa.Hand Go.Proofs.Ytdokabaeddaipaa.A Go.Proofs.Ytdokabaeddaipaa.P Go.Proofs.Ytdokabaeddaipaa.K
theorem ZonemapMonotone : lookoutlaw16_ZonemapMonotone.Pure := by
  intro x0 x1 x2 x3 x4 x5 x6 x7 x8 x9 x10 x11 x12 y0 y1 y2 y3 y4 y5 y6 y7 y8 y9 y10 y11 y12 t v q p0 p1 p2 p3 p4 l _ _ _ _ _ u5 u6 u7 u8 u9 u10 u11 u12 _ _ _ _ _ g5 g6 g7 g8 g9 g10 g11 g12 _ _ hq1 hq2 hq3 _ _ _ _ hl1 hl2 hl3
  obtain ⟨a, ha⟩ : ∃ z : T13, z = (x0, x1, x2, x3, x4, x5, x6, x7, x8, x9, x10, x11, x12) := ⟨_, rfl⟩
  obtain ⟨b, hb⟩ : ∃ z : T13, z = (y0, y1, y2, y3, y4, y5, y6, y7, y8, y9, y10, y11, y12) := ⟨_, rfl⟩
  have oa : okW (wds a) := by rw [ha]; exact okW_wf u5 u6 u7 u8 u9 u10 u11 u12
  have ob : okW (wds b) := by rw [hb]; exact okW_wf g5 g6 g7 g8 g9 g10 g11 g12
  refine ⟨12 + (l.length + 3) + 1, ?_⟩
  show lookoutlaw16_ZonemapMonotone.f (12 + (l.length + 3) + 1) (x0, x1, x2, x3, x4, x5, x6, x7, x8, x9, x10, x11, x12).1 (x0, x1, x2, x3, x4, x5, x6, x7, x8, x9, x10, x11, x12).2.1 (x0, x1, x2, x3, x4, x5, x6, x7, x8, x9, x10, x11, x12).2.2.1 (x0, x1, x2, x3, x4, x5, x6, x7, x8, x9, x10, x11, x12).2.2.2.1 (x0, x1, x2, x3, x4, x5, x6, x7, x8, x9, x10, x11, x12).2.2.2.2.1 (x0, x1, x2, x3, x4, x5, x6, x7, x8, x9, x10, x11, x12).2.2.2.2.2.1 (x0, x1, x2, x3, x4, x5, x6, x7, x8, x9, x10, x11, x12).2.2.2.2.2.2.1 (x0, x1, x2, x3, x4, x5, x6, x7, x8, x9, x10, x11, x12).2.2.2.2.2.2.2.1 (x0, x1, x2, x3, x4, x5, x6, x7, x8, x9, x10, x11, x12).2.2.2.2.2.2.2.2.1 (x0, x1, x2, x3, x4, x5, x6, x7, x8, x9, x10, x11, x12).2.2.2.2.2.2.2.2.2.1 (x0, x1, x2, x3, x4, x5, x6, x7, x8, x9, x10, x11, x12).2.2.2.2.2.2.2.2.2.2.1 (x0, x1, x2, x3, x4, x5, x6, x7, x8, x9, x10, x11, x12).2.2.2.2.2.2.2.2.2.2.2.1 (x0, x1, x2, x3, x4, x5, x6, x7, x8, x9, x10, x11, x12).2.2.2.2.2.2.2.2.2.2.2.2 (y0, y1, y2, y3, y4, y5, y6, y7, y8, y9, y10, y11, y12).1 (y0, y1, y2, y3, y4, y5, y6, y7, y8, y9, y10, y11, y12).2.1 (y0, y1, y2, y3, y4, y5, y6, y7, y8, y9, y10, y11, y12).2.2.1 (y0, y1, y2, y3, y4, y5, y6, y7, y8, y9, y10, y11, y12).2.2.2.1 (y0, y1, y2, y3, y4, y5, y6, y7, y8, y9, y10, y11, y12).2.2.2.2.1 (y0, y1, y2, y3, y4, y5, y6, y7, y8, y9, y10, y11, y12).2.2.2.2.2.1 (y0, y1, y2, y3, y4, y5, y6, y7, y8, y9, y10, y11, y12).2.2.2.2.2.2.1 (y0, y1, y2, y3, y4, y5, y6, y7, y8, y9, y10, y11, y12).2.2.2.2.2.2.2.1 (y0, y1, y2, y3, y4, y5, y6, y7, y8, y9, y10, y11, y12).2.2.2.2.2.2.2.2.1 (y0, y1, y2, y3, y4, y5, y6, y7, y8, y9, y10, y11, y12).2.2.2.2.2.2.2.2.2.1 (y0, y1, y2, y3, y4, y5, y6, y7, y8, y9, y10, y11, y12).2.2.2.2.2.2.2.2.2.2.1 (y0, y1, y2, y3, y4, y5, y6, y7, y8, y9, y10, y11, y12).2.2.2.2.2.2.2.2.2.2.2.1 (y0, y1, y2, y3, y4, y5, y6, y7, y8, y9, y10, y11, y12).2.2.2.2.2.2.2.2.2.2.2.2 t v q p0 p1 p2 p3 p4 l = some true
  rw [← ha, ← hb]
  have hlf : K.fits l := fun s hs => by have := hl3 s hs; omega
  have hqf : K.fits q := fun s hs => by have := hq3 s hs; omega
  have haw := awake_ge (l.length + 3)
  unfold maxLen at hl1
  unfold lookoutlaw16_ZonemapMonotone.f zcheck.f
  rw [fits_is _ (by simp) _ (by simp; omega), short_is]
  simp only [Option.bind_some, lookoutlaw16_ZonemapMonotone.j0, haw, if_true]
  cases fitsB [⟨t, v, q⟩] with
  | false => rfl
  | true =>
    rw [if_pos rfl]
    cases (decide (l.length ≤ 8) && l.all (fun s => decide (s.size ≤ 40))) with
    | false => rfl
    | true =>
      rw [if_pos rfl]
      by_cases hca : chk a = 0
      · rw [if_pos (show checkZ a.1 a.2.1 a.2.2.1 a.2.2.2.1 a.2.2.2.2.1 a.2.2.2.2.2.1 a.2.2.2.2.2.2.1 a.2.2.2.2.2.2.2.1 a.2.2.2.2.2.2.2.2.1 a.2.2.2.2.2.2.2.2.2.1 a.2.2.2.2.2.2.2.2.2.2.1 a.2.2.2.2.2.2.2.2.2.2.2.1 a.2.2.2.2.2.2.2.2.2.2.2.2 = 0 from hca)]
        by_cases hcb : chk b = 0
        · rw [show (checkZ b.1 b.2.1 b.2.2.1 b.2.2.2.1 b.2.2.2.2.1 b.2.2.2.2.2.1 b.2.2.2.2.2.2.1 b.2.2.2.2.2.2.2.1 b.2.2.2.2.2.2.2.2.1 b.2.2.2.2.2.2.2.2.2.1 b.2.2.2.2.2.2.2.2.2.2.1 b.2.2.2.2.2.2.2.2.2.2.2.1 b.2.2.2.2.2.2.2.2.2.2.2.2 != 0) = false from bne_eq_false_iff_eq.2 hcb]
          simp only [Bool.false_eq_true, if_false]
          rw [may_is a p0 p1 p2 p3 p4 l hlf hl1 _ (by omega)]
          simp only [Option.bind_some]
          cases hm : mayT a p0 p1 p2 p3 p4 l with
          | false => rfl
          | true =>
            rw [if_pos rfl, add_is a t v q hqf]
            simp only [Option.bind_some]
            rw [may_is (addT a t v q) p0 p1 p2 p3 p4 l hlf hl1 _ (by omega), may_add hca oa t v q hm]
            simp only [Option.bind_some, if_true]
            rw [merge_is a b]
            simp only [Option.bind_some]
            rw [may_is (mrgT a b) p0 p1 p2 p3 p4 l hlf hl1 _ (by omega), may_mrg hca hcb oa ob hm]
            rfl
        · rw [show (checkZ b.1 b.2.1 b.2.2.1 b.2.2.2.1 b.2.2.2.2.1 b.2.2.2.2.2.1 b.2.2.2.2.2.2.1 b.2.2.2.2.2.2.2.1 b.2.2.2.2.2.2.2.2.1 b.2.2.2.2.2.2.2.2.2.1 b.2.2.2.2.2.2.2.2.2.2.1 b.2.2.2.2.2.2.2.2.2.2.2.1 b.2.2.2.2.2.2.2.2.2.2.2.2 != 0) = true from bne_iff_ne.2 hcb]
          rfl
      · rw [if_neg (show ¬ checkZ a.1 a.2.1 a.2.2.1 a.2.2.2.1 a.2.2.2.2.1 a.2.2.2.2.2.1 a.2.2.2.2.2.2.1 a.2.2.2.2.2.2.2.1 a.2.2.2.2.2.2.2.2.1 a.2.2.2.2.2.2.2.2.2.1 a.2.2.2.2.2.2.2.2.2.2.1 a.2.2.2.2.2.2.2.2.2.2.2.1 a.2.2.2.2.2.2.2.2.2.2.2.2 = 0 from hca)]
end Go.Proofs.Ytdokabaeddaipaa.Pure

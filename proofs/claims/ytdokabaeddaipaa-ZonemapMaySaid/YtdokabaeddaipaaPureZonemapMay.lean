/- ZonemapMay: the plain statement. No condition beyond those in the statement. -/
import Derived.Test.YtdokabaeddaipaaPx11
import Derived.Test.YtdokabaeddaipaaK1
namespace Go.Proofs.Ytdokabaeddaipaa.Pure
open Go.RowKit Go.Proofs.YtdokabaeddaipaaW.PrintWords Go.Proofs.YtdokabaeddaipaaW.PrintLast Go.Proofs.Ytdokabaeddaipaa.Hand Go.Proofs.Ytdokabaeddaipaa.A Go.Proofs.Ytdokabaeddaipaa.P Go.Proofs.Ytdokabaeddaipaa.K
theorem ZonemapMay : lookoutlaw16_ZonemapMay.Pure := by
  intro x0 x1 x2 x3 x4 x5 x6 x7 x8 x9 x10 x11 x12 y0 y1 y2 y3 y4 y5 y6 y7 y8 y9 y10 y11 y12 p0 p1 p2 p3 p4 l _ _ _ _ _ _ _ _ _ _ _ _ _ _ _ _ _ _ _ _ _ _ _ _ _ _ _ _ _ _ hl1 hl2 hl3
  obtain ⟨a, ha⟩ : ∃ z : T13, z = (x0, x1, x2, x3, x4, x5, x6, x7, x8, x9, x10, x11, x12) := ⟨_, rfl⟩
  obtain ⟨b, hb⟩ : ∃ z : T13, z = (y0, y1, y2, y3, y4, y5, y6, y7, y8, y9, y10, y11, y12) := ⟨_, rfl⟩
  refine ⟨12 + (l.length + 3), ?_⟩
  show lookoutlaw16_ZonemapMay.f (12 + (l.length + 3)) (x0, x1, x2, x3, x4, x5, x6, x7, x8, x9, x10, x11, x12).1 (x0, x1, x2, x3, x4, x5, x6, x7, x8, x9, x10, x11, x12).2.1 (x0, x1, x2, x3, x4, x5, x6, x7, x8, x9, x10, x11, x12).2.2.1 (x0, x1, x2, x3, x4, x5, x6, x7, x8, x9, x10, x11, x12).2.2.2.1 (x0, x1, x2, x3, x4, x5, x6, x7, x8, x9, x10, x11, x12).2.2.2.2.1 (x0, x1, x2, x3, x4, x5, x6, x7, x8, x9, x10, x11, x12).2.2.2.2.2.1 (x0, x1, x2, x3, x4, x5, x6, x7, x8, x9, x10, x11, x12).2.2.2.2.2.2.1 (x0, x1, x2, x3, x4, x5, x6, x7, x8, x9, x10, x11, x12).2.2.2.2.2.2.2.1 (x0, x1, x2, x3, x4, x5, x6, x7, x8, x9, x10, x11, x12).2.2.2.2.2.2.2.2.1 (x0, x1, x2, x3, x4, x5, x6, x7, x8, x9, x10, x11, x12).2.2.2.2.2.2.2.2.2.1 (x0, x1, x2, x3, x4, x5, x6, x7, x8, x9, x10, x11, x12).2.2.2.2.2.2.2.2.2.2.1 (x0, x1, x2, x3, x4, x5, x6, x7, x8, x9, x10, x11, x12).2.2.2.2.2.2.2.2.2.2.2.1 (x0, x1, x2, x3, x4, x5, x6, x7, x8, x9, x10, x11, x12).2.2.2.2.2.2.2.2.2.2.2.2 (y0, y1, y2, y3, y4, y5, y6, y7, y8, y9, y10, y11, y12).1 (y0, y1, y2, y3, y4, y5, y6, y7, y8, y9, y10, y11, y12).2.1 (y0, y1, y2, y3, y4, y5, y6, y7, y8, y9, y10, y11, y12).2.2.1 (y0, y1, y2, y3, y4, y5, y6, y7, y8, y9, y10, y11, y12).2.2.2.1 (y0, y1, y2, y3, y4, y5, y6, y7, y8, y9, y10, y11, y12).2.2.2.2.1 (y0, y1, y2, y3, y4, y5, y6, y7, y8, y9, y10, y11, y12).2.2.2.2.2.1 (y0, y1, y2, y3, y4, y5, y6, y7, y8, y9, y10, y11, y12).2.2.2.2.2.2.1 (y0, y1, y2, y3, y4, y5, y6, y7, y8, y9, y10, y11, y12).2.2.2.2.2.2.2.1 (y0, y1, y2, y3, y4, y5, y6, y7, y8, y9, y10, y11, y12).2.2.2.2.2.2.2.2.1 (y0, y1, y2, y3, y4, y5, y6, y7, y8, y9, y10, y11, y12).2.2.2.2.2.2.2.2.2.1 (y0, y1, y2, y3, y4, y5, y6, y7, y8, y9, y10, y11, y12).2.2.2.2.2.2.2.2.2.2.1 (y0, y1, y2, y3, y4, y5, y6, y7, y8, y9, y10, y11, y12).2.2.2.2.2.2.2.2.2.2.2.1 (y0, y1, y2, y3, y4, y5, y6, y7, y8, y9, y10, y11, y12).2.2.2.2.2.2.2.2.2.2.2.2 p0 p1 p2 p3 p4 l = some true
  rw [← ha, ← hb]
  have hlf : fits l := fun q hq => by have := hl3 q hq; omega
  have haw := awake_ge (l.length + 3)
  unfold lookoutlaw16_ZonemapMay.f
  rw [short_is]
  simp only [Option.bind_some]
  cases hb : (decide (l.length ≤ 8) && l.all (fun s => decide (s.size ≤ 40))) with
  | false =>
    simp only [Bool.false_eq_true, if_false, haw, Option.bind_some]
  | true =>
    simp only [if_true]
    unfold maxLen at hl1
    rw [merge_is a b, rmerge_is a b, may_is a p0 p1 p2 p3 p4 l hlf hl1 _ (by omega), rmay_is a p0 p1 p2 p3 p4 l hlf hl1 _ (by omega), haw]
    simp
end Go.Proofs.Ytdokabaeddaipaa.Pure

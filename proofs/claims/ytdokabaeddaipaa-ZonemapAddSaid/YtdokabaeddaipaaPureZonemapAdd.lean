/- ZonemapAdd: the plain statement. No condition beyond those in the statement. -/
import Derived.Test.YtdokabaeddaipaaPx8
import Derived.Test.YtdokabaeddaipaaK1
namespace Go.Proofs.Ytdokabaeddaipaa.Pure
open Go.RowKit Go.Proofs.YtdokabaeddaipaaW.PrintWords Go.Proofs.YtdokabaeddaipaaW.PrintLast Go.Proofs.Ytdokabaeddaipaa.Hand Go.Proofs.Ytdokabaeddaipaa.A Go.Proofs.Ytdokabaeddaipaa.P Go.Proofs.Ytdokabaeddaipaa.K
theorem ZonemapAdd : lookoutlaw16_ZonemapAdd.Pure := by
  intro x0 x1 x2 x3 x4 x5 x6 x7 x8 x9 x10 x11 x12 t v l s _ _ _ _ _ _ _ _ _ _ _ _ _ _ _ hl1 hl2 hl3 hs
  obtain ⟨z, hz⟩ : ∃ z : T13, z = (x0, x1, x2, x3, x4, x5, x6, x7, x8, x9, x10, x11, x12) := ⟨_, rfl⟩
  refine ⟨12 + 1, ?_⟩
  show lookoutlaw16_ZonemapAdd.f (12 + 1) (x0, x1, x2, x3, x4, x5, x6, x7, x8, x9, x10, x11, x12).1 (x0, x1, x2, x3, x4, x5, x6, x7, x8, x9, x10, x11, x12).2.1 (x0, x1, x2, x3, x4, x5, x6, x7, x8, x9, x10, x11, x12).2.2.1 (x0, x1, x2, x3, x4, x5, x6, x7, x8, x9, x10, x11, x12).2.2.2.1 (x0, x1, x2, x3, x4, x5, x6, x7, x8, x9, x10, x11, x12).2.2.2.2.1 (x0, x1, x2, x3, x4, x5, x6, x7, x8, x9, x10, x11, x12).2.2.2.2.2.1 (x0, x1, x2, x3, x4, x5, x6, x7, x8, x9, x10, x11, x12).2.2.2.2.2.2.1 (x0, x1, x2, x3, x4, x5, x6, x7, x8, x9, x10, x11, x12).2.2.2.2.2.2.2.1 (x0, x1, x2, x3, x4, x5, x6, x7, x8, x9, x10, x11, x12).2.2.2.2.2.2.2.2.1 (x0, x1, x2, x3, x4, x5, x6, x7, x8, x9, x10, x11, x12).2.2.2.2.2.2.2.2.2.1 (x0, x1, x2, x3, x4, x5, x6, x7, x8, x9, x10, x11, x12).2.2.2.2.2.2.2.2.2.2.1 (x0, x1, x2, x3, x4, x5, x6, x7, x8, x9, x10, x11, x12).2.2.2.2.2.2.2.2.2.2.2.1 (x0, x1, x2, x3, x4, x5, x6, x7, x8, x9, x10, x11, x12).2.2.2.2.2.2.2.2.2.2.2.2 t v l s = some true
  rw [← hz]
  have hlf : fits l := fun q hq => by have := hl3 q hq; omega
  unfold lookoutlaw16_ZonemapAdd.f
  rw [short_is]
  simp only [Option.bind_some, lookoutlaw16_ZonemapAdd.j0]
  have ha := awake_ge 0
  simp only [Nat.add_zero] at ha
  cases hb : (decide (l.length ≤ 8) && l.all (fun s => decide (s.size ≤ 40))) with
  | false =>
    simp only [Bool.false_eq_true, if_false, if_true, ha, Option.bind_some]
  | true =>
    simp only [if_true]
    by_cases h4 : (s.size : Int) > 40
    · simp only [h4, decide_true, if_true, ha, Option.bind_some]
    · simp only [h4, decide_false, Bool.false_eq_true, if_false, ha, Option.bind_some]
      rw [add_is z t v l hlf, radd_is z t v l hlf, has_is z s (by omega), rhas_is z s (by omega)]
      simp [zcheck.f, rcheck.f]
end Go.Proofs.Ytdokabaeddaipaa.Pure

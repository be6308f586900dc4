/- Index, Bounds and New are those of the reference. No condition beyond those in the statement. -/
import Derived.Test.YtclgfbhkmhhenaaAw
import Derived.Test.YtclgfbhkmhhenaaK2
import Derived.Test.YtclgfbhkmhhenaaPx34
namespace Go.Proofs.Ytclgfbhkmhhenaa.Pure
open Go.RowKit Go.Proofs.Ytclgfbhkmhhenaa.P Go.Proofs.Ytclgfbhkmhhenaa.B Go.Proofs.Ytclgfbhkmhhenaa.A Go.Proofs.Ytclgfbhkmhhenaa.Hand Go.Proofs.YtclgfbhkmhhenaaW.PrintWords Go.Proofs.YtclgfbhkmhhenaaW.PrintLast Go.Proofs.YtclgfbhkmhhenaaW.PrintMore Go.Proofs.Ytclgfbhkmhhenaa.HK
set_option linter.unusedVariables false
set_option linter.unusedSimpArgs false
theorem same_nil (a b c d e : Int) : Ev (fun k => lookoutref12_Same.f k a b c d e [] a b c d e []) true := by
  refine Ev.congr (fun k => by rw [lookoutref12_Same.f, if_pos rfl, if_pos rfl, if_pos rfl, if_pos rfl, if_pos rfl]) ?_
  refine Ev.step (f := fun k => lookoutref12_Same.l0 k 0 a b c d e [] a b c d e []) (fun k => by rw [lookoutref12_Same.j0, if_neg (by decide)]) ?_
  exact Ev.step (fun k => by rw [lookoutref12_Same.l0, if_neg (by decide)]) (Ev.now _)
theorem New_both (p : Int) : ∃ a e, loghist_New.f p = some (a, 0, 0, 0, 0, [], e) ∧ lookoutref12_New.f p = some (a, 0, 0, 0, 0, [], e) := by
  by_cases hp : 0 ≤ p ∧ p ≤ 8
  · refine ⟨p, 0, ?_, ?_⟩
    · rw [loghist_New.f, prec_is hp.1 hp.2, Option.bind_some, if_pos rfl]
    · rw [lookoutref12_New.f, if_neg (by omega), if_neg (by omega)]
  · refine ⟨0, 2, ?_, ?_⟩
    · rw [loghist_New.f, prec_no hp, Option.bind_some, if_neg (by decide)]
    · rw [lookoutref12_New.f]
      split
      · rfl
      · rw [if_pos (by omega)]
theorem LoghistBuckets : lookoutlaw12_LoghistBuckets.Pure := by
  intro p v i _ _ _
  obtain ⟨r, e, h1, h2⟩ := Index_both p v
  obtain ⟨lo, hi, g, h3, h4⟩ := Bounds_both p i
  obtain ⟨a, f, h5, h6⟩ := New_both p
  refine Ev.rounds (g := fun k => lookoutlaw12_LoghistBuckets.f k p v i) ?_
  refine Ev.bind h1 (Ev.bind h2 (Ev.bind h3 (Ev.bind h4 ?_)))
  refine Ev.congr (fun k => by rw [h5, h6, Option.bind_some, Option.bind_some, if_pos rfl, if_pos rfl, if_pos rfl, if_pos rfl, if_pos rfl]) ?_
  refine Ev.bind (same_nil a 0 0 0 0) ?_
  exact Ev.congr (fun k => by rw [if_pos rfl, if_pos rfl]) awake_end
end Go.Proofs.Ytclgfbhkmhhenaa.Pure

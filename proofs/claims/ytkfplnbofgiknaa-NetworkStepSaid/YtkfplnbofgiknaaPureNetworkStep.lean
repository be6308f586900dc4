/- Step of the network chapter returns the network and the packets of the reference implementation. No condition beyond those in the statement. -/
import Derived.Test.YtkfplnbofgiknaaK2
import Derived.Test.YtkfplnbofgiknaaPx15
namespace Go.Proofs.Ytkfplnbofgiknaa.Pure
open Go.RowKit Go.Proofs.Ytkfplnbofgiknaa.P Go.Proofs.Ytkfplnbofgiknaa.A Go.Proofs.Ytkfplnbofgiknaa.Hand Go.Proofs.YtkfplnbofgiknaaW.PrintWords Go.Proofs.YtkfplnbofgiknaaW.PrintLast Go.Proofs.YtkfplnbofgiknaaW.PrintMore Go.Proofs.Ytkfplnbofgiknaa.NB

theorem NetworkStep : lookoutlaw50_NetworkStep.Pure := by
  intro now fates fl hn h1 h1b h1w h2 h2b h2w
  refine Ev.rounds ?_
  unfold lookoutlaw50_NetworkStep.f
  obtain ⟨g, hg⟩ := great_ex now fates fl
  refine Ev.bind hg ?_
  cases g with
  | true => exact Ev.congr (fun k => if_pos rfl) awake_end
  | false =>
    refine Ev.congr (fun k => if_neg (by simp)) ?_
    have hl := STEP_len now fates fl
    refine Ev.bind (step_ev now fates fl) ?_
    refine Ev.bind (stepr_ev now fates fl) ?_
    refine Ev.bind (same _ _ _ (by omega) (by omega)) ?_
    refine Ev.congr (fun k => if_pos rfl) ?_
    refine Ev.bind (sameP _ (by omega)) ?_
    refine Ev.congr (fun k => (if_pos rfl).trans (if_pos rfl)) ?_
    exact awake_end
end Go.Proofs.Ytkfplnbofgiknaa.Pure

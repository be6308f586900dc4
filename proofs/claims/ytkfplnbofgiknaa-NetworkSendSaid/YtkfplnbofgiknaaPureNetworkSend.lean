/- Check, Send, Delays and Idle of the network chapter return the results of the reference implementation. No condition beyond those in the statement. -/
import Derived.Test.YtkfplnbofgiknaaK2
import Derived.Test.YtkfplnbofgiknaaPx13
namespace Go.Proofs.Ytkfplnbofgiknaa.Pure
open Go.RowKit Go.Proofs.Ytkfplnbofgiknaa.P Go.Proofs.Ytkfplnbofgiknaa.A Go.Proofs.Ytkfplnbofgiknaa.Hand Go.Proofs.YtkfplnbofgiknaaW.PrintWords Go.Proofs.YtkfplnbofgiknaaW.PrintLast Go.Proofs.YtkfplnbofgiknaaW.PrintMore Go.Proofs.Ytkfplnbofgiknaa.NB

theorem NetworkSend : lookoutlaw50_NetworkSend.Pure := by
  intro now fates fl a b s fate hn h1 h1b h1w h2 h2b h2w ha hb hs hf
  refine Ev.rounds ?_
  have ht : Ev (fun k => lookoutlaw50_NetworkSend.j0 k fate true now fates fl a b s) true := Ev.step (fun k => by rw [lookoutlaw50_NetworkSend.j0, if_pos rfl]) awake_end
  have hff : Ev (fun k => lookoutlaw50_NetworkSend.j0 k fate false now fates fl a b s) true := by
    refine Ev.step (fun k => by rw [lookoutlaw50_NetworkSend.j0, if_neg (by simp)]) ?_
    have hl := SEND_len now fates fl ⟨a, b, s⟩
    refine Ev.bind (send_ev now fates fl a b s) ?_
    refine Ev.bind (sendr_ev now fates fl a b s) ?_
    refine Ev.bind (same _ _ _ (by omega) (by omega)) ?_
    refine Ev.congr (fun k => (if_pos rfl).trans (if_pos rfl)) ?_
    refine Ev.bind (check_ev now fates fl) ?_
    refine Ev.bind (checkr_ev now fates fl) ?_
    refine Ev.congr (fun k => if_pos rfl) ?_
    refine Ev.bind (Ev.now (dlL fate)) ?_
    refine Ev.bind (delays_r fate) ?_
    refine Ev.bind (same01 _ (by have := dlL_len fate; omega)) ?_
    refine Ev.congr (fun k => if_pos rfl) ?_
    refine Ev.bind (Ev.now ((fl.length : Int) == 0)) ?_
    refine Ev.bind (Ev.now ((fl.length : Int) == 0)) ?_
    refine Ev.congr (fun k => if_pos (by simp)) ?_
    exact awake_end
  unfold lookoutlaw50_NetworkSend.f
  obtain ⟨g, hg⟩ := great_ex now fates fl
  refine Ev.bind hg ?_
  cases g with
  | true => exact Ev.congr (fun k => if_pos rfl) ht
  | false =>
    refine Ev.congr (fun k => if_neg (by simp)) ?_
    cases hd : decide ((s.size : Int) > 2000) with
    | true => exact ht
    | false => exact hff
end Go.Proofs.Ytkfplnbofgiknaa.Pure

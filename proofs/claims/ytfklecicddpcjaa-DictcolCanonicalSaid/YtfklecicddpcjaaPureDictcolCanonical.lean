/- What can be decoded as a column of strings is the encoding of what is decoded. No condition beyond those in the statement. -/
import Derived.Test.YtfklecicddpcjaaK6
import Derived.Test.YtfklecicddpcjaaPx37
namespace Go.Proofs.Ytfklecicddpcjaa.Pure
open Go.RowKit Go.Proofs.Ytfklecicddpcjaa.P Go.Proofs.Ytfklecicddpcjaa.A Go.Proofs.Ytfklecicddpcjaa.Hand Go.Proofs.YtfklecicddpcjaaW.PrintWords Go.Proofs.YtfklecicddpcjaaW.PrintLast Go.Proofs.YtfklecicddpcjaaW.PrintMore Go.Proofs.Ytfklecicddpcjaa.DK
theorem DictcolCanonical : lookoutlaw10_DictcolCanonical.Pure := by
  intro s hs
  refine Ev.rounds ?_
  unfold lookoutlaw10_DictcolCanonical.f
  by_cases c : (s.size : Int) > 600
  · exact Ev.congr (fun k => if_pos c) awake_end
  · refine Ev.congr (fun k => if_neg c) ?_
    rcases decode_total s with ⟨l, h⟩ | h
    · refine Ev.bind (decode_round h) ?_
      refine Ev.congr (fun k => if_pos rfl) ?_
      have he := enc_ev l
      rw [h] at he
      refine Ev.bind he ?_
      exact Ev.congr (fun k => by rw [if_pos rfl, if_pos rfl]) awake_end
    · refine Ev.bind h ?_
      exact Ev.congr (fun k => by rw [if_neg (by simp), if_pos rfl, if_pos (by rfl)]) awake_end
end Go.Proofs.Ytfklecicddpcjaa.Pure

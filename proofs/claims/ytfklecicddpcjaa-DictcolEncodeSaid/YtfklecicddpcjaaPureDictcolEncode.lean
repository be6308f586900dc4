/- Encode of a column of strings is the reference's. No condition beyond those in the statement. -/
import Derived.Test.YtfklecicddpcjaaK6
import Derived.Test.YtfklecicddpcjaaPx35
namespace Go.Proofs.Ytfklecicddpcjaa.Pure
open Go.RowKit Go.Proofs.Ytfklecicddpcjaa.P Go.Proofs.Ytfklecicddpcjaa.A Go.Proofs.Ytfklecicddpcjaa.Hand Go.Proofs.YtfklecicddpcjaaW.PrintWords Go.Proofs.YtfklecicddpcjaaW.PrintLast Go.Proofs.YtfklecicddpcjaaW.PrintMore Go.Proofs.Ytfklecicddpcjaa.DK
theorem DictcolEncode : lookoutlaw10_DictcolEncode.Pure := by
  intro l hm hl hw
  refine Ev.rounds ?_
  obtain ⟨t, ht, _⟩ := great_ev l hw (by omega)
  unfold lookoutlaw10_DictcolEncode.f
  refine Ev.bind ht ?_
  cases t with
  | true => exact Ev.congr (fun k => if_pos rfl) awake_end
  | false =>
    refine Ev.congr (fun k => if_neg (by simp)) ?_
    refine Ev.bind (enc_ev l) (Ev.bind (encRef_ev l) ?_)
    exact Ev.congr (fun k => by rw [if_pos rfl, if_pos rfl]) awake_end
end Go.Proofs.Ytfklecicddpcjaa.Pure

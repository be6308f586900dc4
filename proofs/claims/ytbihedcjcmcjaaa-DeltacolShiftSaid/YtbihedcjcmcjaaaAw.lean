/- The chapter's examples of the deltacol chapter. No condition beyond those in the statements. -/
import Derived.Test.YtbihedcjcmcjaaaPx12
import Derived.Test.YtbihedcjcmcjaaaWNEv
namespace Go.Proofs.Ytbihedcjcmcjaaa.DB
open Go.RowKit Go.Proofs.Ytbihedcjcmcjaaa.P Go.Proofs.Ytbihedcjcmcjaaa.C Go.Proofs.Ytbihedcjcmcjaaa.A Go.Proofs.Ytbihedcjcmcjaaa.Hand Go.Proofs.YtbihedcjcmcjaaaW.PrintWords Go.Proofs.YtbihedcjcmcjaaaW.PrintLast Go.Proofs.YtbihedcjcmcjaaaW.PrintMore
set_option maxRecDepth 100000 in
theorem awake_ev : Ev (fun k => lookoutlaw09_awake.f k) true := Ev.of (fun k => lookoutlaw09_awake.mono k) (k := 60) (by decide +kernel)
theorem awake_end : Ev (fun k => (lookoutlaw09_awake.f k).bind fun t => (some t)) true := Ev.bind awake_ev (Ev.now _)
end Go.Proofs.Ytbihedcjcmcjaaa.DB

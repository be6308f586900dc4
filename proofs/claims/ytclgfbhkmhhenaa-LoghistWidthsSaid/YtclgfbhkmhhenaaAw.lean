/- The chapter's examples of the loghist chapter. No condition beyond those in the statements. -/
import Derived.Test.YtclgfbhkmhhenaaPx33
import Derived.Test.YtclgfbhkmhhenaaWNEv
namespace Go.Proofs.Ytclgfbhkmhhenaa.HK
open Go.RowKit Go.Proofs.Ytclgfbhkmhhenaa.P Go.Proofs.Ytclgfbhkmhhenaa.B Go.Proofs.Ytclgfbhkmhhenaa.A Go.Proofs.Ytclgfbhkmhhenaa.Hand Go.Proofs.YtclgfbhkmhhenaaW.PrintWords Go.Proofs.YtclgfbhkmhhenaaW.PrintLast Go.Proofs.YtclgfbhkmhhenaaW.PrintMore
set_option maxRecDepth 100000 in
theorem awake_ev : Ev (fun k => lookoutlaw12_awake.f k) true := Ev.of (fun k => lookoutlaw12_awake.mono k) (k := 40) (by decide +kernel)
theorem awake_end : Ev (fun k => (lookoutlaw12_awake.f k).bind fun t => (some t)) true := Ev.bind awake_ev (Ev.now _)
end Go.Proofs.Ytclgfbhkmhhenaa.HK

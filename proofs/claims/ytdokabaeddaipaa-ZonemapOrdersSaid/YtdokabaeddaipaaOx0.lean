/- Printed by a program of this session: functions of the law's Go code as Lean functions, and that the Go code computes them. No condition beyond those in the statements. -/
import Derived.Test.YtdokabaeddaipaaProg
import Derived.Below
import Derived.Deep.Draws
import Derived.Deep.AppendLies
import Derived.Maps.AppendAt
import Derived.OwnWalk
import Derived.Laws.BytesArg
import Derived.Laws.MakeOwn
import Derived.Laws.OwnMore
import Derived.Deep.OwnRows
import Derived.Tactics
import Derived.Lib.ConvBytes
import Derived.Laws.Slices
import Derived.WalkKit
import Derived.KernelRfl
import Derived.RowKit3
import Derived.Deep.LoopGhost
import Derived.Deep.QuietTactic
import Derived.BigQuiet
import Derived.WideLaws
import Derived.Deep.DeepCutAuto
import Derived.Deep.CutBlock
import Derived.Deep.RegionHeld3
import Derived.Laws.Rows
import Derived.Lib.AppendStr
import Derived.ArgAppend
import Derived.Laws.IdiomCopy
import Derived.OrdersHeld
import Derived.Laws.BitsLemmas
import Derived.RowKit
import Derived.Test.YtdokabaeddaipaaHZ
import Derived.Test.YtdokabaeddaipaaHLong
import Derived.Test.YtdokabaeddaipaaHWords
import Derived.Test.YtdokabaeddaipaaAA
import Derived.Test.YtdokabaeddaipaaHGrow
import Derived.Test.YtdokabaeddaipaaPx8
import Derived.Test.YtdokabaeddaipaaPx7
import Derived.Test.YtdokabaeddaipaaPx6
import Derived.Test.YtdokabaeddaipaaWWords
import Derived.Test.YtdokabaeddaipaaWLast
import Derived.Test.YtdokabaeddaipaaWTab
import Derived.Test.YtdokabaeddaipaaWFour
import Derived.Test.YtdokabaeddaipaaWQPut
import Derived.Test.YtdokabaeddaipaaWApart
import Derived.Test.YtdokabaeddaipaaWArr
import Derived.Test.YtdokabaeddaipaaWZeros
import Derived.Test.YtdokabaeddaipaaWFoot
import Derived.Test.YtdokabaeddaipaaWKept
import Derived.Test.YtdokabaeddaipaaWShare
import Derived.Test.YtdokabaeddaipaaWN
import Derived.Test.YtdokabaeddaipaaWFootNe
import Derived.Test.YtdokabaeddaipaaWAt
import Derived.Test.YtdokabaeddaipaaWEqStruct
import Derived.Test.YtdokabaeddaipaaWRepsOne
import Derived.Test.YtdokabaeddaipaaWInv
import Derived.Test.YtdokabaeddaipaaWInvWords
import Derived.Test.YtdokabaeddaipaaWGuard
import Derived.Test.YtdokabaeddaipaaWNEv
import Derived.Test.YtdokabaeddaipaaWMore
namespace Go.Proofs.Ytdokabaeddaipaa.O
open Go.RowKit Go.Proofs.YtdokabaeddaipaaW.PrintWords Go.Proofs.YtdokabaeddaipaaW.PrintLast Go.Proofs.YtdokabaeddaipaaW.PrintMore Go.Proofs.Ytdokabaeddaipaa.Hand Go.Proofs.Ytdokabaeddaipaa.A Go.Proofs.Ytdokabaeddaipaa.P
attribute [local go_sem] max2_int min2_int max_two min_two max_three min_three max_four min_four   -- for this text's walks alone
set_option linter.unusedVariables false
set_option linter.unusedSimpArgs false



theorem info42 : (Try.prog.info? 42).map (fun i => (i.zero, i.size, i.bytes)) = some (some (.slice none 0 0), 1, 24) := by kernel_rfl
-- the values' own types
/-! #### struct type 23 -/
end Go.Proofs.Ytdokabaeddaipaa.O

/- Printed by a program of this session: functions of the law's Go code as Lean functions, and that the Go code computes them. No condition beyond those in the statements. -/
import Derived.Test.YthblifjeecdhcaaProg
import Derived.Below
import Derived.Deep.Draws
import Derived.Deep.AppendLies
import Derived.Maps.AppendAt
import Derived.OwnWalk
import Derived.Laws.BytesArg
import Derived.Laws.MakeOwn
import Derived.Laws.OwnMore
import Derived.Deep.OwnRows
import Derived.Tactics
import Derived.Lib.ConvBytes
import Derived.Laws.Slices
import Derived.WalkKit
import Derived.KernelRfl
import Derived.RowKit3
import Derived.Deep.LoopGhost
import Derived.Deep.QuietTactic
import Derived.BigQuiet
import Derived.WideLaws
import Derived.Deep.DeepCutAuto
import Derived.Deep.CutBlock
import Derived.Deep.RegionHeld3
import Derived.Laws.Rows
import Derived.Lib.AppendStr
import Derived.ArgAppend
import Derived.Laws.IdiomCopy
import Derived.OrdersHeld
import Derived.Laws.BitsLemmas
import Derived.RowKit
import Derived.Test.YthblifjeecdhcaaWWords
import Derived.Test.YthblifjeecdhcaaWLast
import Derived.Test.YthblifjeecdhcaaWTab
import Derived.Test.YthblifjeecdhcaaWFour
import Derived.Test.YthblifjeecdhcaaWQPut
import Derived.Test.YthblifjeecdhcaaWApart
import Derived.Test.YthblifjeecdhcaaWArr
import Derived.Test.YthblifjeecdhcaaWZeros
import Derived.Test.YthblifjeecdhcaaWFoot
import Derived.Test.YthblifjeecdhcaaWKept
import Derived.Test.YthblifjeecdhcaaWShare
import Derived.Test.YthblifjeecdhcaaWN
import Derived.Test.YthblifjeecdhcaaWFootNe
import Derived.Test.YthblifjeecdhcaaWAt
import Derived.Test.YthblifjeecdhcaaWEqStruct
import Derived.Test.YthblifjeecdhcaaWRepsOne
import Derived.Test.YthblifjeecdhcaaWInv
import Derived.Test.YthblifjeecdhcaaWInvWords
import Derived.Test.YthblifjeecdhcaaWGuard
import Derived.Test.YthblifjeecdhcaaWNEv
import Derived.Test.YthblifjeecdhcaaWMore
namespace Go.Proofs.Ythblifjeecdhcaa.A
open Go.RowKit Go.Proofs.YthblifjeecdhcaaW.PrintWords Go.Proofs.YthblifjeecdhcaaW.PrintLast Go.Proofs.YthblifjeecdhcaaW.PrintMore
attribute [local go_sem] max2_int min2_int max_two min_two max_three min_three max_four min_four   -- for this text's walks alone
set_option linter.unusedVariables false
set_option linter.unusedSimpArgs false



def errW : Option Int → Value
  | none => .nilIface
  | some c => .iface 0 (.int .i64 c)
theorem errW_none : errW none = .nilIface := rfl
theorem errW_some (c : Int) : errW (some c) = .iface 0 (.int .i64 c) := rfl

theorem info5 : (Try.prog.info? 5).map (fun i => (i.zero, i.size, i.bytes)) = some (some (.int .u8 0), 1, 1) := by kernel_rfl
-- the values' own types

end Go.Proofs.Ythblifjeecdhcaa.A

/- Printed by a program of this session: functions of the law's Go code as Lean functions, and that the Go code computes them. No condition beyond those in the statements. -/
import Derived.Test.YthfcllfbihkpfaaProg
import Derived.Below
import Derived.Deep.Draws
import Derived.Deep.AppendLies
import Derived.Maps.AppendAt
import Derived.OwnWalk
import Derived.Laws.BytesArg
import Derived.Laws.MakeOwn
import Derived.Laws.OwnMore
import Derived.Deep.OwnRows
import Derived.Tactics
import Derived.Lib.ConvBytes
import Derived.Laws.Slices
import Derived.WalkKit
import Derived.KernelRfl
import Derived.RowKit3
import Derived.Deep.LoopGhost
import Derived.Deep.QuietTactic
import Derived.BigQuiet
import Derived.WideLaws
import Derived.Deep.DeepCutAuto
import Derived.Deep.CutBlock
import Derived.Deep.RegionHeld3
import Derived.Laws.Rows
import Derived.Lib.AppendStr
import Derived.ArgAppend
import Derived.Laws.IdiomCopy
import Derived.OrdersHeld
import Derived.Laws.BitsLemmas
import Derived.RowKit
import Derived.Test.YthfcllfbihkpfaaHWords
import Derived.Test.YthfcllfbihkpfaaHRead
import Derived.Test.YthfcllfbihkpfaaHPre
import Derived.Test.YthfcllfbihkpfaaWWords
import Derived.Test.YthfcllfbihkpfaaWLast
import Derived.Test.YthfcllfbihkpfaaWTab
import Derived.Test.YthfcllfbihkpfaaWFour
import Derived.Test.YthfcllfbihkpfaaWQPut
import Derived.Test.YthfcllfbihkpfaaWApart
import Derived.Test.YthfcllfbihkpfaaWArr
import Derived.Test.YthfcllfbihkpfaaWZeros
import Derived.Test.YthfcllfbihkpfaaWFoot
import Derived.Test.YthfcllfbihkpfaaWKept
import Derived.Test.YthfcllfbihkpfaaWShare
import Derived.Test.YthfcllfbihkpfaaWN
import Derived.Test.YthfcllfbihkpfaaWFootNe
import Derived.Test.YthfcllfbihkpfaaWAt
import Derived.Test.YthfcllfbihkpfaaWEqStruct
import Derived.Test.YthfcllfbihkpfaaWRepsOne
import Derived.Test.YthfcllfbihkpfaaWInv
import Derived.Test.YthfcllfbihkpfaaWInvWords
import Derived.Test.YthfcllfbihkpfaaWGuard
import Derived.Test.YthfcllfbihkpfaaWNEv
import Derived.Test.YthfcllfbihkpfaaWMore
namespace Go.Proofs.Ythfcllfbihkpfaa.P
open Go.RowKit Go.Proofs.YthfcllfbihkpfaaW.PrintWords Go.Proofs.YthfcllfbihkpfaaW.PrintLast Go.Proofs.YthfcllfbihkpfaaW.PrintMore Go.Proofs.Ythfcllfbihkpfaa.Hand
attribute [local go_sem] max2_int min2_int max_two min_two max_three min_three max_four min_four   -- for this text's walks alone
set_option linter.unusedVariables false
set_option linter.unusedSimpArgs false



def errW : Option Int → Value
  | none => .nilIface
  | some c => .iface 0 (.int .i64 c)
theorem errW_none : errW none = .nilIface := rfl
theorem errW_some (c : Int) : errW (some c) = .iface 0 (.int .i64 c) := rfl

theorem info3 : (Try.prog.info? 3).map (fun i => (i.zero, i.size, i.bytes)) = some (some (.int .i64 0), 1, 8) := by kernel_rfl
theorem info5 : (Try.prog.info? 5).map (fun i => (i.zero, i.size, i.bytes)) = some (some (.int .u8 0), 1, 1) := by kernel_rfl
-- the values' own types

end Go.Proofs.Ythfcllfbihkpfaa.P

/- Printed by a program of this session: functions of the law's Go code as Lean functions, and that the Go code computes them. No condition beyond those in the statements. -/
import Derived.Test.YthblifjeecdhcaaAx0
import Derived.Test.YthblifjeecdhcaaAx1
import Derived.Test.YthblifjeecdhcaaAx2
import Derived.Test.YthblifjeecdhcaaAx3
import Derived.Test.YthblifjeecdhcaaAx4
import Derived.Test.YthblifjeecdhcaaAx5
import Derived.Test.YthblifjeecdhcaaAx6
import Derived.Test.YthblifjeecdhcaaAx7
import Derived.Test.YthblifjeecdhcaaAx8
import Derived.Test.YthblifjeecdhcaaAx9
namespace Go.Proofs.Ythblifjeecdhcaa.A
open Go.RowKit Go.Proofs.YthblifjeecdhcaaW.PrintWords Go.Proofs.YthblifjeecdhcaaW.PrintLast Go.Proofs.YthblifjeecdhcaaW.PrintMore
attribute [local go_sem] max2_int min2_int max_two min_two max_three min_three max_four min_four   -- for this text's walks alone
set_option linter.unusedVariables false
set_option linter.unusedSimpArgs false

end Go.Proofs.Ythblifjeecdhcaa.A

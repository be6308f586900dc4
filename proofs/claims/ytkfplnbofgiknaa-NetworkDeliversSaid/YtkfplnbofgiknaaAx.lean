/- Printed by a program of this session: functions of the law's Go code as Lean functions, and that the Go code computes them. No condition beyond those in the statements. -/
import Derived.Test.YtkfplnbofgiknaaAx0
import Derived.Test.YtkfplnbofgiknaaAx1
import Derived.Test.YtkfplnbofgiknaaAx2
import Derived.Test.YtkfplnbofgiknaaAx3
import Derived.Test.YtkfplnbofgiknaaAx4
import Derived.Test.YtkfplnbofgiknaaAx5
namespace Go.Proofs.Ytkfplnbofgiknaa.A
open Go.RowKit Go.Proofs.YtkfplnbofgiknaaW.PrintWords Go.Proofs.YtkfplnbofgiknaaW.PrintLast Go.Proofs.YtkfplnbofgiknaaW.PrintMore
attribute [local go_sem] max2_int min2_int max_two min_two max_three min_three max_four min_four   -- for this text's walks alone
set_option linter.unusedVariables false
set_option linter.unusedSimpArgs false

end Go.Proofs.Ytkfplnbofgiknaa.A

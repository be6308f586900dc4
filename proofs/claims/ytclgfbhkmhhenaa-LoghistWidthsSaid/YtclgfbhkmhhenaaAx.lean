/- Printed by a program of this session: functions of the law's Go code as Lean functions, and that the Go code computes them. No condition beyond those in the statements. -/
import Derived.Test.YtclgfbhkmhhenaaAA
import Derived.Test.YtclgfbhkmhhenaaAx15
import Derived.Test.YtclgfbhkmhhenaaAx16
namespace Go.Proofs.Ytclgfbhkmhhenaa.A
open Go.RowKit Go.Proofs.YtclgfbhkmhhenaaW.PrintWords Go.Proofs.YtclgfbhkmhhenaaW.PrintLast Go.Proofs.YtclgfbhkmhhenaaW.PrintMore Go.Proofs.Ytclgfbhkmhhenaa.Hand
attribute [local go_sem] max2_int min2_int max_two min_two max_three min_three max_four min_four   -- for this text's walks alone
set_option linter.unusedVariables false
set_option linter.unusedSimpArgs false

end Go.Proofs.Ytclgfbhkmhhenaa.A

/- Printed by a program of this session: functions of the law's Go code as Lean functions, and that the Go code computes them. No condition beyond those in the statements. -/
import Derived.Test.YthfcllfbihkpfaaPx0
import Derived.Test.YthfcllfbihkpfaaPx1
import Derived.Test.YthfcllfbihkpfaaPx2
import Derived.Test.YthfcllfbihkpfaaPx3
import Derived.Test.YthfcllfbihkpfaaPx4
import Derived.Test.YthfcllfbihkpfaaPx5
import Derived.Test.YthfcllfbihkpfaaPx6
namespace Go.Proofs.Ythfcllfbihkpfaa.P
open Go.RowKit Go.Proofs.YthfcllfbihkpfaaW.PrintWords Go.Proofs.YthfcllfbihkpfaaW.PrintLast Go.Proofs.YthfcllfbihkpfaaW.PrintMore Go.Proofs.Ythfcllfbihkpfaa.Hand
attribute [local go_sem] max2_int min2_int max_two min_two max_three min_three max_four min_four   -- for this text's walks alone
set_option linter.unusedVariables false
set_option linter.unusedSimpArgs false

end Go.Proofs.Ythfcllfbihkpfaa.P

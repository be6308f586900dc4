-- Words that print.sh laid; theorems that this claim does not use are left out (prunew.py)
import Derived.Test.YtclgfbhkmhhenaaWInv
import Derived.Test.YtclgfbhkmhhenaaWFootNe
namespace Go.Proofs.YtclgfbhkmhhenaaW.PrintWords
open Go.RowKit
end Go.Proofs.YtclgfbhkmhhenaaW.PrintWords
namespace Go.Proofs.YtclgfbhkmhhenaaW.PrintLast
section
variable {ops : Array Oper} {a : Act} {o og : Oper} {g : Nat} {t : Tmp} {u : Bool}
end
end Go.Proofs.YtclgfbhkmhhenaaW.PrintLast

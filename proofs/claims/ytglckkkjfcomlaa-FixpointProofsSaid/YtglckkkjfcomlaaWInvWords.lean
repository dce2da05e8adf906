-- Out of the print's words (print.sh): the theorems that no text of this claim names are left out (this repo's wip/prunew.py). Lean checks it.
import Derived.Test.YtglckkkjfcomlaaWInv
import Derived.Test.YtglckkkjfcomlaaWFootNe
namespace Go.Proofs.YtglckkkjfcomlaaW.PrintWords
open Go.RowKit
end Go.Proofs.YtglckkkjfcomlaaW.PrintWords
namespace Go.Proofs.YtglckkkjfcomlaaW.PrintLast
section
variable {ops : Array Oper} {a : Act} {o og : Oper} {g : Nat} {t : Tmp} {u : Bool}
end
end Go.Proofs.YtglckkkjfcomlaaW.PrintLast

-- Out of the print's words (print.sh): the theorems that no text of this claim names are left out (this repo's wip/prunew.py). Lean checks it.
import Derived.Test.YtofonbfpjfabbaaWInv
import Derived.Test.YtofonbfpjfabbaaWFootNe
namespace Go.Proofs.YtofonbfpjfabbaaW.PrintWords
open Go.RowKit
end Go.Proofs.YtofonbfpjfabbaaW.PrintWords
namespace Go.Proofs.YtofonbfpjfabbaaW.PrintLast
section
variable {ops : Array Oper} {a : Act} {o og : Oper} {g : Nat} {t : Tmp} {u : Bool}
end
end Go.Proofs.YtofonbfpjfabbaaW.PrintLast

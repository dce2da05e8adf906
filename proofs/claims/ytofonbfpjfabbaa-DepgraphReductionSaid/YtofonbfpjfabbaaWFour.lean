-- Out of the print's words (print.sh): the theorems that no text of this claim names are left out (this repo's wip/prunew.py). Lean checks it.
import Derived.Test.YtofonbfpjfabbaaWTab
/-! ### 56. Four, five, six operations that may come up next, in any order -/
namespace Go.Proofs.YtofonbfpjfabbaaW.PrintLast
section
variable {P : Program} {ops : Array Oper} {Q : Exit → Act → World → Prop} {md : Region.Mode} {S : World → Prop} {ds : List Nat} {T : Bool × List (List Nat × List Nat)}
end
end Go.Proofs.YtofonbfpjfabbaaW.PrintLast

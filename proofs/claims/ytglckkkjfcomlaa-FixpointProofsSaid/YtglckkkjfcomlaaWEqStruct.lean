-- Out of the print's words (print.sh): the theorems that no text of this claim names are left out (this repo's wip/prunew.py). Lean checks it.
import Derived.Test.YtglckkkjfcomlaaWWords
import Derived.Laws.StructEq
/-! ### 53. '==' of structs as_ one Bool -/
namespace Go.Proofs.YtglckkkjfcomlaaW.PrintWords
open Go.RowKit
section
variable {P : Program} {d : Nat} {xs ys : Array Value} {f : Field} {fs : List Field} {a b : Value} {r s : Bool} {w : World}
end
end Go.Proofs.YtglckkkjfcomlaaW.PrintWords

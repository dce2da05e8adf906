-- Out of the print's words (print.sh): the theorems that no text of this claim names are left out (this repo's wip/prunew.py). Lean checks it.
import Derived.Test.YtofonbfpjfabbaaWN
/-! ### 52. A row that stays read whatever happens to a block (a set of blocks) doesn't lie there -/
namespace Go.Proofs.YtofonbfpjfabbaaW.PrintWords
open Go.RowKit
namespace Kd
section
variable {α : Type} {d : Kd α} {W : World} {g n : Nat} {S ok : Nat → Prop} {A : Option Addr} {ad : Addr} {xs : List α}
end
end Kd
end Go.Proofs.YtofonbfpjfabbaaW.PrintWords

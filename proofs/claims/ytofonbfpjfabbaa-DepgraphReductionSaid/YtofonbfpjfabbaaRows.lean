/-
  No cell of these rows narrows 'for every input' (looked for: loops, veiled, ifaces, maps, wideKeys, modest, calm, conditions, laid).
  DERIVED. THE GIVEN ROWS OF THIS SEAT. 4 by the template 'for every input the law returns true; each argument reads behind the call as it read before'; 0 by the template 'total and deterministic' (their statements: YtofonbfpjfabbaaTotals.lean).
  GIVEN WITH THE SEED: the statements are not yours to turn. If you find one false, say at which input.
  Laid BY PROGRAM, IN A SANDBOX (cutbox-rows.mjs): the forced cells as the released guide's own fill.sh prints them over the translation 1acbc331ab09417a… (all of the seat's roots in one cut). By AI agents, Wed Nov 11 2026. No macro, syntax, notation, axiom, sorry.
-/
import Derived.Test.YtofonbfpjfabbaaChecked
import GoSem.Claim
import GoSem.ClaimJoined
import GoSem.ClaimMapViews
import Derived.JoinedTies
import Derived.KernelRfl
namespace Go.Proofs.Ytofonbfpjfabbaa
/- THE CELL 'sum', in the pinned program and in every row, IS THE sha256 OF THE DUMP (.gsa) THAT YtofonbfpjfabbaaProg.lean LOADS. Nothing in Lean hashes anything: it is a label: what it is worth is what the hold of that sum in a sandbox is worth. -/
noncomputable def Try.pinned : Pinned := { name := "ytofonbfpjfabbaa", sum := "1acbc331ab09417a6c7241535350a07de3ea42cfd687455ba064164f08473cbb", checked := Try.checked }
namespace Rows
def none {H : Type} : Left H := { results := [], args := [] }

/-- 'glossatorlaw3.DepgraphReachability': WHATEVER THE INPUT: true; the input reads as it did. -/
def depgraphReachabilitySpec : ChangeSpec := { name := "depgraphReachability", fn := fun _ => fun
  | [d1, d2] => { results := [.lit (.bool true)], args := [d1, d2] }
  | _ => none }
def depgraphReachabilityRow : OpenClaim := { program := "ytofonbfpjfabbaa", sum := "1acbc331ab09417a6c7241535350a07de3ea42cfd687455ba064164f08473cbb", func := "glossator/glossatorlaw3.DepgraphReachability", spec := "depgraphReachability", inPlace := ["slices.overlaps[glossator/api.QKey]"], unfollowed := true, recurses := true, plainKeys := false, apart := false }
def DepgraphReachabilitySaid : Prop := depgraphReachabilityRow.holds Try.pinned (OpenSpec.ofChange depgraphReachabilitySpec)

/-- ITS FALSE NEIGHBOUR: 'it returns false'. Refute it at one input. -/
def depgraphReachabilityWrong : ChangeSpec := { name := "depgraphReachability", fn := fun _ => fun
  | [d1, d2] => { results := [.lit (.bool false)], args := [d1, d2] }
  | _ => none }
def DepgraphReachabilityWrongFalsely : Prop := depgraphReachabilityRow.holds Try.pinned (OpenSpec.ofChange depgraphReachabilityWrong)

/-- 'glossatorlaw3.DepgraphOrder': WHATEVER THE INPUT: true; the input reads as it did. -/
def depgraphOrderSpec : ChangeSpec := { name := "depgraphOrder", fn := fun _ => fun
  | [d] => { results := [.lit (.bool true)], args := [d] }
  | _ => none }
def depgraphOrderRow : OpenClaim := { program := "ytofonbfpjfabbaa", sum := "1acbc331ab09417a6c7241535350a07de3ea42cfd687455ba064164f08473cbb", func := "glossator/glossatorlaw3.DepgraphOrder", spec := "depgraphOrder", inPlace := ["slices.overlaps[glossator/api.QKey]"], unfollowed := true, recurses := true, plainKeys := false, apart := false }
def DepgraphOrderSaid : Prop := depgraphOrderRow.holds Try.pinned (OpenSpec.ofChange depgraphOrderSpec)

/-- ITS FALSE NEIGHBOUR: 'it returns false'. Refute it at one input. -/
def depgraphOrderWrong : ChangeSpec := { name := "depgraphOrder", fn := fun _ => fun
  | [d] => { results := [.lit (.bool false)], args := [d] }
  | _ => none }
def DepgraphOrderWrongFalsely : Prop := depgraphOrderRow.holds Try.pinned (OpenSpec.ofChange depgraphOrderWrong)

/-- 'glossatorlaw3.DepgraphLevels': WHATEVER THE INPUT: true; the input reads as it did. -/
def depgraphLevelsSpec : ChangeSpec := { name := "depgraphLevels", fn := fun _ => fun
  | [d] => { results := [.lit (.bool true)], args := [d] }
  | _ => none }
def depgraphLevelsRow : OpenClaim := { program := "ytofonbfpjfabbaa", sum := "1acbc331ab09417a6c7241535350a07de3ea42cfd687455ba064164f08473cbb", func := "glossator/glossatorlaw3.DepgraphLevels", spec := "depgraphLevels", inPlace := ["slices.overlaps[glossator/api.QKey]"], unfollowed := true, recurses := true, plainKeys := false, apart := false }
def DepgraphLevelsSaid : Prop := depgraphLevelsRow.holds Try.pinned (OpenSpec.ofChange depgraphLevelsSpec)

/-- ITS FALSE NEIGHBOUR: 'it returns false'. Refute it at one input. -/
def depgraphLevelsWrong : ChangeSpec := { name := "depgraphLevels", fn := fun _ => fun
  | [d] => { results := [.lit (.bool false)], args := [d] }
  | _ => none }
def DepgraphLevelsWrongFalsely : Prop := depgraphLevelsRow.holds Try.pinned (OpenSpec.ofChange depgraphLevelsWrong)

/-- 'glossatorlaw3.DepgraphReduction': WHATEVER THE INPUT: true; the input reads as it did. -/
def depgraphReductionSpec : ChangeSpec := { name := "depgraphReduction", fn := fun _ => fun
  | [d] => { results := [.lit (.bool true)], args := [d] }
  | _ => none }
def depgraphReductionRow : OpenClaim := { program := "ytofonbfpjfabbaa", sum := "1acbc331ab09417a6c7241535350a07de3ea42cfd687455ba064164f08473cbb", func := "glossator/glossatorlaw3.DepgraphReduction", spec := "depgraphReduction", inPlace := ["slices.overlaps[glossator/api.QKey]"], unfollowed := true, recurses := true, plainKeys := false, apart := false }
def DepgraphReductionSaid : Prop := depgraphReductionRow.holds Try.pinned (OpenSpec.ofChange depgraphReductionSpec)

/-- ITS FALSE NEIGHBOUR: 'it returns false'. Refute it at one input. -/
def depgraphReductionWrong : ChangeSpec := { name := "depgraphReduction", fn := fun _ => fun
  | [d] => { results := [.lit (.bool false)], args := [d] }
  | _ => none }
def DepgraphReductionWrongFalsely : Prop := depgraphReductionRow.holds Try.pinned (OpenSpec.ofChange depgraphReductionWrong)

/- THE SECOND FORM. 'bulk': how many values and letters a reading holds, each counted each time it is reached (what is shared counts as often as it is met; a slice's spare places count too). A statement '..UptoSaid' is the law's where the arguments, and the package variables that the reading takes, are together of bulk at most 1048576: NARROWER than '..Said'. Prove '..Said' where nothing that the law and all that it calls make is longer than what came in: it says more and counts as full. Else prove '..UptoSaid'. A law counts once. -/
mutual
def uptoBulk {H : Type} : DataW H → Nat
  | .lit (.string bytes) => bytes.length + 1
  | .lit _ => 1
  | .nil => 1
  | .ptr d => uptoBulk d + 1
  | .slice elems spare => uptoBulkAll elems + uptoBulkAll spare + 1
  | .agg parts => uptoBulkAll parts + 1
  | .iface _ d => uptoBulk d + 1
  | .map entries => uptoBulkEntries entries + 1
  | .held _ => 1
def uptoBulkAll {H : Type} : List (DataW H) → Nat
  | [] => 0
  | d :: r => uptoBulk d + uptoBulkAll r
def uptoBulkEntries {H : Type} : List (Lit × DataW H) → Nat
  | [] => 0
  | x :: r => uptoBulkEntry x + uptoBulkEntries r
def uptoBulkEntry {H : Type} : Lit × DataW H → Nat
  | (.string bytes, d) => bytes.length + uptoBulk d + 1
  | (_, d) => uptoBulk d + 1
 end
def uptoSmall : (H : Type) → List (DataW H) → Bool := fun _ ds => decide (uptoBulkAll ds ≤ 1048576)
def OpenSpec.upto (s : _root_.Go.ChangeSpec) : _root_.Go.OpenSpec := { _root_.Go.OpenSpec.ofChange s with cond := some uptoSmall }

/-- 'glossatorlaw3.DepgraphReachability', WHERE WHAT IT READS IS OF BULK AT MOST 1048576: true; the input reads as it did. -/
def depgraphReachabilityUptoRow : OpenClaim := { program := "ytofonbfpjfabbaa", sum := "1acbc331ab09417a6c7241535350a07de3ea42cfd687455ba064164f08473cbb", func := "glossator/glossatorlaw3.DepgraphReachability", spec := "depgraphReachability", inPlace := ["slices.overlaps[glossator/api.QKey]"], unfollowed := true, recurses := true, plainKeys := false, apart := false, narrowed := true }
def DepgraphReachabilityUptoSaid : Prop := depgraphReachabilityUptoRow.holds Try.pinned (OpenSpec.upto depgraphReachabilitySpec)

/-- 'glossatorlaw3.DepgraphOrder', WHERE WHAT IT READS IS OF BULK AT MOST 1048576: true; the input reads as it did. -/
def depgraphOrderUptoRow : OpenClaim := { program := "ytofonbfpjfabbaa", sum := "1acbc331ab09417a6c7241535350a07de3ea42cfd687455ba064164f08473cbb", func := "glossator/glossatorlaw3.DepgraphOrder", spec := "depgraphOrder", inPlace := ["slices.overlaps[glossator/api.QKey]"], unfollowed := true, recurses := true, plainKeys := false, apart := false, narrowed := true }
def DepgraphOrderUptoSaid : Prop := depgraphOrderUptoRow.holds Try.pinned (OpenSpec.upto depgraphOrderSpec)

/-- 'glossatorlaw3.DepgraphLevels', WHERE WHAT IT READS IS OF BULK AT MOST 1048576: true; the input reads as it did. -/
def depgraphLevelsUptoRow : OpenClaim := { program := "ytofonbfpjfabbaa", sum := "1acbc331ab09417a6c7241535350a07de3ea42cfd687455ba064164f08473cbb", func := "glossator/glossatorlaw3.DepgraphLevels", spec := "depgraphLevels", inPlace := ["slices.overlaps[glossator/api.QKey]"], unfollowed := true, recurses := true, plainKeys := false, apart := false, narrowed := true }
def DepgraphLevelsUptoSaid : Prop := depgraphLevelsUptoRow.holds Try.pinned (OpenSpec.upto depgraphLevelsSpec)

/-- 'glossatorlaw3.DepgraphReduction', WHERE WHAT IT READS IS OF BULK AT MOST 1048576: true; the input reads as it did. -/
def depgraphReductionUptoRow : OpenClaim := { program := "ytofonbfpjfabbaa", sum := "1acbc331ab09417a6c7241535350a07de3ea42cfd687455ba064164f08473cbb", func := "glossator/glossatorlaw3.DepgraphReduction", spec := "depgraphReduction", inPlace := ["slices.overlaps[glossator/api.QKey]"], unfollowed := true, recurses := true, plainKeys := false, apart := false, narrowed := true }
def DepgraphReductionUptoSaid : Prop := depgraphReductionUptoRow.holds Try.pinned (OpenSpec.upto depgraphReductionSpec)

end Rows
end Go.Proofs.Ytofonbfpjfabbaa

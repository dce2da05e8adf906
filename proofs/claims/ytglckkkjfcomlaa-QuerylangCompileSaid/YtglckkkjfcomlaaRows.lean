/-
  No cell of these rows narrows 'for every input' (looked for: loops, veiled, ifaces, maps, wideKeys, modest, calm, conditions, laid).
  DERIVED. THE GIVEN ROWS OF THIS SEAT. 11 by the template 'for every input the law returns true; each argument reads behind the call as it read before'; 0 by the template 'total and deterministic' (their statements: YtglckkkjfcomlaaTotals.lean).
  GIVEN WITH THE SEED: the statements are not yours to turn. If you find one false, say at which input.
  Laid BY PROGRAM, IN A SANDBOX (cutbox-rows.mjs): the forced cells as the released guide's own fill.sh prints them over the translation 0f7768720d931ed9… (all of the seat's roots in one cut). By AI agents, Wed Nov 11 2026. No macro, syntax, notation, axiom, sorry.
-/
import Derived.Test.YtglckkkjfcomlaaChecked
import GoSem.Claim
import GoSem.ClaimJoined
import GoSem.ClaimMapViews
import Derived.JoinedTies
import Derived.KernelRfl
namespace Go.Proofs.Ytglckkkjfcomlaa
/- THE CELL 'sum', in the pinned program and in every row, IS THE sha256 OF THE DUMP (.gsa) THAT YtglckkkjfcomlaaProg.lean LOADS. Nothing in Lean hashes anything: it is a label: what it is worth is what the hold of that sum in a sandbox is worth. -/
noncomputable def Try.pinned : Pinned := { name := "ytglckkkjfcomlaa", sum := "0f7768720d931ed90dd088aafdc9ad358e2575442e59b5486e8047c3e106333e", checked := Try.checked }
namespace Rows
def none {H : Type} : Left H := { results := [], args := [] }

/-- 'glossatorlaw3.QuerylangCompile': WHATEVER THE INPUT: true; the input reads as it did. -/
def querylangCompileSpec : ChangeSpec := { name := "querylangCompile", fn := fun _ => fun
  | [d1, d2, d3] => { results := [.lit (.bool true)], args := [d1, d2, d3] }
  | _ => none }
def querylangCompileRow : OpenClaim := { program := "ytglckkkjfcomlaa", sum := "0f7768720d931ed90dd088aafdc9ad358e2575442e59b5486e8047c3e106333e", func := "glossator/glossatorlaw3.QuerylangCompile", spec := "querylangCompile", unfollowed := true, recurses := true, apart := false }
def QuerylangCompileSaid : Prop := querylangCompileRow.holds Try.pinned (OpenSpec.ofChange querylangCompileSpec)

/-- ITS FALSE NEIGHBOUR: 'it returns false'. Refute it at one input. -/
def querylangCompileWrong : ChangeSpec := { name := "querylangCompile", fn := fun _ => fun
  | [d1, d2, d3] => { results := [.lit (.bool false)], args := [d1, d2, d3] }
  | _ => none }
def QuerylangCompileWrongFalsely : Prop := querylangCompileRow.holds Try.pinned (OpenSpec.ofChange querylangCompileWrong)

/-- 'glossatorlaw3.FixpointSolver': WHATEVER THE INPUT: true; the input reads as it did. -/
def fixpointSolverSpec : ChangeSpec := { name := "fixpointSolver", fn := fun _ => fun
  | [d1, d2, d3] => { results := [.lit (.bool true)], args := [d1, d2, d3] }
  | _ => none }
def fixpointSolverRow : OpenClaim := { program := "ytglckkkjfcomlaa", sum := "0f7768720d931ed90dd088aafdc9ad358e2575442e59b5486e8047c3e106333e", func := "glossator/glossatorlaw3.FixpointSolver", spec := "fixpointSolver", unfollowed := true, recurses := true, apart := false }
def FixpointSolverSaid : Prop := fixpointSolverRow.holds Try.pinned (OpenSpec.ofChange fixpointSolverSpec)

/-- ITS FALSE NEIGHBOUR: 'it returns false'. Refute it at one input. -/
def fixpointSolverWrong : ChangeSpec := { name := "fixpointSolver", fn := fun _ => fun
  | [d1, d2, d3] => { results := [.lit (.bool false)], args := [d1, d2, d3] }
  | _ => none }
def FixpointSolverWrongFalsely : Prop := fixpointSolverRow.holds Try.pinned (OpenSpec.ofChange fixpointSolverWrong)

/-- 'glossatorlaw3.FixpointProofs': WHATEVER THE INPUT: true; the input reads as it did. -/
def fixpointProofsSpec : ChangeSpec := { name := "fixpointProofs", fn := fun _ => fun
  | [d1, d2, d3, d4] => { results := [.lit (.bool true)], args := [d1, d2, d3, d4] }
  | _ => none }
def fixpointProofsRow : OpenClaim := { program := "ytglckkkjfcomlaa", sum := "0f7768720d931ed90dd088aafdc9ad358e2575442e59b5486e8047c3e106333e", func := "glossator/glossatorlaw3.FixpointProofs", spec := "fixpointProofs", unfollowed := true, recurses := true, apart := false }
def FixpointProofsSaid : Prop := fixpointProofsRow.holds Try.pinned (OpenSpec.ofChange fixpointProofsSpec)

/-- ITS FALSE NEIGHBOUR: 'it returns false'. Refute it at one input. -/
def fixpointProofsWrong : ChangeSpec := { name := "fixpointProofs", fn := fun _ => fun
  | [d1, d2, d3, d4] => { results := [.lit (.bool false)], args := [d1, d2, d3, d4] }
  | _ => none }
def FixpointProofsWrongFalsely : Prop := fixpointProofsRow.holds Try.pinned (OpenSpec.ofChange fixpointProofsWrong)

/-- 'glossatorlaw4.FuzzyScoreEqualsReference': WHATEVER THE INPUT: true; the input reads as it did. -/
def fuzzyScoreEqualsReferenceSpec : ChangeSpec := { name := "fuzzyScoreEqualsReference", fn := fun _ => fun
  | [d1, d2, d3, d4] => { results := [.lit (.bool true)], args := [d1, d2, d3, d4] }
  | _ => none }
def fuzzyScoreEqualsReferenceRow : OpenClaim := { program := "ytglckkkjfcomlaa", sum := "0f7768720d931ed90dd088aafdc9ad358e2575442e59b5486e8047c3e106333e", func := "glossator/glossatorlaw4.FuzzyScoreEqualsReference", spec := "fuzzyScoreEqualsReference", inPlace := ["internal/bytealg.abigen_runtime_cmpstring"], unfollowed := true, recurses := true, apart := false }
def FuzzyScoreEqualsReferenceSaid : Prop := fuzzyScoreEqualsReferenceRow.holds Try.pinned (OpenSpec.ofChange fuzzyScoreEqualsReferenceSpec)

/-- ITS FALSE NEIGHBOUR: 'it returns false'. Refute it at one input. -/
def fuzzyScoreEqualsReferenceWrong : ChangeSpec := { name := "fuzzyScoreEqualsReference", fn := fun _ => fun
  | [d1, d2, d3, d4] => { results := [.lit (.bool false)], args := [d1, d2, d3, d4] }
  | _ => none }
def FuzzyScoreEqualsReferenceWrongFalsely : Prop := fuzzyScoreEqualsReferenceRow.holds Try.pinned (OpenSpec.ofChange fuzzyScoreEqualsReferenceWrong)

/-- 'glossatorlaw4.FuzzyRankSorted': WHATEVER THE INPUT: true; the input reads as it did. -/
def fuzzyRankSortedSpec : ChangeSpec := { name := "fuzzyRankSorted", fn := fun _ => fun
  | [d1, d2] => { results := [.lit (.bool true)], args := [d1, d2] }
  | _ => none }
def fuzzyRankSortedRow : OpenClaim := { program := "ytglckkkjfcomlaa", sum := "0f7768720d931ed90dd088aafdc9ad358e2575442e59b5486e8047c3e106333e", func := "glossator/glossatorlaw4.FuzzyRankSorted", spec := "fuzzyRankSorted", inPlace := ["internal/bytealg.abigen_runtime_cmpstring"], unfollowed := true, recurses := true, apart := false }
def FuzzyRankSortedSaid : Prop := fuzzyRankSortedRow.holds Try.pinned (OpenSpec.ofChange fuzzyRankSortedSpec)

/-- ITS FALSE NEIGHBOUR: 'it returns false'. Refute it at one input. -/
def fuzzyRankSortedWrong : ChangeSpec := { name := "fuzzyRankSorted", fn := fun _ => fun
  | [d1, d2] => { results := [.lit (.bool false)], args := [d1, d2] }
  | _ => none }
def FuzzyRankSortedWrongFalsely : Prop := fuzzyRankSortedRow.holds Try.pinned (OpenSpec.ofChange fuzzyRankSortedWrong)

/-- 'glossatorlaw3.DocsyncReplica': WHATEVER THE INPUT: true; the input reads as it did. -/
def docsyncReplicaSpec : ChangeSpec := { name := "docsyncReplica", fn := fun _ => fun
  | [d1, d2, d3] => { results := [.lit (.bool true)], args := [d1, d2, d3] }
  | _ => none }
def docsyncReplicaRow : OpenClaim := { program := "ytglckkkjfcomlaa", sum := "0f7768720d931ed90dd088aafdc9ad358e2575442e59b5486e8047c3e106333e", func := "glossator/glossatorlaw3.DocsyncReplica", spec := "docsyncReplica", inPlace := ["slices.overlaps[int]", "internal/abi.NoEscape"], unfollowed := true, recurses := true, apart := false }
def DocsyncReplicaSaid : Prop := docsyncReplicaRow.holds Try.pinned (OpenSpec.ofChange docsyncReplicaSpec)

/-- ITS FALSE NEIGHBOUR: 'it returns false'. Refute it at one input. -/
def docsyncReplicaWrong : ChangeSpec := { name := "docsyncReplica", fn := fun _ => fun
  | [d1, d2, d3] => { results := [.lit (.bool false)], args := [d1, d2, d3] }
  | _ => none }
def DocsyncReplicaWrongFalsely : Prop := docsyncReplicaRow.holds Try.pinned (OpenSpec.ofChange docsyncReplicaWrong)

/-- 'glossatorlaw3.DocsyncRoom': WHATEVER THE INPUT: true; the input reads as it did. -/
def docsyncRoomSpec : ChangeSpec := { name := "docsyncRoom", fn := fun _ => fun
  | [d1, d2, d3, d4] => { results := [.lit (.bool true)], args := [d1, d2, d3, d4] }
  | _ => none }
def docsyncRoomRow : OpenClaim := { program := "ytglckkkjfcomlaa", sum := "0f7768720d931ed90dd088aafdc9ad358e2575442e59b5486e8047c3e106333e", func := "glossator/glossatorlaw3.DocsyncRoom", spec := "docsyncRoom", inPlace := ["slices.overlaps[int]", "internal/abi.NoEscape"], unfollowed := true, recurses := true, apart := false }
def DocsyncRoomSaid : Prop := docsyncRoomRow.holds Try.pinned (OpenSpec.ofChange docsyncRoomSpec)

/-- ITS FALSE NEIGHBOUR: 'it returns false'. Refute it at one input. -/
def docsyncRoomWrong : ChangeSpec := { name := "docsyncRoom", fn := fun _ => fun
  | [d1, d2, d3, d4] => { results := [.lit (.bool false)], args := [d1, d2, d3, d4] }
  | _ => none }
def DocsyncRoomWrongFalsely : Prop := docsyncRoomRow.holds Try.pinned (OpenSpec.ofChange docsyncRoomWrong)

/-- 'glossatorlaw3.JournalState': WHATEVER THE INPUT: true; the input reads as it did. -/
def journalStateSpec : ChangeSpec := { name := "journalState", fn := fun _ => fun
  | [d] => { results := [.lit (.bool true)], args := [d] }
  | _ => none }
def journalStateRow : OpenClaim := { program := "ytglckkkjfcomlaa", sum := "0f7768720d931ed90dd088aafdc9ad358e2575442e59b5486e8047c3e106333e", func := "glossator/glossatorlaw3.JournalState", spec := "journalState", inPlace := ["internal/bytealg.abigen_runtime_cmpstring"], unfollowed := true, recurses := true, apart := false }
def JournalStateSaid : Prop := journalStateRow.holds Try.pinned (OpenSpec.ofChange journalStateSpec)

/-- ITS FALSE NEIGHBOUR: 'it returns false'. Refute it at one input. -/
def journalStateWrong : ChangeSpec := { name := "journalState", fn := fun _ => fun
  | [d] => { results := [.lit (.bool false)], args := [d] }
  | _ => none }
def JournalStateWrongFalsely : Prop := journalStateRow.holds Try.pinned (OpenSpec.ofChange journalStateWrong)

/-- 'glossatorlaw3.JournalRead': WHATEVER THE INPUT: true; the input reads as it did. -/
def journalReadSpec : ChangeSpec := { name := "journalRead", fn := fun _ => fun
  | [d] => { results := [.lit (.bool true)], args := [d] }
  | _ => none }
def journalReadRow : OpenClaim := { program := "ytglckkkjfcomlaa", sum := "0f7768720d931ed90dd088aafdc9ad358e2575442e59b5486e8047c3e106333e", func := "glossator/glossatorlaw3.JournalRead", spec := "journalRead", inPlace := ["internal/bytealg.abigen_runtime_cmpstring"], unfollowed := true, recurses := true, apart := false }
def JournalReadSaid : Prop := journalReadRow.holds Try.pinned (OpenSpec.ofChange journalReadSpec)

/-- ITS FALSE NEIGHBOUR: 'it returns false'. Refute it at one input. -/
def journalReadWrong : ChangeSpec := { name := "journalRead", fn := fun _ => fun
  | [d] => { results := [.lit (.bool false)], args := [d] }
  | _ => none }
def JournalReadWrongFalsely : Prop := journalReadRow.holds Try.pinned (OpenSpec.ofChange journalReadWrong)

/-- 'glossatorlaw3.FilewatchBatches': WHATEVER THE INPUT: true; the input reads as it did. -/
def filewatchBatchesSpec : ChangeSpec := { name := "filewatchBatches", fn := fun _ => fun
  | [d1, d2, d3, d4, d5] => { results := [.lit (.bool true)], args := [d1, d2, d3, d4, d5] }
  | _ => none }
def filewatchBatchesRow : OpenClaim := { program := "ytglckkkjfcomlaa", sum := "0f7768720d931ed90dd088aafdc9ad358e2575442e59b5486e8047c3e106333e", func := "glossator/glossatorlaw3.FilewatchBatches", spec := "filewatchBatches", unfollowed := true, recurses := true, apart := false }
def FilewatchBatchesSaid : Prop := filewatchBatchesRow.holds Try.pinned (OpenSpec.ofChange filewatchBatchesSpec)

/-- ITS FALSE NEIGHBOUR: 'it returns false'. Refute it at one input. -/
def filewatchBatchesWrong : ChangeSpec := { name := "filewatchBatches", fn := fun _ => fun
  | [d1, d2, d3, d4, d5] => { results := [.lit (.bool false)], args := [d1, d2, d3, d4, d5] }
  | _ => none }
def FilewatchBatchesWrongFalsely : Prop := filewatchBatchesRow.holds Try.pinned (OpenSpec.ofChange filewatchBatchesWrong)

/-- 'glossatorlaw3.FilewatchWatcher': WHATEVER THE INPUT: true; the input reads as it did. -/
def filewatchWatcherSpec : ChangeSpec := { name := "filewatchWatcher", fn := fun _ => fun
  | [d1, d2] => { results := [.lit (.bool true)], args := [d1, d2] }
  | _ => none }
def filewatchWatcherRow : OpenClaim := { program := "ytglckkkjfcomlaa", sum := "0f7768720d931ed90dd088aafdc9ad358e2575442e59b5486e8047c3e106333e", func := "glossator/glossatorlaw3.FilewatchWatcher", spec := "filewatchWatcher", unfollowed := true, recurses := true, apart := false }
def FilewatchWatcherSaid : Prop := filewatchWatcherRow.holds Try.pinned (OpenSpec.ofChange filewatchWatcherSpec)

/-- ITS FALSE NEIGHBOUR: 'it returns false'. Refute it at one input. -/
def filewatchWatcherWrong : ChangeSpec := { name := "filewatchWatcher", fn := fun _ => fun
  | [d1, d2] => { results := [.lit (.bool false)], args := [d1, d2] }
  | _ => none }
def FilewatchWatcherWrongFalsely : Prop := filewatchWatcherRow.holds Try.pinned (OpenSpec.ofChange filewatchWatcherWrong)

/- THE SECOND FORM. 'bulk': how many values and letters a reading holds, each counted each time it is reached (what is shared counts as often as it is met; a slice's spare places count too). A statement '..UptoSaid' is the law's where the arguments, and the package variables that the reading takes, are together of bulk at most 1048576: NARROWER than '..Said'. Prove '..Said' where nothing that the law and all that it calls make is longer than what came in: it says more and counts as full. Else prove '..UptoSaid'. A law counts once. -/
mutual
def uptoBulk {H : Type} : DataW H → Nat
  | .lit (.string bytes) => bytes.length + 1
  | .lit _ => 1
  | .nil => 1
  | .ptr d => uptoBulk d + 1
  | .slice elems spare => uptoBulkAll elems + uptoBulkAll spare + 1
  | .agg parts => uptoBulkAll parts + 1
  | .iface _ d => uptoBulk d + 1
  | .map entries => uptoBulkEntries entries + 1
  | .held _ => 1
def uptoBulkAll {H : Type} : List (DataW H) → Nat
  | [] => 0
  | d :: r => uptoBulk d + uptoBulkAll r
def uptoBulkEntries {H : Type} : List (Lit × DataW H) → Nat
  | [] => 0
  | x :: r => uptoBulkEntry x + uptoBulkEntries r
def uptoBulkEntry {H : Type} : Lit × DataW H → Nat
  | (.string bytes, d) => bytes.length + uptoBulk d + 1
  | (_, d) => uptoBulk d + 1
 end
def uptoSmall : (H : Type) → List (DataW H) → Bool := fun _ ds => decide (uptoBulkAll ds ≤ 1048576)
def OpenSpec.upto (s : _root_.Go.ChangeSpec) : _root_.Go.OpenSpec := { _root_.Go.OpenSpec.ofChange s with cond := some uptoSmall }

/-- 'glossatorlaw3.QuerylangCompile', WHERE WHAT IT READS IS OF BULK AT MOST 1048576: true; the input reads as it did. -/
def querylangCompileUptoRow : OpenClaim := { program := "ytglckkkjfcomlaa", sum := "0f7768720d931ed90dd088aafdc9ad358e2575442e59b5486e8047c3e106333e", func := "glossator/glossatorlaw3.QuerylangCompile", spec := "querylangCompile", unfollowed := true, recurses := true, apart := false, narrowed := true }
def QuerylangCompileUptoSaid : Prop := querylangCompileUptoRow.holds Try.pinned (OpenSpec.upto querylangCompileSpec)

/-- 'glossatorlaw3.FixpointSolver', WHERE WHAT IT READS IS OF BULK AT MOST 1048576: true; the input reads as it did. -/
def fixpointSolverUptoRow : OpenClaim := { program := "ytglckkkjfcomlaa", sum := "0f7768720d931ed90dd088aafdc9ad358e2575442e59b5486e8047c3e106333e", func := "glossator/glossatorlaw3.FixpointSolver", spec := "fixpointSolver", unfollowed := true, recurses := true, apart := false, narrowed := true }
def FixpointSolverUptoSaid : Prop := fixpointSolverUptoRow.holds Try.pinned (OpenSpec.upto fixpointSolverSpec)

/-- 'glossatorlaw3.FixpointProofs', WHERE WHAT IT READS IS OF BULK AT MOST 1048576: true; the input reads as it did. -/
def fixpointProofsUptoRow : OpenClaim := { program := "ytglckkkjfcomlaa", sum := "0f7768720d931ed90dd088aafdc9ad358e2575442e59b5486e8047c3e106333e", func := "glossator/glossatorlaw3.FixpointProofs", spec := "fixpointProofs", unfollowed := true, recurses := true, apart := false, narrowed := true }
def FixpointProofsUptoSaid : Prop := fixpointProofsUptoRow.holds Try.pinned (OpenSpec.upto fixpointProofsSpec)

/-- 'glossatorlaw4.FuzzyScoreEqualsReference', WHERE WHAT IT READS IS OF BULK AT MOST 1048576: true; the input reads as it did. -/
def fuzzyScoreEqualsReferenceUptoRow : OpenClaim := { program := "ytglckkkjfcomlaa", sum := "0f7768720d931ed90dd088aafdc9ad358e2575442e59b5486e8047c3e106333e", func := "glossator/glossatorlaw4.FuzzyScoreEqualsReference", spec := "fuzzyScoreEqualsReference", inPlace := ["internal/bytealg.abigen_runtime_cmpstring"], unfollowed := true, recurses := true, apart := false, narrowed := true }
def FuzzyScoreEqualsReferenceUptoSaid : Prop := fuzzyScoreEqualsReferenceUptoRow.holds Try.pinned (OpenSpec.upto fuzzyScoreEqualsReferenceSpec)

/-- 'glossatorlaw4.FuzzyRankSorted', WHERE WHAT IT READS IS OF BULK AT MOST 1048576: true; the input reads as it did. -/
def fuzzyRankSortedUptoRow : OpenClaim := { program := "ytglckkkjfcomlaa", sum := "0f7768720d931ed90dd088aafdc9ad358e2575442e59b5486e8047c3e106333e", func := "glossator/glossatorlaw4.FuzzyRankSorted", spec := "fuzzyRankSorted", inPlace := ["internal/bytealg.abigen_runtime_cmpstring"], unfollowed := true, recurses := true, apart := false, narrowed := true }
def FuzzyRankSortedUptoSaid : Prop := fuzzyRankSortedUptoRow.holds Try.pinned (OpenSpec.upto fuzzyRankSortedSpec)

/-- 'glossatorlaw3.DocsyncReplica', WHERE WHAT IT READS IS OF BULK AT MOST 1048576: true; the input reads as it did. -/
def docsyncReplicaUptoRow : OpenClaim := { program := "ytglckkkjfcomlaa", sum := "0f7768720d931ed90dd088aafdc9ad358e2575442e59b5486e8047c3e106333e", func := "glossator/glossatorlaw3.DocsyncReplica", spec := "docsyncReplica", inPlace := ["slices.overlaps[int]", "internal/abi.NoEscape"], unfollowed := true, recurses := true, apart := false, narrowed := true }
def DocsyncReplicaUptoSaid : Prop := docsyncReplicaUptoRow.holds Try.pinned (OpenSpec.upto docsyncReplicaSpec)

/-- 'glossatorlaw3.DocsyncRoom', WHERE WHAT IT READS IS OF BULK AT MOST 1048576: true; the input reads as it did. -/
def docsyncRoomUptoRow : OpenClaim := { program := "ytglckkkjfcomlaa", sum := "0f7768720d931ed90dd088aafdc9ad358e2575442e59b5486e8047c3e106333e", func := "glossator/glossatorlaw3.DocsyncRoom", spec := "docsyncRoom", inPlace := ["slices.overlaps[int]", "internal/abi.NoEscape"], unfollowed := true, recurses := true, apart := false, narrowed := true }
def DocsyncRoomUptoSaid : Prop := docsyncRoomUptoRow.holds Try.pinned (OpenSpec.upto docsyncRoomSpec)

/-- 'glossatorlaw3.JournalState', WHERE WHAT IT READS IS OF BULK AT MOST 1048576: true; the input reads as it did. -/
def journalStateUptoRow : OpenClaim := { program := "ytglckkkjfcomlaa", sum := "0f7768720d931ed90dd088aafdc9ad358e2575442e59b5486e8047c3e106333e", func := "glossator/glossatorlaw3.JournalState", spec := "journalState", inPlace := ["internal/bytealg.abigen_runtime_cmpstring"], unfollowed := true, recurses := true, apart := false, narrowed := true }
def JournalStateUptoSaid : Prop := journalStateUptoRow.holds Try.pinned (OpenSpec.upto journalStateSpec)

/-- 'glossatorlaw3.JournalRead', WHERE WHAT IT READS IS OF BULK AT MOST 1048576: true; the input reads as it did. -/
def journalReadUptoRow : OpenClaim := { program := "ytglckkkjfcomlaa", sum := "0f7768720d931ed90dd088aafdc9ad358e2575442e59b5486e8047c3e106333e", func := "glossator/glossatorlaw3.JournalRead", spec := "journalRead", inPlace := ["internal/bytealg.abigen_runtime_cmpstring"], unfollowed := true, recurses := true, apart := false, narrowed := true }
def JournalReadUptoSaid : Prop := journalReadUptoRow.holds Try.pinned (OpenSpec.upto journalReadSpec)

/-- 'glossatorlaw3.FilewatchBatches', WHERE WHAT IT READS IS OF BULK AT MOST 1048576: true; the input reads as it did. -/
def filewatchBatchesUptoRow : OpenClaim := { program := "ytglckkkjfcomlaa", sum := "0f7768720d931ed90dd088aafdc9ad358e2575442e59b5486e8047c3e106333e", func := "glossator/glossatorlaw3.FilewatchBatches", spec := "filewatchBatches", unfollowed := true, recurses := true, apart := false, narrowed := true }
def FilewatchBatchesUptoSaid : Prop := filewatchBatchesUptoRow.holds Try.pinned (OpenSpec.upto filewatchBatchesSpec)

/-- 'glossatorlaw3.FilewatchWatcher', WHERE WHAT IT READS IS OF BULK AT MOST 1048576: true; the input reads as it did. -/
def filewatchWatcherUptoRow : OpenClaim := { program := "ytglckkkjfcomlaa", sum := "0f7768720d931ed90dd088aafdc9ad358e2575442e59b5486e8047c3e106333e", func := "glossator/glossatorlaw3.FilewatchWatcher", spec := "filewatchWatcher", unfollowed := true, recurses := true, apart := false, narrowed := true }
def FilewatchWatcherUptoSaid : Prop := filewatchWatcherUptoRow.holds Try.pinned (OpenSpec.upto filewatchWatcherSpec)

end Rows
end Go.Proofs.Ytglckkkjfcomlaa

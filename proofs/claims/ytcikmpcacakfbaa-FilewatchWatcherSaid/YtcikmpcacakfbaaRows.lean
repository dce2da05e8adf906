/-
  No cell of these rows narrows 'for every input' (looked for: loops, veiled, ifaces, maps, wideKeys, modest, calm, conditions, laid).
  DERIVED. THE GIVEN ROWS OF THIS SEAT. 4 by the template 'for every input the law returns true; each argument reads behind the call as it read before'; 0 by the template 'total and deterministic' (their statements: YtcikmpcacakfbaaTotals.lean).
  GIVEN WITH THE SEED: the statements are not yours to turn. If you find one false, say at which input.
  Laid BY PROGRAM, IN A SANDBOX (cutbox-rows.mjs): the forced cells as the released guide's own fill.sh prints them over the translation 4210329b21860ad6… (all of the seat's roots in one cut). By AI agents, Wed Nov 11 2026. No macro, syntax, notation, axiom, sorry.
-/
import Derived.Test.YtcikmpcacakfbaaChecked
import GoSem.Claim
import GoSem.ClaimJoined
import GoSem.ClaimMapViews
import Derived.JoinedTies
import Derived.KernelRfl
namespace Go.Proofs.Ytcikmpcacakfbaa
/- THE CELL 'sum', in the pinned program and in every row, IS THE sha256 OF THE DUMP (.gsa) THAT YtcikmpcacakfbaaProg.lean LOADS. Nothing in Lean hashes anything: it is a label: what it is worth is what the hold of that sum in a sandbox is worth. -/
noncomputable def Try.pinned : Pinned := { name := "ytcikmpcacakfbaa", sum := "4210329b21860ad6ba3022263820bda7156d243f6d717dfb8553451b556740d1", checked := Try.checked }
namespace Rows
def none {H : Type} : Left H := { results := [], args := [] }

/-- 'glossatorlaw3.JournalState': WHATEVER THE INPUT: true; the input reads as it did. -/
def journalStateSpec : ChangeSpec := { name := "journalState", fn := fun _ => fun
  | [d] => { results := [.lit (.bool true)], args := [d] }
  | _ => none }
def journalStateRow : OpenClaim := { program := "ytcikmpcacakfbaa", sum := "4210329b21860ad6ba3022263820bda7156d243f6d717dfb8553451b556740d1", func := "glossator/glossatorlaw3.JournalState", spec := "journalState", inPlace := ["internal/bytealg.abigen_runtime_cmpstring"], unfollowed := true, recurses := true, apart := false }
def JournalStateSaid : Prop := journalStateRow.holds Try.pinned (OpenSpec.ofChange journalStateSpec)

/-- ITS FALSE NEIGHBOUR: 'it returns false'. Refute it at one input. -/
def journalStateWrong : ChangeSpec := { name := "journalState", fn := fun _ => fun
  | [d] => { results := [.lit (.bool false)], args := [d] }
  | _ => none }
def JournalStateWrongFalsely : Prop := journalStateRow.holds Try.pinned (OpenSpec.ofChange journalStateWrong)

/-- 'glossatorlaw3.JournalRead': WHATEVER THE INPUT: true; the input reads as it did. -/
def journalReadSpec : ChangeSpec := { name := "journalRead", fn := fun _ => fun
  | [d] => { results := [.lit (.bool true)], args := [d] }
  | _ => none }
def journalReadRow : OpenClaim := { program := "ytcikmpcacakfbaa", sum := "4210329b21860ad6ba3022263820bda7156d243f6d717dfb8553451b556740d1", func := "glossator/glossatorlaw3.JournalRead", spec := "journalRead", inPlace := ["internal/bytealg.abigen_runtime_cmpstring"], unfollowed := true, recurses := true, apart := false }
def JournalReadSaid : Prop := journalReadRow.holds Try.pinned (OpenSpec.ofChange journalReadSpec)

/-- ITS FALSE NEIGHBOUR: 'it returns false'. Refute it at one input. -/
def journalReadWrong : ChangeSpec := { name := "journalRead", fn := fun _ => fun
  | [d] => { results := [.lit (.bool false)], args := [d] }
  | _ => none }
def JournalReadWrongFalsely : Prop := journalReadRow.holds Try.pinned (OpenSpec.ofChange journalReadWrong)

/-- 'glossatorlaw3.FilewatchBatches': WHATEVER THE INPUT: true; the input reads as it did. -/
def filewatchBatchesSpec : ChangeSpec := { name := "filewatchBatches", fn := fun _ => fun
  | [d1, d2, d3, d4, d5] => { results := [.lit (.bool true)], args := [d1, d2, d3, d4, d5] }
  | _ => none }
def filewatchBatchesRow : OpenClaim := { program := "ytcikmpcacakfbaa", sum := "4210329b21860ad6ba3022263820bda7156d243f6d717dfb8553451b556740d1", func := "glossator/glossatorlaw3.FilewatchBatches", spec := "filewatchBatches", unfollowed := true, recurses := true, apart := false }
def FilewatchBatchesSaid : Prop := filewatchBatchesRow.holds Try.pinned (OpenSpec.ofChange filewatchBatchesSpec)

/-- ITS FALSE NEIGHBOUR: 'it returns false'. Refute it at one input. -/
def filewatchBatchesWrong : ChangeSpec := { name := "filewatchBatches", fn := fun _ => fun
  | [d1, d2, d3, d4, d5] => { results := [.lit (.bool false)], args := [d1, d2, d3, d4, d5] }
  | _ => none }
def FilewatchBatchesWrongFalsely : Prop := filewatchBatchesRow.holds Try.pinned (OpenSpec.ofChange filewatchBatchesWrong)

/-- 'glossatorlaw3.FilewatchWatcher': WHATEVER THE INPUT: true; the input reads as it did. -/
def filewatchWatcherSpec : ChangeSpec := { name := "filewatchWatcher", fn := fun _ => fun
  | [d1, d2] => { results := [.lit (.bool true)], args := [d1, d2] }
  | _ => none }
def filewatchWatcherRow : OpenClaim := { program := "ytcikmpcacakfbaa", sum := "4210329b21860ad6ba3022263820bda7156d243f6d717dfb8553451b556740d1", func := "glossator/glossatorlaw3.FilewatchWatcher", spec := "filewatchWatcher", unfollowed := true, recurses := true, apart := false }
def FilewatchWatcherSaid : Prop := filewatchWatcherRow.holds Try.pinned (OpenSpec.ofChange filewatchWatcherSpec)

/-- ITS FALSE NEIGHBOUR: 'it returns false'. Refute it at one input. -/
def filewatchWatcherWrong : ChangeSpec := { name := "filewatchWatcher", fn := fun _ => fun
  | [d1, d2] => { results := [.lit (.bool false)], args := [d1, d2] }
  | _ => none }
def FilewatchWatcherWrongFalsely : Prop := filewatchWatcherRow.holds Try.pinned (OpenSpec.ofChange filewatchWatcherWrong)

/- THE SECOND FORM. 'bulk': how many values and letters a reading holds, each counted each time it is reached (what is shared counts as often as it is met; a slice's spare places count too). A statement '..UptoSaid' is the law's where the arguments, and the package variables that the reading takes, are together of bulk at most 1048576: NARROWER than '..Said'. Prove '..Said' where nothing that the law and all that it calls make is longer than what came in: it says more and counts as full. Else prove '..UptoSaid'. A law counts once. -/
mutual
def uptoBulk {H : Type} : DataW H → Nat
  | .lit (.string bytes) => bytes.length + 1
  | .lit _ => 1
  | .nil => 1
  | .ptr d => uptoBulk d + 1
  | .slice elems spare => uptoBulkAll elems + uptoBulkAll spare + 1
  | .agg parts => uptoBulkAll parts + 1
  | .iface _ d => uptoBulk d + 1
  | .map entries => uptoBulkEntries entries + 1
  | .held _ => 1
def uptoBulkAll {H : Type} : List (DataW H) → Nat
  | [] => 0
  | d :: r => uptoBulk d + uptoBulkAll r
def uptoBulkEntries {H : Type} : List (Lit × DataW H) → Nat
  | [] => 0
  | x :: r => uptoBulkEntry x + uptoBulkEntries r
def uptoBulkEntry {H : Type} : Lit × DataW H → Nat
  | (.string bytes, d) => bytes.length + uptoBulk d + 1
  | (_, d) => uptoBulk d + 1
 end
def uptoSmall : (H : Type) → List (DataW H) → Bool := fun _ ds => decide (uptoBulkAll ds ≤ 1048576)
def OpenSpec.upto (s : _root_.Go.ChangeSpec) : _root_.Go.OpenSpec := { _root_.Go.OpenSpec.ofChange s with cond := some uptoSmall }

/-- 'glossatorlaw3.JournalState', WHERE WHAT IT READS IS OF BULK AT MOST 1048576: true; the input reads as it did. -/
def journalStateUptoRow : OpenClaim := { program := "ytcikmpcacakfbaa", sum := "4210329b21860ad6ba3022263820bda7156d243f6d717dfb8553451b556740d1", func := "glossator/glossatorlaw3.JournalState", spec := "journalState", inPlace := ["internal/bytealg.abigen_runtime_cmpstring"], unfollowed := true, recurses := true, apart := false, narrowed := true }
def JournalStateUptoSaid : Prop := journalStateUptoRow.holds Try.pinned (OpenSpec.upto journalStateSpec)

/-- 'glossatorlaw3.JournalRead', WHERE WHAT IT READS IS OF BULK AT MOST 1048576: true; the input reads as it did. -/
def journalReadUptoRow : OpenClaim := { program := "ytcikmpcacakfbaa", sum := "4210329b21860ad6ba3022263820bda7156d243f6d717dfb8553451b556740d1", func := "glossator/glossatorlaw3.JournalRead", spec := "journalRead", inPlace := ["internal/bytealg.abigen_runtime_cmpstring"], unfollowed := true, recurses := true, apart := false, narrowed := true }
def JournalReadUptoSaid : Prop := journalReadUptoRow.holds Try.pinned (OpenSpec.upto journalReadSpec)

/-- 'glossatorlaw3.FilewatchBatches', WHERE WHAT IT READS IS OF BULK AT MOST 1048576: true; the input reads as it did. -/
def filewatchBatchesUptoRow : OpenClaim := { program := "ytcikmpcacakfbaa", sum := "4210329b21860ad6ba3022263820bda7156d243f6d717dfb8553451b556740d1", func := "glossator/glossatorlaw3.FilewatchBatches", spec := "filewatchBatches", unfollowed := true, recurses := true, apart := false, narrowed := true }
def FilewatchBatchesUptoSaid : Prop := filewatchBatchesUptoRow.holds Try.pinned (OpenSpec.upto filewatchBatchesSpec)

/-- 'glossatorlaw3.FilewatchWatcher', WHERE WHAT IT READS IS OF BULK AT MOST 1048576: true; the input reads as it did. -/
def filewatchWatcherUptoRow : OpenClaim := { program := "ytcikmpcacakfbaa", sum := "4210329b21860ad6ba3022263820bda7156d243f6d717dfb8553451b556740d1", func := "glossator/glossatorlaw3.FilewatchWatcher", spec := "filewatchWatcher", unfollowed := true, recurses := true, apart := false, narrowed := true }
def FilewatchWatcherUptoSaid : Prop := filewatchWatcherUptoRow.holds Try.pinned (OpenSpec.upto filewatchWatcherSpec)

end Rows
end Go.Proofs.Ytcikmpcacakfbaa

/-
  No cell of these rows narrows 'for every input' (looked for: loops, veiled, ifaces, maps, wideKeys, modest, calm, conditions, laid).
  DERIVED. THE GIVEN ROWS OF THIS SEAT. 12 by the template 'for every input the law returns true; each argument reads behind the call as it read before'; 0 by the template 'total and deterministic' (their statements: YtbfedkmiekbcmaaTotals.lean).
  GIVEN WITH THE SEED: the statements are not yours to turn. If you find one false, say at which input.
  Laid BY PROGRAM, IN A SANDBOX (cutbox-rows.mjs): the forced cells as the released guide's own fill.sh prints them over the translation 2a65c7185217ecac… (all of the seat's roots in one cut). By AI agents, Wed Nov 11 2026. No macro, syntax, notation, axiom, sorry.
-/
import Derived.Test.YtbfedkmiekbcmaaChecked
import GoSem.Claim
import GoSem.ClaimJoined
import GoSem.ClaimMapViews
import Derived.JoinedTies
import Derived.KernelRfl
namespace Go.Proofs.Ytbfedkmiekbcmaa
/- THE CELL 'sum', in the pinned program and in every row, IS THE sha256 OF THE DUMP (.gsa) THAT YtbfedkmiekbcmaaProg.lean LOADS. Nothing in Lean hashes anything: it is a label: what it is worth is what the hold of that sum in a sandbox is worth. -/
noncomputable def Try.pinned : Pinned := { name := "ytbfedkmiekbcmaa", sum := "2a65c7185217ecac458e1ab5a26640fb14416cac1f52d66798a43ffe4d1ff424", checked := Try.checked }
namespace Rows
def none {H : Type} : Left H := { results := [], args := [] }

/-- 'glossatorlaw3.ProgressSplit': WHATEVER THE INPUT: true; the input reads as it did. -/
def progressSplitSpec : ChangeSpec := { name := "progressSplit", fn := fun _ => fun
  | [d1, d2, d3, d4, d5] => { results := [.lit (.bool true)], args := [d1, d2, d3, d4, d5] }
  | _ => none }
def progressSplitRow : OpenClaim := { program := "ytbfedkmiekbcmaa", sum := "2a65c7185217ecac458e1ab5a26640fb14416cac1f52d66798a43ffe4d1ff424", func := "glossator/glossatorlaw3.ProgressSplit", spec := "progressSplit", unfollowed := true, recurses := true, plainKeys := false, apart := false }
def ProgressSplitSaid : Prop := progressSplitRow.holds Try.pinned (OpenSpec.ofChange progressSplitSpec)

/-- ITS FALSE NEIGHBOUR: 'it returns false'. Refute it at one input. -/
def progressSplitWrong : ChangeSpec := { name := "progressSplit", fn := fun _ => fun
  | [d1, d2, d3, d4, d5] => { results := [.lit (.bool false)], args := [d1, d2, d3, d4, d5] }
  | _ => none }
def ProgressSplitWrongFalsely : Prop := progressSplitRow.holds Try.pinned (OpenSpec.ofChange progressSplitWrong)

/-- 'glossatorlaw3.InputsScript': WHATEVER THE INPUT: true; the input reads as it did. -/
def inputsScriptSpec : ChangeSpec := { name := "inputsScript", fn := fun _ => fun
  | [d1, d2, d3, d4] => { results := [.lit (.bool true)], args := [d1, d2, d3, d4] }
  | _ => none }
def inputsScriptRow : OpenClaim := { program := "ytbfedkmiekbcmaa", sum := "2a65c7185217ecac458e1ab5a26640fb14416cac1f52d66798a43ffe4d1ff424", func := "glossator/glossatorlaw3.InputsScript", spec := "inputsScript", inPlace := ["maps.clone"], plainKeys := false, apart := false }
def InputsScriptSaid : Prop := inputsScriptRow.holds Try.pinned (OpenSpec.ofChange inputsScriptSpec)

/-- ITS FALSE NEIGHBOUR: 'it returns false'. Refute it at one input. -/
def inputsScriptWrong : ChangeSpec := { name := "inputsScript", fn := fun _ => fun
  | [d1, d2, d3, d4] => { results := [.lit (.bool false)], args := [d1, d2, d3, d4] }
  | _ => none }
def InputsScriptWrongFalsely : Prop := inputsScriptRow.holds Try.pinned (OpenSpec.ofChange inputsScriptWrong)

/-- 'glossatorlaw4.AnchorMapEqualsReference': WHATEVER THE INPUT: true; the input reads as it did. -/
def anchorMapEqualsReferenceSpec : ChangeSpec := { name := "anchorMapEqualsReference", fn := fun _ => fun
  | [d1, d2, d3, d4, d5] => { results := [.lit (.bool true)], args := [d1, d2, d3, d4, d5] }
  | _ => none }
def anchorMapEqualsReferenceRow : OpenClaim := { program := "ytbfedkmiekbcmaa", sum := "2a65c7185217ecac458e1ab5a26640fb14416cac1f52d66798a43ffe4d1ff424", func := "glossator/glossatorlaw4.AnchorMapEqualsReference", spec := "anchorMapEqualsReference", plainKeys := false, apart := false }
def AnchorMapEqualsReferenceSaid : Prop := anchorMapEqualsReferenceRow.holds Try.pinned (OpenSpec.ofChange anchorMapEqualsReferenceSpec)

/-- ITS FALSE NEIGHBOUR: 'it returns false'. Refute it at one input. -/
def anchorMapEqualsReferenceWrong : ChangeSpec := { name := "anchorMapEqualsReference", fn := fun _ => fun
  | [d1, d2, d3, d4, d5] => { results := [.lit (.bool false)], args := [d1, d2, d3, d4, d5] }
  | _ => none }
def AnchorMapEqualsReferenceWrongFalsely : Prop := anchorMapEqualsReferenceRow.holds Try.pinned (OpenSpec.ofChange anchorMapEqualsReferenceWrong)

/-- 'glossatorlaw3.JournalAppend': WHATEVER THE INPUT: true; the input reads as it did. -/
def journalAppendSpec : ChangeSpec := { name := "journalAppend", fn := fun _ => fun
  | [d1, d2] => { results := [.lit (.bool true)], args := [d1, d2] }
  | _ => none }
def journalAppendRow : OpenClaim := { program := "ytbfedkmiekbcmaa", sum := "2a65c7185217ecac458e1ab5a26640fb14416cac1f52d66798a43ffe4d1ff424", func := "glossator/glossatorlaw3.JournalAppend", spec := "journalAppend", plainKeys := false, apart := false }
def JournalAppendSaid : Prop := journalAppendRow.holds Try.pinned (OpenSpec.ofChange journalAppendSpec)

/-- ITS FALSE NEIGHBOUR: 'it returns false'. Refute it at one input. -/
def journalAppendWrong : ChangeSpec := { name := "journalAppend", fn := fun _ => fun
  | [d1, d2] => { results := [.lit (.bool false)], args := [d1, d2] }
  | _ => none }
def JournalAppendWrongFalsely : Prop := journalAppendRow.holds Try.pinned (OpenSpec.ofChange journalAppendWrong)

/-- 'glossatorlaw3.FixpointLeast': WHATEVER THE INPUT: true; the input reads as it did. -/
def fixpointLeastSpec : ChangeSpec := { name := "fixpointLeast", fn := fun _ => fun
  | [d] => { results := [.lit (.bool true)], args := [d] }
  | _ => none }
def fixpointLeastRow : OpenClaim := { program := "ytbfedkmiekbcmaa", sum := "2a65c7185217ecac458e1ab5a26640fb14416cac1f52d66798a43ffe4d1ff424", func := "glossator/glossatorlaw3.FixpointLeast", spec := "fixpointLeast", unfollowed := true, recurses := true, plainKeys := false, apart := false }
def FixpointLeastSaid : Prop := fixpointLeastRow.holds Try.pinned (OpenSpec.ofChange fixpointLeastSpec)

/-- ITS FALSE NEIGHBOUR: 'it returns false'. Refute it at one input. -/
def fixpointLeastWrong : ChangeSpec := { name := "fixpointLeast", fn := fun _ => fun
  | [d] => { results := [.lit (.bool false)], args := [d] }
  | _ => none }
def FixpointLeastWrongFalsely : Prop := fixpointLeastRow.holds Try.pinned (OpenSpec.ofChange fixpointLeastWrong)

/-- 'glossatorlaw3.ProgressAssembler': WHATEVER THE INPUT: true; the input reads as it did. -/
def progressAssemblerSpec : ChangeSpec := { name := "progressAssembler", fn := fun _ => fun
  | [d1, d2] => { results := [.lit (.bool true)], args := [d1, d2] }
  | _ => none }
def progressAssemblerRow : OpenClaim := { program := "ytbfedkmiekbcmaa", sum := "2a65c7185217ecac458e1ab5a26640fb14416cac1f52d66798a43ffe4d1ff424", func := "glossator/glossatorlaw3.ProgressAssembler", spec := "progressAssembler", unfollowed := true, recurses := true, plainKeys := false, apart := false }
def ProgressAssemblerSaid : Prop := progressAssemblerRow.holds Try.pinned (OpenSpec.ofChange progressAssemblerSpec)

/-- ITS FALSE NEIGHBOUR: 'it returns false'. Refute it at one input. -/
def progressAssemblerWrong : ChangeSpec := { name := "progressAssembler", fn := fun _ => fun
  | [d1, d2] => { results := [.lit (.bool false)], args := [d1, d2] }
  | _ => none }
def ProgressAssemblerWrongFalsely : Prop := progressAssemblerRow.holds Try.pinned (OpenSpec.ofChange progressAssemblerWrong)

/-- 'glossatorlaw3.QuerylangCheck': WHATEVER THE INPUT: true; the input reads as it did. -/
def querylangCheckSpec : ChangeSpec := { name := "querylangCheck", fn := fun _ => fun
  | [d] => { results := [.lit (.bool true)], args := [d] }
  | _ => none }
def querylangCheckRow : OpenClaim := { program := "ytbfedkmiekbcmaa", sum := "2a65c7185217ecac458e1ab5a26640fb14416cac1f52d66798a43ffe4d1ff424", func := "glossator/glossatorlaw3.QuerylangCheck", spec := "querylangCheck", unfollowed := true, recurses := true, plainKeys := false, apart := false }
def QuerylangCheckSaid : Prop := querylangCheckRow.holds Try.pinned (OpenSpec.ofChange querylangCheckSpec)

/-- ITS FALSE NEIGHBOUR: 'it returns false'. Refute it at one input. -/
def querylangCheckWrong : ChangeSpec := { name := "querylangCheck", fn := fun _ => fun
  | [d] => { results := [.lit (.bool false)], args := [d] }
  | _ => none }
def QuerylangCheckWrongFalsely : Prop := querylangCheckRow.holds Try.pinned (OpenSpec.ofChange querylangCheckWrong)

/-- 'glossatorlaw3.QuerylangEval': WHATEVER THE INPUT: true; the input reads as it did. -/
def querylangEvalSpec : ChangeSpec := { name := "querylangEval", fn := fun _ => fun
  | [d1, d2, d3] => { results := [.lit (.bool true)], args := [d1, d2, d3] }
  | _ => none }
def querylangEvalRow : OpenClaim := { program := "ytbfedkmiekbcmaa", sum := "2a65c7185217ecac458e1ab5a26640fb14416cac1f52d66798a43ffe4d1ff424", func := "glossator/glossatorlaw3.QuerylangEval", spec := "querylangEval", unfollowed := true, recurses := true, plainKeys := false, apart := false }
def QuerylangEvalSaid : Prop := querylangEvalRow.holds Try.pinned (OpenSpec.ofChange querylangEvalSpec)

/-- ITS FALSE NEIGHBOUR: 'it returns false'. Refute it at one input. -/
def querylangEvalWrong : ChangeSpec := { name := "querylangEval", fn := fun _ => fun
  | [d1, d2, d3] => { results := [.lit (.bool false)], args := [d1, d2, d3] }
  | _ => none }
def QuerylangEvalWrongFalsely : Prop := querylangEvalRow.holds Try.pinned (OpenSpec.ofChange querylangEvalWrong)

/-- 'glossatorlaw4.TexteditApplyEqualsReference': WHATEVER THE INPUT: true; the input reads as it did. -/
def texteditApplyEqualsReferenceSpec : ChangeSpec := { name := "texteditApplyEqualsReference", fn := fun _ => fun
  | [d1, d2] => { results := [.lit (.bool true)], args := [d1, d2] }
  | _ => none }
def texteditApplyEqualsReferenceRow : OpenClaim := { program := "ytbfedkmiekbcmaa", sum := "2a65c7185217ecac458e1ab5a26640fb14416cac1f52d66798a43ffe4d1ff424", func := "glossator/glossatorlaw4.TexteditApplyEqualsReference", spec := "texteditApplyEqualsReference", inPlace := ["internal/abi.NoEscape"], unfollowed := true, recurses := true, plainKeys := false, apart := false }
def TexteditApplyEqualsReferenceSaid : Prop := texteditApplyEqualsReferenceRow.holds Try.pinned (OpenSpec.ofChange texteditApplyEqualsReferenceSpec)

/-- ITS FALSE NEIGHBOUR: 'it returns false'. Refute it at one input. -/
def texteditApplyEqualsReferenceWrong : ChangeSpec := { name := "texteditApplyEqualsReference", fn := fun _ => fun
  | [d1, d2] => { results := [.lit (.bool false)], args := [d1, d2] }
  | _ => none }
def TexteditApplyEqualsReferenceWrongFalsely : Prop := texteditApplyEqualsReferenceRow.holds Try.pinned (OpenSpec.ofChange texteditApplyEqualsReferenceWrong)

/-- 'glossatorlaw4.TexteditComposeEqualsReference': WHATEVER THE INPUT: true; the input reads as it did. -/
def texteditComposeEqualsReferenceSpec : ChangeSpec := { name := "texteditComposeEqualsReference", fn := fun _ => fun
  | [d1, d2, d3] => { results := [.lit (.bool true)], args := [d1, d2, d3] }
  | _ => none }
def texteditComposeEqualsReferenceRow : OpenClaim := { program := "ytbfedkmiekbcmaa", sum := "2a65c7185217ecac458e1ab5a26640fb14416cac1f52d66798a43ffe4d1ff424", func := "glossator/glossatorlaw4.TexteditComposeEqualsReference", spec := "texteditComposeEqualsReference", inPlace := ["internal/abi.NoEscape"], unfollowed := true, recurses := true, plainKeys := false, apart := false }
def TexteditComposeEqualsReferenceSaid : Prop := texteditComposeEqualsReferenceRow.holds Try.pinned (OpenSpec.ofChange texteditComposeEqualsReferenceSpec)

/-- ITS FALSE NEIGHBOUR: 'it returns false'. Refute it at one input. -/
def texteditComposeEqualsReferenceWrong : ChangeSpec := { name := "texteditComposeEqualsReference", fn := fun _ => fun
  | [d1, d2, d3] => { results := [.lit (.bool false)], args := [d1, d2, d3] }
  | _ => none }
def TexteditComposeEqualsReferenceWrongFalsely : Prop := texteditComposeEqualsReferenceRow.holds Try.pinned (OpenSpec.ofChange texteditComposeEqualsReferenceWrong)

/-- 'glossatorlaw4.TexteditTransformEqualsReference': WHATEVER THE INPUT: true; the input reads as it did. -/
def texteditTransformEqualsReferenceSpec : ChangeSpec := { name := "texteditTransformEqualsReference", fn := fun _ => fun
  | [d1, d2, d3] => { results := [.lit (.bool true)], args := [d1, d2, d3] }
  | _ => none }
def texteditTransformEqualsReferenceRow : OpenClaim := { program := "ytbfedkmiekbcmaa", sum := "2a65c7185217ecac458e1ab5a26640fb14416cac1f52d66798a43ffe4d1ff424", func := "glossator/glossatorlaw4.TexteditTransformEqualsReference", spec := "texteditTransformEqualsReference", inPlace := ["internal/abi.NoEscape"], unfollowed := true, recurses := true, plainKeys := false, apart := false }
def TexteditTransformEqualsReferenceSaid : Prop := texteditTransformEqualsReferenceRow.holds Try.pinned (OpenSpec.ofChange texteditTransformEqualsReferenceSpec)

/-- ITS FALSE NEIGHBOUR: 'it returns false'. Refute it at one input. -/
def texteditTransformEqualsReferenceWrong : ChangeSpec := { name := "texteditTransformEqualsReference", fn := fun _ => fun
  | [d1, d2, d3] => { results := [.lit (.bool false)], args := [d1, d2, d3] }
  | _ => none }
def TexteditTransformEqualsReferenceWrongFalsely : Prop := texteditTransformEqualsReferenceRow.holds Try.pinned (OpenSpec.ofChange texteditTransformEqualsReferenceWrong)

/-- 'glossatorlaw3.QuerylangReads': WHATEVER THE INPUT: true; the input reads as it did. -/
def querylangReadsSpec : ChangeSpec := { name := "querylangReads", fn := fun _ => fun
  | [d1, d2, d3] => { results := [.lit (.bool true)], args := [d1, d2, d3] }
  | _ => none }
def querylangReadsRow : OpenClaim := { program := "ytbfedkmiekbcmaa", sum := "2a65c7185217ecac458e1ab5a26640fb14416cac1f52d66798a43ffe4d1ff424", func := "glossator/glossatorlaw3.QuerylangReads", spec := "querylangReads", unfollowed := true, recurses := true, plainKeys := false, apart := false }
def QuerylangReadsSaid : Prop := querylangReadsRow.holds Try.pinned (OpenSpec.ofChange querylangReadsSpec)

/-- ITS FALSE NEIGHBOUR: 'it returns false'. Refute it at one input. -/
def querylangReadsWrong : ChangeSpec := { name := "querylangReads", fn := fun _ => fun
  | [d1, d2, d3] => { results := [.lit (.bool false)], args := [d1, d2, d3] }
  | _ => none }
def QuerylangReadsWrongFalsely : Prop := querylangReadsRow.holds Try.pinned (OpenSpec.ofChange querylangReadsWrong)

/- THE SECOND FORM. 'bulk': how many values and letters a reading holds, each counted each time it is reached (what is shared counts as often as it is met; a slice's spare places count too). A statement '..UptoSaid' is the law's where the arguments, and the package variables that the reading takes, are together of bulk at most 1048576: NARROWER than '..Said'. Prove '..Said' where nothing that the law and all that it calls make is longer than what came in: it says more and counts as full. Else prove '..UptoSaid'. A law counts once. -/
mutual
def uptoBulk {H : Type} : DataW H → Nat
  | .lit (.string bytes) => bytes.length + 1
  | .lit _ => 1
  | .nil => 1
  | .ptr d => uptoBulk d + 1
  | .slice elems spare => uptoBulkAll elems + uptoBulkAll spare + 1
  | .agg parts => uptoBulkAll parts + 1
  | .iface _ d => uptoBulk d + 1
  | .map entries => uptoBulkEntries entries + 1
  | .held _ => 1
def uptoBulkAll {H : Type} : List (DataW H) → Nat
  | [] => 0
  | d :: r => uptoBulk d + uptoBulkAll r
def uptoBulkEntries {H : Type} : List (Lit × DataW H) → Nat
  | [] => 0
  | x :: r => uptoBulkEntry x + uptoBulkEntries r
def uptoBulkEntry {H : Type} : Lit × DataW H → Nat
  | (.string bytes, d) => bytes.length + uptoBulk d + 1
  | (_, d) => uptoBulk d + 1
 end
def uptoSmall : (H : Type) → List (DataW H) → Bool := fun _ ds => decide (uptoBulkAll ds ≤ 1048576)
def OpenSpec.upto (s : _root_.Go.ChangeSpec) : _root_.Go.OpenSpec := { _root_.Go.OpenSpec.ofChange s with cond := some uptoSmall }

/-- 'glossatorlaw3.ProgressSplit', WHERE WHAT IT READS IS OF BULK AT MOST 1048576: true; the input reads as it did. -/
def progressSplitUptoRow : OpenClaim := { program := "ytbfedkmiekbcmaa", sum := "2a65c7185217ecac458e1ab5a26640fb14416cac1f52d66798a43ffe4d1ff424", func := "glossator/glossatorlaw3.ProgressSplit", spec := "progressSplit", unfollowed := true, recurses := true, plainKeys := false, apart := false, narrowed := true }
def ProgressSplitUptoSaid : Prop := progressSplitUptoRow.holds Try.pinned (OpenSpec.upto progressSplitSpec)

/-- 'glossatorlaw3.InputsScript', WHERE WHAT IT READS IS OF BULK AT MOST 1048576: true; the input reads as it did. -/
def inputsScriptUptoRow : OpenClaim := { program := "ytbfedkmiekbcmaa", sum := "2a65c7185217ecac458e1ab5a26640fb14416cac1f52d66798a43ffe4d1ff424", func := "glossator/glossatorlaw3.InputsScript", spec := "inputsScript", inPlace := ["maps.clone"], plainKeys := false, apart := false, narrowed := true }
def InputsScriptUptoSaid : Prop := inputsScriptUptoRow.holds Try.pinned (OpenSpec.upto inputsScriptSpec)

/-- 'glossatorlaw4.AnchorMapEqualsReference', WHERE WHAT IT READS IS OF BULK AT MOST 1048576: true; the input reads as it did. -/
def anchorMapEqualsReferenceUptoRow : OpenClaim := { program := "ytbfedkmiekbcmaa", sum := "2a65c7185217ecac458e1ab5a26640fb14416cac1f52d66798a43ffe4d1ff424", func := "glossator/glossatorlaw4.AnchorMapEqualsReference", spec := "anchorMapEqualsReference", plainKeys := false, apart := false, narrowed := true }
def AnchorMapEqualsReferenceUptoSaid : Prop := anchorMapEqualsReferenceUptoRow.holds Try.pinned (OpenSpec.upto anchorMapEqualsReferenceSpec)

/-- 'glossatorlaw3.JournalAppend', WHERE WHAT IT READS IS OF BULK AT MOST 1048576: true; the input reads as it did. -/
def journalAppendUptoRow : OpenClaim := { program := "ytbfedkmiekbcmaa", sum := "2a65c7185217ecac458e1ab5a26640fb14416cac1f52d66798a43ffe4d1ff424", func := "glossator/glossatorlaw3.JournalAppend", spec := "journalAppend", plainKeys := false, apart := false, narrowed := true }
def JournalAppendUptoSaid : Prop := journalAppendUptoRow.holds Try.pinned (OpenSpec.upto journalAppendSpec)

/-- 'glossatorlaw3.FixpointLeast', WHERE WHAT IT READS IS OF BULK AT MOST 1048576: true; the input reads as it did. -/
def fixpointLeastUptoRow : OpenClaim := { program := "ytbfedkmiekbcmaa", sum := "2a65c7185217ecac458e1ab5a26640fb14416cac1f52d66798a43ffe4d1ff424", func := "glossator/glossatorlaw3.FixpointLeast", spec := "fixpointLeast", unfollowed := true, recurses := true, plainKeys := false, apart := false, narrowed := true }
def FixpointLeastUptoSaid : Prop := fixpointLeastUptoRow.holds Try.pinned (OpenSpec.upto fixpointLeastSpec)

/-- 'glossatorlaw3.ProgressAssembler', WHERE WHAT IT READS IS OF BULK AT MOST 1048576: true; the input reads as it did. -/
def progressAssemblerUptoRow : OpenClaim := { program := "ytbfedkmiekbcmaa", sum := "2a65c7185217ecac458e1ab5a26640fb14416cac1f52d66798a43ffe4d1ff424", func := "glossator/glossatorlaw3.ProgressAssembler", spec := "progressAssembler", unfollowed := true, recurses := true, plainKeys := false, apart := false, narrowed := true }
def ProgressAssemblerUptoSaid : Prop := progressAssemblerUptoRow.holds Try.pinned (OpenSpec.upto progressAssemblerSpec)

/-- 'glossatorlaw3.QuerylangCheck', WHERE WHAT IT READS IS OF BULK AT MOST 1048576: true; the input reads as it did. -/
def querylangCheckUptoRow : OpenClaim := { program := "ytbfedkmiekbcmaa", sum := "2a65c7185217ecac458e1ab5a26640fb14416cac1f52d66798a43ffe4d1ff424", func := "glossator/glossatorlaw3.QuerylangCheck", spec := "querylangCheck", unfollowed := true, recurses := true, plainKeys := false, apart := false, narrowed := true }
def QuerylangCheckUptoSaid : Prop := querylangCheckUptoRow.holds Try.pinned (OpenSpec.upto querylangCheckSpec)

/-- 'glossatorlaw3.QuerylangEval', WHERE WHAT IT READS IS OF BULK AT MOST 1048576: true; the input reads as it did. -/
def querylangEvalUptoRow : OpenClaim := { program := "ytbfedkmiekbcmaa", sum := "2a65c7185217ecac458e1ab5a26640fb14416cac1f52d66798a43ffe4d1ff424", func := "glossator/glossatorlaw3.QuerylangEval", spec := "querylangEval", unfollowed := true, recurses := true, plainKeys := false, apart := false, narrowed := true }
def QuerylangEvalUptoSaid : Prop := querylangEvalUptoRow.holds Try.pinned (OpenSpec.upto querylangEvalSpec)

/-- 'glossatorlaw4.TexteditApplyEqualsReference', WHERE WHAT IT READS IS OF BULK AT MOST 1048576: true; the input reads as it did. -/
def texteditApplyEqualsReferenceUptoRow : OpenClaim := { program := "ytbfedkmiekbcmaa", sum := "2a65c7185217ecac458e1ab5a26640fb14416cac1f52d66798a43ffe4d1ff424", func := "glossator/glossatorlaw4.TexteditApplyEqualsReference", spec := "texteditApplyEqualsReference", inPlace := ["internal/abi.NoEscape"], unfollowed := true, recurses := true, plainKeys := false, apart := false, narrowed := true }
def TexteditApplyEqualsReferenceUptoSaid : Prop := texteditApplyEqualsReferenceUptoRow.holds Try.pinned (OpenSpec.upto texteditApplyEqualsReferenceSpec)

/-- 'glossatorlaw4.TexteditComposeEqualsReference', WHERE WHAT IT READS IS OF BULK AT MOST 1048576: true; the input reads as it did. -/
def texteditComposeEqualsReferenceUptoRow : OpenClaim := { program := "ytbfedkmiekbcmaa", sum := "2a65c7185217ecac458e1ab5a26640fb14416cac1f52d66798a43ffe4d1ff424", func := "glossator/glossatorlaw4.TexteditComposeEqualsReference", spec := "texteditComposeEqualsReference", inPlace := ["internal/abi.NoEscape"], unfollowed := true, recurses := true, plainKeys := false, apart := false, narrowed := true }
def TexteditComposeEqualsReferenceUptoSaid : Prop := texteditComposeEqualsReferenceUptoRow.holds Try.pinned (OpenSpec.upto texteditComposeEqualsReferenceSpec)

/-- 'glossatorlaw4.TexteditTransformEqualsReference', WHERE WHAT IT READS IS OF BULK AT MOST 1048576: true; the input reads as it did. -/
def texteditTransformEqualsReferenceUptoRow : OpenClaim := { program := "ytbfedkmiekbcmaa", sum := "2a65c7185217ecac458e1ab5a26640fb14416cac1f52d66798a43ffe4d1ff424", func := "glossator/glossatorlaw4.TexteditTransformEqualsReference", spec := "texteditTransformEqualsReference", inPlace := ["internal/abi.NoEscape"], unfollowed := true, recurses := true, plainKeys := false, apart := false, narrowed := true }
def TexteditTransformEqualsReferenceUptoSaid : Prop := texteditTransformEqualsReferenceUptoRow.holds Try.pinned (OpenSpec.upto texteditTransformEqualsReferenceSpec)

/-- 'glossatorlaw3.QuerylangReads', WHERE WHAT IT READS IS OF BULK AT MOST 1048576: true; the input reads as it did. -/
def querylangReadsUptoRow : OpenClaim := { program := "ytbfedkmiekbcmaa", sum := "2a65c7185217ecac458e1ab5a26640fb14416cac1f52d66798a43ffe4d1ff424", func := "glossator/glossatorlaw3.QuerylangReads", spec := "querylangReads", unfollowed := true, recurses := true, plainKeys := false, apart := false, narrowed := true }
def QuerylangReadsUptoSaid : Prop := querylangReadsUptoRow.holds Try.pinned (OpenSpec.upto querylangReadsSpec)

end Rows
end Go.Proofs.Ytbfedkmiekbcmaa

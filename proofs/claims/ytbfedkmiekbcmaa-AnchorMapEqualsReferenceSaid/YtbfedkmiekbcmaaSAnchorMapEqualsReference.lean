-- Written by gen.py (this repo's wip/): what the law takes, and the one pure statement.
import Derived.Test.YtbfedkmiekbcmaaDoor
import Derived.Test.YtbfedkmiekbcmaaQAnchorMapEqualsReferencex
namespace Go.Proofs.Ytbfedkmiekbcmaa.QAnchorMapEqualsReference
open Go.RowKit Go.Proofs.YtbfedkmiekbcmaaW.PrintWords Go.Proofs.YtbfedkmiekbcmaaW.PrintLast Go.Proofs.Ytbfedkmiekbcmaa.Door
set_option linter.unusedVariables false
def ok137 (x : S137) : Prop := ((Lit.int .i64 x.f0).wf = true) ∧ ((Lit.int .i64 x.f1).wf = true) ∧ ((x.f2).size ≤ 140737488351232)
theorem opens137 : Opens Try.prog 137 k137 ok137 :=
  opens_mono (opens_iso (f := fun x : S137 => (x.f0, x.f1, x.f2)) (fun p => ⟨p.1, p.2.1, p.2.2⟩) (fun _ => rfl) (opens_struct Try.underlying137 rfl (by kernel_rfl) (opensF_cons rfl (by kernel_rfl) rfl (opens_int Try.underlying3) (opensF_cons rfl (by kernel_rfl) rfl (opens_int Try.underlying3) (opensF_one rfl (by kernel_rfl) (opens_string Try.underlying9)))))) (fun _ h => h)
def glossatorlaw4_AnchorMapEqualsReference.Pure : Prop := ∀ (a0 : List S137) (a1 : Int) (a2 : Int) (a3 : Bool) (a4 : List Int), (((a0).length ≤ maxLen ∧ (a0).length * 32 ≤ 140737488351232) ∧ ∀ x ∈ a0, ok137 x) → ((Lit.int .i64 a1).wf = true) → ((Lit.int .i64 a2).wf = true) → (((a4).length ≤ maxLen ∧ (a4).length * 8 ≤ 140737488351232) ∧ ∀ x ∈ a4, (Lit.int .i64 x).wf = true) → ∃ k, glossatorlaw4_AnchorMapEqualsReference.f k a0 a1 a2 a3 a4 = some true
end Go.Proofs.Ytbfedkmiekbcmaa.QAnchorMapEqualsReference

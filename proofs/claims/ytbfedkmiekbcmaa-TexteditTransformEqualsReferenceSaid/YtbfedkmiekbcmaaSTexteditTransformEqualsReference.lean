-- Written by gen.py (this repo's wip/): what the law takes, and the one pure statement.
import Derived.Test.YtbfedkmiekbcmaaDoor
import Derived.Test.YtbfedkmiekbcmaaQTexteditTransformEqualsReferencex
namespace Go.Proofs.Ytbfedkmiekbcmaa.QTexteditTransformEqualsReference
open Go.RowKit Go.Proofs.YtbfedkmiekbcmaaW.PrintWords Go.Proofs.YtbfedkmiekbcmaaW.PrintLast Go.Proofs.Ytbfedkmiekbcmaa.Door
set_option linter.unusedVariables false
def ok137 (x : S137) : Prop := ((Lit.int .i64 x.f0).wf = true) ∧ ((Lit.int .i64 x.f1).wf = true) ∧ ((x.f2).size ≤ 140737488351232)
theorem opens137 : Opens Try.prog 137 k137 ok137 :=
  opens_mono (opens_iso (f := fun x : S137 => (x.f0, x.f1, x.f2)) (fun p => ⟨p.1, p.2.1, p.2.2⟩) (fun _ => rfl) (opens_struct Try.underlying137 rfl (by kernel_rfl) (opensF_cons rfl (by kernel_rfl) rfl (opens_int Try.underlying3) (opensF_cons rfl (by kernel_rfl) rfl (opens_int Try.underlying3) (opensF_one rfl (by kernel_rfl) (opens_string Try.underlying9)))))) (fun _ h => h)
def glossatorlaw4_TexteditTransformEqualsReference.PureR : Prop := ∀ (a0 : ByteArray) (a1 : List S137) (a2 : List S137), ((a0).size ≤ 140737488351232) → (((a1).length ≤ maxLen ∧ (a1).length * 32 ≤ 140737488351232) ∧ ∀ x0 ∈ a1, ok137 x0) → (((a2).length ≤ maxLen ∧ (a2).length * 32 ≤ 140737488351232) ∧ ∀ x0 ∈ a2, ok137 x0) → ∃ k, glossatorlaw4_TexteditTransformEqualsReference.f k a0 a1 a2 = some true
end Go.Proofs.Ytbfedkmiekbcmaa.QTexteditTransformEqualsReference

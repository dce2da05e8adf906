-- Written by gen.py (this repo's wip/): what the law takes, and the one pure statement.
import Derived.Test.YtbfedkmiekbcmaaDoor
import Derived.Test.YtbfedkmiekbcmaaQFixpointLeastx
namespace Go.Proofs.Ytbfedkmiekbcmaa.QFixpointLeast
open Go.RowKit Go.Proofs.YtbfedkmiekbcmaaW.PrintWords Go.Proofs.YtbfedkmiekbcmaaW.PrintLast Go.Proofs.Ytbfedkmiekbcmaa.Door
set_option linter.unusedVariables false
def ok147 (x : S147) : Prop := ((Lit.int .i64 x.f0).wf = true) ∧ (((x.f1).length ≤ maxLen ∧ (x.f1).length * 8 ≤ 140737488351232) ∧ ∀ x1 ∈ x.f1, (Lit.int .i64 x1).wf = true)
theorem opens147 : Opens Try.prog 147 k147 ok147 :=
  opens_mono (opens_iso (f := fun x : S147 => (x.f0, x.f1)) (fun p => ⟨p.1, p.2⟩) (fun _ => rfl) (opens_struct Try.underlying147 rfl (by kernel_rfl) (opensF_cons rfl (by kernel_rfl) rfl (opens_int Try.underlying3) (opensF_one rfl (by kernel_rfl) (opens_slice Try.underlying22 (by kernel_rfl) (by kernel_rfl) (opens_int Try.underlying3)))))) (fun _ h => h)
def glossatorlaw3_FixpointLeast.Pure : Prop := ∀ (a0 : List (List (S147))), (((a0).length ≤ maxLen ∧ (a0).length * 24 ≤ 140737488351232) ∧ ∀ x0 ∈ a0, ((x0).length ≤ maxLen ∧ (x0).length * 32 ≤ 140737488351232) ∧ ∀ x1 ∈ x0, ok147 x1) → ∃ k, glossatorlaw3_FixpointLeast.f k a0 = some true
end Go.Proofs.Ytbfedkmiekbcmaa.QFixpointLeast

-- Written by gen.py (this repo's wip/): what the law takes, and the one pure statement.
import Derived.Test.YtglckkkjfcomlaaDoor
import Derived.Test.YtglckkkjfcomlaaQFixpointProofsx
namespace Go.Proofs.Ytglckkkjfcomlaa.QFixpointProofs
open Go.RowKit Go.Proofs.YtglckkkjfcomlaaW.PrintWords Go.Proofs.YtglckkkjfcomlaaW.PrintLast Go.Proofs.Ytglckkkjfcomlaa.Door
set_option linter.unusedVariables false
def ok58 (x : S58) : Prop := ((Lit.int .i64 x.f0).wf = true) ∧ (((x.f1).length ≤ maxLen ∧ (x.f1).length * 8 ≤ 140737488351232) ∧ ∀ x1 ∈ x.f1, (Lit.int .i64 x1).wf = true)
theorem opens58 : Opens Try.prog 58 k58 ok58 :=
  opens_mono (opens_iso (f := fun x : S58 => (x.f0, x.f1)) (fun p => ⟨p.1, p.2⟩) (fun _ => rfl) (opens_struct Try.underlying58 rfl (by kernel_rfl) (opensF_cons rfl (by kernel_rfl) rfl (opens_int Try.underlying3) (opensF_one rfl (by kernel_rfl) (opens_slice Try.underlying29 (by kernel_rfl) (by kernel_rfl) (opens_int Try.underlying3)))))) (fun _ h => h)
def ok182 (x : S182) : Prop := ((Lit.int .i64 x.f0).wf = true) ∧ ((Lit.int .i64 x.f1).wf = true) ∧ ((Lit.int .i64 x.f2).wf = true)
theorem opens182 : Opens Try.prog 182 k182 ok182 :=
  opens_mono (opens_iso (f := fun x : S182 => (x.f0, x.f1, x.f2)) (fun p => ⟨p.1, p.2.1, p.2.2⟩) (fun _ => rfl) (opens_struct Try.underlying182 rfl (by kernel_rfl) (opensF_cons rfl (by kernel_rfl) rfl (opens_int Try.underlying3) (opensF_cons rfl (by kernel_rfl) rfl (opens_int Try.underlying3) (opensF_one rfl (by kernel_rfl) (opens_int Try.underlying3)))))) (fun _ h => h)
def glossatorlaw3_FixpointProofs.PureR : Prop := ∀ (a0 : List (List (S58))) (a1 : Int) (a2 : Int) (a3 : List S182), (((a0).length ≤ maxLen ∧ (a0).length * 24 ≤ 140737488351232) ∧ ∀ x0 ∈ a0, ((x0).length ≤ maxLen ∧ (x0).length * 32 ≤ 140737488351232) ∧ ∀ x1 ∈ x0, ok58 x1) → ((Lit.int .i64 a1).wf = true) → ((Lit.int .i64 a2).wf = true) → (((a3).length ≤ maxLen ∧ (a3).length * 24 ≤ 140737488351232) ∧ ∀ x0 ∈ a3, ok182 x0) → ∃ k, glossatorlaw3_FixpointProofs.f k a0 a1 a2 a3 = some true
end Go.Proofs.Ytglckkkjfcomlaa.QFixpointProofs

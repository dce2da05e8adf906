-- Written by gen.py (this repo's wip/): what the law takes, and the one pure statement.
import Derived.Test.YtogpjenmfgpfiaaDoor
import Derived.Test.YtogpjenmfgpfiaaHandIn9
namespace Go.Proofs.Ytogpjenmfgpfiaa.QInputsScript
open Go.RowKit Go.Proofs.YtogpjenmfgpfiaaW.PrintWords Go.Proofs.YtogpjenmfgpfiaaW.PrintLast Go.Proofs.Ytogpjenmfgpfiaa.Door
set_option linter.unusedVariables false
def ok34 (x : S34) : Prop := ((Lit.int .i64 x.f0).wf = true) ∧ ((Lit.int .i64 x.f1).wf = true) ∧ ((Lit.int .i64 x.f2).wf = true)
theorem opens34 : Opens Try.prog 34 k34 ok34 :=
  opens_mono (opens_iso (f := fun x : S34 => (x.f0, x.f1, x.f2)) (fun p => ⟨p.1, p.2.1, p.2.2⟩) (fun _ => rfl) (opens_struct Try.underlying34 rfl (by kernel_rfl) (opensF_cons rfl (by kernel_rfl) rfl (opens_int Try.underlying3) (opensF_cons rfl (by kernel_rfl) rfl (opens_int Try.underlying3) (opensF_one rfl (by kernel_rfl) (opens_int Try.underlying3)))))) (fun _ h => h)
def ok36 (x : S36) : Prop := (((x.f0).length ≤ maxLen ∧ (x.f0).length * 8 ≤ 140737488351232) ∧ ∀ x1 ∈ x.f0, (Lit.int .i64 x1).wf = true) ∧ ((x.f1).size ≤ 140737488351232)
theorem opens36 : Opens Try.prog 36 k36 ok36 :=
  opens_mono (opens_iso (f := fun x : S36 => (x.f0, x.f1)) (fun p => ⟨p.1, p.2⟩) (fun _ => rfl) (opens_struct Try.underlying36 rfl (by kernel_rfl) (opensF_cons rfl (by kernel_rfl) rfl (opens_slice Try.underlying24 (by kernel_rfl) (by kernel_rfl) (opens_int Try.underlying3)) (opensF_one rfl (by kernel_rfl) (opens_string Try.underlying9))))) (fun _ h => h)
def glossatorlaw3_InputsScript.PureR : Prop := ∀ (a0 : List S34) (a1 : List S36) (a2 : List Int) (a3 : Int), (((a0).length ≤ maxLen ∧ (a0).length * 24 ≤ 140737488351232) ∧ ∀ x0 ∈ a0, ok34 x0) → (((a1).length ≤ maxLen ∧ (a1).length * 40 ≤ 140737488351232) ∧ ∀ x0 ∈ a1, ok36 x0) → (((a2).length ≤ maxLen ∧ (a2).length * 8 ≤ 140737488351232) ∧ ∀ x0 ∈ a2, (Lit.int .i64 x0).wf = true) → ((Lit.int .i64 a3).wf = true) → ∃ k, glossatorlaw3_InputsScript.f k a0 a1 a2 a3 = some true
end Go.Proofs.Ytogpjenmfgpfiaa.QInputsScript

-- Written by gen.py (this repo's wip/): what the law takes, and the one pure statement.
import Derived.Test.YtogpjenmfgpfiaaDoor
import Derived.Test.YtogpjenmfgpfiaaHandPa10
namespace Go.Proofs.Ytogpjenmfgpfiaa.QProgressAssembler
open Go.RowKit Go.Proofs.YtogpjenmfgpfiaaW.PrintWords Go.Proofs.YtogpjenmfgpfiaaW.PrintLast Go.Proofs.Ytogpjenmfgpfiaa.Door
set_option linter.unusedVariables false
def ok51 (x : S51) : Prop := ((Lit.int .i64 x.f0).wf = true) ∧ ((Lit.int .i64 x.f1).wf = true) ∧ (True) ∧ (((x.f3).length ≤ maxLen ∧ (x.f3).length * 8 ≤ 140737488351232) ∧ ∀ x1 ∈ x.f3, (Lit.int .i64 x1).wf = true)
theorem opens51 : Opens Try.prog 51 k51 ok51 :=
  opens_mono (opens_iso (f := fun x : S51 => (x.f0, x.f1, x.f2, x.f3)) (fun p => ⟨p.1, p.2.1, p.2.2.1, p.2.2.2⟩) (fun _ => rfl) (opens_struct Try.underlying51 rfl (by kernel_rfl) (opensF_cons rfl (by kernel_rfl) rfl (opens_int Try.underlying3) (opensF_cons rfl (by kernel_rfl) rfl (opens_int Try.underlying3) (opensF_cons rfl (by kernel_rfl) rfl (opens_bool Try.underlying4) (opensF_one rfl (by kernel_rfl) (opens_slice Try.underlying24 (by kernel_rfl) (by kernel_rfl) (opens_int Try.underlying3)))))))) (fun _ h => h)
def glossatorlaw3_ProgressAssembler.PureR : Prop := ∀ (a0 : List S51) (a1 : Int), (((a0).length ≤ maxLen ∧ (a0).length * 48 ≤ 140737488351232) ∧ ∀ x0 ∈ a0, ok51 x0) → ((Lit.int .i64 a1).wf = true) → ∃ k, glossatorlaw3_ProgressAssembler.f k a0 a1 = some true
end Go.Proofs.Ytogpjenmfgpfiaa.QProgressAssembler

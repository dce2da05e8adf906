-- Written by gen.py (this repo's wip/): what the law takes, and the one pure statement.
import Derived.Test.YtofonbfpjfabbaaDoor
import Derived.Test.YtofonbfpjfabbaaQDepgraphReductionx
namespace Go.Proofs.Ytofonbfpjfabbaa.QDepgraphReduction
open Go.RowKit Go.Proofs.YtofonbfpjfabbaaW.PrintWords Go.Proofs.YtofonbfpjfabbaaW.PrintLast Go.Proofs.Ytofonbfpjfabbaa.Door
set_option linter.unusedVariables false
def ok24 (x : S24) : Prop := ((Lit.int .i64 x.f0).wf = true) ∧ ((Lit.int .i64 x.f1).wf = true) ∧ ((Lit.int .i64 x.f2).wf = true)
theorem opens24 : Opens Try.prog 24 k24 ok24 :=
  opens_mono (opens_iso (f := fun x : S24 => (x.f0, x.f1, x.f2)) (fun p => ⟨p.1, p.2.1, p.2.2⟩) (fun _ => rfl) (opens_struct Try.underlying24 rfl (by kernel_rfl) (opensF_cons rfl (by kernel_rfl) rfl (opens_int Try.underlying3) (opensF_cons rfl (by kernel_rfl) rfl (opens_int Try.underlying3) (opensF_one rfl (by kernel_rfl) (opens_int Try.underlying3)))))) (fun _ h => h)
def ok44 (x : S44) : Prop := (ok24 (x.f0)) ∧ (ok24 (x.f1))
theorem opens44 : Opens Try.prog 44 k44 ok44 :=
  opens_mono (opens_iso (f := fun x : S44 => (x.f0, x.f1)) (fun p => ⟨p.1, p.2⟩) (fun _ => rfl) (opens_struct Try.underlying44 rfl (by kernel_rfl) (opensF_cons rfl (by kernel_rfl) rfl opens24 (opensF_one rfl (by kernel_rfl) opens24)))) (fun _ h => h)
def glossatorlaw3_DepgraphReduction.PureR : Prop := ∀ (a0 : List S44), (((a0).length ≤ maxLen ∧ (a0).length * 48 ≤ 140737488351232) ∧ ∀ x0 ∈ a0, ok44 x0) → ∃ k, glossatorlaw3_DepgraphReduction.f k a0 = some true
end Go.Proofs.Ytofonbfpjfabbaa.QDepgraphReduction

-- Written by gen.py (this repo's wip/): what the law takes, and the one pure statement.
import Derived.Test.YtcikmpcacakfbaaDoor
import Derived.Test.YtcikmpcacakfbaaHandFwW8
namespace Go.Proofs.Ytcikmpcacakfbaa.QFilewatchBatches
open Go.RowKit Go.Proofs.YtcikmpcacakfbaaW.PrintWords Go.Proofs.YtcikmpcacakfbaaW.PrintLast Go.Proofs.Ytcikmpcacakfbaa.Door
set_option linter.unusedVariables false
def ok58 (x : S58) : Prop := ((Lit.int .i64 x.f0).wf = true) ∧ ((x.f1).size ≤ 140737488351232) ∧ ((Lit.int .i64 x.f2).wf = true)
theorem opens58 : Opens Try.prog 58 k58 ok58 :=
  opens_mono (opens_iso (f := fun x : S58 => (x.f0, x.f1, x.f2)) (fun p => ⟨p.1, p.2.1, p.2.2⟩) (fun _ => rfl) (opens_struct Try.underlying58 rfl (by kernel_rfl) (opensF_cons rfl (by kernel_rfl) rfl (opens_int Try.underlying3) (opensF_cons rfl (by kernel_rfl) rfl (opens_string Try.underlying9) (opensF_one rfl (by kernel_rfl) (opens_int Try.underlying3)))))) (fun _ h => h)
def glossatorlaw3_FilewatchWatcher.PureR : Prop := ∀ (a0 : Int) (a1 : List S58), ((Lit.int .i64 a0).wf = true) → (((a1).length ≤ maxLen ∧ (a1).length * 32 ≤ 140737488351232) ∧ ∀ x0 ∈ a1, ok58 x0) → ∃ k, glossatorlaw3_FilewatchWatcher.f k a0 a1 = some true
end Go.Proofs.Ytcikmpcacakfbaa.QFilewatchBatches

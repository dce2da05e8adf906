-- Written by gen.py (this repo's wip/): what the law takes, and the one pure statement.
import Derived.Test.YtcikmpcacakfbaaDoor
import Derived.Test.YtcikmpcacakfbaaQJournalStatex
namespace Go.Proofs.Ytcikmpcacakfbaa.QJournalState
open Go.RowKit Go.Proofs.YtcikmpcacakfbaaW.PrintWords Go.Proofs.YtcikmpcacakfbaaW.PrintLast Go.Proofs.Ytcikmpcacakfbaa.Door
set_option linter.unusedVariables false
def ok26 (x : S26) : Prop := ((x.f0).size ≤ 140737488351232) ∧ ((x.f1).size ≤ 140737488351232) ∧ (True)
theorem opens26 : Opens Try.prog 26 k26 ok26 :=
  opens_mono (opens_iso (f := fun x : S26 => (x.f0, x.f1, x.f2)) (fun p => ⟨p.1, p.2.1, p.2.2⟩) (fun _ => rfl) (opens_struct Try.underlying26 rfl (by kernel_rfl) (opensF_cons rfl (by kernel_rfl) rfl (opens_string Try.underlying9) (opensF_cons rfl (by kernel_rfl) rfl (opens_string Try.underlying9) (opensF_one rfl (by kernel_rfl) (opens_bool Try.underlying4)))))) (fun _ h => h)
def glossatorlaw3_JournalState.PureR : Prop := ∀ (a0 : List S26), (((a0).length ≤ maxLen ∧ (a0).length * 40 ≤ 140737488351232) ∧ ∀ x0 ∈ a0, ok26 x0) → ∃ k, glossatorlaw3_JournalState.f k a0 = some true
end Go.Proofs.Ytcikmpcacakfbaa.QJournalState

-- Written by gen.py (this repo's wip/): what the law takes, and the one pure statement.
import Derived.Test.YtcikmpcacakfbaaDoor
import Derived.Test.YtcikmpcacakfbaaQFilewatchBatchesx
namespace Go.Proofs.Ytcikmpcacakfbaa.QFilewatchBatches
open Go.RowKit Go.Proofs.YtcikmpcacakfbaaW.PrintWords Go.Proofs.YtcikmpcacakfbaaW.PrintLast Go.Proofs.Ytcikmpcacakfbaa.Door
set_option linter.unusedVariables false
def ok58 (x : S58) : Prop := ((Lit.int .i64 x.f0).wf = true) ∧ ((x.f1).size ≤ 140737488351232) ∧ ((Lit.int .i64 x.f2).wf = true)
theorem opens58 : Opens Try.prog 58 k58 ok58 :=
  opens_mono (opens_iso (f := fun x : S58 => (x.f0, x.f1, x.f2)) (fun p => ⟨p.1, p.2.1, p.2.2⟩) (fun _ => rfl) (opens_struct Try.underlying58 rfl (by kernel_rfl) (opensF_cons rfl (by kernel_rfl) rfl (opens_int Try.underlying3) (opensF_cons rfl (by kernel_rfl) rfl (opens_string Try.underlying9) (opensF_one rfl (by kernel_rfl) (opens_int Try.underlying3)))))) (fun _ h => h)
def glossatorlaw3_FilewatchBatches.PureR : Prop := ∀ (a0 : List S58) (a1 : Int) (a2 : List ByteArray) (a3 : Int) (a4 : Int), (((a0).length ≤ maxLen ∧ (a0).length * 32 ≤ 140737488351232) ∧ ∀ x0 ∈ a0, ok58 x0) → ((Lit.int .i64 a1).wf = true) → (((a2).length ≤ maxLen ∧ (a2).length * 16 ≤ 140737488351232) ∧ ∀ x0 ∈ a2, (x0).size ≤ 140737488351232) → ((Lit.int .i64 a3).wf = true) → ((Lit.int .i64 a4).wf = true) → ∃ k, glossatorlaw3_FilewatchBatches.f k a0 a1 a2 a3 a4 = some true
end Go.Proofs.Ytcikmpcacakfbaa.QFilewatchBatches

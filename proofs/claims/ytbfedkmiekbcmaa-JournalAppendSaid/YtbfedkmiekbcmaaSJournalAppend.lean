-- Written by gen.py (this repo's wip/): what the law takes, and the one pure statement.
import Derived.Test.YtbfedkmiekbcmaaDoor
import Derived.Test.YtbfedkmiekbcmaaQJournalAppendx
namespace Go.Proofs.Ytbfedkmiekbcmaa.QJournalAppend
open Go.RowKit Go.Proofs.YtbfedkmiekbcmaaW.PrintWords Go.Proofs.YtbfedkmiekbcmaaW.PrintLast Go.Proofs.Ytbfedkmiekbcmaa.Door
set_option linter.unusedVariables false
def ok67 (x : S67) : Prop := ((x.f0).size ≤ 140737488351232) ∧ ((x.f1).size ≤ 140737488351232) ∧ (True)
theorem opens67 : Opens Try.prog 67 k67 ok67 :=
  opens_mono (opens_iso (f := fun x : S67 => (x.f0, x.f1, x.f2)) (fun p => ⟨p.1, p.2.1, p.2.2⟩) (fun _ => rfl) (opens_struct Try.underlying67 rfl (by kernel_rfl) (opensF_cons rfl (by kernel_rfl) rfl (opens_string Try.underlying9) (opensF_cons rfl (by kernel_rfl) rfl (opens_string Try.underlying9) (opensF_one rfl (by kernel_rfl) (opens_bool Try.underlying4)))))) (fun _ h => h)
def glossatorlaw3_JournalAppend.Pure : Prop := ∀ (a0 : ByteArray) (a1 : S67), ((a0).size ≤ 140737488351232) → (ok67 a1) → ∃ k, glossatorlaw3_JournalAppend.f k a0 (a1.f0) (a1.f1) (a1.f2) = some true
end Go.Proofs.Ytbfedkmiekbcmaa.QJournalAppend

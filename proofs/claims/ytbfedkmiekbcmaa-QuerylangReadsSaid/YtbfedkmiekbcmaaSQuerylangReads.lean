-- Written by gen.py (this repo's wip/): what the law takes, and the one pure statement.
import Derived.Test.YtbfedkmiekbcmaaDoor
import Derived.Test.YtbfedkmiekbcmaaQQuerylangReadsx
namespace Go.Proofs.Ytbfedkmiekbcmaa.QQuerylangReads
open Go.RowKit Go.Proofs.YtbfedkmiekbcmaaW.PrintWords Go.Proofs.YtbfedkmiekbcmaaW.PrintLast Go.Proofs.Ytbfedkmiekbcmaa.Door
set_option linter.unusedVariables false
def ok166 (x : S166) : Prop := ((Lit.int .i64 x.f0).wf = true) ∧ ((Lit.int .i64 x.f1).wf = true) ∧ ((Lit.int .i64 x.f2).wf = true)
theorem opens166 : Opens Try.prog 166 k166 ok166 :=
  opens_mono (opens_iso (f := fun x : S166 => (x.f0, x.f1, x.f2)) (fun p => ⟨p.1, p.2.1, p.2.2⟩) (fun _ => rfl) (opens_struct Try.underlying166 rfl (by kernel_rfl) (opensF_cons rfl (by kernel_rfl) rfl (opens_int Try.underlying3) (opensF_cons rfl (by kernel_rfl) rfl (opens_int Try.underlying3) (opensF_one rfl (by kernel_rfl) (opens_int Try.underlying3)))))) (fun _ h => h)
structure S97 where
  f0 : Int
  f1 : List (List (S166))
def k97 : Kd S97 := Kd.iso (Kd.pair (Kd.int .i64) (Kd.slice 167 (Kd.slice 166 k166))) (fun x : S97 => (x.f0, x.f1))
def ok97 (x : S97) : Prop := ((Lit.int .i64 x.f0).wf = true) ∧ (((x.f1).length ≤ maxLen ∧ (x.f1).length * 24 ≤ 140737488351232) ∧ ∀ x1 ∈ x.f1, ((x1).length ≤ maxLen ∧ (x1).length * 24 ≤ 140737488351232) ∧ ∀ x2 ∈ x1, ok166 x2)
theorem opens97 : Opens Try.prog 97 k97 ok97 :=
  opens_mono (opens_iso (f := fun x : S97 => (x.f0, x.f1)) (fun p => ⟨p.1, p.2⟩) (fun _ => rfl) (opens_struct Try.underlying97 rfl (by kernel_rfl) (opensF_cons rfl (by kernel_rfl) rfl (opens_int Try.underlying3) (opensF_one rfl (by kernel_rfl) (opens_slice Try.underlying95 (by kernel_rfl) (by kernel_rfl) (opens_slice Try.underlying167 (by kernel_rfl) (by kernel_rfl) opens166)))))) (fun _ h => h)
def glossatorlaw3_QuerylangReads.PureR : Prop := ∀ (a0 : S97) (a1 : List Int) (a2 : Int), (ok97 a0) → (((a1).length ≤ maxLen ∧ (a1).length * 8 ≤ 140737488351232) ∧ ∀ x0 ∈ a1, (Lit.int .i64 x0).wf = true) → ((Lit.int .i64 a2).wf = true) → ∃ k, glossatorlaw3_QuerylangReads.f k (a0.f0) (a0.f1) a1 a2 = some true
end Go.Proofs.Ytbfedkmiekbcmaa.QQuerylangReads

-- Written by gen.py (this repo's wip/): what the law takes, and the one pure statement.
import Derived.Test.YtglckkkjfcomlaaDoor
import Derived.Test.YtglckkkjfcomlaaQQuerylangCompilex
namespace Go.Proofs.Ytglckkkjfcomlaa.QQuerylangCompile
open Go.RowKit Go.Proofs.YtglckkkjfcomlaaW.PrintWords Go.Proofs.YtglckkkjfcomlaaW.PrintLast Go.Proofs.Ytglckkkjfcomlaa.Door
set_option linter.unusedVariables false
def ok160 (x : S160) : Prop := ((Lit.int .i64 x.f0).wf = true) ∧ ((Lit.int .i64 x.f1).wf = true) ∧ ((Lit.int .i64 x.f2).wf = true)
theorem opens160 : Opens Try.prog 160 k160 ok160 :=
  opens_mono (opens_iso (f := fun x : S160 => (x.f0, x.f1, x.f2)) (fun p => ⟨p.1, p.2.1, p.2.2⟩) (fun _ => rfl) (opens_struct Try.underlying160 rfl (by kernel_rfl) (opensF_cons rfl (by kernel_rfl) rfl (opens_int Try.underlying3) (opensF_cons rfl (by kernel_rfl) rfl (opens_int Try.underlying3) (opensF_one rfl (by kernel_rfl) (opens_int Try.underlying3)))))) (fun _ h => h)
structure S24 where
  f0 : Int
  f1 : List (List (S160))
def k24 : Kd S24 := Kd.iso (Kd.pair (Kd.int .i64) (Kd.slice 42 (Kd.slice 160 k160))) (fun x : S24 => (x.f0, x.f1))
def ok24 (x : S24) : Prop := ((Lit.int .i64 x.f0).wf = true) ∧ (((x.f1).length ≤ maxLen ∧ (x.f1).length * 24 ≤ 140737488351232) ∧ ∀ x1 ∈ x.f1, ((x1).length ≤ maxLen ∧ (x1).length * 24 ≤ 140737488351232) ∧ ∀ x2 ∈ x1, ok160 x2)
theorem opens24 : Opens Try.prog 24 k24 ok24 :=
  opens_mono (opens_iso (f := fun x : S24 => (x.f0, x.f1)) (fun p => ⟨p.1, p.2⟩) (fun _ => rfl) (opens_struct Try.underlying24 rfl (by kernel_rfl) (opensF_cons rfl (by kernel_rfl) rfl (opens_int Try.underlying3) (opensF_one rfl (by kernel_rfl) (opens_slice Try.underlying22 (by kernel_rfl) (by kernel_rfl) (opens_slice Try.underlying42 (by kernel_rfl) (by kernel_rfl) opens160)))))) (fun _ h => h)
def ok26 (x : S26) : Prop := ((Lit.int .i64 x.f0).wf = true) ∧ ((Lit.int .i64 x.f1).wf = true) ∧ ((Lit.int .i64 x.f2).wf = true)
theorem opens26 : Opens Try.prog 26 k26 ok26 :=
  opens_mono (opens_iso (f := fun x : S26 => (x.f0, x.f1, x.f2)) (fun p => ⟨p.1, p.2.1, p.2.2⟩) (fun _ => rfl) (opens_struct Try.underlying26 rfl (by kernel_rfl) (opensF_cons rfl (by kernel_rfl) rfl (opens_int Try.underlying3) (opensF_cons rfl (by kernel_rfl) rfl (opens_int Try.underlying3) (opensF_one rfl (by kernel_rfl) (opens_int Try.underlying3)))))) (fun _ h => h)
def ok31 (x : S31) : Prop := (((x.f0).length ≤ maxLen ∧ (x.f0).length * 8 ≤ 140737488351232) ∧ ∀ x1 ∈ x.f0, (Lit.int .i64 x1).wf = true) ∧ ((x.f1).size ≤ 140737488351232)
theorem opens31 : Opens Try.prog 31 k31 ok31 :=
  opens_mono (opens_iso (f := fun x : S31 => (x.f0, x.f1)) (fun p => ⟨p.1, p.2⟩) (fun _ => rfl) (opens_struct Try.underlying31 rfl (by kernel_rfl) (opensF_cons rfl (by kernel_rfl) rfl (opens_slice Try.underlying29 (by kernel_rfl) (by kernel_rfl) (opens_int Try.underlying3)) (opensF_one rfl (by kernel_rfl) (opens_string Try.underlying9))))) (fun _ h => h)
def glossatorlaw3_QuerylangCompile.PureR : Prop := ∀ (a0 : S24) (a1 : S26) (a2 : List S31), (ok24 a0) → (ok26 a1) → (((a2).length ≤ maxLen ∧ (a2).length * 40 ≤ 140737488351232) ∧ ∀ x0 ∈ a2, ok31 x0) → ∃ k, glossatorlaw3_QuerylangCompile.f k (a0.f0) (a0.f1) (a1.f0) (a1.f1) (a1.f2) a2 = some true
end Go.Proofs.Ytglckkkjfcomlaa.QQuerylangCompile

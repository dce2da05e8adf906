/-
  What is inserted at an offset, and whether a byte is deleted (not asked of Lean yet: the Compose Q texts were being built).
-/
import Derived.Test.YtbfedkmiekbcmaaTrTexteditTransformEqualsReference
namespace Go.Proofs.Ytbfedkmiekbcmaa.PrTexteditTransformEqualsReference
open Go.RowKit Go.Proofs.YtbfedkmiekbcmaaW.PrintWords Go.Proofs.YtbfedkmiekbcmaaW.PrintLast Go.Proofs.YtbfedkmiekbcmaaW.PrintMore Go.Proofs.Ytbfedkmiekbcmaa.QTexteditTransformEqualsReference Go.Proofs.Ytbfedkmiekbcmaa.Aid
set_option linter.unusedSimpArgs false
set_option linter.unusedVariables false
def insF (i : Int) : List S137 → ByteArray
  | [] => ⟨#[]⟩
  | e :: t => if e.f0 = i then e.f2 else insF i t
def delF (i : Int) : List S137 → Bool
  | [] => false
  | e :: t => if e.f0 ≤ i ∧ i < e.f1 then true else delF i t
theorem insF_ev (l : List S137) (hl : l.length ≤ 1000) (a : Int) : ∀ (t : List S137) (i : Nat), l.drop i = t → Ev (fun k => glossatorref4_InsertedAt.l0 k l a (i : Int)) (insF a t) := by
  intro t
  induction t with
  | nil =>
    intro i h
    have := drop_n h
    refine Ev.some' (fun k => ?_)
    simp only [glossatorref4_InsertedAt.l0]
    rw [if_neg (by omega), insF]
  | cons e t ih =>
    intro i h
    obtain ⟨q1, q2, q3, q4⟩ := drop_c h
    by_cases c : e.f0 = a
    · refine Ev.some' (fun k => ?_)
      simp only [glossatorref4_InsertedAt.l0]
      rw [q3, if_pos (by omega), if_pos (by omega), if_pos c, insF, if_pos c]
    · rw [insF, if_neg c]
      refine Ev.stepK (ih (i + 1) q2) (fun k => ?_)
      simp only [glossatorref4_InsertedAt.l0]
      rw [q3, if_pos (by omega), if_pos (by omega), if_neg c, wrap_id (n := (i : Int) + 1) (by omega) (by omega)]
      rfl
theorem delF_ev (l : List S137) (hl : l.length ≤ 1000) (a : Int) : ∀ (t : List S137) (i : Nat), l.drop i = t → Ev (fun k => glossatorref4_DeletesByte.l0 k l a (i : Int)) (delF a t) := by
  intro t
  induction t with
  | nil =>
    intro i h
    have := drop_n h
    refine Ev.some' (fun k => ?_)
    simp only [glossatorref4_DeletesByte.l0]
    rw [if_neg (by omega), delF]
  | cons e t ih =>
    intro i h
    obtain ⟨q1, q2, q3, q4⟩ := drop_c h
    by_cases c : e.f0 ≤ a ∧ a < e.f1
    · refine Ev.some' (fun k => ?_)
      simp only [glossatorref4_DeletesByte.l0]
      rw [q3, if_pos (by omega), if_pos (by omega), if_pos c.1, if_pos c.2, delF, if_pos c]
    · rw [delF, if_neg c]
      refine Ev.stepK (ih (i + 1) q2) (fun k => ?_)
      simp only [glossatorref4_DeletesByte.l0]
      rw [q3, if_pos (by omega), if_pos (by omega), wrap_id (n := (i : Int) + 1) (by omega) (by omega)]
      by_cases c1 : e.f0 ≤ a
      · rw [if_pos c1, if_neg (fun h => c ⟨c1, h⟩)]; rfl
      · rw [if_neg c1]; rfl
end Go.Proofs.Ytbfedkmiekbcmaa.PrTexteditTransformEqualsReference

/-
  ProgressAssembler: equality of rows of ints, in closed form.
-/
import Derived.Test.YtogpjenmfgpfiaaQProgressAssemblerx
import Derived.Test.YtogpjenmfgpfiaaAid
namespace Go.Proofs.Ytogpjenmfgpfiaa.QProgressAssembler
open Go.RowKit Go.Proofs.YtogpjenmfgpfiaaW.PrintWords Go.Proofs.YtogpjenmfgpfiaaW.PrintLast Go.Proofs.YtogpjenmfgpfiaaW.PrintMore Go.Proofs.Ytogpjenmfgpfiaa.Aid
set_option linter.unusedVariables false
set_option linter.unusedSimpArgs false
theorem eqgo (l0 l1 : List Int) (hl : l0.length ≤ 9223372036854775807) (h : l0.length = l1.length) : ∀ (d i : Nat), i + d = l0.length → (∀ j, j < i → l0[j]? = l1[j]?) → ∃ k, slices_Equal_int_int.l0 k l0 l1 (l0.length : Int) (i : Int) = some (decide (l0 = l1))
  | 0, i, hi, hp => by
    refine ⟨1, ?_⟩
    simp only [slices_Equal_int_int.l0]
    rw [if_neg (by omega)]
    have : l0 = l1 := List.ext_getElem? (fun j => by
      by_cases c : j < i
      · exact hp j c
      · rw [List.getElem?_eq_none (by omega), List.getElem?_eq_none (by omega)])
    rw [decide_eq_true this]
  | d + 1, i, hi, hp => by
    have h0 : rd l0 (i : Int) = l0[i]'(by omega) := by simp [rd, List.getD_eq_getElem?_getD]; rw [List.getElem?_eq_getElem (by omega)]; rfl
    have h1 : rd l1 (i : Int) = l1[i]'(by omega) := by simp [rd, List.getD_eq_getElem?_getD]; rw [List.getElem?_eq_getElem (by omega)]; rfl
    by_cases c : l0[i]'(by omega) = l1[i]'(by omega)
    · obtain ⟨k, hk⟩ := eqgo l0 l1 hl h d (i + 1) (by omega) (fun j hj => by
        by_cases e : j = i
        · subst e; rw [List.getElem?_eq_getElem (by omega), List.getElem?_eq_getElem (by omega), c]
        · exact hp j (by omega))
      refine ⟨k + 1, ?_⟩
      simp only [slices_Equal_int_int.l0]
      rw [if_pos (by omega), if_pos (by omega), if_pos (by omega), if_pos (by omega), h0, h1]
      simp only [c, ne_eq, not_true_eq_false, if_false, if_true]
      rw [wrap_id (by omega) (by omega)]
      exact_mod_cast hk
    · refine ⟨1, ?_⟩
      simp only [slices_Equal_int_int.l0]
      rw [if_pos (by omega), if_pos (by omega), if_pos (by omega), if_pos (by omega), h0, h1]
      have : l0 ≠ l1 := fun e => c (by subst e; rfl)
      rw [decide_eq_false this]
      simp [c]
theorem eqS_f (l0 l1 : List Int) (hl : l0.length ≤ 9223372036854775807) : ∃ k, slices_Equal_int_int.f k l0 l1 = some (decide (l0 = l1)) := by
  by_cases h : l0.length = l1.length
  · obtain ⟨k, hk⟩ := eqgo l0 l1 hl h l0.length 0 (by omega) (fun j hj => by omega)
    refine ⟨k, ?_⟩
    unfold slices_Equal_int_int.f
    rw [if_pos (by omega), show (0 : Int) = ((0 : Nat) : Int) from rfl, hk]
  · refine ⟨0, ?_⟩
    unfold slices_Equal_int_int.f
    rw [if_neg (by omega), decide_eq_false]
    exact fun e => h (by rw [e])
theorem eqgo2 (l0 l1 : List Int) (hl : l0.length ≤ 9223372036854775807) (h : l0.length = l1.length) : ∀ (d i : Nat), i + d = l0.length → (∀ j, j < i → l0[j]? = l1[j]?) → ∃ k, glossatorref3_Equal_int.l0 k l1 l0 (l0.length : Int) (i : Int) = some (decide (l0 = l1))
  | 0, i, hi, hp => by
    refine ⟨1, ?_⟩
    simp only [glossatorref3_Equal_int.l0]
    rw [if_neg (by omega)]
    have : l0 = l1 := List.ext_getElem? (fun j => by
      by_cases c : j < i
      · exact hp j c
      · rw [List.getElem?_eq_none (by omega), List.getElem?_eq_none (by omega)])
    rw [decide_eq_true this]
  | d + 1, i, hi, hp => by
    have h0 : rd l0 (i : Int) = l0[i]'(by omega) := by simp [rd, List.getD_eq_getElem?_getD]; rw [List.getElem?_eq_getElem (by omega)]; rfl
    have h1 : rd l1 (i : Int) = l1[i]'(by omega) := by simp [rd, List.getD_eq_getElem?_getD]; rw [List.getElem?_eq_getElem (by omega)]; rfl
    by_cases c : l0[i]'(by omega) = l1[i]'(by omega)
    · obtain ⟨k, hk⟩ := eqgo2 l0 l1 hl h d (i + 1) (by omega) (fun j hj => by
        by_cases e : j = i
        · subst e; rw [List.getElem?_eq_getElem (by omega), List.getElem?_eq_getElem (by omega), c]
        · exact hp j (by omega))
      refine ⟨k + 1, ?_⟩
      simp only [glossatorref3_Equal_int.l0]
      rw [if_pos (by omega), if_pos (by omega), if_pos (by omega), if_pos (by omega), h0, h1]
      simp only [c, ne_eq, not_true_eq_false, if_false, if_true]
      rw [wrap_id (by omega) (by omega)]
      exact_mod_cast hk
    · refine ⟨1, ?_⟩
      simp only [glossatorref3_Equal_int.l0]
      rw [if_pos (by omega), if_pos (by omega), if_pos (by omega), if_pos (by omega), h0, h1]
      have : l0 ≠ l1 := fun e => c (by subst e; rfl)
      rw [decide_eq_false this]
      simp [c]
theorem eqR_f (l0 l1 : List Int) (hl : l0.length ≤ 9223372036854775807) : ∃ k, glossatorref3_Equal_int.f k l0 l1 = some (decide (l0 = l1)) := by
  by_cases h : l0.length = l1.length
  · obtain ⟨k, hk⟩ := eqgo2 l0 l1 hl h l0.length 0 (by omega) (fun j hj => by omega)
    refine ⟨k, ?_⟩
    unfold glossatorref3_Equal_int.f
    rw [if_pos (by omega), show (0 : Int) = ((0 : Nat) : Int) from rfl, hk]
  · refine ⟨0, ?_⟩
    unfold glossatorref3_Equal_int.f
    rw [if_neg (by omega), decide_eq_false]
    exact fun e => h (by rw [e])
end Go.Proofs.Ytogpjenmfgpfiaa.QProgressAssembler

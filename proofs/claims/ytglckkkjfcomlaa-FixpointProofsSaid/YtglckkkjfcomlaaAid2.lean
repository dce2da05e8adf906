/-
  Loops over a list by its index: what is left is xs.drop i.
-/
import Derived.Test.YtglckkkjfcomlaaAid
namespace Go.Proofs.Ytglckkkjfcomlaa.Aid
open Go.RowKit Go.Proofs.YtglckkkjfcomlaaW.PrintWords Go.Proofs.YtglckkkjfcomlaaW.PrintLast Go.Proofs.YtglckkkjfcomlaaW.PrintMore
theorem drop_nil {α : Type} {xs : List α} {i : Nat} (h : xs.drop i = []) : xs.length ≤ i := by simpa using h
theorem drop_cons {α : Type} {xs : List α} {i : Nat} {x : α} {t : List α} (h : xs.drop i = x :: t) : i < xs.length ∧ xs.drop (i + 1) = t ∧ (∀ d, xs.getD i d = x) ∧ x ∈ xs := by
  have hi : i < xs.length := by
    by_cases e : i < xs.length
    · exact e
    · rw [List.drop_of_length_le (by omega)] at h; cases h
  rw [List.drop_eq_getElem_cons hi] at h
  injection h with h1 h2
  refine ⟨hi, h2, fun d => ?_, h1 ▸ List.getElem_mem hi⟩
  rw [List.getD_eq_getElem?_getD, List.getElem?_eq_getElem hi]
  exact h1
theorem drop_mem {α : Type} {xs : List α} {i : Nat} {t : List α} (h : xs.drop i = t) {y : α} (hy : y ∈ t) : y ∈ xs := by subst h; exact List.mem_of_mem_drop hy
theorem set_mid {α : Type} (pre : List α) (x y : α) (t : List α) : (pre ++ x :: t).set pre.length y = pre ++ y :: t := by
  rw [List.set_append_right _ _ (Nat.le_refl _), Nat.sub_self]
  rfl
theorem ite_true' {α : Type} {b : Bool} (x y : α) (h : b = true) : (if b = true then x else y) = x := if_pos h
end Go.Proofs.Ytglckkkjfcomlaa.Aid

/-
  Validate and the reference's: one list function.
-/
import Derived.Test.YtbfedkmiekbcmaaSTexteditTransformEqualsReference
import Derived.Test.YtbfedkmiekbcmaaAid
namespace Go.Proofs.Ytbfedkmiekbcmaa.PrTexteditTransformEqualsReference
open Go.RowKit Go.Proofs.YtbfedkmiekbcmaaW.PrintWords Go.Proofs.YtbfedkmiekbcmaaW.PrintLast Go.Proofs.YtbfedkmiekbcmaaW.PrintMore Go.Proofs.Ytbfedkmiekbcmaa.QTexteditTransformEqualsReference Go.Proofs.Ytbfedkmiekbcmaa.Aid
set_option linter.unusedSimpArgs false
set_option linter.unusedVariables false
theorem drop_c {l t : List S137} {e : S137} {i : Nat} (h : l.drop i = e :: t) : i < l.length ∧ l.drop (i + 1) = t ∧ rd_T137 l (i : Int) = e ∧ e ∈ l := by
  have hlt : i < l.length := by
    rcases Nat.lt_or_ge i l.length with h' | h'
    · exact h'
    · rw [List.drop_of_length_le h'] at h; cases h
  rw [List.drop_eq_getElem_cons hlt] at h
  injection h with h1 h2
  refine ⟨hlt, h2, ?_, by rw [← h1]; exact List.getElem_mem hlt⟩
  unfold rd_T137
  rw [Int.toNat_natCast, List.getD_eq_getElem?_getD, List.getElem?_eq_getElem hlt, h1]
  rfl
theorem drop_n {l : List S137} {i : Nat} (h : l.drop i = []) : l.length ≤ i := List.drop_eq_nil_iff.1 h
/-- What Validate answers, from an edit on: the end before it, the length so far. -/
def vP (sz : Int) : List S137 → Int → Int → Int
  | [], _, n => if n > 2000 then 2 else 0
  | e :: t, p, n => if e.f0 ≤ p then 3 else if e.f1 < e.f0 then 3 else if e.f1 > sz then 3 else vP sz t e.f1 (n + (e.f2.size - (e.f1 - e.f0)))
def valP (src : ByteArray) (es : List S137) : Int := if (src.size : Int) > 2000 ∨ (es.length : Int) > 50 then 2 else vP src.size es (-1) src.size
section
variable {src : ByteArray} {l : List S137} (hs : src.size ≤ 2000) (hl : l.length ≤ 50) (hi : ∀ e ∈ l, e.f2.size ≤ 140737488351232)
include hs hl hi
set_option maxRecDepth 100000 in
theorem val_ev : ∀ (t : List S137) (i : Nat) (p n : Int), l.drop i = t → -1 ≤ p → p ≤ src.size → -2000 * (i : Int) ≤ n → n ≤ 2000 + i * 140737488351232 → Ev (fun k => textedit_Validate.l0 k src p n l (l.length : Int) (i : Int)) (vP src.size t p n) := by
  intro t
  induction t with
  | nil =>
    intro i p n h h1 h2 h3 h4
    have := drop_n h
    refine Ev.some' (fun k => ?_)
    simp only [textedit_Validate.l0]
    rw [if_neg (by omega), vP]
    split <;> rfl
  | cons e t ih =>
    intro i p n h h1 h2 h3 h4
    obtain ⟨q1, q2, q3, q4⟩ := drop_c h
    have hz := hi e q4
    by_cases c1 : e.f0 ≤ p
    · refine Ev.some' (fun k => ?_)
      simp only [textedit_Validate.l0]
      rw [q3, if_pos (by omega), if_pos (by omega), if_pos (by omega), if_pos c1, vP, if_pos c1]
    by_cases c2 : e.f1 < e.f0
    · refine Ev.some' (fun k => ?_)
      simp only [textedit_Validate.l0]
      rw [q3, if_pos (by omega), if_pos (by omega), if_pos (by omega), if_neg c1, if_pos c2, vP, if_neg c1, if_pos c2]
    by_cases c3 : e.f1 > (src.size : Int)
    · refine Ev.some' (fun k => ?_)
      simp only [textedit_Validate.l0]
      rw [q3, if_pos (by omega), if_pos (by omega), if_pos (by omega), if_neg c1, if_neg c2, if_pos c3, vP, if_neg c1, if_neg c2, if_pos c3]
    · rw [vP, if_neg c1, if_neg c2, if_neg c3]
      refine Ev.stepK (ih (i + 1) e.f1 (n + (e.f2.size - (e.f1 - e.f0))) q2 (by omega) (by omega) (by push_cast; omega) (by push_cast; omega)) (fun k => ?_)
      simp only [textedit_Validate.l0]
      rw [q3, if_pos (by omega), if_pos (by omega), if_pos (by omega), if_neg c1, if_neg c2, if_neg c3, wrap_id (n := e.f1 - e.f0) (by omega) (by omega), wrap_id (n := (e.f2.size : Int) - (e.f1 - e.f0)) (by omega) (by omega), wrap_id (n := n + ((e.f2.size : Int) - (e.f1 - e.f0))) (by omega) (by omega), wrap_id (n := (i : Int) + 1) (by omega) (by omega)]
      rfl
set_option maxRecDepth 100000 in
theorem ref_ev : ∀ (t : List S137) (i : Nat) (p n : Int), l.drop i = t → (i = 0 ∧ p = -1 ∨ 0 < i ∧ (rd_T137 l ((i : Int) - 1)).f1 = p) → -1 ≤ p → p ≤ src.size → -2000 * (i : Int) ≤ n → n ≤ 2000 + i * 140737488351232 → Ev (fun k => glossatorref4_ValidateEdits.l0 k src l n (i : Int)) (vP src.size t p n) := by
  intro t
  induction t with
  | nil =>
    intro i p n h hp h1 h2 h3 h4
    have := drop_n h
    refine Ev.some' (fun k => ?_)
    simp only [glossatorref4_ValidateEdits.l0]
    rw [if_neg (by omega), vP]
    split <;> rfl
  | cons e t ih =>
    intro i p n h hp h1 h2 h3 h4
    obtain ⟨q1, q2, q3, q4⟩ := drop_c h
    have hz := hi e q4
    -- the tests behind the previous end
    have key : ∀ k, glossatorref4_ValidateEdits.l0 (k + 1) src l n (i : Int) = if e.f0 < 0 then some 3 else if e.f0 ≤ p then some 3 else if e.f1 < e.f0 then some 3 else if e.f1 > (src.size : Int) then some 3 else glossatorref4_ValidateEdits.l0 k src l (wrap64 (wrap64 (wrap64 (n + e.f2.size) + e.f0) - e.f1)) (wrap64 ((i : Int) + 1)) := by
      intro k
      rw [glossatorref4_ValidateEdits.l0, if_pos (by omega)]
      rcases hp with ⟨rfl, rfl⟩ | ⟨hi0, hp⟩
      · rw [if_neg (by omega), if_pos (by omega), q3]
      · rw [if_pos (by omega), wrap_id (n := (i : Int) - 1) (by omega) (by omega), if_pos (by omega), if_pos (by omega), if_pos (by omega), q3, hp]
    by_cases c1 : e.f0 ≤ p
    · refine Ev.some' (fun k => ?_)
      rw [key, vP, if_pos c1]
      split
      · rfl
      · rfl
    by_cases c2 : e.f1 < e.f0
    · refine Ev.some' (fun k => ?_)
      rw [key, if_neg (by omega), if_neg c1, if_pos c2, vP, if_neg c1, if_pos c2]
    by_cases c3 : e.f1 > (src.size : Int)
    · refine Ev.some' (fun k => ?_)
      rw [key, if_neg (by omega), if_neg c1, if_neg c2, if_pos c3, vP, if_neg c1, if_neg c2, if_pos c3]
    · rw [vP, if_neg c1, if_neg c2, if_neg c3]
      refine Ev.stepK (ih (i + 1) e.f1 (n + (e.f2.size - (e.f1 - e.f0))) q2 (.inr ⟨by omega, by rw [show ((i + 1 : Nat) : Int) - 1 = (i : Int) by omega, q3]⟩) (by omega) (by omega) (by push_cast; omega) (by push_cast; omega)) (fun k => ?_)
      rw [key, if_neg (by omega), if_neg c1, if_neg c2, if_neg c3, wrap_id (n := n + (e.f2.size : Int)) (by omega) (by omega), wrap_id (n := n + (e.f2.size : Int) + e.f0) (by omega) (by omega), wrap_id (n := n + (e.f2.size : Int) + e.f0 - e.f1) (by omega) (by omega), wrap_id (n := (i : Int) + 1) (by omega) (by omega), show n + (e.f2.size : Int) + e.f0 - e.f1 = n + ((e.f2.size : Int) - (e.f1 - e.f0)) by omega]
      rfl
end
theorem validate_ev (src : ByteArray) (l : List S137) (hi : ∀ e ∈ l, e.f2.size ≤ 140737488351232) : Ev (fun k => textedit_Validate.f k src l) (valP src l) := by
  unfold textedit_Validate.f valP
  by_cases c : (src.size : Int) > 2000
  · rw [if_pos (.inl c)]
    exact Ev.pos c (Ev.some' (fun k => by simp only [textedit_Validate.j0]; rw [if_pos trivial]))
  · refine Ev.neg c ?_
    by_cases d : (l.length : Int) > 50
    · rw [if_pos (.inr d)]
      exact Ev.some' (fun k => by simp only [textedit_Validate.j0]; rw [if_pos (by simp; omega)])
    · rw [if_neg (fun h => h.elim c d)]
      refine Ev.stepK (val_ev (l := l) (src := src) (by omega) (by omega) hi l 0 (-1) src.size rfl (by omega) (by omega) (by omega) (by omega)) (fun k => ?_)
      simp only [textedit_Validate.j0]
      rw [if_neg (by simp; omega)]
      rfl
theorem validateEdits_ev (src : ByteArray) (l : List S137) (hi : ∀ e ∈ l, e.f2.size ≤ 140737488351232) : Ev (fun k => glossatorref4_ValidateEdits.f k src l) (valP src l) := by
  unfold glossatorref4_ValidateEdits.f valP
  by_cases c : (src.size : Int) > 2000
  · rw [if_pos (.inl c)]
    exact Ev.pos c (Ev.some' (fun k => by simp only [glossatorref4_ValidateEdits.j0]; rw [if_pos trivial]))
  · refine Ev.neg c ?_
    by_cases d : (l.length : Int) > 50
    · rw [if_pos (.inr d)]
      exact Ev.some' (fun k => by simp only [glossatorref4_ValidateEdits.j0]; rw [if_pos (by simp; omega)])
    · rw [if_neg (fun h => h.elim c d)]
      refine Ev.stepK (ref_ev (l := l) (src := src) (by omega) (by omega) hi l 0 (-1) src.size rfl (.inl ⟨rfl, rfl⟩) (by omega) (by omega) (by omega) (by omega)) (fun k => ?_)
      simp only [glossatorref4_ValidateEdits.j0]
      rw [if_neg (by simp; omega)]
      rfl
theorem example_ev : Ev (fun k => glossatorlaw4_texteditExamples.f k) true := Ev.of (k := 60) (fun k => glossatorlaw4_texteditExamples.mono k) (by decide +kernel)
end Go.Proofs.Ytbfedkmiekbcmaa.PrTexteditTransformEqualsReference

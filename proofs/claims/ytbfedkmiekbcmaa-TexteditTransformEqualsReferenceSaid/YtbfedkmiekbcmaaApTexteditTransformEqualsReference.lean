/-
  What Apply writes, over lists.
-/
import Derived.Test.YtbfedkmiekbcmaaValTexteditTransformEqualsReference
namespace Go.Proofs.Ytbfedkmiekbcmaa.PrTexteditTransformEqualsReference
open Go.RowKit Go.Proofs.YtbfedkmiekbcmaaW.PrintWords Go.Proofs.YtbfedkmiekbcmaaW.PrintLast Go.Proofs.YtbfedkmiekbcmaaW.PrintMore Go.Proofs.Ytbfedkmiekbcmaa.QTexteditTransformEqualsReference Go.Proofs.Ytbfedkmiekbcmaa.Aid
set_option linter.unusedSimpArgs false
set_option linter.unusedVariables false
def ap (B : List UInt8) : List S137 → Nat → List UInt8
  | [], off => B.drop off
  | e :: t, off => (B.take e.f0.toNat).drop off ++ e.f2.data.toList ++ ap B t e.f1.toNat
theorem vP_le (sz : Int) : ∀ (t : List S137) (p n : Int), vP sz t p n = 0 → p ≤ sz → n ≤ 2000 + (sz - p) := by
  intro t
  induction t with
  | nil =>
    intro p n h hp
    rw [vP] at h
    split at h
    · cases h
    · omega
  | cons e t ih =>
    intro p n h hp
    rw [vP] at h
    split at h
    · cases h
    · split at h
      · cases h
      · split at h
        · cases h
        · have := ih _ _ h (by omega)
          omega
theorem ext_list (src : ByteArray) (a b : Nat) : (src.extract a b).data.toList = (src.data.toList.take b).drop a := by
  simp [ByteArray.extract, ByteArray.copySlice, List.drop_take]
  try omega
theorem ext_size (src : ByteArray) (a b : Nat) : (src.extract a b).size = min b src.size - a := by
  show (src.extract a b).data.size = _
  rw [← Array.length_toList, ext_list, List.length_drop, List.length_take]
  rfl
theorem applyP_ok (src : ByteArray) (hs : src.size ≤ 2000) : ∀ (t : List S137) (p : Int) (off : Nat) (acc : List UInt8), p ≤ off → -1 ≤ p → (off : Int) ≤ p + 1 → (off : Int) ≤ src.size → (∀ e ∈ t, (p < e.f0 → (off : Int) ≤ e.f0)) → vP src.size t p (acc.length + src.size - off) = 0 → acc.length ≤ 100000 →
    applyP src t (off : Int) acc = some ⟨(acc ++ ap src.data.toList t off).toArray⟩ := by
  intro t
  induction t with
  | nil =>
    intro p off acc h1 h2 h2' h3 h3' h4 h5
    rw [applyP, if_pos (by omega), if_pos h3, if_pos (by rw [ext_size]; omega), ap, ext_list, Int.toNat_natCast, List.take_of_length_le (by show src.data.toList.length ≤ src.size; exact Nat.le_refl _)]
  | cons e t ih =>
    intro p off acc h1 h2 h2' h3 h3' h4 h5
    rw [vP] at h4
    split at h4
    · cases h4
    · next c1 =>
      split at h4
      · cases h4
      · next c2 =>
        split at h4
        · cases h4
        · next c3 =>
          have hoff := h3' e (List.mem_cons_self ..) (by omega)
          have hle := vP_le _ _ _ _ h4 (by omega)
          have hsz : (src.extract off e.f0.toNat).size = e.f0.toNat - off := by rw [ext_size]; omega
          have hap : (src.extract off e.f0.toNat ++ e.f2).size = e.f0.toNat - off + e.f2.size := by rw [ByteArray.size_append, hsz]
          rw [applyP, if_pos (by omega), if_pos hoff, if_pos (by omega), Int.toNat_natCast, if_pos (by rw [hsz]; omega), if_pos (by rw [hap]; omega)]
          obtain ⟨j, hj⟩ : ∃ j : Nat, e.f1 = (j : Int) := ⟨e.f1.toNat, by omega⟩
          rw [hj]
          have hlist : (src.extract off e.f0.toNat ++ e.f2).data.toList = (src.data.toList.take e.f0.toNat).drop off ++ e.f2.data.toList := by rw [ByteArray.data_append, Array.toList_append, ext_list]
          have hll : ((src.data.toList.take e.f0.toNat).drop off ++ e.f2.data.toList).length = e.f0.toNat - off + e.f2.size := by rw [← hlist]; exact hap
          rw [hlist, ih e.f1 j _ (by omega) (by omega) (by omega) (by omega) (fun e' _ h => by omega) (by rw [List.length_append, hll]; rw [show ((acc.length + (e.f0.toNat - off + e.f2.size) : Nat) : Int) + src.size - j = acc.length + src.size - off + (e.f2.size - (e.f1 - e.f0)) by omega]; exact h4) (by rw [List.length_append, hll]; omega)]
          rw [ap, hj, Int.toNat_natCast, List.append_assoc acc]
/-- The edits are in order, behind p. -/
def Vd (sz : Int) : Int → List S137 → Prop
  | _, [] => True
  | p, e :: t => p < e.f0 ∧ e.f0 ≤ e.f1 ∧ e.f1 ≤ sz ∧ Vd sz e.f1 t
theorem vd_of (sz : Int) : ∀ (t : List S137) (p n : Int), vP sz t p n = 0 → Vd sz p t := by
  intro t
  induction t with
  | nil => intro p n h; trivial
  | cons e t ih =>
    intro p n h
    rw [vP] at h
    split at h
    · cases h
    · split at h
      · cases h
      · split at h
        · cases h
        · exact ⟨by omega, by omega, by omega, ih _ _ h⟩
theorem vd_drop {sz : Int} : ∀ {l : List S137} {p : Int} (m : Nat), Vd sz p l → -1 ≤ p → ∃ p', -1 ≤ p' ∧ Vd sz p' (l.drop m)
  | l, p, 0, h, hp => ⟨p, hp, h⟩
  | [], p, m + 1, h, hp => ⟨p, hp, h⟩
  | e :: t, p, m + 1, h, hp => vd_drop (l := t) (p := e.f1) m h.2.2.2 (by have := h.1; have := h.2.1; omega)
theorem ap_shift {B : List UInt8} {t : List S137} {p : Int} (h : Vd B.length p t) {o : Nat} (ho : (o : Int) ≤ p ∨ o = 0) (hp : -1 ≤ p) : ap B t 0 = B.take o ++ ap B t o := by
  cases t with
  | nil => rw [ap, ap, List.drop_zero, List.take_append_drop]
  | cons e t =>
    have h1 := h.1
    have hoe : o ≤ e.f0.toNat := by omega
    rw [ap, ap, List.drop_zero, ← List.append_assoc, ← List.append_assoc]
    congr 2
    have := List.take_append_drop o (B.take e.f0.toNat)
    rw [List.take_take, Nat.min_eq_left hoe] at this
    exact this.symm
theorem ap_len {B : List UInt8} (hB : B.length ≤ 2000) : ∀ (t : List S137) (o : Nat), (∀ e ∈ t, e.f2.size ≤ 140737488351232) → (ap B t o).length ≤ (t.length + 1) * 140737488355328 := by
  intro t
  induction t with
  | nil => intro o _; rw [ap, List.length_drop]; simp; omega
  | cons e t ih =>
    intro o h
    have h1 := ih e.f1.toNat (fun e' he => h e' (List.mem_cons_of_mem _ he))
    have h2 : e.f2.data.toList.length ≤ 140737488351232 := h e (List.mem_cons_self ..)
    rw [ap, List.length_append, List.length_append, List.length_drop, List.length_take, List.length_cons]
    omega
theorem refApply_ev (src : ByteArray) (hs : src.size ≤ 2000) (l : List S137) (hl : l.length ≤ 50) (hi : ∀ e ∈ l, e.f2.size ≤ 140737488351232) (hv : Vd src.size (-1) l) : ∀ (m : Nat) (x0 : ByteArray), m ≤ l.length → x0.data.toList = ap src.data.toList (l.drop m) 0 →
    Ev (fun k => glossatorref4_ApplyEdits.l0 k x0 l ((m : Int) - 1)) ⟨(ap src.data.toList l 0).toArray⟩ := by
  intro m
  induction m with
  | zero =>
    intro x0 _ hx
    refine Ev.some' (fun k => ?_)
    simp only [glossatorref4_ApplyEdits.l0]
    rw [if_neg (by omega)]
    rw [List.drop_zero] at hx
    congr 1
    rw [← hx]
  | succ m ih =>
    intro x0 hm hx
    have hlt : m < l.length := by omega
    have hd : l.drop m = l[m] :: l.drop (m + 1) := List.drop_eq_getElem_cons hlt
    obtain ⟨q1, q2, q3, q4⟩ := drop_c hd
    obtain ⟨e, he⟩ : ∃ e, l[m] = e := ⟨_, rfl⟩
    rw [he] at q3 q4 hd
    obtain ⟨p, hp, hvd⟩ := vd_drop m hv (by omega)
    rw [hd] at hvd
    obtain ⟨v1, v2, v3, v4⟩ := hvd
    have hlenB : src.data.toList.length = src.size := rfl
    have hsh := ap_shift (B := src.data.toList) (t := l.drop (m + 1)) (p := e.f1) v4 (o := e.f1.toNat) (.inl (by omega)) (by omega)
    rw [hsh] at hx
    have hlx := ap_len (B := src.data.toList) (by omega) (l.drop (m + 1)) e.f1.toNat (fun e' he' => hi e' (List.mem_of_mem_drop he'))
    rw [List.length_drop] at hlx
    have hxs : x0.size = e.f1.toNat + (ap src.data.toList (l.drop (m + 1)) e.f1.toNat).length := by
      show x0.data.toList.length = _
      rw [hx, List.length_append, List.length_take]
      omega
    have hz := hi e q4
    have hext0 : (x0.extract 0 e.f0.toNat).data.toList = src.data.toList.take e.f0.toNat := by
      rw [ext_list, List.drop_zero, hx, List.take_append_of_le_length (by rw [List.length_take]; omega), List.take_take, Nat.min_eq_left (by omega)]
    have hext1 : (x0.extract e.f1.toNat x0.size).data.toList = ap src.data.toList (l.drop (m + 1)) e.f1.toNat := by
      rw [ext_list, List.take_of_length_le (by show x0.data.toList.length ≤ x0.size; exact Nat.le_refl _), hx, List.drop_append_of_le_length (by rw [List.length_take]; omega), List.drop_of_length_le (by rw [List.length_take]; omega), List.nil_append]
    have hmul : (l.length - (m + 1) + 1) * 140737488355328 ≤ 51 * 140737488355328 := Nat.mul_le_mul_right _ (by omega)
    refine Ev.stepK (ih ((x0.extract 0 e.f0.toNat ++ e.f2) ++ x0.extract e.f1.toNat x0.size) (by omega) ?_) (fun k => ?_)
    · rw [ByteArray.data_append, ByteArray.data_append, Array.toList_append, Array.toList_append, hext0, hext1, hd, ap, List.drop_zero]
    · have hm1 : ((m + 1 : Nat) : Int) - 1 = (m : Int) := by omega
      rw [hm1]
      simp only [glossatorref4_ApplyEdits.l0]
      rw [q3, if_pos (by omega), if_pos (by omega), if_pos (by omega), if_pos (by omega), if_pos (by omega), if_pos (by rw [ext_size]; omega), if_pos (by omega), if_pos (by omega), if_pos (by rw [ByteArray.size_append, ext_size, ext_size]; omega), wrap_id (n := (m : Int) - 1) (by omega) (by omega)]
/-- How much longer the edits make a text. -/
def shP : List S137 → Int
  | [] => 0
  | e :: t => (e.f2.size - (e.f1 - e.f0)) + shP t
theorem ap_length {B : List UInt8} : ∀ {t : List S137} {p : Int} {o : Nat}, Vd B.length p t → (o : Int) ≤ p ∨ o = 0 → -1 ≤ p → o ≤ B.length → ((ap B t o).length : Int) = B.length - o + shP t := by
  intro t
  induction t with
  | nil => intro p o h h1 h2 h3; rw [ap, shP, List.length_drop]; omega
  | cons e t ih =>
    intro p o h h1 h2 h3
    obtain ⟨v1, v2, v3, v4⟩ := h
    have h4 := ih (o := e.f1.toNat) v4 (.inl (by omega)) (by omega) (by omega)
    have h5 : e.f2.data.toList.length = e.f2.size := rfl
    rw [ap, shP, List.length_append, List.length_append, List.length_drop, List.length_take]
    push_cast
    omega
/-- The inverse. -/
def invL (src : ByteArray) : Int → List S137 → List S137
  | _, [] => []
  | sh, e :: t => ⟨e.f0 + sh, e.f0 + sh + e.f2.size, src.extract e.f0.toNat e.f1.toNat⟩ :: invL src (sh + (e.f2.size - (e.f1 - e.f0))) t
theorem vd_take {sz : Int} : ∀ {l : List S137} {p : Int} {m : Nat} {e : S137}, Vd sz p l → (l.drop m).head? = some e → Vd e.f0 p (l.take m) := by
  intro l
  induction l with
  | nil => intro p m e h hh; simp at hh
  | cons a t ih =>
    intro p m e h hh
    cases m with
    | zero => trivial
    | succ m =>
      have hh' : (t.drop m).head? = some e := hh
      obtain ⟨v1, v2, v3, v4⟩ := h
      refine ⟨v1, v2, ?_, ih v4 hh'⟩
      -- the end of a is behind no later start
      have : ∀ {t : List S137} {q : Int} {m : Nat}, Vd sz q t → (t.drop m).head? = some e → q < e.f0 := by
        intro t
        induction t with
        | nil => intro q m _ h2; simp at h2
        | cons b t ih2 =>
          intro q m h1 h2
          cases m with
          | zero => injection h2 with h2; subst h2; exact h1.1
          | succ m => have := ih2 (m := m) h1.2.2.2 h2; have := h1.1; have := h1.2.1; omega
      have := this v4 hh'
      omega
theorem sh_take : ∀ (l : List S137) (m : Nat) (e : S137) (t : List S137), l.drop m = e :: t → shP (l.take (m + 1)) = shP (l.take m) + (e.f2.size - (e.f1 - e.f0)) := by
  intro l
  induction l with
  | nil => intro m e t h; simp at h
  | cons a l ih =>
    intro m e t h
    cases m with
    | zero => injection h with h1 h2; subst h1; rw [List.take_succ_cons, List.take_zero, List.take_zero, shP, shP, show shP [] = 0 from rfl]; omega
    | succ m => have := ih m e t h; rw [List.take_succ_cons, List.take_succ_cons, shP, shP, this]; omega
section
variable {src : ByteArray} {l : List S137} (hs : src.size ≤ 2000) (hl : l.length ≤ 50) (hi : ∀ e ∈ l, e.f2.size ≤ 140737488351232) (hv : Vd src.size (-1) l)
include hs hl hi hv
theorem invert_ev : ∀ (t : List S137) (i : Nat) (acc : List S137) (sh : Int), l.drop i = t → acc.length = i → -2000 * (i : Int) ≤ sh → sh ≤ (i : Int) * 140737488351232 → Ev (fun k => textedit_Invert.l0 k src acc sh l (l.length : Int) (i : Int)) (acc ++ invL src sh t, 0) := by
  intro t
  induction t with
  | nil =>
    intro i acc sh h _ _ _
    have := drop_n h
    refine Ev.some' (fun k => ?_)
    simp only [textedit_Invert.l0]
    rw [if_neg (by omega), invL, List.append_nil]
  | cons e t ih =>
    intro i acc sh h ha h3 h4
    obtain ⟨q1, q2, q3, q4⟩ := drop_c h
    obtain ⟨p, hp, hvd⟩ := vd_drop i hv (by omega)
    rw [h] at hvd
    obtain ⟨v1, v2, v3, v4⟩ := hvd
    have hz := hi e q4
    have hr : acc ++ invL src sh (e :: t) = (acc ++ [⟨e.f0 + sh, e.f0 + sh + e.f2.size, src.extract e.f0.toNat e.f1.toNat⟩]) ++ invL src (sh + (e.f2.size - (e.f1 - e.f0))) t := by rw [invL, List.append_assoc]; rfl
    rw [hr]
    refine Ev.stepK (ih (i + 1) _ (sh + (e.f2.size - (e.f1 - e.f0))) q2 (by rw [List.length_append, ha]; rfl) (by push_cast; omega) (by push_cast; omega)) (fun k => ?_)
    simp only [textedit_Invert.l0]
    rw [q3, if_pos (by omega), if_pos (by omega), if_pos (by omega), if_pos (by omega), if_pos (by omega), if_pos (by omega), if_pos (by omega), wrap_id (n := e.f0 + sh) (by omega) (by omega), wrap_id (n := e.f0 + sh + (e.f2.size : Int)) (by omega) (by omega), wrap_id (n := e.f1 - e.f0) (by omega) (by omega), wrap_id (n := (e.f2.size : Int) - (e.f1 - e.f0)) (by omega) (by omega), wrap_id (n := sh + ((e.f2.size : Int) - (e.f1 - e.f0))) (by omega) (by omega), wrap_id (n := (i : Int) + 1) (by omega) (by omega)]
    rfl
theorem applyEdits_ev : Ev (fun k => glossatorref4_ApplyEdits.f k src l) ⟨(ap src.data.toList l 0).toArray⟩ := by
  unfold glossatorref4_ApplyEdits.f
  rw [wrap_id (n := (l.length : Int) - 1) (by omega) (by omega)]
  exact refApply_ev src hs l hl hi hv l.length src (Nat.le_refl _) (by rw [List.drop_length, ap, List.drop_zero])
end
end Go.Proofs.Ytbfedkmiekbcmaa.PrTexteditTransformEqualsReference

/-
  Sorted strings: the order's laws, what sortS gives, lists of keys (rows out of hand/Js1.lean that speak of no record).
-/
import Derived.Test.YtcikmpcacakfbaaHandMapRange
import Derived.Test.YtcikmpcacakfbaaHandSortStr
namespace Go.Proofs.Ytcikmpcacakfbaa.Hand
open Go.RowKit
set_option linter.unusedVariables false
set_option linter.unusedSimpArgs false
theorem less_eq : ∀ (x y : List UInt8), Op.bytesLess x y = decide (x < y)
  | [], [] => by simp [Op.bytesLess]
  | _ :: _, [] => by simp [Op.bytesLess]
  | [], _ :: _ => by simp [Op.bytesLess]
  | a :: x, b :: y => by
    rw [Op.bytesLess, less_eq x y]
    simp only [List.cons_lt_cons_iff]
    by_cases h1 : a < b <;> by_cases h2 : a = b <;> by_cases h3 : x < y <;> simp [h1, h2, h3]
theorem ltS_iff (a b : ByteArray) : ltS a b = true ↔ a.data.toList < b.data.toList := by
  unfold ltS
  rw [less_eq, decide_eq_true_iff]
  simp only [ByteArray.toList_eq]
theorem ltS_irrefl (a : ByteArray) : ltS a a = false := by
  rw [Bool.eq_false_iff, Ne, ltS_iff]
  exact List.lt_irrefl _
theorem ltS_trans {a b c : ByteArray} (h : ltS a b = true) (k : ltS b c = true) : ltS a c = true := by
  rw [ltS_iff] at *
  exact List.lt_trans h k
theorem ltS_total {a b : ByteArray} (h : ltS a b = false) (k : ltS b a = false) : a = b := by
  rw [Bool.eq_false_iff, Ne, ltS_iff] at *
  have := List.le_antisymm (List.not_lt.1 k) (List.not_lt.1 h)
  exact ByteArray.ext (Array.toList_inj.mp this)
theorem ltS_ntrans {a b c : ByteArray} (h : ltS a b = false) (k : ltS b c = false) : ltS a c = false := by
  rw [Bool.eq_false_iff, Ne, ltS_iff, List.not_lt] at *
  exact List.le_trans k h
theorem sorted_ext {α : Type} {lt : α → α → Prop} (hi : ∀ x, ¬ lt x x) (ht : ∀ x y z, lt x y → lt y z → lt x z) : ∀ {l k : List α}, l.Pairwise lt → k.Pairwise lt → (∀ x, x ∈ l ↔ x ∈ k) → l = k
  | [], [], _, _, _ => rfl
  | [], b :: k, _, _, h => by have := (h b).2 List.mem_cons_self; cases this
  | a :: l, [], _, _, h => by have := (h a).1 List.mem_cons_self; cases this
  | a :: l, b :: k, h1, h2, h => by
    rw [List.pairwise_cons] at h1 h2
    have e : a = b := by
      rcases List.mem_cons.1 ((h a).1 List.mem_cons_self) with e | e
      · exact e
      · rcases List.mem_cons.1 ((h b).2 List.mem_cons_self) with e' | e'
        · exact e'.symm
        · exact absurd (ht _ _ _ (h2.1 a e) (h1.1 b e')) (hi _)
    subst e
    congr 1
    refine sorted_ext hi ht h1.2 h2.2 (fun x => ⟨fun hx => ?_, fun hx => ?_⟩)
    · rcases List.mem_cons.1 ((h x).1 (List.mem_cons_of_mem _ hx)) with e | e
      · subst e; exact absurd (h1.1 _ hx) (hi _)
      · exact e
    · rcases List.mem_cons.1 ((h x).2 (List.mem_cons_of_mem _ hx)) with e | e
      · subst e; exact absurd (h2.1 _ hx) (hi _)
      · exact e
theorem mem_insS {res : List ByteArray} {x y : ByteArray} : y ∈ insS res x ↔ y = x ∨ y ∈ res := by
  unfold insS
  have hsp := List.takeWhile_append_dropWhile (p := fun y => ltS y x) (l := res)
  split
  · rw [List.mem_append, List.mem_cons]
    conv => rhs; rw [← hsp]
    rw [List.mem_append]
    constructor
    · rintro (h | h | h)
      · exact .inr (.inl h)
      · exact .inl h
      · exact .inr (.inr h)
    · rintro (h | h | h)
      · exact .inr (.inl h)
      · exact .inl h
      · exact .inr (.inr h)
  · next h =>
    refine ⟨.inr, fun h2 => h2.elim (fun e => ?_) id⟩
    simp only [ne_eq, Decidable.not_not] at h
    rw [e]
    exact List.mem_of_getElem? h
theorem mem_sortS {l : List ByteArray} {y : ByteArray} : y ∈ sortS l ↔ y ∈ l := by
  have key : ∀ (l res : List ByteArray), y ∈ l.foldl insS res ↔ y ∈ res ∨ y ∈ l := by
    intro l
    induction l with
    | nil => intro res; simp
    | cons x l ih =>
      intro res
      rw [List.foldl_cons, ih, mem_insS, List.mem_cons]
      constructor
      · rintro ((h | h) | h)
        · exact .inr (.inl h)
        · exact .inl h
        · exact .inr (.inr h)
      · rintro (h | h | h)
        · exact .inl (.inr h)
        · exact .inl (.inl h)
        · exact .inr h
  unfold sortS
  rw [key]
  simp
theorem insS_sorted {res : List ByteArray} (x : ByteArray) (h : res.Pairwise (fun a b => ltS a b = true)) : (insS res x).Pairwise (fun a b => ltS a b = true) := by
  unfold insS
  have hsp := List.takeWhile_append_dropWhile (p := fun y => ltS y x) (l := res)
  split
  · next hne =>
    rw [← hsp, List.pairwise_append] at h
    have htw : ∀ a ∈ res.takeWhile (fun y => ltS y x), ltS a x = true := fun a ha => by
      have := List.all_takeWhile (p := fun y => ltS y x) (l := res)
      exact List.all_eq_true.1 this a ha
    have hdw : ∀ a ∈ res.dropWhile (fun y => ltS y x), ltS x a = true := by
      have hg : res[(res.takeWhile (fun y => ltS y x)).length]? = (res.dropWhile (fun y => ltS y x))[0]? := by
        have gen : ∀ (tw dw : List ByteArray), tw ++ dw = res → res[tw.length]? = dw[0]? := by
          rintro tw dw rfl
          rw [List.getElem?_append_right (Nat.le_refl _), Nat.sub_self]
        exact gen _ _ hsp
      cases e : res.dropWhile (fun y => ltS y x) with
      | nil => intro a ha; cases ha
      | cons b t =>
        have hb : ltS b x = false := by
          have := List.head_dropWhile_not (l := res) (fun y => ltS y x) (by rw [e]; simp)
          simpa [e] using this
        rw [hg, e] at hne
        have hbx : b ≠ x := fun h => hne (by rw [h]; rfl)
        have hxb : ltS x b = true := by
          cases hh : ltS x b with
          | true => rfl
          | false => exact absurd (ltS_total hb hh) hbx
        have hp := h.2.1
        rw [e, List.pairwise_cons] at hp
        intro a ha
        rcases List.mem_cons.1 ha with h' | h'
        · rw [h']; exact hxb
        · exact ltS_trans hxb (hp.1 a h')
    rw [List.pairwise_append, List.pairwise_cons]
    exact ⟨h.1, ⟨hdw, h.2.1⟩, fun a ha b hb => by
      rcases List.mem_cons.1 hb with e | e
      · rw [e]; exact htw a ha
      · exact h.2.2 a ha b e⟩
  · exact h
theorem sortS_sorted (l : List ByteArray) : (sortS l).Pairwise (fun a b => ltS a b = true) := by
  have key : ∀ (l res : List ByteArray), res.Pairwise (fun a b => ltS a b = true) → (l.foldl insS res).Pairwise (fun a b => ltS a b = true) := by
    intro l
    induction l with
    | nil => exact fun res h => h
    | cons x l ih => exact fun res h => ih _ (insS_sorted x h)
  exact key l [] List.Pairwise.nil
theorem snoc_ind {α : Type} {P : List α → Prop} (h0 : P []) (h : ∀ l x, P l → P (l ++ [x])) (l : List α) : P l := by
  rw [← List.reverse_reverse l]
  induction l.reverse with
  | nil => exact h0
  | cons x t ih => rw [List.reverse_cons]; exact h _ _ ih
theorem mem_keys {κ β : Type} [DecidableEq κ] {m : List (κ × β)} {x : κ} {v : β} {p : κ × β} (h : p ∈ mset m x v) : p = (x, v) ∨ (p ∈ m) := by
  induction m with
  | nil => rw [mset] at h; exact .inl (List.mem_singleton.1 h)
  | cons q t ih =>
    by_cases c : q.1 = x
    · rw [mset, if_pos c] at h
      rcases List.mem_cons.1 h with h | h
      · exact .inl h
      · exact .inr (List.mem_cons_of_mem _ h)
    · rw [mset, if_neg c] at h
      rcases List.mem_cons.1 h with h | h
      · exact .inr (h ▸ List.mem_cons_self)
      · exact (ih h).imp_right (List.mem_cons_of_mem _)
theorem keys_nodup {κ β : Type} [DecidableEq κ] {m : List (κ × β)} (x : κ) (v : β) (h : (m.map Prod.fst).Nodup) : ((mset m x v).map Prod.fst).Nodup := by
  induction m with
  | nil => simp [mset]
  | cons q t ih =>
    rw [List.map_cons, List.nodup_cons] at h
    by_cases c : q.1 = x
    · rw [mset, if_pos c, List.map_cons, List.nodup_cons]
      exact ⟨c ▸ h.1, h.2⟩
    · rw [mset, if_neg c, List.map_cons, List.nodup_cons]
      refine ⟨fun hm => ?_, ih h.2⟩
      obtain ⟨p, hp, e⟩ := List.mem_map.1 hm
      rcases mem_keys hp with e2 | e2
      · rw [e2] at e; exact c e.symm
      · exact h.1 (by rw [← e]; exact List.mem_map_of_mem e2)
theorem mget_mem_nodup {κ β : Type} [DecidableEq κ] {m : List (κ × β)} (h : (m.map Prod.fst).Nodup) {p : κ × β} (hp : p ∈ m) : mget m p.1 = some p.2 := by
  induction m with
  | nil => cases hp
  | cons q t ih =>
    rw [List.map_cons, List.nodup_cons] at h
    rw [mget]
    rcases List.mem_cons.1 hp with e | e
    · rw [e, if_pos rfl]
    · rw [if_neg (fun c => h.1 (by rw [c]; exact List.mem_map_of_mem e)), ih h.2 e]
theorem mget_mem' {κ β : Type} [DecidableEq κ] {m : List (κ × β)} {x : κ} {v : β} (h : mget m x = some v) : (x, v) ∈ m := by
  induction m with
  | nil => cases h
  | cons p t ih =>
    rw [mget] at h
    by_cases c : p.1 = x
    · rw [if_pos c] at h
      injection h with h
      subst h c
      exact List.mem_cons_self
    · rw [if_neg c] at h
      exact List.mem_cons_of_mem _ (ih h)
theorem mset_len {κ β : Type} [DecidableEq κ] (m : List (κ × β)) (x : κ) (v : β) : (mset m x v).length ≤ m.length + 1 := by
  induction m with
  | nil => simp [mset]
  | cons q t ih =>
    rw [mset]
    split
    · simp
    · simp; omega
theorem lft_le {α : Type} (m : List α) (ix : List Nat) : lft m ix ≤ m.length := by
  unfold lft
  have := List.length_filter_le (fun i => !ix.contains i) (List.range m.length)
  simpa using this
theorem sortS_nodup (l : List ByteArray) : (sortS l).Nodup := (sortS_sorted l).imp (fun {a b} h e => by rw [e, ltS_irrefl] at h; cases h)
theorem sortS_perm {l : List ByteArray} (h : l.Nodup) : (sortS l).Perm l := (List.perm_ext_iff_of_nodup (sortS_nodup l) h).2 (fun x => mem_sortS)
/-- A list of bytes that is a sorted list of the keys is sortS of the keys. -/
theorem sorted_keys {l : List ByteArray} (h : l.Nodup) {ss : List (List UInt8)} (hp : ss.Perm (l.map (fun b => b.data.toList))) : ss.mergeSort (fun x y => decide (x ≤ y)) = (sortS l).map (fun b => b.data.toList) := by
  have tr : ∀ a b c : List UInt8, decide (a ≤ b) = true → decide (b ≤ c) = true → decide (a ≤ c) = true := fun a b c h1 h2 => by simp only [decide_eq_true_eq] at *; exact List.le_trans h1 h2
  have tot : ∀ a b : List UInt8, (decide (a ≤ b) || decide (b ≤ a)) = true := fun a b => by simp only [Bool.or_eq_true, decide_eq_true_eq]; exact List.le_total a b
  refine List.Perm.eq_of_pairwise (le := fun a b => decide (a ≤ b) = true) (fun a b _ _ h1 h2 => ?_) (List.pairwise_mergeSort tr tot ss) ?_ (((List.mergeSort_perm ss _).trans hp).trans ((sortS_perm h).map _).symm)
  · simp only [decide_eq_true_eq] at h1 h2
    exact List.le_antisymm h1 h2
  · rw [List.pairwise_map]
    refine (sortS_sorted l).imp (fun {a b} hab => ?_)
    rw [decide_eq_true_eq]
    exact List.le_of_lt ((ltS_iff a b).1 hab)
end Go.Proofs.Ytcikmpcacakfbaa.Hand

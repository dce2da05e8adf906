/-
  Graphs as lists of edges: sorted keys, reachability, orders, levels (plain mathematics).
-/
import Derived.Test.YtofonbfpjfabbaaHandMap
namespace Go.Proofs.Ytofonbfpjfabbaa.Hand
set_option linter.unusedVariables false
set_option linter.unusedSimpArgs false
set_option linter.unusedSectionVars false
/-- A total strict order. -/
structure KOrd {κ : Type} (lt : κ → κ → Bool) : Prop where
  irrefl : ∀ a, lt a a = false
  trans : ∀ a b c, lt a b = true → lt b c = true → lt a c = true
  total : ∀ a b, lt a b = false → lt b a = false → a = b
theorem sorted_extG {α : Type} {lt : α → α → Prop} (hi : ∀ x, ¬ lt x x) (ht : ∀ x y z, lt x y → lt y z → lt x z) : ∀ {l k : List α}, l.Pairwise lt → k.Pairwise lt → (∀ x, x ∈ l ↔ x ∈ k) → l = k
  | [], [], _, _, _ => rfl
  | [], b :: k, _, _, h => by have := (h b).2 List.mem_cons_self; cases this
  | a :: l, [], _, _, h => by have := (h a).1 List.mem_cons_self; cases this
  | a :: l, b :: k, h1, h2, h => by
    rw [List.pairwise_cons] at h1 h2
    have e : a = b := by
      rcases List.mem_cons.1 ((h a).1 List.mem_cons_self) with e | e
      · exact e
      · rcases List.mem_cons.1 ((h b).2 List.mem_cons_self) with e' | e'
        · exact e'.symm
        · exact absurd (ht _ _ _ (h2.1 a e) (h1.1 b e')) (hi _)
    subst e
    congr 1
    refine sorted_extG hi ht h1.2 h2.2 (fun x => ⟨fun hx => ?_, fun hx => ?_⟩)
    · rcases List.mem_cons.1 ((h x).1 (List.mem_cons_of_mem _ hx)) with e | e
      · subst e; exact absurd (h1.1 _ hx) (hi _)
      · exact e
    · rcases List.mem_cons.1 ((h x).2 (List.mem_cons_of_mem _ hx)) with e | e
      · subst e; exact absurd (h2.1 _ hx) (hi _)
      · exact e
theorem snoc_indG {α : Type} {P : List α → Prop} (h0 : P []) (h : ∀ l x, P l → P (l ++ [x])) (l : List α) : P l := by
  rw [← List.reverse_reverse l]
  induction l.reverse with
  | nil => exact h0
  | cons x t ih => rw [List.reverse_cons]; exact h _ _ ih
section order
variable {κ : Type} [DecidableEq κ] (lt : κ → κ → Bool)
/-- Sorted, each once. -/
def Srt (l : List κ) : Prop := l.Pairwise (fun a b => lt a b = true)
/-- A key comes into its place. -/
def insK (res : List κ) (x : κ) : List κ := if res[(res.takeWhile (fun y => lt y x)).length]? ≠ some x then res.takeWhile (fun y => lt y x) ++ x :: res.dropWhile (fun y => lt y x) else res
def sortK (l : List κ) : List κ := l.foldl (insK lt) []
theorem sortK_snoc (l : List κ) (x : κ) : sortK lt (l ++ [x]) = insK lt (sortK lt l) x := by unfold sortK; rw [List.foldl_append]; rfl
theorem insK_len (res : List κ) (x : κ) : (insK lt res x).length ≤ res.length + 1 := by
  unfold insK
  split
  · have h : (res.takeWhile (fun y => lt y x) ++ res.dropWhile (fun y => lt y x)).length = res.length := by rw [List.takeWhile_append_dropWhile]
    rw [List.length_append] at h
    rw [List.length_append, List.length_cons]
    omega
  · omega
theorem sortK_len (l : List κ) : (sortK lt l).length ≤ l.length := by
  refine snoc_indG (P := fun l => (sortK lt l).length ≤ l.length) (Nat.le_refl _) (fun l x ih => ?_) l
  rw [sortK_snoc, List.length_append, List.length_singleton]
  have := insK_len lt (sortK lt l) x
  omega
theorem mem_insK {res : List κ} {x y : κ} : y ∈ insK lt res x ↔ y = x ∨ y ∈ res := by
  unfold insK
  have hsp := List.takeWhile_append_dropWhile (p := fun y => lt y x) (l := res)
  split
  · rw [List.mem_append, List.mem_cons]
    conv => rhs; rw [← hsp]
    rw [List.mem_append]
    constructor
    · rintro (h | h | h)
      · exact .inr (.inl h)
      · exact .inl h
      · exact .inr (.inr h)
    · rintro (h | h | h)
      · exact .inr (.inl h)
      · exact .inl h
      · exact .inr (.inr h)
  · next h =>
    refine ⟨.inr, fun h2 => h2.elim (fun e => ?_) id⟩
    simp only [ne_eq, Decidable.not_not] at h
    rw [e]
    exact List.mem_of_getElem? h
theorem mem_sortK {l : List κ} {y : κ} : y ∈ sortK lt l ↔ y ∈ l := by
  refine snoc_indG (P := fun l => y ∈ sortK lt l ↔ y ∈ l) (by simp [sortK]) (fun l x ih => ?_) l
  rw [sortK_snoc, mem_insK, ih, List.mem_append, List.mem_singleton]
  exact or_comm
variable {lt} (O : KOrd lt)
include O
theorem insK_srt {res : List κ} (x : κ) (h : Srt lt res) : Srt lt (insK lt res x) := by
  unfold insK
  unfold Srt at h ⊢
  have hsp := List.takeWhile_append_dropWhile (p := fun y => lt y x) (l := res)
  split
  · next hne =>
    rw [← hsp, List.pairwise_append] at h
    have htw : ∀ a ∈ res.takeWhile (fun y => lt y x), lt a x = true := fun a ha => by
      have := List.all_takeWhile (p := fun y => lt y x) (l := res)
      exact List.all_eq_true.1 this a ha
    have hdw : ∀ a ∈ res.dropWhile (fun y => lt y x), lt x a = true := by
      have hg : res[(res.takeWhile (fun y => lt y x)).length]? = (res.dropWhile (fun y => lt y x))[0]? := by
        have gen : ∀ (tw dw : List κ), tw ++ dw = res → res[tw.length]? = dw[0]? := by
          rintro tw dw rfl
          rw [List.getElem?_append_right (Nat.le_refl _), Nat.sub_self]
        exact gen _ _ hsp
      cases e : res.dropWhile (fun y => lt y x) with
      | nil => intro a ha; cases ha
      | cons b t =>
        have hb : lt b x = false := by
          have := List.head_dropWhile_not (l := res) (fun y => lt y x) (by rw [e]; simp)
          simpa [e] using this
        rw [hg, e] at hne
        have hbx : b ≠ x := fun h => hne (by rw [h]; rfl)
        have hxb : lt x b = true := by
          cases hh : lt x b with
          | true => rfl
          | false => exact absurd (O.total _ _ hb hh) hbx
        have hp := h.2.1
        rw [e, List.pairwise_cons] at hp
        intro a ha
        rcases List.mem_cons.1 ha with h' | h'
        · rw [h']; exact hxb
        · exact O.trans _ _ _ hxb (hp.1 a h')
    rw [List.pairwise_append, List.pairwise_cons]
    exact ⟨h.1, ⟨hdw, h.2.1⟩, fun a ha b hb => by
      rcases List.mem_cons.1 hb with e | e
      · rw [e]; exact htw a ha
      · exact h.2.2 a ha b e⟩
  · exact h
theorem sortK_srt (l : List κ) : Srt lt (sortK lt l) := by
  refine snoc_indG (P := fun l => Srt lt (sortK lt l)) List.Pairwise.nil (fun l x ih => ?_) l
  rw [sortK_snoc]
  exact insK_srt O x ih
theorem srt_ext {l k : List κ} (h1 : Srt lt l) (h2 : Srt lt k) (h : ∀ x, x ∈ l ↔ x ∈ k) : l = k :=
  sorted_extG (lt := fun a b => lt a b = true) (fun x => by rw [O.irrefl]; simp) (fun a b c => O.trans a b c) h1 h2 h
theorem sortK_ext {l k : List κ} (h : ∀ x, x ∈ l ↔ x ∈ k) : sortK lt l = sortK lt k :=
  srt_ext O (sortK_srt O l) (sortK_srt O k) (fun x => by rw [mem_sortK, mem_sortK]; exact h x)
theorem srt_nodup {l : List κ} (h : Srt lt l) : l.Nodup := h.imp (fun {a b} h e => by rw [e, O.irrefl] at h; cases h)
end order
section graph
variable {κ : Type} [DecidableEq κ]
/-- One edge or more leads from x to y. -/
inductive Tc (E : List (κ × κ)) : κ → κ → Prop
  | one {x y : κ} : (x, y) ∈ E → Tc E x y
  | more {x y z : κ} : Tc E x y → (y, z) ∈ E → Tc E x z
theorem Tc.trans {E : List (κ × κ)} {x y z : κ} (h : Tc E x y) (k : Tc E y z) : Tc E x z := by
  induction k with
  | one h2 => exact h.more h2
  | more _ h2 ih => exact ih.more h2
theorem Tc.mono {E F : List (κ × κ)} (hs : ∀ e ∈ E, e ∈ F) {x y : κ} (h : Tc E x y) : Tc F x y := by
  induction h with
  | one h => exact .one (hs _ h)
  | more _ h ih => exact ih.more (hs _ h)
theorem Tc.tgt {E : List (κ × κ)} {x y : κ} (h : Tc E x y) : ∃ z, (z, y) ∈ E := by
  cases h with
  | one h => exact ⟨_, h⟩
  | more _ h => exact ⟨_, h⟩
theorem Tc.src {E : List (κ × κ)} {x y : κ} (h : Tc E x y) : ∃ z, (x, z) ∈ E := by
  induction h with
  | one h => exact ⟨_, h⟩
  | more _ _ ih => exact ih
/-- The keys that are found so far, by one edge more. -/
def passOne (key : κ) (r : List κ) (e : κ × κ) : List κ := if (e.1 = key ∨ e.1 ∈ r) ∧ e.2 ∉ r then r ++ [e.2] else r
def passK (E : List (κ × κ)) (key : κ) (r : List κ) : List κ := E.foldl (passOne key) r
def iterK (E : List (κ × κ)) (key : κ) : Nat → List κ → List κ
  | 0, r => r
  | n + 1, r => iterK E key n (passK E key r)
def fixK (E : List (κ × κ)) (key : κ) : List κ := iterK E key (E.length + 1) []
theorem passOne_sub {key : κ} {r : List κ} {e : κ × κ} {x : κ} (h : x ∈ r) : x ∈ passOne key r e := by
  unfold passOne
  split
  · exact List.mem_append.2 (.inl h)
  · exact h
theorem passOne_len (key : κ) (r : List κ) (e : κ × κ) : r.length ≤ (passOne key r e).length := by
  unfold passOne
  split
  · simp
  · exact Nat.le_refl _
theorem passK_len (key : κ) : ∀ (E : List (κ × κ)) (r : List κ), r.length ≤ (passK E key r).length
  | [], r => Nat.le_refl _
  | e :: E, r => Nat.le_trans (passOne_len key r e) (passK_len key E _)
theorem passK_fix (key : κ) : ∀ (E : List (κ × κ)) (r : List κ), (passK E key r).length = r.length → passK E key r = r ∧ ∀ e ∈ E, (e.1 = key ∨ e.1 ∈ r) → e.2 ∈ r
  | [], r, _ => ⟨rfl, fun e he => by cases he⟩
  | e :: E, r, h => by
    have h1 := passOne_len key r e
    have h2 := passK_len key E (passOne key r e)
    have h3 : passK (e :: E) key r = passK E key (passOne key r e) := rfl
    rw [h3] at h
    have h4 : passOne key r e = r := by
      unfold passOne at h1 h2 h ⊢
      split
      · next c => rw [if_pos c] at h2 h; simp at h2; omega
      · rfl
    rw [h4] at h
    obtain ⟨h5, h6⟩ := passK_fix key E r h
    refine ⟨by rw [h3, h4, h5], fun f hf hk => ?_⟩
    rcases List.mem_cons.1 hf with rfl | hf
    · unfold passOne at h4
      by_cases c : (f.1 = key ∨ f.1 ∈ r) ∧ f.2 ∉ r
      · rw [if_pos c] at h4
        have := congrArg List.length h4
        simp at this
      · exact Classical.byContradiction (fun hn => c ⟨hk, hn⟩)
    · exact h6 f hf hk
/-- What the found keys bear. -/
structure Fnd (E : List (κ × κ)) (key : κ) (r : List κ) : Prop where
  nodup : r.Nodup
  reach : ∀ x ∈ r, Tc E key x
theorem passK_fnd {E0 : List (κ × κ)} {key : κ} : ∀ (E : List (κ × κ)) (r : List κ), (∀ e ∈ E, e ∈ E0) → Fnd E0 key r → Fnd E0 key (passK E key r)
  | [], r, _, h => h
  | e :: E, r, hs, h => by
    refine passK_fnd E _ (fun f hf => hs f (List.mem_cons_of_mem _ hf)) ?_
    unfold passOne
    split
    · next c =>
      refine ⟨List.nodup_append.2 ⟨h.nodup, by simp, fun a ha b hb e2 => ?_⟩, fun x hx => ?_⟩
      · rw [List.mem_singleton] at hb
        subst hb
        subst e2
        exact c.2 ha
      · rcases List.mem_append.1 hx with hx | hx
        · exact h.reach x hx
        · rw [List.mem_singleton] at hx
          subst hx
          have he := hs e List.mem_cons_self
          rcases c.1 with c1 | c1
          · rw [← c1]; exact .one he
          · exact (h.reach _ c1).more he
    · exact h
theorem fnd_len {E : List (κ × κ)} {key : κ} {r : List κ} (h : Fnd E key r) : r.length ≤ E.length := by
  have hs : ∀ x ∈ r, x ∈ E.map Prod.snd := fun x hx => by
    obtain ⟨z, hz⟩ := (h.reach x hx).tgt
    exact List.mem_map.2 ⟨_, hz, rfl⟩
  have : ∀ (l m : List κ), l.Nodup → (∀ x ∈ l, x ∈ m) → l.length ≤ m.length := by
    intro l
    induction l with
    | nil => intro m _ _; exact Nat.zero_le _
    | cons a l ih =>
      intro m hn hs
      rw [List.nodup_cons] at hn
      have ha := hs a List.mem_cons_self
      have := ih (m.erase a) hn.2 (fun x hx => (List.mem_erase_of_ne (fun e => hn.1 (by rw [← e]; exact hx))).2 (hs x (List.mem_cons_of_mem _ hx)))
      rw [List.length_erase_of_mem ha] at this
      have hp : 0 < m.length := List.length_pos_of_mem ha
      rw [List.length_cons]
      omega
  have := this r _ h.nodup hs
  rwa [List.length_map] at this
theorem sub_len {l m : List κ} (hn : l.Nodup) (hs : ∀ x ∈ l, x ∈ m) : l.length ≤ m.length := by
  induction l generalizing m with
  | nil => exact Nat.zero_le _
  | cons a l ih =>
    rw [List.nodup_cons] at hn
    have ha := hs a List.mem_cons_self
    have := ih (m := m.erase a) hn.2 (fun x hx => (List.mem_erase_of_ne (fun e => hn.1 (by rw [← e]; exact hx))).2 (hs x (List.mem_cons_of_mem _ hx)))
    rw [List.length_erase_of_mem ha] at this
    have hp : 0 < m.length := List.length_pos_of_mem ha
    rw [List.length_cons]
    omega
theorem iterK_fnd {E : List (κ × κ)} {key : κ} : ∀ (n : Nat) (r : List κ), Fnd E key r → Fnd E key (iterK E key n r)
  | 0, _, h => h
  | n + 1, r, h => iterK_fnd n _ (passK_fnd E r (fun _ h => h) h)
theorem iterK_stop {E : List (κ × κ)} {key : κ} : ∀ (n : Nat) (r : List κ), passK E key r = r → iterK E key n r = r
  | 0, _, _ => rfl
  | n + 1, r, h => by rw [iterK, h]; exact iterK_stop n r h
theorem iterK_grow {E : List (κ × κ)} {key : κ} : ∀ (n : Nat) (r : List κ), passK E key (iterK E key n r) = iterK E key n r ∨ r.length + n ≤ (iterK E key n r).length
  | 0, r => .inr (Nat.le_refl _)
  | n + 1, r => by
    by_cases c : (passK E key r).length = r.length
    · have h := (passK_fix key E r c).1
      refine .inl ?_
      rw [iterK_stop (n + 1) r h, h]
    · have h1 := passK_len key E r
      rcases iterK_grow n (passK E key r) with h | h
      · exact .inl h
      · exact .inr (by rw [iterK]; omega)
theorem fixK_fnd (E : List (κ × κ)) (key : κ) : Fnd E key (fixK E key) := iterK_fnd _ _ ⟨List.nodup_nil, fun x hx => by cases hx⟩
theorem fixK_fix (E : List (κ × κ)) (key : κ) : passK E key (fixK E key) = fixK E key := by
  rcases iterK_grow (E := E) (key := key) (E.length + 1) [] with h | h
  · exact h
  · have := fnd_len (fixK_fnd E key)
    unfold fixK at this
    simp at h
    omega
theorem closed_all {E : List (κ × κ)} {key : κ} {r : List κ} (h : ∀ e ∈ E, (e.1 = key ∨ e.1 ∈ r) → e.2 ∈ r) {x : κ} (hx : Tc E key x) : x ∈ r := by
  induction hx with
  | one he => exact h _ he (.inl rfl)
  | more _ he ih => exact h _ he (.inr ih)
theorem mem_fixK (E : List (κ × κ)) (key x : κ) : x ∈ fixK E key ↔ Tc E key x :=
  ⟨fun h => (fixK_fnd E key).reach x h, fun h => closed_all (passK_fix key E _ (by rw [fixK_fix])).2 h⟩
/-! ### the depth first search -/
/-- What is found (res) and what waits (pend), on the way from key; nx: where a key's edges lead. -/
structure Dfs (E : List (κ × κ)) (nx : κ → List κ) (key : κ) (res pend : List κ) : Prop where
  nodup : res.Nodup
  reach : ∀ x, x ∈ res ∨ x ∈ pend → Tc E key x
  first : ∀ x ∈ nx key, x ∈ res ∨ x ∈ pend
  next : ∀ y ∈ res, ∀ x ∈ nx y, x ∈ res ∨ x ∈ pend
theorem Dfs.start {E : List (κ × κ)} {nx : κ → List κ} (hnx : ∀ x y, y ∈ nx x ↔ (x, y) ∈ E) (key : κ) : Dfs E nx key [] (nx key) :=
  ⟨List.nodup_nil, fun x h => h.elim (fun h => by cases h) (fun h => .one ((hnx _ _).1 h)), fun x h => .inr h, fun y h => by cases h⟩
theorem Dfs.skip {E : List (κ × κ)} {nx : κ → List κ} {key k : κ} {res pend : List κ} (h : Dfs E nx key res (pend ++ [k])) (hk : k ∈ res) : Dfs E nx key res pend :=
  ⟨h.nodup, fun x hx => h.reach x (hx.elim .inl (fun hx => .inr (List.mem_append.2 (.inl hx)))),
    fun x hx => (h.first x hx).elim .inl (fun hx => (List.mem_append.1 hx).elim .inr (fun hx => .inl (by rw [List.mem_singleton.1 hx]; exact hk))),
    fun y hy x hx => (h.next y hy x hx).elim .inl (fun hx => (List.mem_append.1 hx).elim .inr (fun hx => .inl (by rw [List.mem_singleton.1 hx]; exact hk)))⟩
theorem Dfs.take {E : List (κ × κ)} {nx : κ → List κ} (hnx : ∀ x y, y ∈ nx x ↔ (x, y) ∈ E) {key k : κ} {res pend : List κ} (h : Dfs E nx key res (pend ++ [k])) (hk : k ∉ res) : Dfs E nx key (res ++ [k]) (pend ++ nx k) := by
  have hkr : Tc E key k := h.reach k (.inr (by simp))
  have conv : ∀ x, x ∈ res ∨ x ∈ pend ++ [k] → x ∈ res ++ [k] ∨ x ∈ pend ++ nx k := by
    intro x hx
    rcases hx with hx | hx
    · exact .inl (List.mem_append.2 (.inl hx))
    · rcases List.mem_append.1 hx with hx | hx
      · exact .inr (List.mem_append.2 (.inl hx))
      · exact .inl (List.mem_append.2 (.inr hx))
  refine ⟨List.nodup_append.2 ⟨h.nodup, by simp, fun a ha b hb e => hk (by rw [List.mem_singleton] at hb; rw [← hb, ← e]; exact ha)⟩, fun x hx => ?_, fun x hx => conv x (h.first x hx), fun y hy x hx => ?_⟩
  · rcases hx with hx | hx
    · rcases List.mem_append.1 hx with hx | hx
      · exact h.reach x (.inl hx)
      · rw [List.mem_singleton.1 hx]; exact hkr
    · rcases List.mem_append.1 hx with hx | hx
      · exact h.reach x (.inr (List.mem_append.2 (.inl hx)))
      · exact hkr.more ((hnx _ _).1 hx)
  · rcases List.mem_append.1 hy with hy | hy
    · exact conv x (h.next y hy x hx)
    · rw [List.mem_singleton.1 hy] at hx
      exact .inr (List.mem_append.2 (.inr hx))
theorem Dfs.done {E : List (κ × κ)} {nx : κ → List κ} (hnx : ∀ x y, y ∈ nx x ↔ (x, y) ∈ E) {key : κ} {res : List κ} (h : Dfs E nx key res []) (x : κ) : x ∈ res ↔ Tc E key x :=
  ⟨fun hx => h.reach x (.inl hx), fun hx => closed_all (r := res) (fun e he hk => by
    have hh : ∀ x, x ∈ res ∨ x ∈ ([] : List κ) → x ∈ res := fun x hx => hx.elim id (fun h => by cases h)
    rcases hk with hk | hk
    · exact hh _ (h.first _ ((hnx _ _).2 (by rw [← hk]; exact he)))
    · exact hh _ (h.next _ hk _ ((hnx _ _).2 he))) hx⟩
/-- How many rounds the search has left at most: the waiting, and where the keys lead that are not yet found (K: all keys). -/
def dfsM (nx : κ → List κ) (K res : List κ) (pend : List κ) : Nat := pend.length + ((K.filter (fun k => !decide (k ∈ res))).map (fun k => (nx k).length)).sum
theorem sum_filter_drop (f : κ → Nat) (k : κ) (res : List κ) (hk : k ∉ res) : ∀ (K : List κ), K.Nodup → ((K.filter (fun x => !decide (x ∈ res ++ [k]))).map f).sum + (if k ∈ K then f k else 0) = ((K.filter (fun x => !decide (x ∈ res))).map f).sum
  | [], _ => rfl
  | a :: K, hn => by
    rw [List.nodup_cons] at hn
    have ih := sum_filter_drop f k res hk K hn.2
    by_cases e : a = k
    · subst e
      rw [if_neg hn.1] at ih
      rw [List.filter_cons_of_neg (by simp), List.filter_cons_of_pos (by simp [hk]), if_pos List.mem_cons_self, List.map_cons, List.sum_cons]
      omega
    · have hm : k ∈ a :: K ↔ k ∈ K := by rw [List.mem_cons]; exact ⟨fun h => h.elim (fun h => absurd h.symm e) id, .inr⟩
      have hif : (if k ∈ a :: K then f k else 0) = (if k ∈ K then f k else 0) := by
        by_cases c : k ∈ K
        · rw [if_pos c, if_pos (hm.2 c)]
        · rw [if_neg c, if_neg (fun h => c (hm.1 h))]
      rw [hif]
      by_cases c : a ∈ res
      · rw [List.filter_cons_of_neg (by simp [c]), List.filter_cons_of_neg (by simp [c])]; exact ih
      · rw [List.filter_cons_of_pos (by simp [c, e]), List.filter_cons_of_pos (by simp [c]), List.map_cons, List.sum_cons, List.map_cons, List.sum_cons]
        omega
theorem dfsM_take (nx : κ → List κ) (K res pend : List κ) (k : κ) (hn : K.Nodup) (hk : k ∉ res) (hK : k ∉ K → nx k = []) : dfsM nx K (res ++ [k]) (pend ++ nx k) + 1 = dfsM nx K res (pend ++ [k]) := by
  unfold dfsM
  have h := sum_filter_drop (fun k => (nx k).length) k res hk K hn
  rw [List.length_append, List.length_append, List.length_singleton]
  by_cases c : k ∈ K
  · rw [if_pos c] at h
    omega
  · rw [if_neg c] at h
    rw [hK c, List.length_nil]
    omega
theorem dfsM_skip (nx : κ → List κ) (K res pend : List κ) (k : κ) : dfsM nx K res pend + 1 = dfsM nx K res (pend ++ [k]) := by
  unfold dfsM
  rw [List.length_append, List.length_singleton]
  omega
end graph
end Go.Proofs.Ytofonbfpjfabbaa.Hand

-- Written by gen.py (this repo's wip/), which runs the kit's print.py with more arms. Lean checks it.
import Derived.Test.YtcikmpcacakfbaaQJournalReadx0
import Derived.Test.YtcikmpcacakfbaaQJournalReadx2
import Derived.Test.YtcikmpcacakfbaaQJournalReadx4
namespace Go.Proofs.Ytcikmpcacakfbaa.QJournalRead
open Go.RowKit Go.Proofs.YtcikmpcacakfbaaW.PrintWords Go.Proofs.YtcikmpcacakfbaaW.PrintLast Go.Proofs.YtcikmpcacakfbaaW.PrintMore
attribute [local go_sem] max2_int min2_int max_two min_two max_three min_three max_four min_four   -- for this text's walks alone
set_option linter.unusedVariables false
set_option linter.unusedSimpArgs false

private theorem isEmpty_bne {α : Type} [BEq α] (l : List α) : (l != []) = !l.isEmpty := by cases l <;> rfl

section
open Go.Proofs.Ytcikmpcacakfbaa.Hand
def encR (r : S26) : List Value := [.string r.f0, .string r.f1, .bool r.f2]
instance : Inhabited S26 := ⟨z26⟩
theorem flat26 : Flat k26 encR where
  len := fun _ => rfl
  pos := by decide
  eq := fun W base ok x cs h => k26_openM h
  make := fun W base ok x => k26_mkM W base ok x
def cmpR (x y : S26) : Int := Lib.compareBytes x.f0.data.toList y.f0.data.toList
set_option maxHeartbeats 1000000 in
set_option maxRecDepth 100000 in
theorem compareString_calls (a b : ByteArray) (w : World) : Calls Try.prog 59 #[.string a, .string b] w fun e w' => e = .returned (.int .i64 (Lib.compareBytes a.data.toList b.data.toList)) ∧ w' = w := by
  go_enter Try.func59, Try.ntmps59
  go_wp2
  rw [run_callFunc_extern Try.func78 (by kernel_rfl) (by kernel_rfl) (by kernel_rfl) (e := Extern.BytealgCompare.compare) (by kernel_rfl), Lib.run_compareString]
  simp only [Result.andThen]
  rw [Oper.upon_value]
  go_wp2
  go_ret
  exact ⟨rfl, rfl⟩
set_option maxHeartbeats 1000000 in
set_option maxRecDepth 100000 in
theorem compare_calls (a b : ByteArray) (w : World) : Calls Try.prog 37 #[.string a, .string b] w fun e w' => e = .returned (.int .i64 (Lib.compareBytes a.data.toList b.data.toList)) ∧ w' = w := by
  go_enter Try.func37, Try.ntmps37
  go_wp2_with (go_at_call 59; refine (compareString_calls _ _ _).mono ?_; rintro e w' ⟨rfl, rfl⟩)
  go_ret
  exact ⟨rfl, rfl⟩
set_option maxHeartbeats 1000000 in
set_option maxRecDepth 100000 in
theorem cmp_calls (x y : S26) (W : World) : Calls Try.prog 36 #[.agg (encR x).toArray, .agg (encR y).toArray] W fun e w' => e = .returned (.int .i64 (cmpR x y)) ∧ ∃ q os', w' = Go.Sort.grow (W.drewN q) os' := by
  unfold cmpR encR
  generalize hr : Lib.compareBytes x.f0.data.toList y.f0.data.toList = r
  have HR := Aside0.mk hr
  clear hr
  go_enter Try.func36, Try.ntmps36
  go_wp2_with (go_at_call 37; refine (compare_calls _ _ _).mono ?_; rintro e w' ⟨rfl, rfl⟩; rw [HR.out])
  go_ret
  exact ⟨rfl, 0, _, by rw [Go.Sort.alloc_eq_grow, Go.Sort.alloc_eq_grow, Go.Sort.grow_grow]; rfl⟩
theorem less_eq : ∀ (x y : List UInt8), Op.bytesLess x y = decide (x < y)
  | [], [] => by simp [Op.bytesLess]
  | _ :: _, [] => by simp [Op.bytesLess]
  | [], _ :: _ => by simp [Op.bytesLess]
  | a :: x, b :: y => by
    rw [Op.bytesLess, less_eq x y]
    simp only [List.cons_lt_cons_iff]
    by_cases h1 : a < b <;> by_cases h2 : a = b <;> by_cases h3 : x < y <;> simp [h1, h2, h3]
theorem cmp_lt : ∀ (a b : List UInt8), (Lib.compareBytes a b < 0 ↔ a < b) ∧ (Lib.compareBytes a b = 0 ↔ a = b)
  | [], [] => by simp [Lib.compareBytes]
  | [], b :: bs => by simp [Lib.compareBytes]
  | a :: xs, [] => by simp [Lib.compareBytes]
  | a :: xs, b :: bs => by
    have ih := cmp_lt xs bs
    rw [Lib.compareBytes, List.cons_lt_cons_iff]
    by_cases h1 : a < b
    · rw [if_pos h1]
      refine ⟨⟨fun _ => .inl h1, fun _ => by decide⟩, ⟨fun h => (by cases h), fun h => ?_⟩⟩
      injection h with h _
      subst h
      exact absurd h1 (UInt8.lt_irrefl a)
    · rw [if_neg h1]
      by_cases h2 : b < a
      · rw [if_pos h2]
        refine ⟨⟨fun h => absurd h (by decide), fun h => ?_⟩, ⟨fun h => (by cases h), fun h => ?_⟩⟩
        · rcases h with h | ⟨h, _⟩
          · exact absurd h h1
          · subst h; exact absurd h2 (UInt8.lt_irrefl a)
        · injection h with h _
          subst h
          exact absurd h2 (UInt8.lt_irrefl a)
      · rw [if_neg h2]
        have e : a = b := UInt8.le_antisymm (UInt8.not_lt.1 h2) (UInt8.not_lt.1 h1)
        subst e
        refine ⟨ih.1.trans ⟨fun h => .inr ⟨rfl, h⟩, fun h => h.elim (fun h => absurd h h1) (fun h => h.2)⟩, ih.2.trans ⟨fun h => by rw [h], fun h => by injection h⟩⟩
theorem ltR_eq (x y : S26) : ltOf cmpR x y = ltS x.f0 y.f0 := by
  unfold ltOf cmpR ltS
  rw [less_eq]
  simp only [ByteArray.toList_eq]
  by_cases h : x.f0.data.toList < y.f0.data.toList
  · rw [decide_eq_true h, decide_eq_true ((cmp_lt _ _).1.2 h)]
  · rw [decide_eq_false h, decide_eq_false (fun e => h ((cmp_lt _ _).1.1 e))]
theorem ltS_iff (a b : ByteArray) : ltS a b = true ↔ a.data.toList < b.data.toList := by
  unfold ltS
  rw [less_eq, decide_eq_true_iff]
  simp only [ByteArray.toList_eq]
theorem ltS_irrefl (a : ByteArray) : ltS a a = false := by
  rw [Bool.eq_false_iff, Ne, ltS_iff]
  exact List.lt_irrefl _
theorem ltS_trans {a b c : ByteArray} (h : ltS a b = true) (k : ltS b c = true) : ltS a c = true := by
  rw [ltS_iff] at *
  exact List.lt_trans h k
theorem ltS_total {a b : ByteArray} (h : ltS a b = false) (k : ltS b a = false) : a = b := by
  rw [Bool.eq_false_iff, Ne, ltS_iff] at *
  have := List.le_antisymm (List.not_lt.1 k) (List.not_lt.1 h)
  exact ByteArray.ext (Array.toList_inj.mp this)
theorem ltS_ntrans {a b c : ByteArray} (h : ltS a b = false) (k : ltS b c = false) : ltS a c = false := by
  rw [Bool.eq_false_iff, Ne, ltS_iff, List.not_lt] at *
  exact List.le_trans k h
theorem swoR : Go.Sort.SWO (ltOf cmpR) where
  irrefl x := by rw [ltR_eq]; exact ltS_irrefl _
  trans x y z h1 h2 := by rw [ltR_eq] at *; exact ltS_trans h1 h2
  ntrans x y z h1 h2 := by rw [ltR_eq] at *; exact ltS_ntrans h1 h2
/-! The plain words -/
theorem sorted_ext {α : Type} {lt : α → α → Prop} (hi : ∀ x, ¬ lt x x) (ht : ∀ x y z, lt x y → lt y z → lt x z) : ∀ {l k : List α}, l.Pairwise lt → k.Pairwise lt → (∀ x, x ∈ l ↔ x ∈ k) → l = k
  | [], [], _, _, _ => rfl
  | [], b :: k, _, _, h => by have := (h b).2 List.mem_cons_self; cases this
  | a :: l, [], _, _, h => by have := (h a).1 List.mem_cons_self; cases this
  | a :: l, b :: k, h1, h2, h => by
    rw [List.pairwise_cons] at h1 h2
    have e : a = b := by
      rcases List.mem_cons.1 ((h a).1 List.mem_cons_self) with e | e
      · exact e
      · rcases List.mem_cons.1 ((h b).2 List.mem_cons_self) with e' | e'
        · exact e'.symm
        · exact absurd (ht _ _ _ (h2.1 a e) (h1.1 b e')) (hi _)
    subst e
    congr 1
    refine sorted_ext hi ht h1.2 h2.2 (fun x => ⟨fun hx => ?_, fun hx => ?_⟩)
    · rcases List.mem_cons.1 ((h x).1 (List.mem_cons_of_mem _ hx)) with e | e
      · subst e; exact absurd (h1.1 _ hx) (hi _)
      · exact e
    · rcases List.mem_cons.1 ((h x).2 (List.mem_cons_of_mem _ hx)) with e | e
      · subst e; exact absurd (h2.1 _ hx) (hi _)
      · exact e
theorem mem_insS {res : List ByteArray} {x y : ByteArray} : y ∈ insS res x ↔ y = x ∨ y ∈ res := by
  unfold insS
  have hsp := List.takeWhile_append_dropWhile (p := fun y => ltS y x) (l := res)
  split
  · rw [List.mem_append, List.mem_cons]
    conv => rhs; rw [← hsp]
    rw [List.mem_append]
    constructor
    · rintro (h | h | h)
      · exact .inr (.inl h)
      · exact .inl h
      · exact .inr (.inr h)
    · rintro (h | h | h)
      · exact .inr (.inl h)
      · exact .inl h
      · exact .inr (.inr h)
  · next h =>
    refine ⟨.inr, fun h2 => h2.elim (fun e => ?_) id⟩
    simp only [ne_eq, Decidable.not_not] at h
    rw [e]
    exact List.mem_of_getElem? h
theorem mem_sortS {l : List ByteArray} {y : ByteArray} : y ∈ sortS l ↔ y ∈ l := by
  have key : ∀ (l res : List ByteArray), y ∈ l.foldl insS res ↔ y ∈ res ∨ y ∈ l := by
    intro l
    induction l with
    | nil => intro res; simp
    | cons x l ih =>
      intro res
      rw [List.foldl_cons, ih, mem_insS, List.mem_cons]
      constructor
      · rintro ((h | h) | h)
        · exact .inr (.inl h)
        · exact .inl h
        · exact .inr (.inr h)
      · rintro (h | h | h)
        · exact .inl (.inr h)
        · exact .inl (.inl h)
        · exact .inr h
  unfold sortS
  rw [key]
  simp
theorem insS_sorted {res : List ByteArray} (x : ByteArray) (h : res.Pairwise (fun a b => ltS a b = true)) : (insS res x).Pairwise (fun a b => ltS a b = true) := by
  unfold insS
  have hsp := List.takeWhile_append_dropWhile (p := fun y => ltS y x) (l := res)
  split
  · next hne =>
    rw [← hsp, List.pairwise_append] at h
    have htw : ∀ a ∈ res.takeWhile (fun y => ltS y x), ltS a x = true := fun a ha => by
      have := List.all_takeWhile (p := fun y => ltS y x) (l := res)
      exact List.all_eq_true.1 this a ha
    have hdw : ∀ a ∈ res.dropWhile (fun y => ltS y x), ltS x a = true := by
      have hg : res[(res.takeWhile (fun y => ltS y x)).length]? = (res.dropWhile (fun y => ltS y x))[0]? := by
        have gen : ∀ (tw dw : List ByteArray), tw ++ dw = res → res[tw.length]? = dw[0]? := by
          rintro tw dw rfl
          rw [List.getElem?_append_right (Nat.le_refl _), Nat.sub_self]
        exact gen _ _ hsp
      cases e : res.dropWhile (fun y => ltS y x) with
      | nil => intro a ha; cases ha
      | cons b t =>
        have hb : ltS b x = false := by
          have := List.head_dropWhile_not (l := res) (fun y => ltS y x) (by rw [e]; simp)
          simpa [e] using this
        rw [hg, e] at hne
        have hbx : b ≠ x := fun h => hne (by rw [h]; rfl)
        have hxb : ltS x b = true := by
          cases hh : ltS x b with
          | true => rfl
          | false => exact absurd (ltS_total hb hh) hbx
        have hp := h.2.1
        rw [e, List.pairwise_cons] at hp
        intro a ha
        rcases List.mem_cons.1 ha with h' | h'
        · rw [h']; exact hxb
        · exact ltS_trans hxb (hp.1 a h')
    rw [List.pairwise_append, List.pairwise_cons]
    exact ⟨h.1, ⟨hdw, h.2.1⟩, fun a ha b hb => by
      rcases List.mem_cons.1 hb with e | e
      · rw [e]; exact htw a ha
      · exact h.2.2 a ha b e⟩
  · exact h
theorem sortS_sorted (l : List ByteArray) : (sortS l).Pairwise (fun a b => ltS a b = true) := by
  have key : ∀ (l res : List ByteArray), res.Pairwise (fun a b => ltS a b = true) → (l.foldl insS res).Pairwise (fun a b => ltS a b = true) := by
    intro l
    induction l with
    | nil => exact fun res h => h
    | cons x l ih => exact fun res h => ih _ (insS_sorted x h)
  exact key l [] List.Pairwise.nil
def lastR (l : List S26) (k : ByteArray) : Option S26 := l.reverse.find? (fun r => decide (r.f0 = k))
def stateM (l : List S26) : List (ByteArray × S26) := l.foldl (fun m r => mset m r.f0 r) []
def alive (o : Option S26) : Option S26 := match o with | some r => if r.f2 = true then none else some r | none => none
def stateR (l : List S26) : List S26 := (sortS (l.map (fun r => r.f0))).filterMap (fun k => alive (lastR l k))
theorem stateM_snoc (l : List S26) (r : S26) : stateM (l ++ [r]) = mset (stateM l) r.f0 r := by unfold stateM; rw [List.foldl_append]; rfl
theorem snoc_ind {α : Type} {P : List α → Prop} (h0 : P []) (h : ∀ l x, P l → P (l ++ [x])) (l : List α) : P l := by
  rw [← List.reverse_reverse l]
  induction l.reverse with
  | nil => exact h0
  | cons x t ih => rw [List.reverse_cons]; exact h _ _ ih
theorem mget_stateM (l : List S26) : ∀ k, mget (stateM l) k = lastR l k := by
  refine snoc_ind (P := fun l => ∀ k, mget (stateM l) k = lastR l k) (fun k => rfl) (fun l x ih k => ?_) l
  rw [stateM_snoc]
  unfold lastR
  rw [List.reverse_append, List.reverse_singleton, List.singleton_append]
  by_cases h : x.f0 = k
  · rw [List.find?_cons_of_pos (by simpa using h), ← h, mget_mset_same]
  · rw [List.find?_cons_of_neg (by simpa using h), mget_mset_ne _ _ h]
    exact ih k
theorem mem_keys {κ β : Type} [DecidableEq κ] {m : List (κ × β)} {x : κ} {v : β} {p : κ × β} (h : p ∈ mset m x v) : p = (x, v) ∨ (p ∈ m) := by
  induction m with
  | nil => rw [mset] at h; exact .inl (List.mem_singleton.1 h)
  | cons q t ih =>
    by_cases c : q.1 = x
    · rw [mset, if_pos c] at h
      rcases List.mem_cons.1 h with h | h
      · exact .inl h
      · exact .inr (List.mem_cons_of_mem _ h)
    · rw [mset, if_neg c] at h
      rcases List.mem_cons.1 h with h | h
      · exact .inr (h ▸ List.mem_cons_self)
      · exact (ih h).imp_right (List.mem_cons_of_mem _)
theorem keys_nodup {κ β : Type} [DecidableEq κ] {m : List (κ × β)} (x : κ) (v : β) (h : (m.map Prod.fst).Nodup) : ((mset m x v).map Prod.fst).Nodup := by
  induction m with
  | nil => simp [mset]
  | cons q t ih =>
    rw [List.map_cons, List.nodup_cons] at h
    by_cases c : q.1 = x
    · rw [mset, if_pos c, List.map_cons, List.nodup_cons]
      exact ⟨c ▸ h.1, h.2⟩
    · rw [mset, if_neg c, List.map_cons, List.nodup_cons]
      refine ⟨fun hm => ?_, ih h.2⟩
      obtain ⟨p, hp, e⟩ := List.mem_map.1 hm
      rcases mem_keys hp with e2 | e2
      · rw [e2] at e; exact c e.symm
      · exact h.1 (by rw [← e]; exact List.mem_map_of_mem e2)
theorem mget_mem_nodup {κ β : Type} [DecidableEq κ] {m : List (κ × β)} (h : (m.map Prod.fst).Nodup) {p : κ × β} (hp : p ∈ m) : mget m p.1 = some p.2 := by
  induction m with
  | nil => cases hp
  | cons q t ih =>
    rw [List.map_cons, List.nodup_cons] at h
    rw [mget]
    rcases List.mem_cons.1 hp with e | e
    · rw [e, if_pos rfl]
    · rw [if_neg (fun c => h.1 (by rw [c]; exact List.mem_map_of_mem e)), ih h.2 e]
theorem mget_mem' {κ β : Type} [DecidableEq κ] {m : List (κ × β)} {x : κ} {v : β} (h : mget m x = some v) : (x, v) ∈ m := by
  induction m with
  | nil => cases h
  | cons p t ih =>
    rw [mget] at h
    by_cases c : p.1 = x
    · rw [if_pos c] at h
      injection h with h
      subst h c
      exact List.mem_cons_self
    · rw [if_neg c] at h
      exact List.mem_cons_of_mem _ (ih h)
theorem stateM_keys (l : List S26) : ((stateM l).map Prod.fst).Nodup ∧ ∀ p ∈ stateM l, p.1 = p.2.f0 := by
  refine snoc_ind (P := fun l => ((stateM l).map Prod.fst).Nodup ∧ ∀ p ∈ stateM l, p.1 = p.2.f0) ⟨List.nodup_nil, fun p hp => (by cases hp)⟩ (fun l x ih => ?_) l
  rw [stateM_snoc]
  exact ⟨keys_nodup _ _ ih.1, fun p hp => (mem_keys hp).elim (fun e => by rw [e]) (ih.2 p)⟩
theorem lastR_key {l : List S26} {k : ByteArray} {r : S26} (h : lastR l k = some r) : r.f0 = k ∧ r ∈ l := by
  unfold lastR at h
  exact ⟨by simpa using List.find?_some h, by simpa using List.mem_of_find?_eq_some h⟩
theorem mem_stateR {l : List S26} {x : S26} : x ∈ stateR l ↔ x.f2 = false ∧ lastR l x.f0 = some x := by
  unfold stateR
  rw [List.mem_filterMap]
  constructor
  · rintro ⟨k, hk, he⟩
    unfold alive at he
    cases e : lastR l k with
    | none => rw [e] at he; cases he
    | some r =>
      rw [e] at he
      simp only at he
      split at he
      · cases he
      · next h2 =>
        injection he with he
        subst he
        rw [(lastR_key e).1]
        exact ⟨by simpa using h2, e⟩
  · rintro ⟨h1, h2⟩
    refine ⟨x.f0, mem_sortS.2 (List.mem_map_of_mem (f := fun r : S26 => r.f0) (lastR_key h2).2), ?_⟩
    rw [h2]
    unfold alive
    simp [h1]
theorem stateR_sorted (l : List S26) : (stateR l).Pairwise (fun a b => ltS a.f0 b.f0 = true) := by
  unfold stateR
  rw [List.pairwise_filterMap]
  refine (sortS_sorted _).imp (fun {a b} hab x hx y hy => ?_)
  have key : ∀ {k : ByteArray} {z : S26}, alive (lastR l k) = some z → z.f0 = k := fun {k z} h => by
    unfold alive at h
    cases e : lastR l k with
    | none => rw [e] at h; cases h
    | some r =>
      rw [e] at h
      simp only at h
      split at h
      · cases h
      · injection h with h
        subst h
        exact (lastR_key e).1
  rw [key hx, key hy]
  exact hab
theorem sinfo26 : (Try.prog.info? 26).map (fun i => (i.zero, i.size, i.bytes)) = some (some (.agg #[.string ⟨#[]⟩, .string ⟨#[]⟩, .bool false]), 3, 40) := by kernel_rfl
/-- What the second loop has gathered. -/
structure Got (m : List (ByteArray × S26)) (ix : List Nat) (res : List S26) : Prop where
  sub : ∀ x ∈ res, x.f2 = false ∧ ∃ i ∈ ix, ∃ p, m[i]? = some p ∧ p.2 = x
  all : ∀ i ∈ ix, ∀ p, m[i]? = some p → p.2.f2 = false → p.2 ∈ res
  nd : (res.map (fun r => r.f0)).Nodup
theorem Got.start (m : List (ByteArray × S26)) : Got m [] [] := ⟨fun x hx => (by cases hx), fun i hi => (by cases hi), List.nodup_nil⟩
theorem Got.skip {m : List (ByteArray × S26)} {ix : List Nat} {res : List S26} (h : Got m ix res) {i : Nat} {p : ByteArray × S26} (hp : m[i]? = some p) (hd : p.2.f2 = true) : Got m (i :: ix) res :=
  ⟨fun x hx => (h.sub x hx).imp_right (fun ⟨j, hj, e⟩ => ⟨j, List.mem_cons_of_mem _ hj, e⟩), fun j hj q hq hf => by
    rcases List.mem_cons.1 hj with e | e
    · subst e
      rw [hp] at hq
      rw [← Option.some.inj hq, hd] at hf
      cases hf
    · exact h.all j e q hq hf, h.nd⟩
theorem Got.more {m : List (ByteArray × S26)} {ix : List Nat} {res : List S26} (h : Got m ix res) (hm : (m.map Prod.fst).Nodup ∧ ∀ p ∈ m, p.1 = p.2.f0) {i : Nat} {p : ByteArray × S26} (hi : i ∉ ix) (hp : m[i]? = some p) (hd : p.2.f2 = false) : Got m (i :: ix) (res ++ [p.2]) := by
  refine ⟨fun x hx => ?_, fun j hj q hq hf => ?_, ?_⟩
  · rcases List.mem_append.1 hx with e | e
    · exact (h.sub x e).imp_right (fun ⟨j, hj, e⟩ => ⟨j, List.mem_cons_of_mem _ hj, e⟩)
    · obtain rfl := List.mem_singleton.1 e
      exact ⟨hd, i, List.mem_cons_self, p, hp, rfl⟩
  · rcases List.mem_cons.1 hj with e | e
    · subst e
      rw [hp] at hq
      rw [← Option.some.inj hq]
      exact List.mem_append_right _ (List.mem_singleton_self _)
    · exact List.mem_append_left _ (h.all j e q hq hf)
  · rw [List.map_append, List.nodup_append]
    refine ⟨h.nd, by simp, fun a ha b hb e => ?_⟩
    obtain ⟨x, hx, rfl⟩ := List.mem_map.1 ha
    simp at hb
    obtain ⟨_, j, hj, q, hq, rfl⟩ := h.sub x hx
    have e1 := hm.2 q (List.mem_of_getElem? hq)
    have e2 := hm.2 p (List.mem_of_getElem? hp)
    obtain ⟨hjl, hj2⟩ := List.getElem?_eq_some_iff.1 hq
    obtain ⟨hil, hi2⟩ := List.getElem?_eq_some_iff.1 hp
    have hji : j ≠ i := fun e => hi (e ▸ hj)
    have := (List.getElem_inj (xs := m.map Prod.fst) (i := j) (j := i) (h₀ := by simpa using hjl) (h₁ := by simpa using hil) hm.1).1 (by simp [hj2, hi2, e1, e2, e, hb])
    exact hji this
theorem sorted_is {l0 : List S26} {ix : List Nat} {res : List S26} (hG : Got (stateM l0) ix res) (hall : ∀ i, i < (stateM l0).length → i ∈ ix) {D : Array S26} (hP : D.toList.Perm res) (hS : ∀ i j, i < j → j < D.size → ltOf cmpR D[j]! D[i]! = false) : D.toList = stateR l0 := by
  have hk := stateM_keys l0
  refine sorted_ext (lt := fun a b : S26 => ltS a.f0 b.f0 = true) (fun x h => by rw [ltS_irrefl] at h; cases h) (fun x y z h k => ltS_trans h k) ?_ (stateR_sorted l0) (fun x => ?_)
  · rw [List.pairwise_iff_getElem]
    intro i j hi hj hij
    have hi' : i < D.size := by simpa using hi
    have hj' : j < D.size := by simpa using hj
    have h1 := hS i j hij hj'
    rw [ltR_eq, getElem!_pos D j hj', getElem!_pos D i hi'] at h1
    have hnd : (D.toList.map (fun r : S26 => r.f0)).Nodup := (hP.map _).nodup_iff.2 hG.nd
    cases h2 : ltS D.toList[i].f0 D.toList[j].f0 with
    | true => rfl
    | false =>
      have e := ltS_total h2 (by simpa using h1)
      have := (List.getElem_inj (xs := D.toList.map (fun r : S26 => r.f0)) (i := i) (j := j) (h₀ := by simpa using hi) (h₁ := by simpa using hj) hnd).1 (by simpa using e)
      omega
  · rw [hP.mem_iff, mem_stateR, ← mget_stateM]
    constructor
    · intro hx
      obtain ⟨h1, i, _, p, hp, rfl⟩ := hG.sub x hx
      have hm := List.mem_of_getElem? hp
      refine ⟨h1, ?_⟩
      rw [← hk.2 p hm]
      exact mget_mem_nodup hk.1 hm
    · rintro ⟨h1, h2⟩
      obtain ⟨i, hi, e⟩ := List.mem_iff_getElem.1 (mget_mem' h2)
      have hg : (stateM l0)[i]? = some (x.f0, x) := by rw [List.getElem?_eq_getElem hi, e]
      exact hG.all i (hall i hi) _ hg h1
theorem mset_len {κ β : Type} [DecidableEq κ] (m : List (κ × β)) (x : κ) (v : β) : (mset m x v).length ≤ m.length + 1 := by
  induction m with
  | nil => simp [mset]
  | cons q t ih =>
    rw [mset]
    split
    · simp
    · simp; omega
theorem stateM_len (l : List S26) : (stateM l).length ≤ l.length := by
  refine snoc_ind (P := fun l => (stateM l).length ≤ l.length) (Nat.le_refl _) (fun l x ih => ?_) l
  rw [stateM_snoc]
  have := mset_len (stateM l) x.f0 x
  simp
  omega
theorem lft_le {α : Type} (m : List α) (ix : List Nat) : lft m ix ≤ m.length := by
  unfold lft
  have := List.length_filter_le (fun i => !ix.contains i) (List.range m.length)
  simpa using this
def encM (m : List (ByteArray × S26)) : List (ByteArray × Value) := m.map (fun p => (p.1, Value.agg (encR p.2).toArray))
set_option maxRecDepth 100000 in
set_option maxHeartbeats 16000000 in
theorem state_calls (A0 : Option Addr) (c0 : Nat) (l0 : List S26) (w : World) (hr0 : Kd.C k26 w A0 l0.length l0) (hlim : l0.length < 1000000) :
    Calls Try.prog 9 #[.slice A0 l0.length c0] w fun e w' => ∃ v, e = .returned v ∧ Kd.R k26 26 w' w.heap.size (fun _ => True) v (stateR l0) ∧ Below w.heap.size w w' := by
  have HR0 := Aside0.mk hr0
  have HLIM := Aside0.mk hlim
  clear hr0 hlim
  have hmm := @run_makeMap Try.prog
  go_enter Try.func9, Try.ntmps9
  go_wp2
  go_loopg [12] l0.length (fun kq v12 W => ∃ i : Nat, v12 = .int .i64 (i : Int) ∧ kq + i = l0.length ∧ Aside0 (MapIs Value.string W w.heap.size (encM (stateM (l0.take i))) ∧ Below w.heap.size w W))
  case atStart => exact ⟨0, rfl, by omega, ⟨MapIs.new w, below_alloc (Below.refl _ _) _⟩⟩
  case round =>
    obtain ⟨i, rfl, hi, hA⟩ := hrel
    cases gk with
    | zero =>
      have HIL := Aside0.mk (show i = l0.length by omega)
      have hb : decide ((i : Int) < (l0.length : Int)) = false := decide_eq_false (by omega)
      have hb' : decide (i < l0.length) = false := decide_eq_false (by omega)
      clear hi
      have hmi := hA.out.1
      rw [HIL.out, List.take_length] at hmi
      obtain ⟨c, hrg, hit⟩ := hmi.range (P := Try.prog) Try.underlying68
      have HIT := Aside0.mk hit
      have HMB := Aside0.mk hmi.lt
      clear hit hmi
      obtain ⟨Wl, rfl⟩ : ∃ Wl, Wl = wr := ⟨_, rfl⟩
      obtain ⟨W1, hW1⟩ : ∃ W1, Wl.alloc (.mapIter (some w.heap.size) c #[] c) = W1 := ⟨_, rfl⟩
      have hb1 : Below Wl.heap.size Wl W1 := by rw [← hW1]; exact below_alloc (Below.refl _ _) _
      rw [hW1] at hrg HIT
      have HW1 := Aside0.mk (hA.out.2.trans (hb1.mono hA.out.2.size))
      have HSZ := Aside0.mk (show Wl.heap.size + 1 ≤ W1.heap.size by rw [← hW1, World.size_alloc]; exact Nat.le_refl _)
      have HL := Aside0.mk (show (stateM l0).length ≤ l0.length from stateM_len l0)
      clear hW1 hb1 hA
      go_wp2
      clear hb hb' hrg
      go_loopg [6] (lft (encM (stateM l0)) []) (fun kq v6 W => ∃ (ix : List Nat) (res : List S26) (A1 : Option Addr) (c1 : Nat), v6 = .slice A1 res.length c1 ∧ kq = lft (encM (stateM l0)) ix ∧ Aside0 (Got (stateM l0) ix res ∧ Itr Value.string W Wl.heap.size w.heap.size (encM (stateM l0)) ix ∧ Kd.R k26 26 W (Wl.heap.size + 1) (fun _ => True) (.slice A1 res.length c1) res ∧ Below w.heap.size w W ∧ Wl.heap.size + 1 ≤ W.heap.size ∧ ix.length + lft (encM (stateM l0)) ix ≤ (stateM l0).length ∧ res.length ≤ ix.length))
      case atStart => exact ⟨[], [], none, 0, rfl, rfl, ⟨Got.start _, HIT.out, Kd.R_nil _ _ _ _ _, HW1.out, HSZ.out, by have := lft_le (encM (stateM l0)) []; simpa [encM] using this, Nat.le_refl _⟩⟩
      case round =>
        obtain ⟨ix, res, A1, c1, rfl, hkq, hA⟩ := hrel
        have HKQ := Aside0.mk hkq
        clear hkq
        have hu26 := Try.underlying26
        rcases hA.out.2.1.next (P := Try.prog) 0 with ⟨hall, hrun⟩ | ⟨j, p, W2, hj, hp, hrun, hit2, hchg, hen⟩
        · have hnx : ∀ ty, (Instr.next (.pointer (some ⟨Wl.heap.size, 0, none⟩)) false ty).run Try.prog wr = _ := fun _ => hrun
          have HALL := Aside0.mk hall
          clear hall hrun
          have HN := Aside0.mk (show res.length ≤ 1000000 by have h1 := hA.out.2.2.2.2.2.1; have h2 := hA.out.2.2.2.2.2.2; have h3 := HL.out; have h4 := HLIM.out; omega)
          have HALL2 := Aside0.mk (show ∀ i, i < (stateM l0).length → i ∈ ix from fun i hi => HALL.out i (by simpa [encM] using hi))
          rcases own_head hA.out.2.2.1 with ⟨rfl, _, rfl, rfl⟩ | ⟨g, rfl, hcap, hbg, hgl⟩
          · have HE := Aside0.mk (show stateR l0 = [] from (sorted_is (D := #[]) hA.out.1 HALL2.out (by simp) (fun i j _ h => absurd h (Nat.not_lt_zero j))).symm)
            have HC := Aside0.mk (fun fv => AnyF.slices_SortFunc_none (P := Try.prog) SortRecLay_L none 0 fv wr)
            go_wp2_with (go_at_call 35; refine (HC.out _).mono ?_; rintro e w9 ⟨rfl, rfl⟩)
            go_ret
            exact ⟨_, rfl, by rw [HE.out]; exact Kd.R_nil _ _ _ _ _, hA.out.2.2.2.1⟩
          · obtain ⟨hH, hgl2, _⟩ := R_holds flat26 hA.out.2.2.1
            have eg : ∀ args w, (callFunc 36 args).run Try.prog w = .ok (.enter 36 args) w := enters_of Try.func36 (by kernel_rfl) rfl
            have hcon := AnyQ.slices_SortFunc (P := Try.prog) SortRecLay_L 3 Try.isAgg26 Try.sizeOf26 encR (fun _ => rfl) (fun x v hv => by simp [encR] at hv; rcases hv with rfl | rfl | rfl <;> rfl) cmpR swoR 36 #[] g 0 c1 res.toArray wr eg (fun _ _ _ _ x y => cmp_calls x y _) hH hgl2 (by have := HN.out; simp; omega)
            change Calls Try.prog 35 _ _ _ at hcon
            rw [List.size_toArray] at hcon
            have HC := Aside0.mk hcon
            clear hcon eg hH
            go_wp2_with (go_at_call 35; refine HC.out.mono ?_; rintro e w9 ⟨rfl, D, n9, os, hP, hS, rfl⟩; have HP := Aside0.mk hP; have HS := Aside0.mk hS; clear hP hS)
            go_ret
            have hsz : D.size = res.length := by have := HP.out.1; simpa using this
            have hD : D.toList = stateR l0 := sorted_is hA.out.1 HALL2.out (by
              have h := HP.out.2.2
              rw [← hsz] at h
              simp at h
              rw [hsz, List.take_length] at h
              exact h) (fun i j hij hj => HS.out i j (Nat.zero_le _) hij (by rw [← hsz]; exact hj))
            have hr := R_sorted flat26 hA.out.2.2.1 n9 D os hsz
            rw [hD] at hr
            have hlen : (stateR l0).length = res.length := by rw [← hD, ← hsz]; simp
            exact ⟨_, rfl, Kd.R_lower hr (by have := HMB.out; omega), hA.out.2.2.2.1.trans ((chg_sort (d := k26)).to_below (fun k _ e => by have := HMB.out; omega) hA.out.2.2.2.1.size)⟩
        · obtain ⟨q, hq, rfl⟩ : ∃ q, (stateM l0)[j]? = some q ∧ p = (q.1, Value.agg (encR q.2).toArray) := by
            rw [encM, List.getElem?_map] at hp
            cases e : (stateM l0)[j]? with
            | none => rw [e] at hp; cases hp
            | some q => rw [e] at hp; injection hp with hp; exact ⟨q, rfl, hp.symm⟩
          have hnx : ∀ ty, (Instr.next (.pointer (some ⟨Wl.heap.size, 0, none⟩)) false ty).run Try.prog wr = .ok (.tuple #[.bool true, .string q.1, .agg #[.string q.2.f0, .string q.2.f1, .bool q.2.f2]]) W2 := fun _ => hrun
          have hent : (Instr.entry (.pointer (some ⟨Wl.heap.size, 0, none⟩))).run Try.prog W2 = .ok (.tuple #[.string q.1, .agg #[.string q.2.f0, .string q.2.f1, .bool q.2.f2]]) W2 := hen W2 rfl rfl
          have hjl := (List.getElem?_eq_some_iff.1 hq).1
          have hlt := lft_cons (encM (stateM l0)) ix j (by simpa [encM] using hjl) hj
          have HQ := Aside0.mk (And.intro hq (And.intro hj (And.intro hit2 hchg)))
          have HLT := Aside0.mk hlt
          clear hrun hen hp hq hj hit2 hchg hlt
          go_upto_region 11 with (fail)
          obtain ⟨W3, hW3⟩ : ∃ W3, W2.alloc (.cells #[.string q.2.f0, .string q.2.f1, .bool q.2.f2] 26) = W3 := ⟨_, rfl⟩
          have hb3 : Below W2.heap.size W2 W3 := by rw [← hW3]; exact below_alloc (Below.refl _ _) _
          have hk3 : W3.heap[W2.heap.size]? = some (.cells #[.string q.2.f0, .string q.2.f1, .bool q.2.f2] 26 (0, 0)) := by rw [← hW3]; exact hb_new _ _
          rw [hW3]
          clear hW3 hnx hent
          have hc23 := HQ.out.2.2.2.trans (Chg.of_new (S := fun k => k = Wl.heap.size) hb3) (fun _ _ e => e)
          have HSZ3 := Aside0.mk (show Wl.heap.size + 1 ≤ W3.heap.size from Nat.le_trans hA.out.2.2.2.2.1 hc23.size)
          have HIT3 := Aside0.mk (HQ.out.2.2.1.move (hb3.block _ HQ.out.2.2.1.lt) (hb3.block _ (by have h1 := HMB.out; have h2 := HQ.out.2.2.1.lt; omega)))
          have HO3 := Aside0.mk (R_moveF flat26 hA.out.2.2.1 (fun k hk => hc23.block k (Kd.R_lt hA.out.2.2.1 k hk) (fun e => by have := Kd.R_base hA.out.2.2.1 k hk; omega)))
          have HBW3 := Aside0.mk (hA.out.2.2.2.1.trans (hc23.to_below (fun k _ e => by have := HMB.out; omega) hA.out.2.2.2.1.size))
          have x0 : W3.cell? ⟨W2.heap.size, 0, none⟩ = some (.string q.2.f0) := (cells_of_blk hk3 0).trans rfl
          have x1 : W3.cell? ⟨W2.heap.size, 1, none⟩ = some (.string q.2.f1) := (cells_of_blk hk3 1).trans rfl
          have x2 : W3.cell? ⟨W2.heap.size, 2, none⟩ = some (.bool q.2.f2) := (cells_of_blk hk3 2).trans rfl
          have HLI := Aside0.mk (show (res.length + 1) * 40 ≤ 140737488355328 by have h1 := hA.out.2.2.2.2.2.1; have h2 := hA.out.2.2.2.2.2.2; have h3 := HL.out; have h4 := HLIM.out; omega)
          obtain ⟨bd, hbd⟩ : ∃ bd, q.2.f2 = bd := ⟨_, rfl⟩
          rw [hbd] at x2
          have HBD := Aside0.mk hbd
          clear hb3 hk3 hc23 hbd
          cases bd with
          | true =>
            go_wp2
            go_roundg (lft (encM (stateM l0)) (j :: ix))
            case measure => rw [HKQ.out]; exact HLT.out
            case rel => exact ⟨j :: ix, res, A1, c1, rfl, rfl, ⟨hA.out.1.skip HQ.out.1 HBD.out, HIT3.out, HO3.out, HBW3.out, HSZ3.out, by have h1 := hA.out.2.2.2.2.2.1; have h2 := HLT.out; simp only [List.length_cons]; omega, by have := hA.out.2.2.2.2.2.2; simp only [List.length_cons]; omega⟩⟩
          | false =>
            have HMK := Aside0.mk (show k26.M W3 (Wl.heap.size + 1) (fun _ => False) q.2 [.string q.2.f0, .string q.2.f1, .bool false] by rw [← HBD.out]; exact k26_mkM _ _ _ q.2)
            go_wp2_with ((with_reducible refine gate_builtin (b := .append) (xs := #[.tmp 30, .tmp 32]) rfl ?_); at_builtin; refine Kd.R_append k26 (w0 := W3) (Wl.heap.size + 1) rfl (.tmp 30) (.tmp 32) 22 26 (.agg #[.string ⟨#[]⟩, .string ⟨#[]⟩, .bool false]) 40 rfl Try.underlying22 sinfo26 rfl (by decide) (by omega) (.slice A1 res.length c1) res q.2 [.string q.2.f0, .string q.2.f1, .bool false] (fun _ => True) (fun _ => False) rfl (by first | (go_simp; done) | (go_simp; rfl)) HMK.out (fun _ h => h.elim) (fun _ _ => trivial) HO3.out (Below.refl _ _) HSZ3.out HLI.out ?_; intro v5 w5 ho5 hb5 hg5 hat5; obtain ⟨A5, c5, hw5⟩ := Kd.R_slice ho5; subst hw5; have HO5 := Aside0.mk ho5; have HB5 := Aside0.mk hb5; clear ho5 hb5 hg5 hat5)
            go_roundg (lft (encM (stateM l0)) (j :: ix))
            case measure => rw [HKQ.out]; exact HLT.out
            case rel =>
              refine ⟨j :: ix, res ++ [q.2], A5, c5, by first | rfl | simp, rfl, ⟨hA.out.1.more (stateM_keys l0) HQ.out.2.1 HQ.out.1 HBD.out, HIT3.out.move (HB5.out.block _ (by omega)) (HB5.out.block _ (by have := HMB.out; omega)), HO5.out, ?_, Nat.le_trans HSZ3.out HB5.out.size, by have h1 := hA.out.2.2.2.2.2.1; have h2 := HLT.out; simp only [List.length_cons]; omega, by have := hA.out.2.2.2.2.2.2; simp only [List.length_cons, List.length_append, List.length_nil]; omega⟩⟩
              exact HBW3.out.trans (HB5.out.mono (by have := HMB.out; omega) |> fun h => h)
    | succ k2 =>
      have hb : decide ((i : Int) < (l0.length : Int)) = true := decide_eq_true (by omega)
      have hb' : decide (i < l0.length) = true := decide_eq_true (by omega)
      have hil : i < l0.length := by omega
      obtain ⟨x, hx⟩ : ∃ x, rd_T26 l0 (i : Int) = x := ⟨_, rfl⟩
      obtain ⟨ad, rfl, x0, x1, x2⟩ := at_T26 (Kd.C_below HR0.out hA.out.2) (i : Int) (by omega) (by omega)
      rw [hx, Int.toNat_natCast] at x0 x1 x2
      have r0 := eq_true (show (0 : Int) ≤ (i : Int) by omega)
      have r1 := eq_true (show (i : Int) < (l0.length : Int) by omega)
      have r2 := eq_true hil
      have HST := Aside0.mk (show stateM (l0.take (i + 1)) = mset (stateM (l0.take i)) x.f0 x by
        rw [← stateM_snoc, List.take_add_one, List.getElem?_eq_getElem hil]
        congr 2
        rw [← hx]; unfold rd_T26; rw [Int.toNat_natCast, List.getD_eq_getElem?_getD, List.getElem?_eq_getElem hil]; rfl)
      clear hil hx
      go_upto_region 5 with (fail)
      obtain ⟨W5, hW5⟩ : ∃ W5, wr.alloc (.cells #[.string x.f0, .string x.f1, .bool x.f2] 26) = W5 := ⟨_, rfl⟩
      have hb5 : Below wr.heap.size wr W5 := by rw [← hW5]; exact below_alloc (Below.refl _ _) _
      have hk5 : W5.heap[wr.heap.size]? = some (.cells #[.string x.f0, .string x.f1, .bool x.f2] 26 (0, 0)) := by rw [← hW5]; exact hb_new _ _
      rw [hW5]
      clear hW5 r0 r1 r2 hb hb' x0 x1 x2
      have x0 : W5.cell? ⟨wr.heap.size, 0, none⟩ = some (.string x.f0) := (cells_of_blk hk5 0).trans rfl
      have x1 : W5.cell? ⟨wr.heap.size, 1, none⟩ = some (.string x.f1) := (cells_of_blk hk5 1).trans rfl
      have x2 : W5.cell? ⟨wr.heap.size, 2, none⟩ = some (.bool x.f2) := (cells_of_blk hk5 2).trans rfl
      obtain ⟨W6, hrun, hm6, hg6⟩ := (hA.out.1.below hb5 hA.out.1.lt).update (keyLaw_string Try.underlying9) Try.underlying68 x.f0 (.agg (encR x).toArray)
      have hrun' : (Instr.mapUpdate 68 (.map (some w.heap.size)) (.string x.f0) (.agg #[.string x.f0, .string x.f1, .bool x.f2])).run Try.prog W5 = .ok () W6 := hrun
      have HM6 := Aside0.mk hm6
      have HB6 := Aside0.mk (show Below w.heap.size w W6 from (hA.out.2.trans (hb5.mono hA.out.2.size)).trans ((Chg.of_grown (S := fun k => k = w.heap.size) hg6 (fun k e => (Option.some.inj e).symm)).to_below (fun k _ e => by omega) (Nat.le_trans hA.out.2.size hb5.size)))
      clear hrun hm6 hg6 hb5 hk5
      go_wp2
      go_roundg k2
      case measure => omega
      case rel => exact ⟨i + 1, by congr 1; have := HLIM.out; unfold wrap64; omega, by omega, ⟨by
        rw [HST.out, encM, mset_map (fun r : S26 => Value.agg (encR r).toArray)]
        exact HM6.out, HB6.out⟩⟩
end
def journal_State.f (l0 : List (S26)) : Option (List (S26)) := if l0.length < 1000000 then some (stateR l0) else none
theorem journal_State.calls (A0 : Option Addr) (c0 : Nat) (l0 : List (S26)) (r : List (S26)) (w : World) (hr0 : Kd.C k26 w A0 l0.length l0) (hc0 : l0.length ≤ c0) (h : journal_State.f l0 = some r) :
    Calls Try.prog 9 #[.slice A0 l0.length c0] w fun e w' => ∃ v0_ : Value, e = .returned (v0_) ∧ Kd.R k26 26 w' w.heap.size (fun _ => True) v0_ r ∧ Below w.heap.size w w' := by
  unfold journal_State.f at h
  split at h
  case isFalse => cases h
  next hl =>
  obtain rfl := Option.some.inj h
  exact state_calls A0 c0 l0 w hr0 hl

/-! ### journal_Compact: function 12 -/
def journal_Compact.l0 : Nat → ByteArray → List (S26) → Int → Int → Option (ByteArray × Int)
  | 0, _, _, _, _ => none
  | k + 1, x7, x20, x21, x22 => if x22 < x21 then (if 0 ≤ x22 then (if x22 < (x20.length : Int) then ((journal_payload.f ((rd_T26 x20 x22).f0) ((rd_T26 x20 x22).f1) ((rd_T26 x20 x22).f2)).bind fun t183 => ((journal_frame.f k t183).bind fun t184 => (if x7.size + t184.size ≤ 9223372036854775807 then (journal_Compact.l0 k (x7 ++ t184) x20 x21 (wrap64 (x22 + 1))) else (none)))) else (none)) else (none)) else (some (x7, 0))
def journal_Compact.f (k : Nat) (a0 : ByteArray) : Option (ByteArray × Int) := (journal_Read.f k a0).bind fun bt173 => (if bt173.2.2 = 0 then ((journal_State.f bt173.1).bind fun t178 => (journal_Compact.l0 k (⟨#[]⟩ : ByteArray) t178 (t178.length : Int) 0)) else (some ((⟨#[]⟩ : ByteArray), bt173.2.2)))
theorem journal_Compact.mono_l : ∀ k, (∀ y0 y1 y2 y3, LeO (journal_Compact.l0 k y0 y1 y2 y3) (journal_Compact.l0 (k + 1) y0 y1 y2 y3))
  | 0 => fun _ _ _ _ r h => by simp [journal_Compact.l0] at h
  | k + 1 => by
    have ih0 := journal_Compact.mono_l k
    · intro y0 y1 y2 y3
      unfold journal_Compact.l0
      repeat' first
      | (with_reducible exact ih0 _ _ _ _)
      | (with_reducible exact journal_Read.mono _ _)
      | (with_reducible exact journal_frame.mono _ _)
      | (with_reducible exact LeO.refl _)
      | (with_reducible exact LeO.none _)
      | (with_reducible refine LeO.ite ?_ ?_)
      | (with_reducible refine LeO.bind ?_ (fun _ => ?_))
      | exact ih0 _ _ _ _
      | exact journal_Read.mono _ _
      | exact journal_frame.mono _ _
      | exact LeO.none _
      | refine LeO.ite ?_ ?_
      | refine LeO.bind ?_ (fun _ => ?_)
theorem journal_Compact.mono : ∀ a0 k, LeO (journal_Compact.f k a0) (journal_Compact.f (k + 1) a0) := by
  intro a0 k
  have ih0 := journal_Compact.mono_l k
  unfold journal_Compact.f
  repeat' first
      | (with_reducible exact ih0 _ _ _ _)
      | (with_reducible exact journal_Read.mono _ _)
      | (with_reducible exact journal_frame.mono _ _)
      | (with_reducible exact LeO.refl _)
      | (with_reducible exact LeO.none _)
      | (with_reducible refine LeO.ite ?_ ?_)
      | (with_reducible refine LeO.bind ?_ (fun _ => ?_))
      | exact ih0 _ _ _ _
      | exact journal_Read.mono _ _
      | exact journal_frame.mono _ _
      | exact LeO.none _
      | refine LeO.ite ?_ ?_
      | refine LeO.bind ?_ (fun _ => ?_)
set_option maxHeartbeats 8000000 in
set_option maxRecDepth 100000 in
theorem journal_Compact.calls (k : Nat) (a0 : ByteArray) (r1 : ByteArray) (r2 : Int) (w : World) (h : journal_Compact.f k a0 = some (r1, r2)) :
    Calls Try.prog 12 #[.string a0] w fun e w' => e = .returned (.tuple #[.string r1, .int .i64 r2]) ∧ Below w.heap.size w w' := by
  have hu26 := Try.underlying26
  have HB := Aside0.mk (Below.refl w.heap.size w)
  have H : ((journal_Read.f k a0).bind fun bt173 => (if bt173.2.2 = 0 then ((journal_State.f bt173.1).bind fun t178 => (journal_Compact.l0 k (⟨#[]⟩ : ByteArray) t178 (t178.length : Int) 0)) else (some ((⟨#[]⟩ : ByteArray), bt173.2.2)))) = some (r1, r2) := h
  clear h
  replace H := Option.bind_eq_some_iff.mp H
  obtain ⟨⟨t173, t174, t175⟩, A20, H⟩ := H
  replace H : (if t175 = 0 then ((journal_State.f t173).bind fun t178 => (journal_Compact.l0 k (⟨#[]⟩ : ByteArray) t178 (t178.length : Int) 0)) else (some ((⟨#[]⟩ : ByteArray), t175))) = some (r1, r2) := H
  have A2 := Aside0.mk A20
  clear A20
  by_cases c3 : t175 = 0
  · rw [if_pos c3] at H
    have c3b0 : (t175 == 0) = true := beq_iff_eq.mpr c3
    have c3b1 : (t175 != 0) = false := bne_eq_false_iff_eq.mpr c3
    clear c3
    replace H := Option.bind_eq_some_iff.mp H
    obtain ⟨t178, A40, H⟩ := H
    replace H : (journal_Compact.l0 k (⟨#[]⟩ : ByteArray) t178 (t178.length : Int) 0) = some (r1, r2) := H
    have A4 := Aside0.mk A40
    clear A40
    have H' := Aside0.mk H
    clear H
    go_enter Try.func12, Try.ntmps12
    go_wp2_with (first | ((with_reducible refine gate_callee (f := 11) rfl ?_); refine goesL_ (some 12) rfl rfl Try.func11 (by kernel_rfl) rfl #[.string a0] rfl (by (try simp only [List.map_toArray, List.map_cons, List.map_nil]); first | done | rfl | (simp only [List.length_drop, List.length_take]; rfl)) ?_; (with_reducible refine (journal_Read.calls k a0 t173 t174 t175 _ A2.out).mono ?_); rintro e w5 ⟨v176, rfl, ho0, hb⟩; refine ⟨_, rfl, ?_⟩; have n0_ := Aside0.mk (Kd.R_lower ho0 (below_size (by repeat (first | (with_reducible first | exact HB.out | apply below_alloc | apply pw_below_drewN | apply below_drew1) | exact HB.out)))); have n1_ := Aside0.mk (below_step (by repeat (first | (with_reducible first | exact HB.out | apply below_alloc | apply pw_below_drewN | apply below_drew1) | exact HB.out)) hb); clear HB; have HO177 := n0_; have HB := n1_; clear n0_ n1_; (try clear hb); (try clear hb2); (try clear hk); (try clear hi); (try clear ho0); obtain ⟨Ao6, co6, eo6⟩ := Kd.R_slice HO177.out; subst eo6) | ((with_reducible refine gate_callee (f := 9) rfl ?_); refine goesL_ (some 20) rfl rfl Try.func9 (by kernel_rfl) rfl #[.slice Ao6 t173.length co6] rfl (by (try simp only [List.map_toArray, List.map_cons, List.map_nil]); first | done | rfl | (simp only [List.length_drop, List.length_take]; rfl)) ?_; (with_reducible refine (journal_State.calls _ _ t173 t178 _ ?side1 ?side2 A4.out).mono ?_); (case side1 => repeat (first | exact (Kd.R_reads' HO177.out).2.2 | (with_reducible refine Kd.C_alloc ?_ _) | (with_reducible refine Kd.C_drewN ?_ _) | (with_reducible refine Kd.C_drew ?_))); (case side2 => exact (Kd.R_reads' HO177.out).2.1); rintro e w7 ⟨v179, rfl, ho0, hb⟩; refine ⟨_, rfl, ?_⟩; have n0_ := Aside0.mk (Kd.R_elder' (by (with_reducible repeat (first | apply Kd.R_alloc | apply Kd.R_drewN | apply Kd.R_drew)); exact HO177.out) (Kd.R_base ho0) hb); have n1_ := Aside0.mk (Kd.R_lower (Kd.R_new' ho0 (Kd.R_lt (by (with_reducible repeat (first | apply Kd.R_alloc | apply Kd.R_drewN | apply Kd.R_drew)); exact HO177.out))) (below_size (by repeat (first | (with_reducible first | exact HB.out | apply below_alloc | apply pw_below_drewN | apply below_drew1) | exact HB.out)))); have n2_ := Aside0.mk (below_step (by repeat (first | (with_reducible first | exact HB.out | apply below_alloc | apply pw_below_drewN | apply below_drew1) | exact HB.out)) hb); clear HO177; clear HB; have HO177 := n0_; have HO180 := n1_; have HB := n2_; clear n0_ n1_ n2_; (try clear hb); (try clear hb2); (try clear hk); (try clear hi); (try clear ho0); obtain ⟨Ao8, co8, eo8⟩ := Kd.R_slice HO180.out; subst eo8))
    go_loopg [7, 22] k (fun kq v7 v22 w' => ∃ (x7_1 : ByteArray) (x22_1 : Int), v7 = .string x7_1 ∧ v22 = .int .i64 x22_1 ∧ Aside0 (journal_Compact.l0 kq x7_1 t178 (t178.length : Int) x22_1 = some (r1, r2)) ∧ Aside0 (kq ≤ k) ∧ Aside0 (Kd.R k26 26 w' w.heap.size (fun _ => True) (.slice Ao8 t178.length co8) t178) ∧ Aside0 (Below w.heap.size w w'))
    case atStart => exact ⟨((⟨#[]⟩ : ByteArray)), (0), (by first | rfl | (simp; done) | (simp [*]; done) | (simp [isEmpty_bne]; done)), (by first | rfl | (simp; done) | (simp [*]; done) | (simp [isEmpty_bne]; done)), H', ⟨Nat.le_refl _⟩, ⟨by (with_reducible repeat (first | apply Kd.R_alloc | apply Kd.R_drewN | apply Kd.R_drew)); exact Kd.R_mono HO180.out (fun _ hk => trivial)⟩, ⟨by repeat (first | (with_reducible first | exact HB.out | apply below_alloc | apply pw_below_drewN | apply below_drew1) | exact HB.out)⟩⟩
    case round =>
      clear H'
      try clear c1
      try clear p2
      try clear c3
      try clear c3b0
      try clear c3b1
      obtain ⟨x7_1, x22_1, rfl, rfl, HA, HK1, HO_20, HB⟩ := hrel
      cases gk with
      | zero => exact absurd HA.out (by simp [journal_Compact.l0])
      | succ k1 =>
        have H := HA.out
        clear HA
        simp only [journal_Compact.l0] at H
        by_cases c9 : x22_1 < (t178.length : Int)
        · rw [if_pos c9] at H
          have c9b0 : decide (x22_1 < (t178.length : Int)) = true := decide_eq_true c9
          clear c9
          by_cases c10 : 0 ≤ x22_1
          · rw [if_pos c10] at H
            have c10b0 : decide (0 ≤ x22_1) = true := decide_eq_true c10
            clear c10
            by_cases c11 : x22_1 < (t178.length : Int)
            · rw [if_pos c11] at H
              have c11b0 : decide (x22_1 < (t178.length : Int)) = true := decide_eq_true c11
              clear c11
              replace H := Option.bind_eq_some_iff.mp H
              obtain ⟨t183, A120, H⟩ := H
              replace H : ((journal_frame.f k1 t183).bind fun t184 => (if x7_1.size + t184.size ≤ 9223372036854775807 then (journal_Compact.l0 k1 (x7_1 ++ t184) t178 (t178.length : Int) (wrap64 (x22_1 + 1))) else (none))) = some (r1, r2) := H
              have A12 := Aside0.mk A120
              clear A120
              replace H := Option.bind_eq_some_iff.mp H
              obtain ⟨t184, A130, H⟩ := H
              replace H : (if x7_1.size + t184.size ≤ 9223372036854775807 then (journal_Compact.l0 k1 (x7_1 ++ t184) t178 (t178.length : Int) (wrap64 (x22_1 + 1))) else (none)) = some (r1, r2) := H
              have A13 := Aside0.mk A130
              clear A130
              by_cases c14 : x7_1.size + t184.size ≤ 9223372036854775807
              · rw [if_pos c14] at H
                have c14b0 := eq_true c14
                have c14b1 : decide (x7_1.size + t184.size ≤ 9223372036854775807) = true := decide_eq_true c14
                try have c14b2 : (9223372036854775807 < x7_1.size + t184.size) = False := eq_false (Nat.not_lt.2 c14)
                have H' := Aside0.mk H
                clear H
                have p181 : 0 ≤ (x22_1 : Int) := of_decide_eq_true (by first | (with_reducible assumption) | assumption)
                have q181 : x22_1 < (t178.length : Int) := of_decide_eq_true (by first | (with_reducible assumption) | assumption)
                obtain ⟨ad181, e181, hx181_0, hx181_1, hx181_2⟩ := at_T26 (Kd.R_reads' HO_20.out).2.2 x22_1 p181 q181
                cases e181
                replace p181 := eq_true p181
                replace q181 := eq_true q181
                go_wp2_with (first | ((with_reducible refine gate_dst (N := 9) rfl ?_); refine box_event ?hg (N := 9) ?hd (cs := #[.string (⟨#[]⟩ : ByteArray), .string (⟨#[]⟩ : ByteArray), .bool false]) (t := 26) ?hr ?_; (case hd => rfl); (case hg => rfl); (case hr => first | (go_simp; done) | (go_simp; rfl)); intro gb182 hg w15 hbox hb; have n0_ := Aside0.mk (Kd.R_below (Kd.R_elderB (by (with_reducible repeat (first | apply Kd.R_alloc | apply Kd.R_drewN | apply Kd.R_drew)); exact HO_20.out) gb182 (Nat.le_of_eq hg.symm)) hb); have n1_ := Aside0.mk (below_step (by repeat (first | (with_reducible first | exact HB.out | apply below_alloc | apply pw_below_drewN | apply below_drew1) | exact HB.out)) hb); have n2_ := Aside0.mk (hbox); have n3_ := Aside0.mk ((by rw [hg]; exact (below_size (by repeat (first | (with_reducible first | exact HB.out | apply below_alloc | apply pw_below_drewN | apply below_drew1) | exact HB.out))) : w.heap.size ≤ gb182)); have n4_ := Aside0.mk ((by rw [hg]; exact (below_size (by repeat (first | (with_reducible first | exact HB.out | apply below_alloc | apply pw_below_drewN | apply below_drew1) | exact HB.out))) : w.heap.size ≤ gb182)); clear HO_20; clear HB; have HO_20 := n0_; have HB := n1_; have BK182 := n2_; have GW182 := n3_; have GE182 := n4_; clear n0_ n1_ n2_ n3_ n4_; clear hb hbox hg; have hcz16_0 : w15.cell? ⟨gb182, 0, none⟩ = some (.string (⟨#[]⟩ : ByteArray)) := (blk_cell BK182.out 0).trans rfl; have hcz16_1 : w15.cell? ⟨gb182, 1, none⟩ = some (.string (⟨#[]⟩ : ByteArray)) := (blk_cell BK182.out 1).trans rfl; have hcz16_2 : w15.cell? ⟨gb182, 2, none⟩ = some (.bool false) := (blk_cell BK182.out 2).trans rfl; have hfz16_0 := blk_frozen BK182.out 0; have hfz16_1 := blk_frozen BK182.out 1; have hfz16_2 := blk_frozen BK182.out 2) | ((with_reducible refine gate_callee (f := 41) rfl ?_); refine goesL_ (some 28) rfl rfl Try.func41 (by kernel_rfl) rfl #[.agg #[.string ((rd_T26 t178 x22_1).f0), .string ((rd_T26 t178 x22_1).f1), .bool ((rd_T26 t178 x22_1).f2)]] rfl (by (try simp only [List.map_toArray, List.map_cons, List.map_nil]); first | done | rfl | (simp only [List.length_drop, List.length_take]; rfl)) ?_; (with_reducible refine (journal_payload.calls ((rd_T26 t178 x22_1).f0) ((rd_T26 t178 x22_1).f1) ((rd_T26 t178 x22_1).f2) t183 _ A12.out).mono ?_); rintro e w17 ⟨rfl, hb⟩; refine ⟨_, rfl, ?_⟩; have n0_ := Aside0.mk (Kd.R_below (by (with_reducible repeat (first | apply Kd.R_alloc | apply Kd.R_drewN | apply Kd.R_drew)); exact (Kd.R_mono (Kd.R_far (p := ⟨gb182, 2, none⟩) (Kd.R_far (p := ⟨gb182, 1, none⟩) (Kd.R_far (p := ⟨gb182, 0, none⟩) (Kd.R_mono HO_20.out (fun k_ hk => (⟨hk, hk.2⟩ : _ ∧ k_ ≠ gb182))) (fun _ hk => hk.2) (.string ((rd_T26 t178 x22_1).f0))) (fun _ hk => hk.2) (.string ((rd_T26 t178 x22_1).f1))) (fun _ hk => hk.2) (.bool ((rd_T26 t178 x22_1).f2))) (fun _ h_ => h_.1))) hb); have n1_ := Aside0.mk (blk_below (g := gb182) (o := .cells #[.string ((rd_T26 t178 x22_1).f0), .string ((rd_T26 t178 x22_1).f1), .bool ((rd_T26 t178 x22_1).f2)] 26 (0, 0)) (by (with_reducible repeat (first | refine blk_drewN ?_ _ | refine blk_drew ?_ | refine blk_alloc ?_ _)); refine blk_put (cs := #[.string ((rd_T26 t178 x22_1).f0), .string ((rd_T26 t178 x22_1).f1), .bool false]) ?_ 2 _ rfl; (with_reducible repeat (first | refine blk_drewN ?_ _ | refine blk_drew ?_ | refine blk_alloc ?_ _)); refine blk_put (cs := #[.string ((rd_T26 t178 x22_1).f0), .string (⟨#[]⟩ : ByteArray), .bool false]) ?_ 1 _ rfl; (with_reducible repeat (first | refine blk_drewN ?_ _ | refine blk_drew ?_ | refine blk_alloc ?_ _)); refine blk_put (cs := #[.string (⟨#[]⟩ : ByteArray), .string (⟨#[]⟩ : ByteArray), .bool false]) ?_ 0 _ rfl; (with_reducible repeat (first | refine blk_drewN ?_ _ | refine blk_drew ?_ | refine blk_alloc ?_ _)); exact BK182.out) hb); have n2_ := Aside0.mk (below_step (by repeat (first | (with_reducible first | exact HB.out | apply below_alloc | apply pw_below_drewN | apply below_drew1 | refine below_set ?_ GE182.out) | exact HB.out)) hb); clear HO_20; clear BK182; clear HB; have HO_20 := n0_; have BK182 := n1_; have HB := n2_; clear n0_ n1_ n2_; (try clear hb); (try clear hb2); (try clear hk); (try clear hi)) | ((with_reducible refine gate_callee (f := 40) rfl ?_); refine goesL_ (some 29) rfl rfl Try.func40 (by kernel_rfl) rfl #[.string t183] rfl (by (try simp only [List.map_toArray, List.map_cons, List.map_nil]); first | done | rfl | (simp only [List.length_drop, List.length_take]; rfl)) ?_; (with_reducible refine (journal_frame.calls k1 t183 t184 _ A13.out).mono ?_); rintro e w18 ⟨rfl, hb⟩; refine ⟨_, rfl, ?_⟩; have n0_ := Aside0.mk (Kd.R_below (by (with_reducible repeat (first | apply Kd.R_alloc | apply Kd.R_drewN | apply Kd.R_drew)); exact HO_20.out) hb); have n1_ := Aside0.mk (blk_below (g := gb182) (o := .cells #[.string ((rd_T26 t178 x22_1).f0), .string ((rd_T26 t178 x22_1).f1), .bool ((rd_T26 t178 x22_1).f2)] 26 (0, 0)) (by (with_reducible repeat (first | refine blk_drewN ?_ _ | refine blk_drew ?_ | refine blk_alloc ?_ _)); exact BK182.out) hb); have n2_ := Aside0.mk (below_step (by repeat (first | (with_reducible first | exact HB.out | apply below_alloc | apply pw_below_drewN | apply below_drew1 | refine below_set ?_ GE182.out) | exact HB.out)) hb); clear HO_20; clear BK182; clear HB; have HO_20 := n0_; have BK182 := n1_; have HB := n2_; clear n0_ n1_ n2_; (try clear hb); (try clear hb2); (try clear hk); (try clear hi)))
                go_roundg k1
                case measure => have := HK1.out; omega
                case rel => exact ⟨(x7_1 ++ t184), (wrap64 (x22_1 + 1)), (by first | rfl | (simp; done) | (simp [*]; done) | (simp [isEmpty_bne]; done)), (by first | rfl | (simp; done) | (simp [*]; done) | (simp [isEmpty_bne]; done)), H', ⟨by have := HK1.out; omega⟩, ⟨by (with_reducible repeat (first | apply Kd.R_alloc | apply Kd.R_drewN | apply Kd.R_drew)); exact Kd.R_mono HO_20.out (fun _ hk => trivial)⟩, ⟨by repeat (first | (with_reducible first | exact HB.out | apply below_alloc | apply pw_below_drewN | apply below_drew1 | refine below_set ?_ GE182.out) | exact HB.out)⟩⟩
              · rw [if_neg c14] at H
                exact absurd H (by simp)
            · rw [if_neg c11] at H
              exact absurd H (by simp)
          · rw [if_neg c10] at H
            exact absurd H (by simp)
        · rw [if_neg c9] at H
          have c9b0 : decide (x22_1 < (t178.length : Int)) = false := decide_eq_false c9
          clear c9
          simp only [Option.some.injEq, Prod.mk.injEq] at H
          obtain ⟨rfl, rfl⟩ := H
          go_wp2
          go_ret2
          exact ⟨by first | rfl | (simp [errW_none, errW_some] <;> rfl) | (simp [*, errW_none, errW_some] <;> rfl), by repeat (first | (with_reducible first | exact HB.out | apply below_alloc | apply pw_below_drewN | apply below_drew1) | exact HB.out)⟩
  · rw [if_neg c3] at H
    have c3b0 : (t175 == 0) = false := beq_eq_false_iff_ne.mpr c3
    have c3b1 : (t175 != 0) = true := bne_iff_ne.mpr c3
    simp only [Option.some.injEq, Prod.mk.injEq] at H
    obtain ⟨rfl, rfl⟩ := H
    go_enter Try.func12, Try.ntmps12
    go_wp2_with (first | ((with_reducible refine gate_callee (f := 11) rfl ?_); refine goesL_ (some 12) rfl rfl Try.func11 (by kernel_rfl) rfl #[.string a0] rfl (by (try simp only [List.map_toArray, List.map_cons, List.map_nil]); first | done | rfl | (simp only [List.length_drop, List.length_take]; rfl)) ?_; (with_reducible refine (journal_Read.calls k a0 t173 t174 t175 _ A2.out).mono ?_); rintro e w19 ⟨v176, rfl, ho0, hb⟩; refine ⟨_, rfl, ?_⟩; have n0_ := Aside0.mk (Kd.R_lower ho0 (below_size (by repeat (first | (with_reducible first | exact HB.out | apply below_alloc | apply pw_below_drewN | apply below_drew1) | exact HB.out)))); have n1_ := Aside0.mk (below_step (by repeat (first | (with_reducible first | exact HB.out | apply below_alloc | apply pw_below_drewN | apply below_drew1) | exact HB.out)) hb); clear HB; have HO177 := n0_; have HB := n1_; clear n0_ n1_; (try clear hb); (try clear hb2); (try clear hk); (try clear hi); (try clear ho0)))
    go_ret2
    exact ⟨by first | rfl | (simp [errW_none, errW_some] <;> rfl) | (simp [*, errW_none, errW_some] <;> rfl), by repeat (first | (with_reducible first | exact HB.out | apply below_alloc | apply pw_below_drewN | apply below_drew1) | exact HB.out)⟩

/-! ### glossatorref3_number32: function 42 -/
def glossatorref3_number32.f (a0 : Int) : Option (ByteArray) := some (strOfNums (([(a0 / 16777216) % 256, (a0 / 65536) % 256, (a0 / 256) % 256, (a0) % 256] : List Int)))
set_option maxHeartbeats 8000000 in
set_option maxRecDepth 100000 in
theorem glossatorref3_number32.calls (a0 : Int) (r : ByteArray) (w : World) (h : glossatorref3_number32.f a0 = some r) :
    Calls Try.prog 42 #[.int .u32 a0] w fun e w' => e = .returned (.string r) ∧ Below w.heap.size w w' := by
  have HB := Aside0.mk (Below.refl w.heap.size w)
  have H : (some (strOfNums (([(a0 / 16777216) % 256, (a0 / 65536) % 256, (a0 / 256) % 256, (a0) % 256] : List Int)))) = some r := h
  clear h
  obtain ⟨y185, hy185⟩ : ∃ y_ : List Int, y_ = (([(a0 / 16777216) % 256, (a0 / 65536) % 256, (a0 / 256) % 256, (a0) % 256] : List Int)) := ⟨_, rfl⟩
  replace H : (some (strOfNums y185)) = some r := by first | (rw [hy185]; with_reducible exact H) | (have H2_ := (Option.bind_some _ _).symm.trans H; rw [hy185]; with_reducible exact H2_) | (have H2_ := (Option.bind_some _ _).symm.trans H; with_reducible exact H2_) | with_reducible exact H | (rw [hy185]; exact H) | exact H
  have Ny185 := Aside0.mk hy185
  clear hy185
  obtain rfl := Option.some.inj H
  go_enter Try.func42, Try.ntmps42
  go_wp2_with (first | ((with_reducible refine gate_dst (N := 14) rfl ?_); refine Kd.R_lit (Kd.int .u8) _ 5 ?hg (N := 14) ?hd (xs := ([(a0 / 16777216) % 256, (a0 / 65536) % 256, (a0 / 256) % 256, (a0) % 256] : List Int)) (inner := [.int .u8 ((a0 / 16777216) % 256), .int .u8 ((a0 / 65536) % 256), .int .u8 ((a0 / 256) % 256), .int .u8 ((a0) % 256)]) (ok := fun _ => True) (okp := fun _ => True) ?hr ?hp (fun _ hk => hk) trivial (Below.refl _ _) (Nat.le_refl _) (by simp) ?_; (case hd => rfl); (case hg => rfl); (case hr => first | (go_simp; done) | (go_simp; rfl)); (case hp => exact (Reps.one (show Kd.M (Kd.int .u8) _ _ _ ((a0 / 16777216) % 256) [.int .u8 ((a0 / 16777216) % 256)] from rfl) (Reps.one (show Kd.M (Kd.int .u8) _ _ _ ((a0 / 65536) % 256) [.int .u8 ((a0 / 65536) % 256)] from rfl) (Reps.one (show Kd.M (Kd.int .u8) _ _ _ ((a0 / 256) % 256) [.int .u8 ((a0 / 256) % 256)] from rfl) (Reps.one (show Kd.M (Kd.int .u8) _ _ _ ((a0) % 256) [.int .u8 ((a0) % 256)] from rfl) (Reps.none _ _)))))); intro v186 w2 ho3 hb hg_ hnew_; clear hg_ hnew_; (first | rw [← Ny185.out] at ho3 | (simp only [Int.reduceToNat] at ho3; rw [← Ny185.out] at ho3)); have n0_ := Aside0.mk (Kd.R_lower ho3 (below_size (by repeat (first | (with_reducible first | exact HB.out | apply below_alloc | apply pw_below_drewN | apply below_drew1) | exact HB.out)))); have n1_ := Aside0.mk (below_step (by repeat (first | (with_reducible first | exact HB.out | apply below_alloc | apply pw_below_drewN | apply below_drew1) | exact HB.out)) hb); clear HB; have HO187 := n0_; have HB := n1_; clear n0_ n1_; clear hb ho3; have hcv4 := own_string (P := Try.prog) Try.underlying76 Try.underlying5 Try.underlying9 (Kd.own_of_R HO187.out)))
  go_ret
  exact ⟨by first | rfl | (simp [errW_none, errW_some] <;> rfl) | (simp [*, errW_none, errW_some] <;> rfl), by repeat (first | (with_reducible first | exact HB.out | apply below_alloc | apply pw_below_drewN | apply below_drew1) | exact HB.out)⟩

/-! ### glossatorref3_Checksum: function 43 -/
def glossatorref3_Checksum.l0 : Nat → ByteArray → Int → Int → Int → Option (Int)
  | 0, _, _, _, _ => none
  | k + 1, x0, x3, x6, x7 => if x7 < x6 then (if 0 ≤ x7 then (if x7 < (x0.size : Int) then (glossatorref3_Checksum.l0 k x0 (Int.tmod (IntKind.u64.wrap ((Go.bits .xor .u64 x3 (IntKind.u64.wrap (bt x0 x7))) * 16777619)) 4294967296) x6 (wrap64 (x7 + 1))) else (none)) else (none)) else (some ((x3) % 4294967296))
def glossatorref3_Checksum.f (k : Nat) (a0 : ByteArray) : Option (Int) := glossatorref3_Checksum.l0 k a0 2166136261 (a0.size : Int) 0
theorem glossatorref3_Checksum.mono_l : ∀ k, (∀ y0 y1 y2 y3, LeO (glossatorref3_Checksum.l0 k y0 y1 y2 y3) (glossatorref3_Checksum.l0 (k + 1) y0 y1 y2 y3))
  | 0 => fun _ _ _ _ r h => by simp [glossatorref3_Checksum.l0] at h
  | k + 1 => by
    have ih0 := glossatorref3_Checksum.mono_l k
    · intro y0 y1 y2 y3
      unfold glossatorref3_Checksum.l0
      repeat' first
      | (with_reducible exact ih0 _ _ _ _)
      | (with_reducible exact LeO.refl _)
      | (with_reducible exact LeO.none _)
      | (with_reducible refine LeO.ite ?_ ?_)
      | (with_reducible refine LeO.bind ?_ (fun _ => ?_))
      | exact ih0 _ _ _ _
      | exact LeO.none _
      | refine LeO.ite ?_ ?_
      | refine LeO.bind ?_ (fun _ => ?_)
theorem glossatorref3_Checksum.mono : ∀ a0 k, LeO (glossatorref3_Checksum.f k a0) (glossatorref3_Checksum.f (k + 1) a0) := by
  intro a0 k
  have ih0 := glossatorref3_Checksum.mono_l k
  unfold glossatorref3_Checksum.f
  repeat' first
      | (with_reducible exact ih0 _ _ _ _)
      | (with_reducible exact LeO.refl _)
      | (with_reducible exact LeO.none _)
      | (with_reducible refine LeO.ite ?_ ?_)
      | (with_reducible refine LeO.bind ?_ (fun _ => ?_))
      | exact ih0 _ _ _ _
      | exact LeO.none _
      | refine LeO.ite ?_ ?_
      | refine LeO.bind ?_ (fun _ => ?_)
set_option maxHeartbeats 8000000 in
set_option maxRecDepth 100000 in
theorem glossatorref3_Checksum.calls (k : Nat) (a0 : ByteArray) (r : Int) (w : World) (h : glossatorref3_Checksum.f k a0 = some r) :
    Calls Try.prog 43 #[.string a0] w fun e w' => e = .returned (.int .u32 r) ∧ Drawn0 w w' := by
  have H : (glossatorref3_Checksum.l0 k a0 2166136261 (a0.size : Int) 0) = some r := h
  clear h
  have H' := Aside0.mk H
  clear H
  go_enter Try.func43, Try.ntmps43
  go_wp2
  go_loopg [3, 7] k (fun kq v3 v7 w' => ∃ (x3_1 : Int) (x7_1 : Int), v3 = .int .u64 x3_1 ∧ v7 = .int .i64 x7_1 ∧ Aside0 (glossatorref3_Checksum.l0 kq a0 x3_1 (a0.size : Int) x7_1 = some r) ∧ Aside0 (kq ≤ k) ∧ Drawn0 w w')
  case atStart => exact ⟨(2166136261), (0), (by first | rfl | (simp; done) | (simp [*]; done) | (simp [isEmpty_bne]; done)), (by first | rfl | (simp; done) | (simp [*]; done) | (simp [isEmpty_bne]; done)), H', ⟨Nat.le_refl _⟩, by repeat (first | exact Drawn0.refl _ | apply Drawn0.step)⟩
  case round =>
    clear H'
    obtain ⟨x3_1, x7_1, rfl, rfl, HA, HK1, ⟨m1, rfl⟩⟩ := hrel
    cases gk with
    | zero => exact absurd HA.out (by simp [glossatorref3_Checksum.l0])
    | succ k1 =>
      have H := HA.out
      clear HA
      simp only [glossatorref3_Checksum.l0] at H
      by_cases c2 : x7_1 < (a0.size : Int)
      · rw [if_pos c2] at H
        have c2b0 : decide (x7_1 < (a0.size : Int)) = true := decide_eq_true c2
        clear c2
        by_cases c3 : 0 ≤ x7_1
        · rw [if_pos c3] at H
          have c3b0 : decide (0 ≤ x7_1) = true := decide_eq_true c3
          clear c3
          by_cases c4 : x7_1 < (a0.size : Int)
          · rw [if_pos c4] at H
            have c4b0 : decide (x7_1 < (a0.size : Int)) = true := decide_eq_true c4
            clear c4
            have H' := Aside0.mk H
            clear H
            have p5 : 0 ≤ (x7_1 : Int) := of_decide_eq_true (by first | (with_reducible assumption) | assumption)
            have q5 : x7_1 < (a0.size : Int) := of_decide_eq_true (by first | (with_reducible assumption) | assumption)
            have hx5 := bt_at a0 x7_1
            replace p5 := eq_true p5
            replace q5 := eq_true q5
            go_wp2
            go_roundg k1
            case measure => have := HK1.out; omega
            case rel => exact ⟨(Int.tmod (IntKind.u64.wrap ((Go.bits .xor .u64 x3_1 (IntKind.u64.wrap (bt a0 x7_1))) * 16777619)) 4294967296), (wrap64 (x7_1 + 1)), (by first | rfl | (simp; done) | (simp [*]; done) | (simp [isEmpty_bne]; done)), (by first | rfl | (simp; done) | (simp [*]; done) | (simp [isEmpty_bne]; done)), H', ⟨by have := HK1.out; omega⟩, by repeat (first | exact Drawn0.refl _ | apply Drawn0.step)⟩
          · rw [if_neg c4] at H
            exact absurd H (by simp)
        · rw [if_neg c3] at H
          exact absurd H (by simp)
      · rw [if_neg c2] at H
        have c2b0 : decide (x7_1 < (a0.size : Int)) = false := decide_eq_false c2
        clear c2
        obtain rfl := Option.some.inj H
        go_wp2
        go_ret
        exact ⟨by first | rfl | (simp; done) | (simp [*]; done), by repeat (first | exact Drawn0.refl _ | apply Drawn0.step)⟩

end Go.Proofs.Ytcikmpcacakfbaa.QJournalRead

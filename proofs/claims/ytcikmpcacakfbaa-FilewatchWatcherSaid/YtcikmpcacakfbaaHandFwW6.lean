/-
  FilewatchWatcher: the program's watcher and the reference's answer alike; equal batches are found equal (pure).
-/
import Derived.Test.YtcikmpcacakfbaaHandFwW5
import Derived.Test.YtcikmpcacakfbaaQFilewatchBatchesx5
import Derived.Test.YtcikmpcacakfbaaQFilewatchBatchesx4
namespace Go.Proofs.Ytcikmpcacakfbaa.QFilewatchBatches
open Go.RowKit Go.Proofs.YtcikmpcacakfbaaW.PrintWords Go.Proofs.YtcikmpcacakfbaaW.PrintLast Go.Proofs.YtcikmpcacakfbaaW.PrintMore Go.Proofs.Ytcikmpcacakfbaa.Hand Go.Proofs.Ytcikmpcacakfbaa.Aid
set_option linter.unusedVariables false
set_option linter.unusedSimpArgs false
theorem dropJ {α : Type} {xs t : List α} {x : α} {i : Nat} (h : xs.drop i = x :: t) : i < xs.length ∧ xs.drop (i + 1) = t ∧ (∀ d, xs.getD ((i : Int)).toNat d = x) ∧ xs.take (i + 1) = xs.take i ++ [x] := by
  have hl : i < xs.length := by
    rcases Nat.lt_or_ge i xs.length with h1 | h1
    · exact h1
    · rw [List.drop_eq_nil_of_le h1] at h; cases h
  rw [List.drop_eq_getElem_cons hl] at h
  injection h with h1 h2
  refine ⟨hl, h2, fun d => ?_, ?_⟩
  · rw [Int.toNat_natCast, List.getD_eq_getElem?_getD, List.getElem?_eq_getElem hl]
    exact h1
  · rw [List.take_add_one, List.getElem?_eq_getElem hl, h1]
    rfl
theorem eqE_l0 (xs : List S58) (hx : xs.length ≤ 140737488355328) : ∀ (t : List S58) (i : Nat), xs.drop i = t → Ev (fun k => api_QFileEvent_45.l0 k xs xs (xs.length : Int) (i : Int)) true
  | [], i, h => by
    have : xs.length ≤ i := by simpa using h
    exact Ev.some' (fun k => by simp only [api_QFileEvent_45.l0]; rw [if_neg (by omega)])
  | x :: t, i, h => by
    obtain ⟨h1, h2, h3, _⟩ := dropJ h
    refine Ev.stepK (eqE_l0 xs hx t (i + 1) h2) (fun k => ?_)
    simp only [api_QFileEvent_45.l0]
    rw [if_pos (by omega), if_pos (by omega), if_pos (by omega), if_pos (by omega), if_neg (by simp), wrap_id (by omega) (by omega)]
    rfl
theorem eqE (xs : List S58) (hx : xs.length ≤ 140737488355328) : Ev (fun k => api_QFileEvent_45.f k xs xs) true :=
  Ev.same (eqE_l0 xs hx xs 0 rfl) (fun k => by unfold api_QFileEvent_45.f; rw [if_pos rfl]; rfl)
theorem eqB_l0 (xs : List S60) (hx : xs.length ≤ 140737488355328) (hy : ∀ b ∈ xs, b.f1.length ≤ 140737488355328) : ∀ (t : List S60) (i : Nat), xs.drop i = t → Ev (fun k => glossatorref3_EqualBatches.l0 k xs xs (xs.length : Int) (i : Int)) true
  | [], i, h => by
    have : xs.length ≤ i := by simpa using h
    exact Ev.some' (fun k => by simp only [glossatorref3_EqualBatches.l0]; rw [if_neg (by omega)])
  | x :: t, i, h => by
    obtain ⟨h1, h2, h3, _⟩ := dropJ h
    have hxm : x ∈ xs := List.mem_of_mem_drop (i := i) (by rw [h]; exact List.mem_cons_self)
    have hrd : rd_T60 xs (i : Int) = x := h3 z60
    refine Ev.stepK (f := fun k => (api_QFileEvent_45.f k x.f1 x.f1).bind fun t154 => (if t154 = true then (glossatorref3_EqualBatches.l0 k xs xs (xs.length : Int) ((i + 1 : Nat) : Int)) else (some false))) ?_ (fun k => ?_)
    · exact Ev.bind (eqE x.f1 (hy x hxm)) (Ev.pos rfl (eqB_l0 xs hx hy t (i + 1) h2))
    · simp only [glossatorref3_EqualBatches.l0]
      rw [if_pos (by omega), if_pos (by omega), if_pos (by omega), if_pos (by omega), if_pos trivial, hrd, wrap_id (by omega) (by omega)]
      rfl
theorem eqB (xs : List S60) (hx : xs.length ≤ 140737488355328) (hy : ∀ b ∈ xs, b.f1.length ≤ 140737488355328) : Ev (fun k => glossatorref3_EqualBatches.f k xs xs) true :=
  Ev.same (eqB_l0 xs hx hy xs 0 rfl) (fun k => by unfold glossatorref3_EqualBatches.f; rw [if_pos rfl]; rfl)
theorem refEv_snoc (es : List S58) (e : S58) (x : ByteArray) : refEv (es ++ [e]) x = refStep x (refEv es x) e := by unfold refEv; rw [List.foldl_append]; rfl
theorem nbMap_get (es : List S58) (x : ByteArray) : (x ∈ es.map S58.f1 → mget (nbMap es) x = some (refEv es x)) ∧ (x ∉ es.map S58.f1 → mget (nbMap es) x = none ∧ refEv es x = ⟨0, x, 0⟩) := by
  refine snoc_ind (P := fun es => (x ∈ es.map S58.f1 → mget (nbMap es) x = some (refEv es x)) ∧ (x ∉ es.map S58.f1 → mget (nbMap es) x = none ∧ refEv es x = ⟨0, x, 0⟩)) ⟨fun h => by simp at h, fun _ => ⟨rfl, rfl⟩⟩ (fun es e ih => ?_) es
  rw [nbMap_snoc, nbStep, refEv_snoc, refStep]
  by_cases h : e.f1 = x
  · subst h
    have hf : ((mget (nbMap es) e.f1).getD z58).f2 = (refEv es e.f1).f2 := by
      by_cases c : e.f1 ∈ es.map S58.f1
      · rw [ih.1 c]; rfl
      · rw [(ih.2 c).1, (ih.2 c).2]; rfl
    rw [mget_mset_same, if_pos rfl, hf]
    exact ⟨fun _ => rfl, fun hn => absurd (by simp) hn⟩
  · have hm : x ∈ (es ++ [e]).map S58.f1 ↔ x ∈ es.map S58.f1 := by
      rw [List.map_append, List.mem_append]
      exact ⟨fun hh => hh.elim id (fun h2 => absurd (by simpa using h2 : x = e.f1).symm h), .inl⟩
    rw [mget_mset_ne _ _ h, if_neg h]
    exact ⟨fun hh => ih.1 (hm.1 hh), fun hn => ih.2 (fun c => hn (hm.2 c))⟩
theorem mem_mset_keys {β : Type} (m : List (ByteArray × β)) (x y : ByteArray) (v : β) : y ∈ (mset m x v).map Prod.fst ↔ y = x ∨ y ∈ m.map Prod.fst := by
  induction m with
  | nil => simp [mset]
  | cons p t ih =>
    rw [mset]
    by_cases c : p.1 = x
    · rw [if_pos c]
      simp only [List.map_cons, List.mem_cons, c]
      exact ⟨fun h => h.elim .inl (fun h => .inr (.inr h)), fun h => h.elim .inl (fun h => h.elim .inl .inr)⟩
    · rw [if_neg c]
      simp only [List.map_cons, List.mem_cons, ih]
      exact ⟨fun h => h.elim (fun h => .inr (.inl h)) (fun h => h.elim .inl (fun h => .inr (.inr h))), fun h => h.elim (fun h => .inr (.inl h)) (fun h => h.elim .inl (fun h => .inr (.inr h)))⟩
theorem nbMap_keys (es : List S58) (x : ByteArray) : x ∈ (nbMap es).map Prod.fst ↔ x ∈ es.map S58.f1 := by
  refine snoc_ind (P := fun es => x ∈ (nbMap es).map Prod.fst ↔ x ∈ es.map S58.f1) (by simp [nbMap]) (fun es e ih => ?_) es
  rw [nbMap_snoc, nbStep, mem_mset_keys, ih, List.map_append, List.mem_append]
  simp [or_comm]
theorem sortS_ext {l k : List ByteArray} (h : ∀ x, x ∈ l ↔ x ∈ k) : sortS l = sortS k :=
  sorted_ext (lt := fun a b => ltS a b = true) (fun x => by rw [ltS_irrefl]; simp) (fun _ _ _ => ltS_trans) (sortS_sorted l) (sortS_sorted k) (fun x => by rw [mem_sortS, mem_sortS]; exact h x)
theorem nbR_eq (seg : List S58) : nbR seg = refEvents seg := by
  unfold nbR refEvents nbOut refOut nbKeys refKeys
  rw [sortS_ext (fun x => nbMap_keys seg x)]
  congr 1
  refine List.map_congr_left (fun x hx => ?_)
  rw [mem_sortS] at hx
  unfold nbAt
  rw [(nbMap_get seg x).1 hx]
  rfl
theorem eqB1 (x : S60) (h : x.f1.length ≤ 140737488355328) : ∃ k, glossatorref3_EqualBatches.f k [x] [x] = some true :=
  Ev.rounds (eqB [x] (by simp) (fun b hb => by rw [List.mem_singleton] at hb; rw [hb]; exact h))
theorem one60 {W : World} {k : Nat} {x : S60} {A : Option Addr} {c : Nat} (hk : W.heap[k]? = some (.cells #[.int .i64 x.f0, .slice A x.f1.length c] 60 (0, 0))) (hl : x.f1.length ≤ c) (hc : Kd.C k58 W A x.f1.length x.f1) :
    Kd.C k60 W (some ⟨k, 0, none⟩) ([x] : List S60).length [x] :=
  ⟨rfl, by simp, fun _ => ⟨_, rfl, fun j p hp => by
    cases j with
    | zero =>
      obtain rfl := Option.some.inj hp
      refine ⟨_, rfl, k60_mk W _ hl hc, fun i u hu => ?_⟩
      rw [show ((⟨k, 0, none⟩ : Addr).add (0 * k60.sz + i)) = ⟨k, i, none⟩ by rw [add_plain]; simp]
      rw [cells_of_blk hk i]
      simpa using hu
    | succ j => simp at hp⟩⟩
/-- What a watcher bears that has taken n events at most. -/
structure WOk (s : WS) (n : Nat) : Prop where
  delay : 0 ≤ s.delay ∧ s.delay ≤ 1000000
  now : 0 ≤ s.now
  len : s.es.length ≤ n
  times : ∀ e ∈ s.es, 0 ≤ e.f0 ∧ e.f0 ≤ 1000000000000
  sizes : ∀ e ∈ s.es, e.f1.size ≤ maxLen
theorem WOk.mono {s : WS} {n m : Nat} (h : WOk s n) (hm : n ≤ m) : WOk s m := ⟨h.delay, h.now, Nat.le_trans h.len hm, h.times, h.sizes⟩
theorem rd58_mem {l : List S58} {i : Int} (h0 : 0 ≤ i) (h1 : i < l.length) : rd_T58 l i ∈ l := by
  obtain ⟨j, rfl⟩ : ∃ j : Nat, i = (j : Int) := ⟨i.toNat, by omega⟩
  rw [rd58_at l j (by omega)]
  exact List.getElem_mem _
theorem comp_due {s : WS} {n : Nat} (h : WOk s n) (now : Int) (h0 : 0 ≤ now) (h1 : now ≤ 9223372036854775807) : compB s now = dueB s now := by
  unfold compB dueB
  by_cases c : s.es.length = 0
  · rw [if_pos c, if_pos c]
  · rw [if_neg c, if_neg c]
    have ht := h.times _ (rd58_mem (l := s.es) (i := (s.es.length : Int) - 1) (by omega) (by omega))
    have hd := h.delay
    rw [wrap_id (by omega) (by omega), wrap_id (by omega) (by omega)]
    congr 1
    exact propext ⟨fun h => by omega, fun h => by omega⟩
theorem poll_eq {s : WS} {n : Nat} (h : WOk s n) (now : Int) (h1 : now ≤ 9223372036854775807) : goPoll s now = refPollR s now := by
  unfold goPoll refPollR pollR
  by_cases c : now < s.now
  · rw [if_pos c, if_pos c]
  · rw [if_neg c, if_neg c]
    have h2 : WOk { s with now := now } n := ⟨h.delay, by have := h.now; show 0 ≤ now; omega, h.len, h.times, h.sizes⟩
    rw [comp_due h2 now (by have := h.now; omega) h1]
    simp only [nbR_eq]
    rfl
theorem poll_ok {s : WS} {n : Nat} (h : WOk s n) (now : Int) : WOk (goPoll s now).2.2.2 n := by
  unfold goPoll pollR
  by_cases c : now < s.now
  · rw [if_pos c]; exact h
  · have hn : 0 ≤ now := by have := h.now; omega
    rw [if_neg c]
    split
    · exact ⟨h.delay, hn, h.len, h.times, h.sizes⟩
    · split
      · exact ⟨h.delay, hn, Nat.zero_le _, (by simp), (by simp)⟩
      · exact ⟨h.delay, hn, Nat.zero_le _, (by simp), (by simp)⟩
theorem poll_len {s : WS} {n : Nat} (h : WOk s n) (now : Int) : (goPoll s now).2.1.length ≤ n := by
  have hr : (nbR s.es).length ≤ n := by
    rw [nbR_eq]
    unfold refEvents refOut refKeys
    refine Nat.le_trans (List.length_filter_le _ _) ?_
    rw [List.length_map]
    refine Nat.le_trans (sortS_len _) ?_
    rw [List.length_map]
    exact h.len
  unfold goPoll pollR
  split
  · exact Nat.zero_le _
  · split
    · exact Nat.zero_le _
    · split
      · exact Nat.zero_le _
      · exact hr
theorem add_eq {s : WS} {n : Nat} (h : WOk s n) (e : S58) (h1 : e.f0 ≤ 9223372036854775807) : addR compB s e = addR dueB s e := by
  unfold addR
  split
  · rfl
  · split
    · rfl
    · next hn => rw [comp_due h e.f0 (by omega) h1]
theorem add_ok {s : WS} {n : Nat} (h : WOk s n) (e : S58) (hs : e.f1.size ≤ maxLen) : WOk (addR compB s e).2 (n + 1) := by
  unfold addR
  split
  · exact h.mono (by omega)
  · split
    · exact h.mono (by omega)
    · next hn =>
      split
      · exact h.mono (by omega)
      · refine ⟨h.delay, by show 0 ≤ e.f0; omega, by have := h.len; simp; omega, fun x hx => ?_, fun x hx => ?_⟩
        · rcases List.mem_append.1 hx with hx | hx
          · exact h.times x hx
          · rw [List.mem_singleton] at hx; subst hx; exact ⟨by omega, by omega⟩
        · rcases List.mem_append.1 hx with hx | hx
          · exact h.sizes x hx
          · rw [List.mem_singleton] at hx; subst hx; exact hs
/-- The two watchers, side by side, behind w. -/
structure Two (w W : World) (g1 g2 : Nat) (v1 v2 : Value) (s1 s2 : WS) : Prop where
  one : WI 90 g1 v1 s1 W
  two : WI 56 g2 v2 s2 W
  ne : g1 ≠ g2
  own1 : ∀ k, v1.ownBlock = some k → k ≠ g2 ∧ v2.ownBlock ≠ some k ∧ w.heap.size ≤ k
  own2 : ∀ k, v2.ownBlock = some k → k ≠ g1 ∧ w.heap.size ≤ k
  base : w.heap.size ≤ g1 ∧ w.heap.size ≤ g2
  below : Below w.heap.size w W
theorem Two.old {w W W1 : World} {g1 g2 : Nat} {v1 v2 : Value} {s1 s2 : WS} (h : Two w W g1 g2 v1 v2 s1 s2) (hb : Below W.heap.size W W1) : Two w W1 g1 g2 v1 v2 s1 s2 :=
  ⟨h.one.below hb, h.two.below hb, h.ne, h.own1, h.own2, h.base, h.below.trans (hb.mono h.below.size)⟩
theorem Two.step1 {w W W1 : World} {g1 g2 : Nat} {v1 v2 v1' : Value} {s1 s2 s1' : WS} (h : Two w W g1 g2 v1 v2 s1 s2) (hi : WI 90 g1 v1' s1' W1) (hc : Chg (fun k => k = g1 ∨ some k = v1.ownBlock) W W1) (hv : ∀ k, v1'.ownBlock = some k → v1.ownBlock = some k ∨ W.heap.size ≤ k) : Two w W1 g1 g2 v1' v2 s1' s2 := by
  have hb : Below w.heap.size W W1 := hc.to_below (fun k _ e => e.elim (fun e => by have := h.base.1; omega) (fun e => (h.own1 k e.symm).2.2)) h.below.size
  refine ⟨hi, h.two.move hc (fun e => e.elim (fun e => h.ne e.symm) (fun e => (h.own1 _ e.symm).1 rfl)) (fun k hk e => e.elim (fun e => (h.own2 k hk).1 e) (fun e => (h.own1 k e.symm).2.1 hk)), h.ne, fun k hk => ?_, h.own2, h.base, h.below.trans hb⟩
  rcases hv k hk with hk | hk
  · exact h.own1 k hk
  · exact ⟨fun e => by have := h.two.lt; omega, fun e => by have := h.two.own_lt e; omega, Nat.le_trans h.below.size hk⟩
theorem Two.step2 {w W W1 : World} {g1 g2 : Nat} {v1 v2 v2' : Value} {s1 s2 s2' : WS} (h : Two w W g1 g2 v1 v2 s1 s2) (hi : WI 56 g2 v2' s2' W1) (hc : Chg (fun k => k = g2 ∨ some k = v2.ownBlock) W W1) (hv : ∀ k, v2'.ownBlock = some k → v2.ownBlock = some k ∨ W.heap.size ≤ k) : Two w W1 g1 g2 v1 v2' s1 s2' := by
  have hb : Below w.heap.size W W1 := hc.to_below (fun k _ e => e.elim (fun e => by have := h.base.2; omega) (fun e => (h.own2 k e.symm).2)) h.below.size
  refine ⟨h.one.move hc (fun e => e.elim (fun e => h.ne e) (fun e => (h.own2 _ e.symm).1 rfl)) (fun k hk e => e.elim (fun e => (h.own1 k hk).1 e) (fun e => (h.own1 k hk).2.1 e.symm)), hi, h.ne, fun k hk => ⟨(h.own1 k hk).1, fun e => ?_, (h.own1 k hk).2.2⟩, fun k hk => ?_, h.base, h.below.trans hb⟩
  · rcases hv k e with e | e
    · exact (h.own1 k hk).2.1 e
    · have := h.one.own_lt hk; omega
  · rcases hv k hk with hk | hk
    · exact h.own2 k hk
    · exact ⟨fun e => by have := h.one.lt; omega, Nat.le_trans h.below.size hk⟩
end Go.Proofs.Ytcikmpcacakfbaa.QFilewatchBatches

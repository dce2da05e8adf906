/-
  The pure statement of FilewatchBatches: the program's batches, files and answers are the reference's.
-/
import Derived.Test.YtcikmpcacakfbaaSFilewatchBatches
import Derived.Test.YtcikmpcacakfbaaAid
namespace Go.Proofs.Ytcikmpcacakfbaa.Pr
open Go.RowKit Go.Proofs.YtcikmpcacakfbaaW.PrintWords Go.Proofs.YtcikmpcacakfbaaW.PrintLast Go.Proofs.YtcikmpcacakfbaaW.PrintMore Go.Proofs.Ytcikmpcacakfbaa.QFilewatchBatches Go.Proofs.Ytcikmpcacakfbaa.Aid Go.Proofs.Ytcikmpcacakfbaa.Hand
set_option linter.unusedVariables false
theorem dropJ {α : Type} {xs t : List α} {x : α} {i : Nat} (h : xs.drop i = x :: t) : i < xs.length ∧ xs.drop (i + 1) = t ∧ (∀ d, xs.getD ((i : Int)).toNat d = x) ∧ xs.take (i + 1) = xs.take i ++ [x] := by
  have hl : i < xs.length := by
    rcases Nat.lt_or_ge i xs.length with h1 | h1
    · exact h1
    · rw [List.drop_eq_nil_of_le h1] at h; cases h
  rw [List.drop_eq_getElem_cons hl] at h
  injection h with h1 h2
  refine ⟨hl, h2, fun d => ?_, ?_⟩
  · rw [Int.toNat_natCast, List.getD_eq_getElem?_getD, List.getElem?_eq_getElem hl]
    exact h1
  · rw [List.take_add_one, List.getElem?_eq_getElem hl, h1]
    rfl
theorem bytes_iff (a b : ByteArray) : a.toList = b.toList ↔ a = b := by
  rw [ByteArray.toList_eq, ByteArray.toList_eq]
  exact ⟨fun h => ByteArray.ext (Array.toList_inj.mp h), fun h => by rw [h]⟩
/-! ### equal lists -/
theorem eqE_l0 (xs : List S58) (hx : xs.length ≤ 140737488355328) : ∀ (t : List S58) (i : Nat), xs.drop i = t → Ev (fun k => api_QFileEvent_45.l0 k xs xs (xs.length : Int) (i : Int)) true
  | [], i, h => by
    have : xs.length ≤ i := by simpa using h
    exact Ev.some' (fun k => by simp only [api_QFileEvent_45.l0]; rw [if_neg (by omega)])
  | x :: t, i, h => by
    obtain ⟨h1, h2, h3, _⟩ := dropJ h
    refine Ev.stepK (eqE_l0 xs hx t (i + 1) h2) (fun k => ?_)
    simp only [api_QFileEvent_45.l0]
    rw [if_pos (by omega), if_pos (by omega), if_pos (by omega), if_pos (by omega), if_neg (by simp), wrap_id (by omega) (by omega)]
    rfl
theorem eqE (xs : List S58) (hx : xs.length ≤ 140737488355328) : Ev (fun k => api_QFileEvent_45.f k xs xs) true :=
  Ev.same (eqE_l0 xs hx xs 0 rfl) (fun k => by unfold api_QFileEvent_45.f; rw [if_pos rfl]; rfl)
theorem eqB_l0 (xs : List S60) (hx : xs.length ≤ 140737488355328) (hy : ∀ b ∈ xs, b.f1.length ≤ 140737488355328) : ∀ (t : List S60) (i : Nat), xs.drop i = t → Ev (fun k => glossatorref3_EqualBatches.l0 k xs xs (xs.length : Int) (i : Int)) true
  | [], i, h => by
    have : xs.length ≤ i := by simpa using h
    exact Ev.some' (fun k => by simp only [glossatorref3_EqualBatches.l0]; rw [if_neg (by omega)])
  | x :: t, i, h => by
    obtain ⟨h1, h2, h3, _⟩ := dropJ h
    have hxm : x ∈ xs := List.mem_of_mem_drop (i := i) (by rw [h]; exact List.mem_cons_self)
    have hrd : rd_T60 xs (i : Int) = x := h3 z60
    refine Ev.stepK (f := fun k => (api_QFileEvent_45.f k x.f1 x.f1).bind fun t154 => (if t154 = true then (glossatorref3_EqualBatches.l0 k xs xs (xs.length : Int) ((i + 1 : Nat) : Int)) else (some false))) ?_ (fun k => ?_)
    · exact Ev.bind (eqE x.f1 (hy x hxm)) (Ev.pos rfl (eqB_l0 xs hx hy t (i + 1) h2))
    · simp only [glossatorref3_EqualBatches.l0]
      rw [if_pos (by omega), if_pos (by omega), if_pos (by omega), if_pos (by omega), if_pos trivial, hrd, wrap_id (by omega) (by omega)]
      rfl
theorem eqB (xs : List S60) (hx : xs.length ≤ 140737488355328) (hy : ∀ b ∈ xs, b.f1.length ≤ 140737488355328) : Ev (fun k => glossatorref3_EqualBatches.f k xs xs) true :=
  Ev.same (eqB_l0 xs hx hy xs 0 rfl) (fun k => by unfold glossatorref3_EqualBatches.f; rw [if_pos rfl]; rfl)
theorem eqS_l0 (xs : List ByteArray) (hx : xs.length ≤ 140737488355328) : ∀ (t : List ByteArray) (i : Nat), xs.drop i = t → Ev (fun k => glossatorref3_Equal_string.l0 k xs xs (xs.length : Int) (i : Int)) true
  | [], i, h => by
    have : xs.length ≤ i := by simpa using h
    exact Ev.some' (fun k => by simp only [glossatorref3_Equal_string.l0]; rw [if_neg (by omega)])
  | x :: t, i, h => by
    obtain ⟨h1, h2, h3, _⟩ := dropJ h
    refine Ev.stepK (eqS_l0 xs hx t (i + 1) h2) (fun k => ?_)
    simp only [glossatorref3_Equal_string.l0]
    rw [if_pos (by omega), if_pos (by omega), if_pos (by omega), if_pos (by omega), if_pos trivial, wrap_id (by omega) (by omega)]
    rfl
theorem eqS (xs : List ByteArray) (hx : xs.length ≤ 140737488355328) : Ev (fun k => glossatorref3_Equal_string.f k xs xs) true :=
  Ev.same (eqS_l0 xs hx xs 0 rfl) (fun k => by unfold glossatorref3_Equal_string.f; rw [if_pos rfl]; rfl)
/-! ### the events' errors -/
theorem validKind_f (x : Int) : filewatch_validKind.f x = some (decide (1 ≤ x ∧ x ≤ 3)) := by
  unfold filewatch_validKind.f
  by_cases h : x ≥ 1
  · rw [if_pos h]; congr 1; rw [Bool.eq_iff_iff]; simp; omega
  · rw [if_neg h]; congr 1; symm; simp; omega
def timeP : Int → List S58 → Int
  | _, [] => 0
  | last, e :: t => if e.f0 < last then 3 else if e.f0 > 1000000000000 then 3 else timeP e.f0 t
def kindP (l : List S58) : Bool := l.any (fun e => !decide (1 ≤ e.f2 ∧ e.f2 ≤ 3))
def checkP (l : List S58) (d : Int) : Int := if d < 0 ∨ d > 1000000 then 1 else if kindP l then 7 else timeP 0 l
theorem idx_ev (xs : List S58) (hx : xs.length ≤ 1000) : ∀ (t : List S58) (i : Nat), xs.drop i = t → ∃ r : Int, Ev (fun k => slices_IndexFunc_80_at_62.l0 k xs (xs.length : Int) (i : Int)) r ∧ decide (r ≥ 0) = kindP t
  | [], i, h => by
    have : xs.length ≤ i := by simpa using h
    exact ⟨-1, Ev.some' (fun k => by simp only [slices_IndexFunc_80_at_62.l0]; rw [if_neg (by omega)]), rfl⟩
  | x :: t, i, h => by
    obtain ⟨h1, h2, h3, _⟩ := dropJ h
    have hrd : rd_T58 xs (i : Int) = x := h3 z58
    have hst : ∀ k, slices_IndexFunc_80_at_62.l0 (k + 1) xs (xs.length : Int) (i : Int) = if (!decide (1 ≤ x.f2 ∧ x.f2 ≤ 3)) = true then some (i : Int) else slices_IndexFunc_80_at_62.l0 k xs (xs.length : Int) ((i + 1 : Nat) : Int) := by
      intro k
      simp only [slices_IndexFunc_80_at_62.l0]
      rw [if_pos (by omega), if_pos (by omega), if_pos (by omega), hrd, wrap_id (by omega) (by omega)]
      unfold filewatch_validate_1.f
      rw [validKind_f]
      rfl
    by_cases c : (!decide (1 ≤ x.f2 ∧ x.f2 ≤ 3)) = true
    · refine ⟨(i : Int), Ev.some' (fun k => by rw [hst, if_pos c]), ?_⟩
      unfold kindP
      rw [List.any_cons, c]
      simp
    · obtain ⟨r, hr, hk⟩ := idx_ev xs hx t (i + 1) h2
      refine ⟨r, Ev.stepK hr (fun k => by rw [hst, if_neg c]), ?_⟩
      rw [hk]
      unfold kindP
      rw [List.any_cons]
      rw [Bool.not_eq_true] at c
      rw [c, Bool.false_or]
theorem contains_ev (xs : List S58) (hx : xs.length ≤ 1000) : Ev (fun k => slices_ContainsFunc_61_at_62.f k xs) (kindP xs) := by
  obtain ⟨r, hr, hk⟩ := idx_ev xs hx xs 0 rfl
  rw [← hk]
  exact Ev.bind hr (Ev.now _)
theorem timeG_ev (xs : List S58) (hx : xs.length ≤ 1000) : ∀ (t : List S58) (i : Nat) (last : Int), xs.drop i = t → 0 ≤ last → (i = 0 → last = 0) → (0 < i → (rd_T58 xs ((i : Int) - 1)).f0 = last) → Ev (fun k => filewatch_validate.l0 k xs xs (xs.length : Int) (i : Int)) (timeP last t)
  | [], i, last, h, _, _, _ => by
    have : xs.length ≤ i := by simpa using h
    exact Ev.some' (fun k => by simp only [filewatch_validate.l0]; rw [if_neg (by omega)]; rfl)
  | x :: t, i, last, h, h0, hi0, hi1 => by
    obtain ⟨h1, h2, h3, _⟩ := dropJ h
    have hrd : rd_T58 xs (i : Int) = x := h3 z58
    have hw : wrap64 ((i : Int) + 1) = ((i + 1 : Nat) : Int) := by rw [wrap_id (by omega) (by omega)]; rfl
    have hw2 : 0 < i → wrap64 ((i : Int) - 1) = (i : Int) - 1 := fun h => wrap_id (by omega) (by omega)
    rw [timeP]
    by_cases c1 : x.f0 < last
    · rw [if_pos c1]
      refine Ev.some' (fun k => ?_)
      simp only [filewatch_validate.l0]
      rw [if_pos (by omega), if_pos (by omega), if_pos (by omega), hrd]
      by_cases c2 : x.f0 < 0
      · rw [if_pos c2]
      · rw [if_neg c2]
        by_cases c3 : x.f0 > 1000000000000
        · rw [if_pos c3]
        · rw [if_neg c3]
          have hi : 0 < i := by
            rcases Nat.eq_zero_or_pos i with h | h
            · exact absurd (hi0 h) (by omega)
            · exact h
          rw [if_pos (by omega), hw2 hi, if_pos (by omega), if_pos (by omega), hi1 hi, if_pos c1]
    · rw [if_neg c1]
      by_cases c3 : x.f0 > 1000000000000
      · rw [if_pos c3]
        refine Ev.some' (fun k => ?_)
        simp only [filewatch_validate.l0]
        rw [if_pos (by omega), if_pos (by omega), if_pos (by omega), hrd, if_neg (by omega), if_pos c3]
      · rw [if_neg c3]
        have ih := timeG_ev xs hx t (i + 1) x.f0 h2 (by omega) (fun h => absurd h (by omega)) (fun _ => by rw [show ((i + 1 : Nat) : Int) - 1 = (i : Int) by omega, hrd])
        refine Ev.stepK ih (fun k => ?_)
        simp only [filewatch_validate.l0]
        rw [if_pos (by omega), if_pos (by omega), if_pos (by omega), hrd, if_neg (by omega), if_neg c3, hw]
        by_cases hi : 0 < i
        · rw [if_pos (by omega), hw2 hi, if_pos (by omega), if_pos (by omega), hi1 hi, if_neg c1]
        · rw [if_neg (by omega)]
theorem validate_ev (xs : List S58) (hx : xs.length ≤ 1000) (d : Int) : Ev (fun k => filewatch_validate.f k xs d) (checkP xs d) := by
  have h0 : ∀ b : Bool, Ev (fun k => filewatch_validate.j0 k xs b) (if b = true then 1 else if kindP xs = true then 7 else timeP 0 xs) := by
    intro b
    cases b with
    | true => exact Ev.some' (fun k => by simp only [filewatch_validate.j0]; rfl)
    | false =>
      refine Ev.stepK (f := fun k => (slices_ContainsFunc_61_at_62.f k xs).bind fun t106 => (if t106 = true then (some 7) else (filewatch_validate.l0 k xs xs (xs.length : Int) 0))) ?_ (fun k => by simp only [filewatch_validate.j0]; rw [if_neg (by simp), if_neg (by omega)])
      refine Ev.bind (contains_ev xs hx) ?_
      rw [if_neg (by simp)]
      cases kindP xs with
      | true => exact Ev.pos rfl (Ev.now _)
      | false => exact Ev.neg (by simp) (timeG_ev xs hx xs 0 0 rfl (by omega) (fun _ => rfl) (fun h => absurd h (by omega)))
  unfold checkP
  by_cases c1 : d < 0
  · rw [if_pos (.inl c1)]
    exact Ev.same (h0 true) (fun k => by unfold filewatch_validate.f; rw [if_pos c1])
  · by_cases c2 : d > 1000000
    · rw [if_pos (.inr c2)]
      exact Ev.same (h0 true) (fun k => by unfold filewatch_validate.f; rw [if_neg c1, decide_eq_true c2])
    · rw [if_neg (by omega)]
      exact Ev.same (h0 false) (fun k => by unfold filewatch_validate.f; rw [if_neg c1, decide_eq_false c2])
theorem timeR_ev (xs : List S58) (hx : xs.length ≤ 1000) : ∀ (t : List S58) (i : Nat) (last : Int), xs.drop i = t → Ev (fun k => glossatorref3_CheckEvents.l1 k last xs (xs.length : Int) (i : Int)) (timeP last t)
  | [], i, last, h => by
    have : xs.length ≤ i := by simpa using h
    exact Ev.some' (fun k => by simp only [glossatorref3_CheckEvents.l1]; rw [if_neg (by omega)]; rfl)
  | x :: t, i, last, h => by
    obtain ⟨h1, h2, h3, _⟩ := dropJ h
    have hrd : rd_T58 xs (i : Int) = x := h3 z58
    have hst : ∀ k, glossatorref3_CheckEvents.l1 (k + 1) last xs (xs.length : Int) (i : Int) = if x.f0 < last then some 3 else if x.f0 > 1000000000000 then some 3 else glossatorref3_CheckEvents.l1 k x.f0 xs (xs.length : Int) ((i + 1 : Nat) : Int) := by
      intro k
      simp only [glossatorref3_CheckEvents.l1]
      rw [if_pos (by omega), if_pos (by omega), if_pos (by omega), hrd, wrap_id (by omega) (by omega)]
      rfl
    rw [timeP]
    by_cases c1 : x.f0 < last
    · rw [if_pos c1]; exact Ev.some' (fun k => by rw [hst, if_pos c1])
    · rw [if_neg c1]
      by_cases c2 : x.f0 > 1000000000000
      · rw [if_pos c2]; exact Ev.some' (fun k => by rw [hst, if_neg c1, if_pos c2])
      · rw [if_neg c2]; exact Ev.stepK (timeR_ev xs hx t (i + 1) x.f0 h2) (fun k => by rw [hst, if_neg c1, if_neg c2])
theorem kindR_ev (xs : List S58) (hx : xs.length ≤ 1000) : ∀ (t : List S58) (i : Nat), xs.drop i = t → Ev (fun k => glossatorref3_CheckEvents.l0 k xs xs (xs.length : Int) (i : Int)) (if kindP t = true then 7 else timeP 0 xs)
  | [], i, h => by
    have : xs.length ≤ i := by simpa using h
    refine Ev.stepK (timeR_ev xs hx xs 0 0 rfl) (fun k => by simp only [glossatorref3_CheckEvents.l0]; rw [if_neg (by omega)]; rfl)
  | x :: t, i, h => by
    obtain ⟨h1, h2, h3, _⟩ := dropJ h
    have hrd : rd_T58 xs (i : Int) = x := h3 z58
    have hst : ∀ k, glossatorref3_CheckEvents.l0 (k + 1) xs xs (xs.length : Int) (i : Int) = if x.f2 < 1 then some 7 else if x.f2 > 3 then some 7 else glossatorref3_CheckEvents.l0 k xs xs (xs.length : Int) ((i + 1 : Nat) : Int) := by
      intro k
      simp only [glossatorref3_CheckEvents.l0]
      rw [if_pos (by omega), if_pos (by omega), if_pos (by omega), hrd, wrap_id (by omega) (by omega)]
      rfl
    unfold kindP
    rw [List.any_cons]
    by_cases c1 : x.f2 < 1
    · rw [decide_eq_false (by omega)]
      exact Ev.some' (fun k => by rw [hst, if_pos c1]; rfl)
    · by_cases c2 : x.f2 > 3
      · rw [decide_eq_false (by omega)]
        exact Ev.some' (fun k => by rw [hst, if_neg c1, if_pos c2]; rfl)
      · rw [decide_eq_true (by omega)]
        exact Ev.stepK (kindR_ev xs hx t (i + 1) h2) (fun k => by rw [hst, if_neg c1, if_neg c2])
theorem check_ev (xs : List S58) (hx : xs.length ≤ 1000) (d : Int) : Ev (fun k => glossatorref3_CheckEvents.f k xs d) (checkP xs d) := by
  have h0 : ∀ b : Bool, Ev (fun k => glossatorref3_CheckEvents.j0 k xs b) (if b = true then 1 else if kindP xs = true then 7 else timeP 0 xs) := by
    intro b
    cases b with
    | true => exact Ev.some' (fun k => by simp only [glossatorref3_CheckEvents.j0]; rfl)
    | false => exact Ev.stepK (kindR_ev xs hx xs 0 rfl) (fun k => by simp only [glossatorref3_CheckEvents.j0]; rw [if_neg (by simp), if_neg (by omega)]; rfl)
  unfold checkP
  by_cases c1 : d < 0
  · rw [if_pos (.inl c1)]
    exact Ev.same (h0 true) (fun k => by unfold glossatorref3_CheckEvents.f; rw [if_pos c1])
  · by_cases c2 : d > 1000000
    · rw [if_pos (.inr c2)]
      exact Ev.same (h0 true) (fun k => by unfold glossatorref3_CheckEvents.f; rw [if_neg c1, decide_eq_true c2])
    · rw [if_neg (by omega)]
      exact Ev.same (h0 false) (fun k => by unfold glossatorref3_CheckEvents.f; rw [if_neg c1, decide_eq_false c2])
/-! ### a batch's events, two ways -/
theorem refEv_snoc (es : List S58) (e : S58) (x : ByteArray) : refEv (es ++ [e]) x = refStep x (refEv es x) e := by unfold refEv; rw [List.foldl_append]; rfl
theorem nbMap_get (es : List S58) (x : ByteArray) : (x ∈ es.map S58.f1 → mget (nbMap es) x = some (refEv es x)) ∧ (x ∉ es.map S58.f1 → mget (nbMap es) x = none ∧ refEv es x = ⟨0, x, 0⟩) := by
  refine snoc_ind (P := fun es => (x ∈ es.map S58.f1 → mget (nbMap es) x = some (refEv es x)) ∧ (x ∉ es.map S58.f1 → mget (nbMap es) x = none ∧ refEv es x = ⟨0, x, 0⟩)) ⟨fun h => by simp at h, fun _ => ⟨rfl, rfl⟩⟩ (fun es e ih => ?_) es
  rw [nbMap_snoc, nbStep, refEv_snoc, refStep]
  by_cases h : e.f1 = x
  · subst h
    have hf : ((mget (nbMap es) e.f1).getD z58).f2 = (refEv es e.f1).f2 := by
      by_cases c : e.f1 ∈ es.map S58.f1
      · rw [ih.1 c]; rfl
      · rw [(ih.2 c).1, (ih.2 c).2]; rfl
    rw [mget_mset_same, if_pos rfl, hf]
    exact ⟨fun _ => rfl, fun hn => absurd (by simp) hn⟩
  · have hm : x ∈ (es ++ [e]).map S58.f1 ↔ x ∈ es.map S58.f1 := by
      rw [List.map_append, List.mem_append]
      exact ⟨fun hh => hh.elim id (fun h2 => absurd (by simpa using h2 : x = e.f1).symm h), .inl⟩
    rw [mget_mset_ne _ _ h, if_neg h]
    exact ⟨fun hh => ih.1 (hm.1 hh), fun hn => ih.2 (fun c => hn (hm.2 c))⟩
theorem mem_mset_keys {β : Type} (m : List (ByteArray × β)) (x y : ByteArray) (v : β) : y ∈ (mset m x v).map Prod.fst ↔ y = x ∨ y ∈ m.map Prod.fst := by
  induction m with
  | nil => simp [mset]
  | cons p t ih =>
    rw [mset]
    by_cases c : p.1 = x
    · rw [if_pos c]
      simp only [List.map_cons, List.mem_cons, c]
      exact ⟨fun h => h.elim .inl (fun h => .inr (.inr h)), fun h => h.elim .inl (fun h => h.elim .inl .inr)⟩
    · rw [if_neg c]
      simp only [List.map_cons, List.mem_cons, ih]
      exact ⟨fun h => h.elim (fun h => .inr (.inl h)) (fun h => h.elim .inl (fun h => .inr (.inr h))), fun h => h.elim (fun h => .inr (.inl h)) (fun h => h.elim .inl (fun h => .inr (.inr h)))⟩
theorem nbMap_keys (es : List S58) (x : ByteArray) : x ∈ (nbMap es).map Prod.fst ↔ x ∈ es.map S58.f1 := by
  refine snoc_ind (P := fun es => x ∈ (nbMap es).map Prod.fst ↔ x ∈ es.map S58.f1) (by simp [nbMap]) (fun es e ih => ?_) es
  rw [nbMap_snoc, nbStep, mem_mset_keys, ih, List.map_append, List.mem_append]
  simp [or_comm]
theorem sortS_ext {l k : List ByteArray} (h : ∀ x, x ∈ l ↔ x ∈ k) : sortS l = sortS k :=
  sorted_ext (lt := fun a b => ltS a b = true) (fun x => by rw [ltS_irrefl]; simp) (fun _ _ _ => ltS_trans) (sortS_sorted l) (sortS_sorted k) (fun x => by rw [mem_sortS, mem_sortS]; exact h x)
theorem nbR_eq (seg : List S58) : nbR seg = refEvents seg := by
  unfold nbR refEvents nbOut refOut nbKeys refKeys
  rw [sortS_ext (fun x => nbMap_keys seg x)]
  congr 1
  refine List.map_congr_left (fun x hx => ?_)
  rw [mem_sortS] at hx
  unfold nbAt
  rw [(nbMap_get seg x).1 hx]
  rfl
/-! ### the batches -/
theorem batches_l0 (l : List S58) (hl : l.length ≤ 1000) (hs : ∀ e ∈ l, e.f1.size ≤ 140737488351232) (d : Int) : ∀ (t : List S58) (i s : Nat) (acc : List S60), l.drop i = t → i ≤ l.length → s ≤ i → acc.length ≤ s → (i < l.length → GrpI d l s (i + 1)) → (i = l.length → s = l.length) → Ev (fun k => filewatch_Batches.l0 k l d acc (s : Int) (l.length : Int) (i : Int)) (acc ++ refAll d (l.drop s), 0)
  | [], i, s, acc, h, hi, hsi, ha, _, he => by
    have h1 : l.length ≤ i := by simpa using h
    rw [he (by omega), List.drop_length, refAll, List.append_nil]
    exact Ev.some' (fun k => by simp only [filewatch_Batches.l0]; rw [if_neg (by omega)])
  | x :: t, i, s, acc, h, hi, hsi, ha, hg, he => by
    obtain ⟨h1, h2, h3, _⟩ := dropJ h
    have hgi := hg h1
    have hw : wrap64 ((i : Int) + 1) = ((i + 1 : Nat) : Int) := by rw [wrap_id (by omega) (by omega)]; rfl
    have hrd : rd_T58 l (((i + 1 : Nat) : Int) - 1) = rd_T58 l (i : Int) := by rw [show ((i + 1 : Nat) : Int) - 1 = (i : Int) by omega]
    by_cases c : i + 1 < l.length ∧ wrap64 ((rd_T58 l ((i + 1 : Nat) : Int)).f0 - (rd_T58 l (i : Int)).f0) < d
    · have ih := batches_l0 l hl hs d t (i + 1) s acc h2 (by omega) (by omega) ha (fun _ => hgi.more c.1 (by rw [hrd]; exact c.2)) (fun hh => absurd hh (by omega))
      refine Ev.stepK (f := fun k => filewatch_Batches.j1 k l d acc (s : Int) (i : Int) (l.length : Int) (i : Int) true) (Ev.stepK ih (fun k => by simp only [filewatch_Batches.j1]; rw [if_pos trivial, hw])) (fun k => ?_)
      simp only [filewatch_Batches.l0, hw]
      rw [if_pos (by omega), if_pos (by omega), if_pos (by omega), if_pos (by omega), if_pos (by omega), decide_eq_true c.2]
    · have hdone := hgi.done (by
        rcases Nat.lt_or_ge (i + 1) l.length with hh | hh
        · exact .inr ⟨hh, fun h4 => c ⟨hh, by rw [hrd] at h4; exact h4⟩⟩
        · exact .inl (by omega))
      obtain ⟨seg, hseg⟩ : ∃ seg, (l.take (i + 1)).drop s = seg := ⟨_, rfl⟩
      have hsl : seg.length = i + 1 - s := by rw [← hseg, List.length_drop, List.length_take]; omega
      rw [hseg] at hdone
      have hnb : filewatch_newBatch.f seg d = some (lastTime seg d, refEvents seg) := by
        unfold filewatch_newBatch.f
        rw [if_pos ⟨by omega, by omega, fun e he => by
          have := hs e (by rw [← hseg] at he; exact List.mem_of_mem_take (List.mem_of_mem_drop he))
          unfold maxLen
          omega⟩, nbR_eq]
        rfl
      have hj : Ev (fun k => filewatch_Batches.j1 k l d acc (s : Int) (i : Int) (l.length : Int) (i : Int) false) (acc ++ refAll d (l.drop s), 0) := by
        rw [hdone]
        unfold batchOf
        by_cases cz : (refEvents seg).length = 0
        · rw [if_pos cz, List.nil_append]
          have ih := batches_l0 l hl hs d t (i + 1) (i + 1) acc h2 (by omega) (by omega) (by omega) (fun hh => GrpI.start hh) (fun hh => hh)
          refine Ev.stepK ih (fun k => ?_)
          simp only [filewatch_Batches.j1, hw, Int.toNat_natCast]
          rw [if_neg (by simp), if_pos (by omega), if_pos (by omega), if_pos (by omega), hseg, hnb]
          simp only [Option.bind_some]
          rw [if_neg (by omega)]
        · rw [if_neg cz, ← List.append_assoc]
          have ih := batches_l0 l hl hs d t (i + 1) (i + 1) (acc ++ [⟨lastTime seg d, refEvents seg⟩]) h2 (by omega) (by omega) (by simp; omega) (fun hh => GrpI.start hh) (fun hh => hh)
          refine Ev.stepK ih (fun k => ?_)
          simp only [filewatch_Batches.j1, hw, Int.toNat_natCast]
          rw [if_neg (by simp), if_pos (by omega), if_pos (by omega), if_pos (by omega), hseg, hnb]
          simp only [Option.bind_some]
          rw [if_pos (by omega), if_pos (by omega)]
      refine Ev.stepK hj (fun k => ?_)
      simp only [filewatch_Batches.l0, hw]
      rw [if_pos (by omega)]
      by_cases c1 : i + 1 < l.length
      · rw [if_pos (by omega), if_pos (by omega), if_pos (by omega), if_pos (by omega), decide_eq_false (fun h4 => c ⟨c1, h4⟩)]
      · rw [if_neg (by omega)]
theorem batches_ev (l : List S58) (hl : l.length ≤ 1000) (hs : ∀ e ∈ l, e.f1.size ≤ 140737488351232) (d : Int) : Ev (fun k => filewatch_Batches.f k l d) (if checkP l d = 0 then (refAll d l, 0) else ([], checkP l d)) := by
  unfold filewatch_Batches.f
  refine Ev.bind (validate_ev l hl d) ?_
  by_cases c : checkP l d = 0
  · rw [if_pos c]
    refine Ev.pos c ?_
    have := batches_l0 l hl hs d l 0 0 [] rfl (by omega) (by omega) (Nat.le_refl _) (fun h => GrpI.start h) (fun h => h)
    exact this
  · rw [if_neg c]
    exact Ev.neg c (Ev.now _)
/-! ### files -/
def filesStep (res : List ByteArray) (e : S58) : List ByteArray :=
  let rest := if e.f2 = 3 then res.filter (fun f => !decide (f = e.f1)) else res
  if e.f2 = 1 then sortS (rest ++ [e.f1]) else if e.f2 = 2 then sortS (rest ++ [e.f1]) else rest
def filesR (l : List ByteArray) (es : List S58) : List ByteArray := es.foldl filesStep (sortS l)
theorem filesR_snoc (l : List ByteArray) (es : List S58) (e : S58) : filesR l (es ++ [e]) = filesStep (filesR l es) e := by unfold filesR; rw [List.foldl_append]; rfl
theorem filesStep_len (res : List ByteArray) (e : S58) : (filesStep res e).length ≤ res.length + 1 := by
  unfold filesStep
  have h1 : (if e.f2 = 3 then res.filter (fun f => !decide (f = e.f1)) else res).length ≤ res.length := by
    split
    · exact List.length_filter_le _ _
    · exact Nat.le_refl _
  have h2 : (sortS ((if e.f2 = 3 then res.filter (fun f => !decide (f = e.f1)) else res) ++ [e.f1])).length ≤ res.length + 1 := by
    have := sortS_len ((if e.f2 = 3 then res.filter (fun f => !decide (f = e.f1)) else res) ++ [e.f1])
    rw [List.length_append, List.length_singleton] at this
    omega
  simp only
  split
  · exact h2
  · split
    · exact h2
    · omega
theorem filesR_len (l : List ByteArray) (es : List S58) : (filesR l es).length ≤ l.length + es.length := by
  refine snoc_ind (P := fun es => (filesR l es).length ≤ l.length + es.length) (by have := sortS_len l; simpa [filesR] using this) (fun es e ih => ?_) es
  rw [filesR_snoc, List.length_append, List.length_singleton]
  have := filesStep_len (filesR l es) e
  omega
theorem files_l1 (es : List S58) (hes : es.length ≤ 1000) (i : Nat) (hi : i < es.length) (res : List ByteArray) (hres : res.length ≤ 100000) (e : S58) (r : List ByteArray) (hn : Ev (fun k => glossatorref3_Files.l0 k (filesStep res e) es (es.length : Int) ((i + 1 : Nat) : Int)) r) :
    ∀ (t : List ByteArray) (j : Nat) (acc : List ByteArray), res.drop j = t → acc = (res.take j).filter (fun f => !(decide (f = e.f1) && decide (e.f2 = 3))) →
      Ev (fun k => glossatorref3_Files.l1 k acc es (es.length : Int) (i : Int) res (res.length : Int) (j : Int) e.f0 e.f1 e.f2) r
  | [], j, acc, h, ha => by
    have hj : res.length ≤ j := by simpa using h
    rw [List.take_of_length_le hj] at ha
    have hrest : acc = if e.f2 = 3 then res.filter (fun f => !decide (f = e.f1)) else res := by
      rw [ha]
      by_cases c : e.f2 = 3
      · rw [if_pos c]; simp [c]
      · rw [if_neg c]; simp [c]
    have hal : acc.length ≤ res.length := by rw [ha]; exact List.length_filter_le _ _
    have hw : wrap64 ((i : Int) + 1) = ((i + 1 : Nat) : Int) := by rw [wrap_id (by omega) (by omega)]; rfl
    refine Ev.stepK hn (fun k => ?_)
    simp only [glossatorref3_Files.l1]
    rw [if_neg (by omega)]
    unfold filesStep
    simp only
    rw [← hrest, hw]
    have hsf : glossatorref3_SortStrings.f (acc ++ [e.f1]) = some (sortS (acc ++ [e.f1])) := by
      unfold glossatorref3_SortStrings.f
      rw [if_pos (by simp; omega)]
    by_cases c1 : e.f2 = 1
    · rw [if_pos c1, if_pos c1, if_pos (by omega), hsf]; rfl
    · rw [if_neg c1, if_neg c1]
      by_cases c2 : e.f2 = 2
      · rw [if_pos c2, if_pos c2, if_pos (by omega), hsf]; rfl
      · rw [if_neg c2, if_neg c2]
  | x :: t, j, acc, h, ha => by
    obtain ⟨h1, h2, h3, h4⟩ := dropJ h
    have hrd : rdOf ByteArray.empty res (j : Int) = x := h3 _
    have hw : wrap64 ((j : Int) + 1) = ((j + 1 : Nat) : Int) := by rw [wrap_id (by omega) (by omega)]; rfl
    have hal : acc.length ≤ res.length := by rw [ha]; exact Nat.le_trans (List.length_filter_le _ _) (by rw [List.length_take]; omega)
    have ih := files_l1 es hes i hi res hres e r hn t (j + 1) (acc ++ [x].filter (fun f => !(decide (f = e.f1) && decide (e.f2 = 3)))) h2 (by rw [h4, List.filter_append, ← ha])
    refine Ev.stepK ih (fun k => ?_)
    simp only [glossatorref3_Files.l1]
    rw [if_pos (by omega), if_pos (by omega), if_pos (by omega), hrd, hw]
    by_cases c1 : x = e.f1
    · rw [if_pos ((bytes_iff _ _).2 c1)]
      by_cases c2 : e.f2 = 3
      · rw [if_pos c2]; simp [c1, c2]
      · rw [if_neg c2, if_pos (by omega)]; simp [c2]
    · rw [if_neg (fun hh => c1 ((bytes_iff _ _).1 hh)), if_pos (by omega)]; simp [c1]
theorem files_l0 (l : List ByteArray) (hl : l.length ≤ 1000) (es : List S58) (hes : es.length ≤ 1000) : ∀ (t : List S58) (i : Nat), es.drop i = t → Ev (fun k => glossatorref3_Files.l0 k (filesR l (es.take i)) es (es.length : Int) (i : Int)) (filesR l es)
  | [], i, h => by
    have hi : es.length ≤ i := by simpa using h
    rw [List.take_of_length_le hi]
    exact Ev.some' (fun k => by simp only [glossatorref3_Files.l0]; rw [if_neg (by omega)])
  | x :: t, i, h => by
    obtain ⟨h1, h2, h3, h4⟩ := dropJ h
    have hrd : rd_T58 es (i : Int) = x := h3 z58
    have ih := files_l0 l hl es hes t (i + 1) h2
    rw [h4, filesR_snoc] at ih
    have hlen := filesR_len l (es.take i)
    rw [List.length_take] at hlen
    refine Ev.stepK (files_l1 es hes i h1 (filesR l (es.take i)) (by omega) x (filesR l es) ih _ 0 [] rfl rfl) (fun k => ?_)
    simp only [glossatorref3_Files.l0]
    rw [if_pos (by omega), if_pos (by omega), if_pos (by omega), hrd]
    rfl
theorem files_ev (l : List ByteArray) (hl : l.length ≤ 1000) (es : List S58) (hes : es.length ≤ 1000) : Ev (fun k => glossatorref3_Files.f k l es) (filesR l es) := by
  refine Ev.same (files_l0 l hl es hes es 0 rfl) (fun k => ?_)
  unfold glossatorref3_Files.f glossatorref3_SortStrings.f
  rw [if_pos (by omega)]
  rfl
theorem filesR_sorted (l : List ByteArray) (es : List S58) : (filesR l es).Pairwise (fun a b => ltS a b = true) := by
  refine snoc_ind (P := fun es => (filesR l es).Pairwise (fun a b => ltS a b = true)) (sortS_sorted l) (fun es e ih => ?_) es
  rw [filesR_snoc]
  unfold filesStep
  simp only
  split
  · exact sortS_sorted _
  · split
    · exact sortS_sorted _
    · split
      · exact ih.sublist List.filter_sublist
      · exact ih
theorem mem_filesStep (res : List ByteArray) (e : S58) (x : ByteArray) : x ∈ filesStep res e ↔ (if e.f2 = 1 ∨ e.f2 = 2 then x ∈ res ∨ x = e.f1 else if e.f2 = 3 then x ∈ res ∧ x ≠ e.f1 else x ∈ res) := by
  unfold filesStep
  by_cases c1 : e.f2 = 1
  · rw [if_pos c1, if_neg (by omega), if_pos (.inl c1), mem_sortS, List.mem_append, List.mem_singleton]
  · rw [if_neg c1]
    by_cases c2 : e.f2 = 2
    · rw [if_pos c2, if_neg (by omega), if_pos (.inr c2), mem_sortS, List.mem_append, List.mem_singleton]
    · rw [if_neg c2, if_neg (fun h : e.f2 = 1 ∨ e.f2 = 2 => h.elim c1 c2)]
      by_cases c3 : e.f2 = 3
      · rw [if_pos c3, if_pos c3, List.mem_filter]; simp
      · rw [if_neg c3, if_neg c3]
theorem mem_mdel_keys {β : Type} (m : List (ByteArray × β)) (x y : ByteArray) (hn : (m.map Prod.fst).Nodup) : y ∈ (mdel m x).map Prod.fst ↔ y ∈ m.map Prod.fst ∧ y ≠ x := by
  induction m with
  | nil => simp [mdel]
  | cons p t ih =>
    rw [List.map_cons, List.nodup_cons] at hn
    rw [mdel]
    by_cases c : p.1 = x
    · rw [if_pos c, List.map_cons, List.mem_cons]
      exact ⟨fun h => ⟨.inr h, fun e => hn.1 (by rw [c, ← e]; exact h)⟩, fun h => h.1.elim (fun e => absurd (e.trans c) h.2) id⟩
    · rw [if_neg c, List.map_cons, List.mem_cons, ih hn.2, List.map_cons, List.mem_cons]
      exact ⟨fun h => h.elim (fun e => ⟨.inl e, fun e2 => c (e.symm.trans e2)⟩) (fun h => ⟨.inr h.1, h.2⟩), fun h => h.1.elim .inl (fun h2 => .inr ⟨h2, h.2⟩)⟩
theorem fwAll_nodup (l : List ByteArray) (es : List S58) : ((fwAll l es).map Prod.fst).Nodup := by
  have h0 : ((fwFiles l).map Prod.fst).Nodup := by
    refine snoc_ind (P := fun l => ((fwFiles l).map Prod.fst).Nodup) List.nodup_nil (fun l x ih => ?_) l
    rw [fwFiles_snoc]
    exact keys_nodup _ _ ih
  refine snoc_ind (P := fun es => ((fwAll l es).map Prod.fst).Nodup) h0 (fun es e ih => ?_) es
  rw [fwAll_snoc, fwStep]
  split
  · exact keys_nodup _ _ ih
  · split
    · exact keys_nodup _ _ ih
    · split
      · exact ih.sublist (mdel_sub.map _)
      · exact ih
theorem fwFiles_keys (l : List ByteArray) (x : ByteArray) : x ∈ (fwFiles l).map Prod.fst ↔ x ∈ l := by
  refine snoc_ind (P := fun l => x ∈ (fwFiles l).map Prod.fst ↔ x ∈ l) (by simp [fwFiles]) (fun l y ih => ?_) l
  rw [fwFiles_snoc, mem_mset_keys, ih, List.mem_append, List.mem_singleton, or_comm]
theorem fwAll_keys (l : List ByteArray) (es : List S58) (x : ByteArray) : x ∈ (fwAll l es).map Prod.fst ↔ x ∈ filesR l es := by
  refine snoc_ind (P := fun es => x ∈ (fwAll l es).map Prod.fst ↔ x ∈ filesR l es) (by show x ∈ (fwFiles l).map Prod.fst ↔ x ∈ sortS l; rw [fwFiles_keys, mem_sortS]) (fun es e ih => ?_) es
  rw [fwAll_snoc, filesR_snoc, mem_filesStep, fwStep]
  by_cases c1 : e.f2 = 1
  · rw [if_pos c1, if_pos (.inl c1), mem_mset_keys, ih, or_comm]
  · rw [if_neg c1]
    by_cases c2 : e.f2 = 2
    · rw [if_pos c2, if_pos (.inr c2), mem_mset_keys, ih, or_comm]
    · rw [if_neg c2, if_neg (fun h : e.f2 = 1 ∨ e.f2 = 2 => h.elim c1 c2)]
      by_cases c3 : e.f2 = 3
      · rw [if_pos c3, if_pos c3, mem_mdel_keys _ _ _ (fwAll_nodup l es), ih]
      · rw [if_neg c3, if_neg c3, ih]
theorem applyR_eq (l : List ByteArray) (es : List S58) : applyR l es = filesR l es := by
  refine sorted_ext (lt := fun a b => ltS a b = true) (fun x => by rw [ltS_irrefl]; simp) (fun _ _ _ => ltS_trans) (sortS_sorted _) (filesR_sorted l es) (fun x => ?_)
  unfold applyR
  rw [mem_sortS]
  exact fwAll_keys l es x
/-! ### Consistent -/
def memB (l : List ByteArray) (x : ByteArray) : Bool := l.any (fun y => decide (x = y))
theorem memB_iff (l : List ByteArray) (x : ByteArray) : memB l x = true ↔ x ∈ l := by
  unfold memB
  rw [List.any_eq_true]
  exact ⟨fun ⟨y, hy, h⟩ => by rw [of_decide_eq_true h]; exact hy, fun h => ⟨x, h, decide_eq_true rfl⟩⟩
theorem memB_no {l : List ByteArray} {x : ByteArray} (h : x ∉ l) : memB l x = false := by
  cases e : memB l x with
  | false => rfl
  | true => exact absurd ((memB_iff l x).1 e) h
theorem index_ev (l : List ByteArray) (hl : l.length ≤ 100000) (x : ByteArray) : ∀ (t : List ByteArray) (i : Nat), l.drop i = t → ∃ r : Int, Ev (fun k => glossatorref3_Index_string.l0 k x l (l.length : Int) (i : Int)) r ∧ decide (r ≥ 0) = memB t x
  | [], i, h => by
    have : l.length ≤ i := by simpa using h
    exact ⟨-1, Ev.some' (fun k => by simp only [glossatorref3_Index_string.l0]; rw [if_neg (by omega)]), rfl⟩
  | y :: t, i, h => by
    obtain ⟨h1, h2, h3, _⟩ := dropJ h
    have hrd : rdOf ByteArray.empty l (i : Int) = y := h3 _
    have hst : ∀ k, glossatorref3_Index_string.l0 (k + 1) x l (l.length : Int) (i : Int) = if x.toList = y.toList then some (i : Int) else glossatorref3_Index_string.l0 k x l (l.length : Int) ((i + 1 : Nat) : Int) := by
      intro k
      simp only [glossatorref3_Index_string.l0]
      rw [if_pos (by omega), if_pos (by omega), if_pos (by omega), hrd, wrap_id (by omega) (by omega)]
      rfl
    by_cases c : x = y
    · exact ⟨(i : Int), Ev.some' (fun k => by rw [hst, if_pos ((bytes_iff _ _).2 c)]), by rw [(memB_iff _ _).2 (by rw [c]; exact List.mem_cons_self)]; simp⟩
    · obtain ⟨r, hr, hk⟩ := index_ev l hl x t (i + 1) h2
      exact ⟨r, Ev.stepK hr (fun k => by rw [hst, if_neg (fun hh => c ((bytes_iff _ _).1 hh))]), by rw [hk]; unfold memB; rw [List.any_cons, decide_eq_false c, Bool.false_or]⟩
theorem containsS_ev (l : List ByteArray) (hl : l.length ≤ 100000) (x : ByteArray) : Ev (fun k => glossatorref3_Contains_string.f k l x) (memB l x) := by
  obtain ⟨r, hr, hk⟩ := index_ev l hl x l 0 rfl
  rw [← hk]
  exact Ev.bind hr (Ev.now _)
theorem cons_ev (l : List ByteArray) (hl : l.length ≤ 1000) (es : List S58) (hes : es.length ≤ 1000) : ∀ (t : List S58) (i : Nat) (m : List (ByteArray × Int)), es.drop i = t → (∀ x, (mget m x).getD 0 ≠ 0 ↔ x ∈ filesR l (es.take i)) →
    Ev (fun k => glossatorref3_Consistent.l0 k l es es (es.length : Int) (i : Int)) (consGo m t)
  | [], i, m, h, _ => by
    have : es.length ≤ i := by simpa using h
    exact Ev.some' (fun k => by simp only [glossatorref3_Consistent.l0]; rw [if_neg (by omega)]; rfl)
  | e :: t, i, m, h, hm => by
    obtain ⟨h1, h2, h3, h4⟩ := dropJ h
    have hrd : rd_T58 es (i : Int) = e := h3 z58
    have hw : wrap64 ((i : Int) + 1) = ((i + 1 : Nat) : Int) := by rw [wrap_id (by omega) (by omega)]; rfl
    have hlen := filesR_len l (es.take i)
    rw [List.length_take] at hlen
    have hst : ∀ k, glossatorref3_Consistent.l0 (k + 1) l es es (es.length : Int) (i : Int) = ((glossatorref3_Files.f k l (es.take i)).bind fun t197 => ((glossatorref3_Contains_string.f k t197 e.f1).bind fun t200 => (if e.f2 = 1 then (if t200 = true then (some false) else (if e.f2 = 2 then (some false) else (if e.f2 = 3 then (some false) else (glossatorref3_Consistent.l0 k l es es (es.length : Int) ((i + 1 : Nat) : Int))))) else (if e.f2 = 2 then (if t200 = true then (glossatorref3_Consistent.l0 k l es es (es.length : Int) ((i + 1 : Nat) : Int)) else (some false)) else (if e.f2 = 3 then (if t200 = true then (glossatorref3_Consistent.l0 k l es es (es.length : Int) ((i + 1 : Nat) : Int)) else (some false)) else (glossatorref3_Consistent.l0 k l es es (es.length : Int) ((i + 1 : Nat) : Int))))))) := by
      intro k
      simp only [glossatorref3_Consistent.l0]
      rw [if_pos (by omega), if_pos (by omega), if_pos (by omega), if_pos (by omega), hrd, hw, Int.toNat_natCast]
    refine Ev.stepK ?_ hst
    refine Ev.bind (files_ev l hl (es.take i) (by rw [List.length_take]; omega)) ?_
    refine Ev.bind (containsS_ev _ (by omega) e.f1) ?_
    have hex := hm e.f1
    rw [consGo]
    by_cases kv : 1 ≤ e.f2 ∧ e.f2 ≤ 3
    · by_cases hx : e.f1 ∈ filesR l (es.take i)
      · have hv : ((mget m e.f1).getD 0 != 0) = true := by simpa using hex.2 hx
        by_cases c1 : e.f2 = 1
        · have hs : consStep m e = none := by unfold consStep; rw [if_pos kv, if_pos (by rw [hv]; simp [c1])]
          rw [hs]
          exact Ev.pos c1 (Ev.pos ((memB_iff _ _).2 hx) (Ev.now _))
        · have hs : consStep m e = some (if e.f2 = 3 then mset (mset m e.f1 1) e.f1 0 else mset m e.f1 1) := by unfold consStep; rw [if_pos kv, if_neg (by rw [hv]; simp [c1])]
          rw [hs]
          have hnext : ∀ x, (mget (if e.f2 = 3 then mset (mset m e.f1 1) e.f1 0 else mset m e.f1 1) x).getD 0 ≠ 0 ↔ x ∈ filesR l (es.take (i + 1)) := by
            intro x
            rw [h4, filesR_snoc, mem_filesStep]
            by_cases c3 : e.f2 = 3
            · rw [if_pos c3, if_neg (by omega), if_pos c3]
              by_cases hxe : e.f1 = x
              · subst hxe; rw [mget_mset_same]; simp
              · rw [mget_mset_ne _ _ hxe, mget_mset_ne _ _ hxe, hm x]
                exact ⟨fun h => ⟨h, fun e2 => hxe e2.symm⟩, fun h => h.1⟩
            · rw [if_neg c3, if_pos (by omega)]
              by_cases hxe : e.f1 = x
              · subst hxe; rw [mget_mset_same]; simp
              · rw [mget_mset_ne _ _ hxe, hm x]
                exact ⟨.inl, fun h => h.elim id (fun e2 => absurd e2.symm hxe)⟩
          have ih := cons_ev l hl es hes t (i + 1) _ h2 hnext
          refine Ev.neg c1 ?_
          by_cases c2 : e.f2 = 2
          · exact Ev.pos c2 (Ev.pos ((memB_iff _ _).2 hx) ih)
          · exact Ev.neg c2 (Ev.pos (by omega) (Ev.pos ((memB_iff _ _).2 hx) ih))
      · have hv : ((mget m e.f1).getD 0 != 0) = false := by
          have : ¬ (mget m e.f1).getD 0 ≠ 0 := fun h => hx (hex.1 h)
          simpa using this
        by_cases c1 : e.f2 = 1
        · have hs : consStep m e = some (if e.f2 = 3 then mset (mset m e.f1 1) e.f1 0 else mset m e.f1 1) := by unfold consStep; rw [if_pos kv, if_neg (by rw [hv]; simp [c1])]
          rw [hs]
          have hnext : ∀ x, (mget (if e.f2 = 3 then mset (mset m e.f1 1) e.f1 0 else mset m e.f1 1) x).getD 0 ≠ 0 ↔ x ∈ filesR l (es.take (i + 1)) := by
            intro x
            rw [h4, filesR_snoc, mem_filesStep, if_neg (by omega), if_pos (.inl c1)]
            by_cases hxe : e.f1 = x
            · subst hxe; rw [mget_mset_same]; simp
            · rw [mget_mset_ne _ _ hxe, hm x]
              exact ⟨.inl, fun h => h.elim id (fun e2 => absurd e2.symm hxe)⟩
          have ih := cons_ev l hl es hes t (i + 1) _ h2 hnext
          exact Ev.pos c1 (Ev.neg (by rw [memB_no hx]; simp) (Ev.neg (by omega) (Ev.neg (by omega) ih)))
        · have hs : consStep m e = none := by unfold consStep; rw [if_pos kv, if_pos (by rw [hv]; simp [c1])]
          rw [hs]
          refine Ev.neg c1 ?_
          by_cases c2 : e.f2 = 2
          · exact Ev.pos c2 (Ev.neg (by rw [memB_no hx]; simp) (Ev.now _))
          · exact Ev.neg c2 (Ev.pos (by omega) (Ev.neg (by rw [memB_no hx]; simp) (Ev.now _)))
    · have hs : consStep m e = some m := by unfold consStep; rw [if_neg kv]
      rw [hs]
      have hnext : ∀ x, (mget m x).getD 0 ≠ 0 ↔ x ∈ filesR l (es.take (i + 1)) := by
        intro x
        rw [h4, filesR_snoc, mem_filesStep, if_neg (by omega), if_neg (by omega)]
        exact hm x
      have ih := cons_ev l hl es hes t (i + 1) _ h2 hnext
      exact Ev.neg (by omega) (Ev.neg (by omega) (Ev.neg (by omega) ih))
theorem fwFiles_get (l : List ByteArray) (x : ByteArray) : (mget (fwFiles l) x).getD 0 ≠ 0 ↔ x ∈ l := by
  refine snoc_ind (P := fun l => (mget (fwFiles l) x).getD 0 ≠ 0 ↔ x ∈ l) (by simp [fwFiles, mget]) (fun l y ih => ?_) l
  rw [fwFiles_snoc, List.mem_append, List.mem_singleton]
  by_cases h : y = x
  · subst h; rw [mget_mset_same]; simp
  · rw [mget_mset_ne _ _ h, ih]
    exact ⟨.inl, fun hh => hh.elim id (fun e => absurd e.symm h)⟩
theorem consistent_ev (l : List ByteArray) (hl : l.length ≤ 1000) (es : List S58) (hes : es.length ≤ 1000) : Ev (fun k => glossatorref3_Consistent.f k l es) (consR l es) :=
  cons_ev l hl es hes es 0 (fwFiles l) rfl (fun x => by rw [fwFiles_get]; show x ∈ l ↔ x ∈ sortS l; rw [mem_sortS])
/-! ### the law -/
theorem example_ev : Ev (fun k => glossatorlaw3_watchExample.f k) true := Ev.of (k := 60) (fun k => glossatorlaw3_watchExample.mono k) (by decide +kernel)
theorem refAll_rows (d : Int) : ∀ (n : Nat) (l : List S58), l.length ≤ n → ∀ b ∈ refAll d l, b.f1.length ≤ n
  | 0, l, h, b, hb => by
    obtain rfl : l = [] := List.eq_nil_of_length_eq_zero (by omega)
    rw [refAll] at hb
    cases hb
  | n + 1, [], h, b, hb => by rw [refAll] at hb; cases hb
  | n + 1, e :: t, h, b, hb => by
    have h1 := grp_len d e t
    have hg : ∀ (p : S58) (l : List S58), (grp d p l).1.length ≤ l.length := by
      intro p l
      induction l generalizing p with
      | nil => exact Nat.le_refl _
      | cons q l ih =>
        rw [grp]
        split
        · simp only [List.length_cons]; have := ih q; omega
        · exact Nat.zero_le _
    have h3 := hg e t
    rw [List.length_cons] at h
    rw [refAll, List.mem_append] at hb
    rcases hb with hb | hb
    · unfold batchOf at hb
      split at hb
      · cases hb
      · rw [List.mem_singleton] at hb
        subst hb
        show (refEvents _).length ≤ n + 1
        unfold refEvents refOut refKeys
        refine Nat.le_trans (List.length_filter_le _ _) ?_
        rw [List.length_map]
        refine Nat.le_trans (sortS_len _) ?_
        rw [List.length_map, List.length_cons]
        omega
    · have := refAll_rows d n (grp d e t).2 (by omega) b hb
      omega
theorem FilewatchBatches : glossatorlaw3_FilewatchBatches.PureR := by
  intro a0 a1 a2 a3 a4 h0 _ h2 _ _
  have hmn : mn (a0.length : Int) 40 = ((min a0.length 40 : Nat) : Int) := by unfold mn; split <;> omega
  have hmn2 : mn (a2.length : Int) 10 = ((min a2.length 10 : Nat) : Int) := by unfold mn; split <;> omega
  obtain ⟨es, hes⟩ : ∃ es, a0.take (min a0.length 40) = es := ⟨_, rfl⟩
  obtain ⟨l, hl⟩ : ∃ l, a2.take (min a2.length 10) = l := ⟨_, rfl⟩
  have hel : es.length ≤ 40 := by rw [← hes, List.length_take]; omega
  have hll : l.length ≤ 10 := by rw [← hl, List.length_take]; omega
  have hes1 : ∀ e ∈ es, e.f1.size ≤ 140737488351232 := fun e he => (h0.2 e (by rw [← hes] at he; exact List.mem_of_mem_take he)).2.1
  have hl1 : ∀ x ∈ l, x.size ≤ 140737488351232 := fun x hx => h2.2 x (by rw [← hl] at hx; exact List.mem_of_mem_take hx)
  have hj : Ev (fun k => glossatorlaw3_FilewatchBatches.j0 k es l a3 a4 false) true := by
    refine Ev.stepK (f := fun k => (glossatorlaw3_watchExample.f k).bind fun t216 => (if t216 = true then ((filewatch_Merge.f k a3 a4).bind fun t217 => ((glossatorref3_Merge.f a3 a4).bind fun t218 => (if t217 = t218 then ((filewatch_Apply.f l es).bind fun t219 => ((glossatorref3_Files.f k l es).bind fun t222 => ((glossatorref3_Equal_string.f k t219 t222).bind fun t225 => (if t225 = true then ((filewatch_Consistent.f l es).bind fun t226 => ((glossatorref3_Consistent.f k l es).bind fun t227 => (some (t226 == t227)))) else (some false))))) else (some false)))) else (some false))) ?_ (fun k => by simp only [glossatorlaw3_FilewatchBatches.j0]; rw [if_neg (by simp)])
    refine Ev.bind example_ev ?_
    refine Ev.pos rfl ?_
    refine Ev.bind (Ev.stepK (f := fun k => filewatch_Merge.f (k + 1) a3 a4) (Ev.some' (fun k => merge_f k a3 a4)) (fun k => rfl)) ?_
    refine Ev.same (f := fun k => ((glossatorref3_Files.f k l es).bind fun t222 => ((glossatorref3_Equal_string.f k (applyR l es) t222).bind fun t225 => (if t225 = true then ((glossatorref3_Consistent.f k l es).bind fun t227 => (some (consR l es == t227))) else (some false))))) ?_ (fun k => ?_)
    · rw [applyR_eq]
      refine Ev.bind (files_ev l (by omega) es (by omega)) ?_
      refine Ev.bind (eqS _ (by have := filesR_len l es; omega)) ?_
      refine Ev.pos rfl ?_
      refine Ev.bind (consistent_ev l (by omega) es (by omega)) ?_
      rw [beq_self_eq_true]
      exact Ev.now _
    · unfold glossatorref3_Merge.f filewatch_Apply.f filewatch_Consistent.f
      rw [Option.bind_some, if_pos rfl, if_pos ⟨by omega, by omega, fun x hx => by have := hl1 x hx; unfold maxLen; omega, fun e he => by have := hes1 e he; unfold maxLen; omega⟩, if_pos ⟨by omega, by omega⟩]
      rfl
  refine Ev.rounds (Ev.same (f := fun k => (glossatorlaw3_watchExample.f k).bind fun t201 => (if t201 = true then ((filewatch_Batches.f k es a1).bind fun bt207 => ((glossatorref3_CheckEvents.f k es a1).bind fun t211 => (if bt207.2 = t211 then (if t211 = 0 then ((glossatorref3_Batches.f es a1).bind fun t212 => ((glossatorref3_EqualBatches.f k bt207.1 t212).bind fun t215 => (glossatorlaw3_FilewatchBatches.j0 k es l a3 a4 (!t215)))) else (if (bt207.1.length : Int) > 0 then (glossatorlaw3_FilewatchBatches.j0 k es l a3 a4 true) else (glossatorlaw3_FilewatchBatches.j0 k es l a3 a4 false))) else (glossatorlaw3_FilewatchBatches.j0 k es l a3 a4 true)))) else (some false))) ?_ (fun k => ?_))
  · refine Ev.bind example_ev ?_
    refine Ev.pos rfl ?_
    refine Ev.bind (batches_ev es (by omega) hes1 a1) ?_
    refine Ev.bind (check_ev es (by omega) a1) ?_
    by_cases c : checkP es a1 = 0
    · rw [if_pos c]
      refine Ev.pos c.symm (Ev.pos c ?_)
      refine Ev.same (f := fun k => (glossatorref3_EqualBatches.f k (refAll a1 es) (refAll a1 es)).bind fun t215 => (glossatorlaw3_FilewatchBatches.j0 k es l a3 a4 (!t215))) ?_ (fun k => ?_)
      · refine Ev.bind (eqB _ (by have := refAll_len a1 _ es (Nat.le_refl _); omega) (fun b hb => by have := refAll_rows a1 _ es (Nat.le_refl _) b hb; omega)) hj
      · unfold glossatorref3_Batches.f
        rw [if_pos (by omega)]
        rfl
    · rw [if_neg c]
      exact Ev.pos rfl (Ev.neg c (Ev.neg (by simp) hj))
  · have e1 : (0 : Int) ≤ ((min a0.length 40 : Nat) : Int) := by omega
    have e2 : ((min a0.length 40 : Nat) : Int) ≤ (a0.length : Int) := by omega
    have e3 : (0 : Int) ≤ ((min a2.length 10 : Nat) : Int) := by omega
    have e4 : ((min a2.length 10 : Nat) : Int) ≤ (a2.length : Int) := by omega
    unfold glossatorlaw3_FilewatchBatches.f
    simp only [hmn, hmn2, if_pos e1, if_pos e2, if_pos e3, if_pos e4, Int.toNat_natCast, hes, hl, Option.bind_some]
end Go.Proofs.Ytcikmpcacakfbaa.Pr

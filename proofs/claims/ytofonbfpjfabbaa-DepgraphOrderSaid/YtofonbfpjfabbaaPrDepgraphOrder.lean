/-
  The pure statement of DepgraphOrder: the order exists where no key reaches itself, and is the reference's.
-/
import Derived.Test.YtofonbfpjfabbaaSDepgraphOrder
import Derived.Test.YtofonbfpjfabbaaAid
namespace Go.Proofs.Ytofonbfpjfabbaa.Pr
open Go.Proofs.YtofonbfpjfabbaaW.PrintLast hiding readyB
open Go.RowKit Go.Proofs.YtofonbfpjfabbaaW.PrintWords Go.Proofs.YtofonbfpjfabbaaW.PrintMore Go.Proofs.Ytofonbfpjfabbaa.QDepgraphOrder Go.Proofs.Ytofonbfpjfabbaa.Aid Go.Proofs.Ytofonbfpjfabbaa.Hand
set_option linter.unusedVariables false
set_option linter.unusedSimpArgs false
theorem dropG {α : Type} {xs t : List α} {x : α} {i : Nat} (h : xs.drop i = x :: t) : i < xs.length ∧ xs.drop (i + 1) = t ∧ (∀ d, xs.getD ((i : Int)).toNat d = x) := by
  have hl : i < xs.length := by
    rcases Nat.lt_or_ge i xs.length with h1 | h1
    · exact h1
    · rw [List.drop_eq_nil_of_le h1] at h; cases h
  rw [List.drop_eq_getElem_cons hl] at h
  injection h with h1 h2
  refine ⟨hl, h2, fun d => ?_⟩
  rw [Int.toNat_natCast, List.getD_eq_getElem?_getD, List.getElem?_eq_getElem hl]
  exact h1
theorem eqK_l0 (xs : List S24) (hx : xs.length < 1000000) : ∀ (t : List S24) (i : Nat), xs.drop i = t → Ev (fun k => api_QKey_8.l0 k xs xs (xs.length : Int) (i : Int)) true
  | [], i, h => by
    have : xs.length ≤ i := by simpa using h
    exact Ev.some' (fun k => by simp only [api_QKey_8.l0]; rw [if_neg (by omega)])
  | x :: t, i, h => by
    obtain ⟨h1, h2, h3⟩ := dropG h
    refine Ev.stepK (eqK_l0 xs hx t (i + 1) h2) (fun k => ?_)
    simp only [api_QKey_8.l0]
    rw [if_pos (by omega), if_pos (by omega), if_pos (by omega), if_pos (by omega), if_neg (by simp), wrap_id (by omega) (by omega)]
    rfl
theorem eqK (xs : List S24) (hx : xs.length < 1000000) : Ev (fun k => api_QKey_8.f k xs xs) true :=
  Ev.same (eqK_l0 xs hx xs 0 rfl) (fun k => by unfold api_QKey_8.f; rw [if_pos rfl]; rfl)
theorem idxK (xs : List S24) (x : S24) (hx : xs.length < 1000000) : ∀ (t : List S24) (i : Nat), xs.drop i = t → Ev (fun k => (api_QKey_40.l0 k xs (xs.length : Int) (i : Int) x.f0 x.f1 x.f2).bind fun t => some (decide (t ≥ 0))) (decide (x ∈ t))
  | [], i, h => by
    have : xs.length ≤ i := by simpa using h
    refine Ev.some' (fun k => ?_)
    simp only [api_QKey_40.l0]
    rw [if_neg (by omega)]
    rfl
  | y :: t, i, h => by
    obtain ⟨h1, h2, h3⟩ := dropG h
    have hy : rd_T24 xs (i : Int) = y := h3 _
    by_cases c : x = y
    · refine Ev.some' (fun k => ?_)
      simp only [api_QKey_40.l0]
      rw [if_pos (by omega), if_pos (by omega), if_pos (by omega), hy, if_pos (by rw [c]; simp)]
      rw [c, decide_eq_true (List.mem_cons_self)]
      simp
    · have hd : decide (x ∈ y :: t) = decide (x ∈ t) := by
        rw [Bool.eq_iff_iff, decide_eq_true_iff, decide_eq_true_iff, List.mem_cons]
        exact ⟨fun h => h.resolve_left c, .inr⟩
      rw [hd]
      refine Ev.stepK (idxK xs x hx t (i + 1) h2) (fun k => ?_)
      simp only [api_QKey_40.l0]
      rw [if_pos (by omega), if_pos (by omega), if_pos (by omega), hy, if_neg (fun hh => c (by
        simp only [Bool.and_eq_true, beq_iff_eq] at hh
        exact S24.ext' hh.1 hh.2.1 hh.2.2)), wrap_id (by omega) (by omega)]
      rfl
theorem contK (xs : List S24) (x : S24) (hx : xs.length < 1000000) : Ev (fun k => api_QKey_23.f k xs x.f0 x.f1 x.f2) (decide (x ∈ xs)) :=
  Ev.same (idxK xs x hx xs 0 rfl) (fun k => rfl)
theorem pass_ev (l : List S44) (key : S24) (R : List S24) (hl : l.length < 1000) : ∀ (t : List S44) (i : Nat) (r : List S24) (b : Bool), l.drop i = t → r.length + t.length < 100000 →
    Ev (fun k => glossatorref3_Reachable.l0 k l (passK (edgesP false t) key r) (b || decide ((passK (edgesP false t) key r).length ≠ r.length)) key.f0 key.f1 key.f2) R →
    Ev (fun k => glossatorref3_Reachable.l1 k l r b l (l.length : Int) (i : Int) key.f0 key.f1 key.f2) R
  | [], i, r, b, h, hr, e => by
    have : l.length ≤ i := by simpa using h
    refine Ev.stepK e (fun k => ?_)
    simp only [glossatorref3_Reachable.l1]
    rw [if_neg (by omega)]
    have : passK (edgesP false []) key r = r := rfl
    rw [this]
    simp
  | x :: t, i, r, b, h, hr, e => by
    obtain ⟨h1, h2, h3⟩ := dropG h
    have hx : rd_T44 l (i : Int) = x := h3 _
    rw [List.length_cons] at hr
    have hp : passK (edgesP false (x :: t)) key r = passK (edgesP false t) key (passOne key r (x.f0, x.f1)) := rfl
    rw [hp] at e
    have hlen := passK_len key (edgesP false t) (passOne key r (x.f0, x.f1))
    -- what follows the edge
    have hno : passOne key r (x.f0, x.f1) = r → Ev (fun k => glossatorref3_Reachable.l1 k l r b l (l.length : Int) ((i + 1 : Nat) : Int) key.f0 key.f1 key.f2) R := fun h0 => by
      rw [h0] at e
      exact pass_ev l key R hl t (i + 1) r b h2 (by omega) e
    have hyes : passOne key r (x.f0, x.f1) = r ++ [x.f1] → Ev (fun k => glossatorref3_Reachable.l1 k l (r ++ [x.f1]) true l (l.length : Int) ((i + 1 : Nat) : Int) key.f0 key.f1 key.f2) R := fun h0 => by
      rw [h0] at e hlen
      rw [List.length_append, List.length_singleton] at hlen
      refine pass_ev l key R hl t (i + 1) (r ++ [x.f1]) true h2 (by rw [List.length_append, List.length_singleton]; omega) ?_
      have hb : (b || decide ((passK (edgesP false t) key (r ++ [x.f1])).length ≠ r.length)) = true := by
        rw [decide_eq_true (by omega), Bool.or_true]
      rw [hb] at e
      exact e
    have hadd : Ev (fun k => (api_QKey_23.f k r x.f1.f0 x.f1.f1 x.f1.f2).bind fun t172 => (if t172 = true then (glossatorref3_Reachable.l1 k l r b l (l.length : Int) ((i + 1 : Nat) : Int) key.f0 key.f1 key.f2) else (if r.length < 5864062014805 then (glossatorref3_Reachable.l1 k l (r ++ [(⟨x.f1.f0, x.f1.f1, x.f1.f2⟩ : S24)]) true l (l.length : Int) ((i + 1 : Nat) : Int) key.f0 key.f1 key.f2) else (none)))) R ∨ ¬ (x.f0 = key ∨ x.f0 ∈ r) := by
      by_cases c : x.f0 = key ∨ x.f0 ∈ r
      · left
        refine Ev.bind (contK r x.f1 (by omega)) ?_
        by_cases d : x.f1 ∈ r
        · rw [decide_eq_true d]
          exact Ev.pos rfl (hno (by unfold passOne; rw [if_neg (fun hh => hh.2 d)]))
        · rw [decide_eq_false d]
          refine Ev.neg (by simp) (Ev.pos (by omega) (hyes ?_))
          unfold passOne
          rw [if_pos ⟨c, d⟩]
      · exact .inr c
    have hkey : (((x.f0.f0) == key.f0 && ((x.f0.f1) == key.f1 && ((x.f0.f2) == key.f2))) = true) ↔ x.f0 = key := by
      simp only [Bool.and_eq_true, beq_iff_eq]
      exact ⟨fun h => S24.ext' h.1 h.2.1 h.2.2, fun h => by rw [h]; exact ⟨rfl, rfl, rfl⟩⟩
    refine Ev.stepK (f := fun k => if (((x.f0.f0) == key.f0 && ((x.f0.f1) == key.f1 && ((x.f0.f2) == key.f2))) = true) then ((api_QKey_23.f k r x.f1.f0 x.f1.f1 x.f1.f2).bind fun t172 => (if t172 = true then (glossatorref3_Reachable.l1 k l r b l (l.length : Int) ((i + 1 : Nat) : Int) key.f0 key.f1 key.f2) else (if r.length < 5864062014805 then (glossatorref3_Reachable.l1 k l (r ++ [(⟨x.f1.f0, x.f1.f1, x.f1.f2⟩ : S24)]) true l (l.length : Int) ((i + 1 : Nat) : Int) key.f0 key.f1 key.f2) else (none))))
      else ((api_QKey_23.f k r x.f0.f0 x.f0.f1 x.f0.f2).bind fun t171 => (if t171 = true then ((api_QKey_23.f k r x.f1.f0 x.f1.f1 x.f1.f2).bind fun t172 => (if t172 = true then (glossatorref3_Reachable.l1 k l r b l (l.length : Int) ((i + 1 : Nat) : Int) key.f0 key.f1 key.f2) else (if r.length < 5864062014805 then (glossatorref3_Reachable.l1 k l (r ++ [(⟨x.f1.f0, x.f1.f1, x.f1.f2⟩ : S24)]) true l (l.length : Int) ((i + 1 : Nat) : Int) key.f0 key.f1 key.f2) else (none)))) else (glossatorref3_Reachable.l1 k l r b l (l.length : Int) ((i + 1 : Nat) : Int) key.f0 key.f1 key.f2)))) ?_ (fun k => ?_)
    · by_cases c : x.f0 = key
      · exact Ev.pos (hkey.2 c) (hadd.resolve_right (fun hh => hh (.inl c)))
      · refine Ev.neg (fun hh => c (hkey.1 hh)) (Ev.bind (contK r x.f0 (by omega)) ?_)
        by_cases d : x.f0 ∈ r
        · rw [decide_eq_true d]
          exact Ev.pos rfl (hadd.resolve_right (fun hh => hh (.inr d)))
        · rw [decide_eq_false d]
          exact Ev.neg (by simp) (hno (by unfold passOne; rw [if_neg (fun hh => hh.1.elim c d)]))
    · simp only [glossatorref3_Reachable.l1]
      rw [if_pos (by omega), if_pos (by omega), if_pos (by omega), hx, wrap_id (n := (i : Int) + 1) (by omega) (by omega)]
      rfl
theorem edges_len (b : Bool) (l : List S44) : (edgesP b l).length = l.length := by unfold edgesP; rw [List.length_map]
theorem loop_ev (l : List S44) (key : S24) (hl : l.length < 1000) : ∀ (n : Nat) (r : List S24), Fnd (edgesP false l) key r → l.length + 1 - r.length ≤ n → Ev (fun k => glossatorref3_Reachable.l0 k l r true key.f0 key.f1 key.f2) (reachR (edgesP false l) key)
  | 0, r, hf, hn => by
    have hrl := fnd_len hf
    rw [edges_len] at hrl
    omega
  | n + 1, r, hf, hn => by
    have hrl := fnd_len hf
    rw [edges_len] at hrl
    refine Ev.stepK (f := fun k => glossatorref3_Reachable.l1 k l r false l (l.length : Int) ((0 : Nat) : Int) key.f0 key.f1 key.f2) ?_ (fun k => by simp only [glossatorref3_Reachable.l0, if_true]; rfl)
    refine pass_ev l key _ hl l 0 r false rfl (by omega) ?_
    have hf' := passK_fnd (E0 := edgesP false l) (key := key) (edgesP false l) r (fun _ h => h) hf
    have hle := passK_len key (edgesP false l) r
    by_cases c : (passK (edgesP false l) key r).length = r.length
    · obtain ⟨h1, h2⟩ := passK_fix key (edgesP false l) r c
      have hb : (false || decide ((passK (edgesP false l) key r).length ≠ r.length)) = false := by rw [decide_eq_false (by omega)]; rfl
      rw [hb, h1]
      refine Ev.some' (fun k => ?_)
      simp only [glossatorref3_Reachable.l0]
      rw [if_neg (by simp)]
      unfold glossatorref3_SortKeys.f
      rw [if_pos (by omega)]
      show some (sortK ltK r) = some (reachR (edgesP false l) key)
      unfold reachR
      rw [sortK_ext ordK (fun x => by rw [mem_fixK]; exact ⟨fun hx => hf.reach x hx, fun hx => closed_all h2 hx⟩)]
    · have hb : (false || decide ((passK (edgesP false l) key r).length ≠ r.length)) = true := by rw [decide_eq_true (by omega)]; rfl
      rw [hb]
      have hrl' := fnd_len hf'
      rw [edges_len] at hrl'
      exact loop_ev l key hl n _ hf' (by omega)
theorem reach_ev (l : List S44) (key : S24) (hl : l.length < 1000) : Ev (fun k => glossatorref3_Reachable.f k l key.f0 key.f1 key.f2) (reachR (edgesP false l) key) :=
  loop_ev l key hl (l.length + 1) [] ⟨List.nodup_nil, fun x hx => by cases hx⟩ (by simp)
theorem example_ev : Ev (fun k => glossatorlaw3_graphExample.f k) true := by
  unfold glossatorlaw3_graphExample.f
  have e1 : reachR (edgesP false ([(⟨(⟨0, 3, 0⟩ : S24), (⟨0, 2, 0⟩ : S24)⟩ : S44), (⟨(⟨0, 2, 0⟩ : S24), (⟨0, 1, 0⟩ : S24)⟩ : S44)].take 400)) ⟨0, 3, 0⟩ = [(⟨0, 1, 0⟩ : S24), (⟨0, 2, 0⟩ : S24)] := by decide
  have e2 : reachR (edgesP true ([(⟨(⟨0, 3, 0⟩ : S24), (⟨0, 2, 0⟩ : S24)⟩ : S44), (⟨(⟨0, 2, 0⟩ : S24), (⟨0, 1, 0⟩ : S24)⟩ : S44)].take 400)) ⟨0, 1, 0⟩ = [(⟨0, 2, 0⟩ : S24), (⟨0, 3, 0⟩ : S24)] := by decide
  simp only [Option.bind_some, depgraph_Dependencies.f, depgraph_Dependents.f, e1, e2]
  refine Ev.bind (eqK _ (by simp)) (Ev.pos rfl (Ev.bind (eqK _ (by simp)) ?_))
  exact Ev.now _
theorem reachR_len (E : List (S24 × S24)) (key : S24) : (reachR E key).length ≤ E.length := by
  unfold reachR
  exact Nat.le_trans (sortK_len ltK _) (fnd_len (fixK_fnd E key))

/-! ### the nodes -/
theorem keysK_take (l : List S44) (i : Nat) (x : S44) (h : l.drop i = x :: l.drop (i + 1)) (hi : i < l.length) : (edgesP false (l.take (i + 1))).flatMap (fun p => [p.1, p.2]) = (edgesP false (l.take i)).flatMap (fun p => [p.1, p.2]) ++ [x.f0, x.f1] := by
  have ht : l.take (i + 1) = l.take i ++ [x] := by
    rw [List.take_succ_eq_append_getElem hi]
    rw [List.drop_eq_getElem_cons hi] at h
    injection h with h4 _
    rw [h4]
  rw [ht]
  unfold edgesP
  rw [List.map_append, List.flatMap_append]
  rfl
theorem flat_len (E : List (S24 × S24)) : (E.flatMap (fun p => [p.1, p.2])).length = 2 * E.length := by
  induction E with
  | nil => rfl
  | cons p t ih => rw [List.flatMap_cons, List.length_append, ih, List.length_cons]; simp; omega
theorem nodes_l0 (l : List S44) (hl : l.length < 1000) : ∀ (t : List S44) (i : Nat), l.drop i = t → i + t.length = l.length → Ev (fun k => glossatorref3_Nodes.l0 k ((edgesP false (l.take i)).flatMap (fun p => [p.1, p.2])) l (l.length : Int) (i : Int)) (keysK (edgesP false l))
  | [], i, h, hi => by
    simp at hi
    refine Ev.some' (fun k => ?_)
    simp only [glossatorref3_Nodes.l0]
    have hf := flat_len (edgesP false l)
    rw [edges_len] at hf
    rw [if_neg (by omega), List.take_of_length_le (by omega)]
    unfold glossatorref3_SortKeys.f
    rw [if_pos (by omega)]
    rfl
  | x :: t, i, h, hi => by
    obtain ⟨h1, h2, h3⟩ := dropG h
    have hx : rd_T44 l (i : Int) = x := h3 _
    rw [List.length_cons] at hi
    have hf := flat_len (edgesP false (l.take i))
    rw [edges_len, List.length_take] at hf
    refine Ev.stepK (nodes_l0 l hl t (i + 1) h2 (by omega)) (fun k => ?_)
    simp only [glossatorref3_Nodes.l0]
    rw [if_pos (by omega), if_pos (by omega), if_pos (by omega), hx, wrap_id (n := (i : Int) + 1) (by omega) (by omega)]
    simp only [Option.bind_some]
    rw [if_pos (by rw [hf]; simp only [List.length_cons, List.length_nil]; omega), keysK_take l i x (by rw [h, h2]) h1]
    rfl
theorem nodes_ev (l : List S44) (hl : l.length < 1000) : Ev (fun k => glossatorref3_Nodes.f k l) (keysK (edgesP false l)) := Ev.same (nodes_l0 l hl l 0 rfl (by simp)) (fun k => rfl)
/-! ### what can be placed -/
theorem place_l0 (l : List S44) (pl : List S24) (key : S24) (hl : l.length < 1000) (hp : pl.length < 100000) : ∀ (t : List S44) (i : Nat), l.drop i = t → Ev (fun k => glossatorref3_placeable.l0 k pl l (l.length : Int) (i : Int) key.f0 key.f1 key.f2) (t.all (fun e => !decide (e.f0 = key) || decide (e.f1 ∈ pl)) && !decide (key ∈ pl))
  | [], i, h => by
    have hi : l.length ≤ i := by simpa using h
    refine Ev.stepK (f := fun k => (api_QKey_23.f k pl key.f0 key.f1 key.f2).bind fun t200 => (some (!t200))) (Ev.bind (contK pl key (by omega)) ?_) (fun k => by simp only [glossatorref3_placeable.l0]; rw [if_neg (by omega)])
    exact Ev.now _
  | x :: t, i, h => by
    obtain ⟨h1, h2, h3⟩ := dropG h
    have hx : rd_T44 l (i : Int) = x := h3 _
    have ih := place_l0 l pl key hl hp t (i + 1) h2
    have hkey : (((x.f0.f0) == key.f0 && ((x.f0.f1) == key.f1 && ((x.f0.f2) == key.f2))) = true) ↔ x.f0 = key := by
      simp only [Bool.and_eq_true, beq_iff_eq]
      exact ⟨fun h => S24.ext' h.1 h.2.1 h.2.2, fun h => by rw [h]; exact ⟨rfl, rfl, rfl⟩⟩
    refine Ev.stepK (f := fun k => if (((x.f0.f0) == key.f0 && ((x.f0.f1) == key.f1 && ((x.f0.f2) == key.f2))) = true) then ((api_QKey_23.f k pl x.f1.f0 x.f1.f1 x.f1.f2).bind fun t199 => (if t199 = true then (glossatorref3_placeable.l0 k pl l (l.length : Int) ((i + 1 : Nat) : Int) key.f0 key.f1 key.f2) else (some false))) else (glossatorref3_placeable.l0 k pl l (l.length : Int) ((i + 1 : Nat) : Int) key.f0 key.f1 key.f2)) ?_ (fun k => ?_)
    · by_cases c : x.f0 = key
      · refine Ev.pos (hkey.2 c) (Ev.bind (contK pl x.f1 (by omega)) ?_)
        by_cases d : x.f1 ∈ pl
        · rw [decide_eq_true d]
          refine Ev.pos rfl ?_
          rw [List.all_cons, decide_eq_true d, Bool.or_true, Bool.true_and]
          exact ih
        · rw [decide_eq_false d]
          refine Ev.neg (by simp) ?_
          rw [List.all_cons, decide_eq_false d, decide_eq_true c]
          exact Ev.now _
      · refine Ev.neg (fun hh => c (hkey.1 hh)) ?_
        rw [List.all_cons, decide_eq_false c]
        exact ih
    · simp only [glossatorref3_placeable.l0]
      rw [if_pos (by omega), if_pos (by omega), if_pos (by omega), hx, wrap_id (n := (i : Int) + 1) (by omega) (by omega)]
      rfl
theorem ready_iff (E : List (S24 × S24)) (pl : List S24) (k : S24) : readyB E pl k = true ↔ k ∉ pl ∧ ∀ y, (k, y) ∈ E → y ∈ pl := by
  unfold readyB
  rw [Bool.and_eq_true, Bool.not_eq_true', decide_eq_false_iff_not, Bool.not_eq_true', List.any_eq_false]
  constructor
  · rintro ⟨h1, h2⟩
    refine ⟨h1, fun y hy => ?_⟩
    have := h2 y ((nx_mem E k y).2 hy)
    simpa using this
  · rintro ⟨h1, h2⟩
    refine ⟨h1, fun y hy => ?_⟩
    have := h2 y ((nx_mem E k y).1 hy)
    simpa using this
theorem place_ev (l : List S44) (pl : List S24) (key : S24) (hl : l.length < 1000) (hp : pl.length < 100000) : Ev (fun k => glossatorref3_placeable.f k l key.f0 key.f1 key.f2 pl) (readyB (edgesP false l) pl key) := by
  have h := place_l0 l pl key hl hp l 0 rfl
  have e : (l.all (fun e => !decide (e.f0 = key) || decide (e.f1 ∈ pl)) && !decide (key ∈ pl)) = readyB (edgesP false l) pl key := by
    rw [Bool.eq_iff_iff, ready_iff, Bool.and_eq_true, List.all_eq_true, Bool.not_eq_true', decide_eq_false_iff_not]
    constructor
    · rintro ⟨h1, h2⟩
      refine ⟨h2, fun y hy => ?_⟩
      unfold edgesP at hy
      obtain ⟨e, he, hee⟩ := List.mem_map.1 hy
      have h3 := h1 e he
      obtain ⟨e1, e2⟩ := Prod.mk.inj hee
      rw [e1, e2] at h3
      simpa using h3
    · rintro ⟨h1, h2⟩
      refine ⟨fun e he => ?_, h1⟩
      by_cases c : e.f0 = key
      · have := h2 e.f1 (List.mem_map.2 ⟨e, he, by rw [← c]; rfl⟩)
        simp [this]
      · simp [c]
  rw [← e]
  exact Ev.same h (fun k => rfl)
/-! ### does a key reach itself -/
theorem cyc_l0 (l : List S44) (ks : List S24) (hl : l.length < 1000) (hk : ks.length < 100000) : ∀ (t : List S24) (i : Nat), ks.drop i = t → Ev (fun k => glossatorref3_Cyclic.l0 k l ks (ks.length : Int) (i : Int)) (t.any (fun x => decide (x ∈ reachR (edgesP false l) x)))
  | [], i, h => by
    have hi : ks.length ≤ i := by simpa using h
    exact Ev.some' (fun k => by simp only [glossatorref3_Cyclic.l0]; rw [if_neg (by omega)]; rfl)
  | x :: t, i, h => by
    obtain ⟨h1, h2, h3⟩ := dropG h
    have hx : rd_T24 ks (i : Int) = x := h3 _
    refine Ev.stepK (f := fun k => (glossatorref3_Reachable.f k l x.f0 x.f1 x.f2).bind fun t192 => ((api_QKey_23.f k t192 x.f0 x.f1 x.f2).bind fun t195 => (if t195 = true then (some true) else (glossatorref3_Cyclic.l0 k l ks (ks.length : Int) ((i + 1 : Nat) : Int))))) ?_ (fun k => ?_)
    · refine Ev.bind (reach_ev l x hl) (Ev.bind (contK _ x (by have := reachR_len (edgesP false l) x; rw [edges_len] at this; show (reachR (edgesP false l) x).length < _; omega)) ?_)
      by_cases c : x ∈ reachR (edgesP false l) x
      · rw [List.any_cons]
        simp only [decide_eq_true c, Bool.true_or]
        exact Ev.pos (by simp) (Ev.now _)
      · rw [List.any_cons]
        simp only [decide_eq_false c, Bool.false_or]
        exact Ev.neg (by simp) (cyc_l0 l ks hl hk t (i + 1) h2)
    · simp only [glossatorref3_Cyclic.l0]
      rw [if_pos (by omega), if_pos (by omega), if_pos (by omega), hx, wrap_id (n := (i : Int) + 1) (by omega) (by omega)]
      rfl
def cycB (E : List (S24 × S24)) : Bool := (keysK E).any (fun x => decide (x ∈ reachR E x))
theorem keys_small (l : List S44) (hl : l.length < 1000) : (keysK (edgesP false l)).length < 100000 := by
  have := keysK_len (edgesP false l)
  rw [edges_len] at this
  omega
theorem cyc_ev (l : List S44) (hl : l.length < 1000) : Ev (fun k => glossatorref3_Cyclic.f k l) (cycB (edgesP false l)) := by
  unfold glossatorref3_Cyclic.f
  exact Ev.bind (nodes_ev l hl) (cyc_l0 l _ hl (keys_small l hl) _ 0 rfl)
/-! ### the reference's order -/
def orderN (E : List (S24 × S24)) : Nat → List S24 → List S24
  | 0, pl => pl
  | n + 1, pl => match (keysK E).find? (readyB E pl) with
    | some x => orderN E n (pl ++ [x])
    | none => orderN E n pl
theorem order_of_topo (E : List (S24 × S24)) : ∀ (n : Nat) (pl out : List S24), topoN E n pl = some out → orderN E n pl = out
  | 0, pl, out, h => Option.some.inj h
  | n + 1, pl, out, h => by
    unfold topoN at h
    unfold orderN
    cases e : (keysK E).find? (readyB E pl) with
    | none => rw [e] at h; cases h
    | some x => rw [e] at h; exact order_of_topo E n _ _ h
theorem order_l1 (l : List S44) (hl : l.length < 1000) (R : List S24) (pl : List S24) (hp : pl.length < 100000) (m : Int) (q : Nat) (hq : q < 100000)
    (hgo : Ev (fun k => glossatorref3_Order.l0 k l (keysK (edgesP false l)) (match (keysK (edgesP false l)).find? (readyB (edgesP false l) pl) with | some x => pl ++ [x] | none => pl) m ((q + 1 : Nat) : Int)) R) :
    ∀ (t : List S24) (i : Nat), (keysK (edgesP false l)).drop i = t → (keysK (edgesP false l)).find? (readyB (edgesP false l) pl) = t.find? (readyB (edgesP false l) pl) →
    Ev (fun k => glossatorref3_Order.l1 k l (keysK (edgesP false l)) pl m (q : Int) (keysK (edgesP false l)) ((keysK (edgesP false l)).length : Int) (i : Int)) R
  | [], i, h, hf => by
    have hi : (keysK (edgesP false l)).length ≤ i := by simpa using h
    rw [hf] at hgo
    refine Ev.stepK hgo (fun k => ?_)
    simp only [glossatorref3_Order.l1]
    rw [if_neg (by omega), wrap_id (by omega) (by omega)]
    rfl
  | x :: t, i, h, hf => by
    obtain ⟨h1, h2, h3⟩ := dropG h
    have hx : rd_T24 (keysK (edgesP false l)) (i : Int) = x := h3 _
    have hks := keys_small l hl
    refine Ev.stepK (f := fun k => (glossatorref3_placeable.f k l x.f0 x.f1 x.f2 pl).bind fun t206 => (if t206 = true then (if pl.length < 5864062014805 then (glossatorref3_Order.l0 k l (keysK (edgesP false l)) (pl ++ [(⟨x.f0, x.f1, x.f2⟩ : S24)]) m ((q + 1 : Nat) : Int)) else (none)) else (glossatorref3_Order.l1 k l (keysK (edgesP false l)) pl m (q : Int) (keysK (edgesP false l)) ((keysK (edgesP false l)).length : Int) ((i + 1 : Nat) : Int)))) ?_ (fun k => ?_)
    · refine Ev.bind (place_ev l pl x hl hp) ?_
      by_cases c : readyB (edgesP false l) pl x = true
      · refine Ev.pos c (Ev.pos (by omega) ?_)
        rw [hf, List.find?_cons, c] at hgo
        exact hgo
      · refine Ev.neg c (order_l1 l hl R pl hp m q hq hgo t (i + 1) h2 ?_)
        have c' : readyB (edgesP false l) pl x = false := by simpa using c
        rw [hf, List.find?_cons, c']
    · simp only [glossatorref3_Order.l1]
      rw [if_pos (by omega), if_pos (by omega), if_pos (by omega), hx, wrap_id (n := (i : Int) + 1) (by omega) (by omega), wrap_id (n := (q : Int) + 1) (by omega) (by omega)]
      rfl
theorem order_l0 (l : List S44) (hl : l.length < 1000) : ∀ (n : Nat) (q : Nat) (pl : List S24), q + n = (keysK (edgesP false l)).length → pl.length ≤ q → Ev (fun k => glossatorref3_Order.l0 k l (keysK (edgesP false l)) pl ((keysK (edgesP false l)).length : Int) (q : Int)) (orderN (edgesP false l) n pl)
  | 0, q, pl, h, hp => Ev.some' (fun k => by simp only [glossatorref3_Order.l0]; rw [if_neg (by omega)]; rfl)
  | n + 1, q, pl, h, hp => by
    have hks := keys_small l hl
    refine Ev.stepK (f := fun k => glossatorref3_Order.l1 k l (keysK (edgesP false l)) pl ((keysK (edgesP false l)).length : Int) (q : Int) (keysK (edgesP false l)) ((keysK (edgesP false l)).length : Int) ((0 : Nat) : Int)) ?_ (fun k => by simp only [glossatorref3_Order.l0]; rw [if_pos (by omega)]; rfl)
    refine order_l1 l hl _ pl (by omega) _ q (by omega) ?_ (keysK (edgesP false l)) 0 rfl rfl
    unfold orderN
    cases e : (keysK (edgesP false l)).find? (readyB (edgesP false l) pl) with
    | none => exact order_l0 l hl n (q + 1) pl (by omega) (by omega)
    | some x => exact order_l0 l hl n (q + 1) (pl ++ [x]) (by omega) (by rw [List.length_append, List.length_singleton]; omega)
theorem order_ev (l : List S44) (hl : l.length < 1000) : Ev (fun k => glossatorref3_Order.f k l) (orderN (edgesP false l) (keysK (edgesP false l)).length []) := by
  unfold glossatorref3_Order.f
  exact Ev.bind (nodes_ev l hl) (order_l0 l hl _ 0 [] (by omega) (Nat.le_refl _))
/-! ### an order exists where no key reaches itself -/
theorem mem_reachR (E : List (S24 × S24)) (x y : S24) : y ∈ reachR E x ↔ Tc E x y := by unfold reachR; rw [mem_sortK, mem_fixK]
theorem mem_keysK (E : List (S24 × S24)) (x : S24) : x ∈ keysK E ↔ ∃ p ∈ E, x = p.1 ∨ x = p.2 := by
  unfold keysK
  rw [mem_sortK, List.mem_flatMap]
  constructor
  · rintro ⟨p, hp, h⟩
    simp at h
    exact ⟨p, hp, h⟩
  · rintro ⟨p, hp, h⟩
    exact ⟨p, hp, by simpa using h⟩
structure PInv (E : List (S24 × S24)) (pl : List S24) : Prop where
  nodup : pl.Nodup
  sub : ∀ x ∈ pl, x ∈ keysK E
  ok : ∀ y ∈ pl, ¬ Tc E y y ∧ ∀ z, Tc E y z → z ∈ pl
theorem PInv.step {E : List (S24 × S24)} {pl : List S24} (h : PInv E pl) {x : S24} (hx : x ∈ keysK E) (hr : readyB E pl x = true) : PInv E (pl ++ [x]) := by
  rw [ready_iff] at hr
  have key : ∀ z, Tc E x z → z ∈ pl := by
    intro z hz
    induction hz with
    | one he => exact hr.2 _ he
    | more _ he ih => exact (h.ok _ ih).2 _ (.one he)
  refine ⟨List.nodup_append.2 ⟨h.nodup, by simp, fun a ha b hb e => hr.1 (by rw [List.mem_singleton] at hb; rw [← hb, ← e]; exact ha)⟩, fun y hy => ?_, fun y hy => ?_⟩
  · rcases List.mem_append.1 hy with hy | hy
    · exact h.sub y hy
    · rw [List.mem_singleton.1 hy]; exact hx
  · rcases List.mem_append.1 hy with hy | hy
    · exact ⟨(h.ok y hy).1, fun z hz => List.mem_append.2 (.inl ((h.ok y hy).2 z hz))⟩
    · rw [List.mem_singleton.1 hy]
      exact ⟨fun hc => hr.1 (key _ hc), fun z hz => List.mem_append.2 (.inl (key z hz))⟩
theorem topoN_inv (E : List (S24 × S24)) : ∀ (n : Nat) (pl out : List S24), PInv E pl → topoN E n pl = some out → PInv E out ∧ out.length = pl.length + n
  | 0, pl, out, h, e => by obtain rfl := Option.some.inj e; exact ⟨h, rfl⟩
  | n + 1, pl, out, h, e => by
    unfold topoN at e
    cases hf : (keysK E).find? (readyB E pl) with
    | none => rw [hf] at e; cases e
    | some x =>
      rw [hf] at e
      have := topoN_inv E n _ _ (h.step (List.mem_of_find?_eq_some hf) (List.find?_some hf)) e
      refine ⟨this.1, ?_⟩
      rw [this.2, List.length_append, List.length_singleton]
      omega
theorem all_placed {E : List (S24 × S24)} {pl : List S24} (h : PInv E pl) (hl : pl.length = (keysK E).length) : ∀ x ∈ keysK E, x ∈ pl := by
  intro x hx
  refine Classical.byContradiction (fun hn => ?_)
  have := sub_len (l := x :: pl) (m := keysK E) (List.nodup_cons.2 ⟨hn, h.nodup⟩) (fun y hy => by
    rcases List.mem_cons.1 hy with rfl | hy
    · exact hx
    · exact h.sub y hy)
  rw [List.length_cons] at this
  omega
theorem rank_lt {E : List (S24 × S24)} {x y : S24} (he : (x, y) ∈ E) (hy : ¬ Tc E y y) : (fixK E y).length < (fixK E x).length := by
  have h1 := fixK_fnd E y
  refine sub_len (l := y :: fixK E y) (List.nodup_cons.2 ⟨fun h => hy ((mem_fixK E y y).1 h), h1.nodup⟩) (fun z hz => ?_)
  rw [mem_fixK]
  rcases List.mem_cons.1 hz with rfl | hz
  · exact .one he
  · exact (Tc.one he).trans ((mem_fixK E y z).1 hz)
theorem exists_ready {E : List (S24 × S24)} {pl : List S24} (hc : ∀ x ∈ keysK E, ¬ Tc E x x) : ∀ (n : Nat) (x : S24), (fixK E x).length ≤ n → x ∈ keysK E → x ∉ pl → ∃ y ∈ keysK E, readyB E pl y = true
  | n, x, hn, hx, hp => by
    by_cases c : ∀ y, (x, y) ∈ E → y ∈ pl
    · exact ⟨x, hx, (ready_iff E pl x).2 ⟨hp, c⟩⟩
    · have ⟨y, hy⟩ : ∃ y, ¬ ((x, y) ∈ E → y ∈ pl) := Classical.not_forall.1 c
      have hy1 : (x, y) ∈ E := Classical.byContradiction (fun h => hy (fun h2 => absurd h2 h))
      have hy2 : y ∉ pl := fun h => hy (fun _ => h)
      have hyk : y ∈ keysK E := (mem_keysK E y).2 ⟨_, hy1, .inr rfl⟩
      have hlt := rank_lt hy1 (hc y hyk)
      cases n with
      | zero => omega
      | succ n => exact exists_ready hc n y (by omega) hyk hy2
theorem topoN_some (E : List (S24 × S24)) (hc : ∀ x ∈ keysK E, ¬ Tc E x x) : ∀ (n : Nat) (pl : List S24), PInv E pl → pl.length + n = (keysK E).length → ∃ out, topoN E n pl = some out
  | 0, pl, h, e => ⟨pl, rfl⟩
  | n + 1, pl, h, e => by
    have ⟨x, hx, hxp⟩ : ∃ x ∈ keysK E, x ∉ pl := by
      refine Classical.byContradiction (fun hn => ?_)
      have hall : ∀ x ∈ keysK E, x ∈ pl := fun x hx => Classical.byContradiction (fun h2 => hn ⟨x, hx, h2⟩)
      have := sub_len (srt_nodup ordK (keysK_srt E)) hall
      omega
    obtain ⟨y, hy, hr⟩ := exists_ready hc _ x (Nat.le_refl _) hx hxp
    unfold topoN
    cases hf : (keysK E).find? (readyB E pl) with
    | none => exact absurd hr (by have := List.find?_eq_none.1 hf y hy; simpa using this)
    | some z => exact topoN_some E hc n _ (h.step (List.mem_of_find?_eq_some hf) (List.find?_some hf)) (by rw [List.length_append, List.length_singleton]; omega)
theorem cyc_iff (E : List (S24 × S24)) : cycB E = true ↔ ∃ x ∈ keysK E, Tc E x x := by
  unfold cycB
  rw [List.any_eq_true]
  constructor
  · rintro ⟨x, hx, h⟩
    exact ⟨x, hx, (mem_reachR E x x).1 (by simpa using h)⟩
  · rintro ⟨x, hx, h⟩
    exact ⟨x, hx, by simpa using (mem_reachR E x x).2 h⟩
theorem pinv_nil (E : List (S24 × S24)) : PInv E [] := ⟨List.nodup_nil, fun x hx => (by cases hx), fun x hx => (by cases hx)⟩
theorem topo_none {E : List (S24 × S24)} (h : cycB E = true) : topoR E = none := by
  cases e : topoR E with
  | none => rfl
  | some out =>
    obtain ⟨h1, h2⟩ := topoN_inv E _ _ _ (pinv_nil E) e
    obtain ⟨x, hx, hc⟩ := (cyc_iff E).1 h
    exact absurd hc (h1.ok x (all_placed h1 (by simpa using h2) x hx)).1
theorem topo_some {E : List (S24 × S24)} (h : cycB E = false) : ∃ out, topoR E = some out :=
  topoN_some E (fun x hx hc => by rw [(cyc_iff E).2 ⟨x, hx, hc⟩] at h; cases h) _ _ (pinv_nil E) (by simp)
theorem DepgraphOrder : glossatorlaw3_DepgraphOrder.PureR := by
  intro a0 h0
  unfold glossatorlaw3_DepgraphOrder.f
  have hmn : mn (a0.length : Int) 30 = ((min a0.length 30 : Nat) : Int) := by unfold mn; split <;> omega
  refine Ev.rounds (Ev.bind example_ev (Ev.pos rfl (Ev.pos (by rw [hmn]; omega) (Ev.pos (by rw [hmn]; omega) ?_))))
  obtain ⟨l, hl⟩ : ∃ l, a0.take (mn (a0.length : Int) 30).toNat = l := ⟨_, rfl⟩
  have hll : l.length ≤ 30 := by rw [← hl, hmn, List.length_take]; omega
  simp only [hl, Option.bind_some]
  have ht : l.take 400 = l := List.take_of_length_le (by omega)
  simp only [depgraph_TopologicalOrder.f, ht, Option.bind_some]
  refine Ev.bind (cyc_ev l (by omega)) ?_
  cases hc : cycB (edgesP false l) with
  | true =>
    rw [topo_none hc]
    exact Ev.pos rfl (Ev.bind example_ev (Ev.pos rfl (Ev.pos rfl (Ev.now _))))
  | false =>
    obtain ⟨out, ho⟩ := topo_some hc
    rw [ho]
    have hor := order_of_topo (edgesP false l) _ _ _ ho
    have h2 := (topoN_inv (edgesP false l) _ _ _ (pinv_nil _) ho).2
    have hks := keys_small l (by omega)
    refine Ev.neg (by simp) (Ev.bind example_ev (Ev.pos rfl (Ev.pos rfl (Ev.bind (order_ev l (by omega)) ?_))))
    rw [hor]
    refine Ev.bind (eqK out (by simp at h2; omega)) (Ev.now _)
end Go.Proofs.Ytofonbfpjfabbaa.Pr

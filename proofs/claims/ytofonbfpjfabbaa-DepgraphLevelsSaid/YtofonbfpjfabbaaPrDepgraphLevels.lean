/-
  The pure statement of DepgraphLevels: where no key reaches itself, the levels are those of the reference's longest chains.
-/
import Derived.Test.YtofonbfpjfabbaaSDepgraphLevels
import Derived.Test.YtofonbfpjfabbaaAid
namespace Go.Proofs.Ytofonbfpjfabbaa.Pr
open Go.Proofs.YtofonbfpjfabbaaW.PrintLast hiding readyB
open Go.RowKit Go.Proofs.YtofonbfpjfabbaaW.PrintWords Go.Proofs.YtofonbfpjfabbaaW.PrintMore Go.Proofs.Ytofonbfpjfabbaa.QDepgraphLevels Go.Proofs.Ytofonbfpjfabbaa.Aid Go.Proofs.Ytofonbfpjfabbaa.Hand
set_option linter.unusedVariables false
set_option linter.unusedSimpArgs false
theorem dropG {α : Type} {xs t : List α} {x : α} {i : Nat} (h : xs.drop i = x :: t) : i < xs.length ∧ xs.drop (i + 1) = t ∧ (∀ d, xs.getD ((i : Int)).toNat d = x) := by
  have hl : i < xs.length := by
    rcases Nat.lt_or_ge i xs.length with h1 | h1
    · exact h1
    · rw [List.drop_eq_nil_of_le h1] at h; cases h
  rw [List.drop_eq_getElem_cons hl] at h
  injection h with h1 h2
  refine ⟨hl, h2, fun d => ?_⟩
  rw [Int.toNat_natCast, List.getD_eq_getElem?_getD, List.getElem?_eq_getElem hl]
  exact h1
theorem eqK_l0 (xs : List S24) (hx : xs.length < 1000000) : ∀ (t : List S24) (i : Nat), xs.drop i = t → Ev (fun k => api_QKey_8.l0 k xs xs (xs.length : Int) (i : Int)) true
  | [], i, h => by
    have : xs.length ≤ i := by simpa using h
    exact Ev.some' (fun k => by simp only [api_QKey_8.l0]; rw [if_neg (by omega)])
  | x :: t, i, h => by
    obtain ⟨h1, h2, h3⟩ := dropG h
    refine Ev.stepK (eqK_l0 xs hx t (i + 1) h2) (fun k => ?_)
    simp only [api_QKey_8.l0]
    rw [if_pos (by omega), if_pos (by omega), if_pos (by omega), if_pos (by omega), if_neg (by simp), wrap_id (by omega) (by omega)]
    rfl
theorem eqK (xs : List S24) (hx : xs.length < 1000000) : Ev (fun k => api_QKey_8.f k xs xs) true :=
  Ev.same (eqK_l0 xs hx xs 0 rfl) (fun k => by unfold api_QKey_8.f; rw [if_pos rfl]; rfl)
theorem idxK (xs : List S24) (x : S24) (hx : xs.length < 1000000) : ∀ (t : List S24) (i : Nat), xs.drop i = t → Ev (fun k => (api_QKey_40.l0 k xs (xs.length : Int) (i : Int) x.f0 x.f1 x.f2).bind fun t => some (decide (t ≥ 0))) (decide (x ∈ t))
  | [], i, h => by
    have : xs.length ≤ i := by simpa using h
    refine Ev.some' (fun k => ?_)
    simp only [api_QKey_40.l0]
    rw [if_neg (by omega)]
    rfl
  | y :: t, i, h => by
    obtain ⟨h1, h2, h3⟩ := dropG h
    have hy : rd_T24 xs (i : Int) = y := h3 _
    by_cases c : x = y
    · refine Ev.some' (fun k => ?_)
      simp only [api_QKey_40.l0]
      rw [if_pos (by omega), if_pos (by omega), if_pos (by omega), hy, if_pos (by rw [c]; simp)]
      rw [c, decide_eq_true (List.mem_cons_self)]
      simp
    · have hd : decide (x ∈ y :: t) = decide (x ∈ t) := by
        rw [Bool.eq_iff_iff, decide_eq_true_iff, decide_eq_true_iff, List.mem_cons]
        exact ⟨fun h => h.resolve_left c, .inr⟩
      rw [hd]
      refine Ev.stepK (idxK xs x hx t (i + 1) h2) (fun k => ?_)
      simp only [api_QKey_40.l0]
      rw [if_pos (by omega), if_pos (by omega), if_pos (by omega), hy, if_neg (fun hh => c (by
        simp only [Bool.and_eq_true, beq_iff_eq] at hh
        exact S24.ext' hh.1 hh.2.1 hh.2.2)), wrap_id (by omega) (by omega)]
      rfl
theorem contK (xs : List S24) (x : S24) (hx : xs.length < 1000000) : Ev (fun k => api_QKey_23.f k xs x.f0 x.f1 x.f2) (decide (x ∈ xs)) :=
  Ev.same (idxK xs x hx xs 0 rfl) (fun k => rfl)
theorem pass_ev (l : List S44) (key : S24) (R : List S24) (hl : l.length < 1000) : ∀ (t : List S44) (i : Nat) (r : List S24) (b : Bool), l.drop i = t → r.length + t.length < 100000 →
    Ev (fun k => glossatorref3_Reachable.l0 k l (passK (edgesP false t) key r) (b || decide ((passK (edgesP false t) key r).length ≠ r.length)) key.f0 key.f1 key.f2) R →
    Ev (fun k => glossatorref3_Reachable.l1 k l r b l (l.length : Int) (i : Int) key.f0 key.f1 key.f2) R
  | [], i, r, b, h, hr, e => by
    have : l.length ≤ i := by simpa using h
    refine Ev.stepK e (fun k => ?_)
    simp only [glossatorref3_Reachable.l1]
    rw [if_neg (by omega)]
    have : passK (edgesP false []) key r = r := rfl
    rw [this]
    simp
  | x :: t, i, r, b, h, hr, e => by
    obtain ⟨h1, h2, h3⟩ := dropG h
    have hx : rd_T44 l (i : Int) = x := h3 _
    rw [List.length_cons] at hr
    have hp : passK (edgesP false (x :: t)) key r = passK (edgesP false t) key (passOne key r (x.f0, x.f1)) := rfl
    rw [hp] at e
    have hlen := passK_len key (edgesP false t) (passOne key r (x.f0, x.f1))
    -- what follows the edge
    have hno : passOne key r (x.f0, x.f1) = r → Ev (fun k => glossatorref3_Reachable.l1 k l r b l (l.length : Int) ((i + 1 : Nat) : Int) key.f0 key.f1 key.f2) R := fun h0 => by
      rw [h0] at e
      exact pass_ev l key R hl t (i + 1) r b h2 (by omega) e
    have hyes : passOne key r (x.f0, x.f1) = r ++ [x.f1] → Ev (fun k => glossatorref3_Reachable.l1 k l (r ++ [x.f1]) true l (l.length : Int) ((i + 1 : Nat) : Int) key.f0 key.f1 key.f2) R := fun h0 => by
      rw [h0] at e hlen
      rw [List.length_append, List.length_singleton] at hlen
      refine pass_ev l key R hl t (i + 1) (r ++ [x.f1]) true h2 (by rw [List.length_append, List.length_singleton]; omega) ?_
      have hb : (b || decide ((passK (edgesP false t) key (r ++ [x.f1])).length ≠ r.length)) = true := by
        rw [decide_eq_true (by omega), Bool.or_true]
      rw [hb] at e
      exact e
    have hadd : Ev (fun k => (api_QKey_23.f k r x.f1.f0 x.f1.f1 x.f1.f2).bind fun t172 => (if t172 = true then (glossatorref3_Reachable.l1 k l r b l (l.length : Int) ((i + 1 : Nat) : Int) key.f0 key.f1 key.f2) else (if r.length < 5864062014805 then (glossatorref3_Reachable.l1 k l (r ++ [(⟨x.f1.f0, x.f1.f1, x.f1.f2⟩ : S24)]) true l (l.length : Int) ((i + 1 : Nat) : Int) key.f0 key.f1 key.f2) else (none)))) R ∨ ¬ (x.f0 = key ∨ x.f0 ∈ r) := by
      by_cases c : x.f0 = key ∨ x.f0 ∈ r
      · left
        refine Ev.bind (contK r x.f1 (by omega)) ?_
        by_cases d : x.f1 ∈ r
        · rw [decide_eq_true d]
          exact Ev.pos rfl (hno (by unfold passOne; rw [if_neg (fun hh => hh.2 d)]))
        · rw [decide_eq_false d]
          refine Ev.neg (by simp) (Ev.pos (by omega) (hyes ?_))
          unfold passOne
          rw [if_pos ⟨c, d⟩]
      · exact .inr c
    have hkey : (((x.f0.f0) == key.f0 && ((x.f0.f1) == key.f1 && ((x.f0.f2) == key.f2))) = true) ↔ x.f0 = key := by
      simp only [Bool.and_eq_true, beq_iff_eq]
      exact ⟨fun h => S24.ext' h.1 h.2.1 h.2.2, fun h => by rw [h]; exact ⟨rfl, rfl, rfl⟩⟩
    refine Ev.stepK (f := fun k => if (((x.f0.f0) == key.f0 && ((x.f0.f1) == key.f1 && ((x.f0.f2) == key.f2))) = true) then ((api_QKey_23.f k r x.f1.f0 x.f1.f1 x.f1.f2).bind fun t172 => (if t172 = true then (glossatorref3_Reachable.l1 k l r b l (l.length : Int) ((i + 1 : Nat) : Int) key.f0 key.f1 key.f2) else (if r.length < 5864062014805 then (glossatorref3_Reachable.l1 k l (r ++ [(⟨x.f1.f0, x.f1.f1, x.f1.f2⟩ : S24)]) true l (l.length : Int) ((i + 1 : Nat) : Int) key.f0 key.f1 key.f2) else (none))))
      else ((api_QKey_23.f k r x.f0.f0 x.f0.f1 x.f0.f2).bind fun t171 => (if t171 = true then ((api_QKey_23.f k r x.f1.f0 x.f1.f1 x.f1.f2).bind fun t172 => (if t172 = true then (glossatorref3_Reachable.l1 k l r b l (l.length : Int) ((i + 1 : Nat) : Int) key.f0 key.f1 key.f2) else (if r.length < 5864062014805 then (glossatorref3_Reachable.l1 k l (r ++ [(⟨x.f1.f0, x.f1.f1, x.f1.f2⟩ : S24)]) true l (l.length : Int) ((i + 1 : Nat) : Int) key.f0 key.f1 key.f2) else (none)))) else (glossatorref3_Reachable.l1 k l r b l (l.length : Int) ((i + 1 : Nat) : Int) key.f0 key.f1 key.f2)))) ?_ (fun k => ?_)
    · by_cases c : x.f0 = key
      · exact Ev.pos (hkey.2 c) (hadd.resolve_right (fun hh => hh (.inl c)))
      · refine Ev.neg (fun hh => c (hkey.1 hh)) (Ev.bind (contK r x.f0 (by omega)) ?_)
        by_cases d : x.f0 ∈ r
        · rw [decide_eq_true d]
          exact Ev.pos rfl (hadd.resolve_right (fun hh => hh (.inr d)))
        · rw [decide_eq_false d]
          exact Ev.neg (by simp) (hno (by unfold passOne; rw [if_neg (fun hh => hh.1.elim c d)]))
    · simp only [glossatorref3_Reachable.l1]
      rw [if_pos (by omega), if_pos (by omega), if_pos (by omega), hx, wrap_id (n := (i : Int) + 1) (by omega) (by omega)]
      rfl
theorem edges_len (b : Bool) (l : List S44) : (edgesP b l).length = l.length := by unfold edgesP; rw [List.length_map]
theorem loop_ev (l : List S44) (key : S24) (hl : l.length < 1000) : ∀ (n : Nat) (r : List S24), Fnd (edgesP false l) key r → l.length + 1 - r.length ≤ n → Ev (fun k => glossatorref3_Reachable.l0 k l r true key.f0 key.f1 key.f2) (reachR (edgesP false l) key)
  | 0, r, hf, hn => by
    have hrl := fnd_len hf
    rw [edges_len] at hrl
    omega
  | n + 1, r, hf, hn => by
    have hrl := fnd_len hf
    rw [edges_len] at hrl
    refine Ev.stepK (f := fun k => glossatorref3_Reachable.l1 k l r false l (l.length : Int) ((0 : Nat) : Int) key.f0 key.f1 key.f2) ?_ (fun k => by simp only [glossatorref3_Reachable.l0, if_true]; rfl)
    refine pass_ev l key _ hl l 0 r false rfl (by omega) ?_
    have hf' := passK_fnd (E0 := edgesP false l) (key := key) (edgesP false l) r (fun _ h => h) hf
    have hle := passK_len key (edgesP false l) r
    by_cases c : (passK (edgesP false l) key r).length = r.length
    · obtain ⟨h1, h2⟩ := passK_fix key (edgesP false l) r c
      have hb : (false || decide ((passK (edgesP false l) key r).length ≠ r.length)) = false := by rw [decide_eq_false (by omega)]; rfl
      rw [hb, h1]
      refine Ev.some' (fun k => ?_)
      simp only [glossatorref3_Reachable.l0]
      rw [if_neg (by simp)]
      unfold glossatorref3_SortKeys.f
      rw [if_pos (by omega)]
      show some (sortK ltK r) = some (reachR (edgesP false l) key)
      unfold reachR
      rw [sortK_ext ordK (fun x => by rw [mem_fixK]; exact ⟨fun hx => hf.reach x hx, fun hx => closed_all h2 hx⟩)]
    · have hb : (false || decide ((passK (edgesP false l) key r).length ≠ r.length)) = true := by rw [decide_eq_true (by omega)]; rfl
      rw [hb]
      have hrl' := fnd_len hf'
      rw [edges_len] at hrl'
      exact loop_ev l key hl n _ hf' (by omega)
theorem reach_ev (l : List S44) (key : S24) (hl : l.length < 1000) : Ev (fun k => glossatorref3_Reachable.f k l key.f0 key.f1 key.f2) (reachR (edgesP false l) key) :=
  loop_ev l key hl (l.length + 1) [] ⟨List.nodup_nil, fun x hx => by cases hx⟩ (by simp)
theorem example_ev : Ev (fun k => glossatorlaw3_graphExample.f k) true := by
  unfold glossatorlaw3_graphExample.f
  have e1 : reachR (edgesP false ([(⟨(⟨0, 3, 0⟩ : S24), (⟨0, 2, 0⟩ : S24)⟩ : S44), (⟨(⟨0, 2, 0⟩ : S24), (⟨0, 1, 0⟩ : S24)⟩ : S44)].take 400)) ⟨0, 3, 0⟩ = [(⟨0, 1, 0⟩ : S24), (⟨0, 2, 0⟩ : S24)] := by decide
  have e2 : reachR (edgesP true ([(⟨(⟨0, 3, 0⟩ : S24), (⟨0, 2, 0⟩ : S24)⟩ : S44), (⟨(⟨0, 2, 0⟩ : S24), (⟨0, 1, 0⟩ : S24)⟩ : S44)].take 400)) ⟨0, 1, 0⟩ = [(⟨0, 2, 0⟩ : S24), (⟨0, 3, 0⟩ : S24)] := by decide
  simp only [Option.bind_some, depgraph_Dependencies.f, depgraph_Dependents.f, e1, e2]
  refine Ev.bind (eqK _ (by simp)) (Ev.pos rfl (Ev.bind (eqK _ (by simp)) ?_))
  exact Ev.now _
theorem reachR_len (E : List (S24 × S24)) (key : S24) : (reachR E key).length ≤ E.length := by
  unfold reachR
  exact Nat.le_trans (sortK_len ltK _) (fnd_len (fixK_fnd E key))

/-! ### the nodes -/
theorem keysK_take (l : List S44) (i : Nat) (x : S44) (h : l.drop i = x :: l.drop (i + 1)) (hi : i < l.length) : (edgesP false (l.take (i + 1))).flatMap (fun p => [p.1, p.2]) = (edgesP false (l.take i)).flatMap (fun p => [p.1, p.2]) ++ [x.f0, x.f1] := by
  have ht : l.take (i + 1) = l.take i ++ [x] := by
    rw [List.take_succ_eq_append_getElem hi]
    rw [List.drop_eq_getElem_cons hi] at h
    injection h with h4 _
    rw [h4]
  rw [ht]
  unfold edgesP
  rw [List.map_append, List.flatMap_append]
  rfl
theorem flat_len (E : List (S24 × S24)) : (E.flatMap (fun p => [p.1, p.2])).length = 2 * E.length := by
  induction E with
  | nil => rfl
  | cons p t ih => rw [List.flatMap_cons, List.length_append, ih, List.length_cons]; simp; omega
theorem nodes_l0 (l : List S44) (hl : l.length < 1000) : ∀ (t : List S44) (i : Nat), l.drop i = t → i + t.length = l.length → Ev (fun k => glossatorref3_Nodes.l0 k ((edgesP false (l.take i)).flatMap (fun p => [p.1, p.2])) l (l.length : Int) (i : Int)) (keysK (edgesP false l))
  | [], i, h, hi => by
    simp at hi
    refine Ev.some' (fun k => ?_)
    simp only [glossatorref3_Nodes.l0]
    have hf := flat_len (edgesP false l)
    rw [edges_len] at hf
    rw [if_neg (by omega), List.take_of_length_le (by omega)]
    unfold glossatorref3_SortKeys.f
    rw [if_pos (by omega)]
    rfl
  | x :: t, i, h, hi => by
    obtain ⟨h1, h2, h3⟩ := dropG h
    have hx : rd_T44 l (i : Int) = x := h3 _
    rw [List.length_cons] at hi
    have hf := flat_len (edgesP false (l.take i))
    rw [edges_len, List.length_take] at hf
    refine Ev.stepK (nodes_l0 l hl t (i + 1) h2 (by omega)) (fun k => ?_)
    simp only [glossatorref3_Nodes.l0]
    rw [if_pos (by omega), if_pos (by omega), if_pos (by omega), hx, wrap_id (n := (i : Int) + 1) (by omega) (by omega)]
    simp only [Option.bind_some]
    rw [if_pos (by rw [hf]; simp only [List.length_cons, List.length_nil]; omega), keysK_take l i x (by rw [h, h2]) h1]
    rfl
theorem nodes_ev (l : List S44) (hl : l.length < 1000) : Ev (fun k => glossatorref3_Nodes.f k l) (keysK (edgesP false l)) := Ev.same (nodes_l0 l hl l 0 rfl (by simp)) (fun k => rfl)
theorem ready_iff (E : List (S24 × S24)) (pl : List S24) (k : S24) : readyB E pl k = true ↔ k ∉ pl ∧ ∀ y, (k, y) ∈ E → y ∈ pl := by
  unfold readyB
  rw [Bool.and_eq_true, Bool.not_eq_true', decide_eq_false_iff_not, Bool.not_eq_true', List.any_eq_false]
  constructor
  · rintro ⟨h1, h2⟩
    refine ⟨h1, fun y hy => ?_⟩
    have := h2 y ((nx_mem E k y).2 hy)
    simpa using this
  · rintro ⟨h1, h2⟩
    refine ⟨h1, fun y hy => ?_⟩
    have := h2 y ((nx_mem E k y).1 hy)
    simpa using this
/-! ### does a key reach itself -/
theorem cyc_l0 (l : List S44) (ks : List S24) (hl : l.length < 1000) (hk : ks.length < 100000) : ∀ (t : List S24) (i : Nat), ks.drop i = t → Ev (fun k => glossatorref3_Cyclic.l0 k l ks (ks.length : Int) (i : Int)) (t.any (fun x => decide (x ∈ reachR (edgesP false l) x)))
  | [], i, h => by
    have hi : ks.length ≤ i := by simpa using h
    exact Ev.some' (fun k => by simp only [glossatorref3_Cyclic.l0]; rw [if_neg (by omega)]; rfl)
  | x :: t, i, h => by
    obtain ⟨h1, h2, h3⟩ := dropG h
    have hx : rd_T24 ks (i : Int) = x := h3 _
    refine Ev.stepK (f := fun k => (glossatorref3_Reachable.f k l x.f0 x.f1 x.f2).bind fun t192 => ((api_QKey_23.f k t192 x.f0 x.f1 x.f2).bind fun t195 => (if t195 = true then (some true) else (glossatorref3_Cyclic.l0 k l ks (ks.length : Int) ((i + 1 : Nat) : Int))))) ?_ (fun k => ?_)
    · refine Ev.bind (reach_ev l x hl) (Ev.bind (contK _ x (by have := reachR_len (edgesP false l) x; rw [edges_len] at this; show (reachR (edgesP false l) x).length < _; omega)) ?_)
      by_cases c : x ∈ reachR (edgesP false l) x
      · rw [List.any_cons]
        simp only [decide_eq_true c, Bool.true_or]
        exact Ev.pos (by simp) (Ev.now _)
      · rw [List.any_cons]
        simp only [decide_eq_false c, Bool.false_or]
        exact Ev.neg (by simp) (cyc_l0 l ks hl hk t (i + 1) h2)
    · simp only [glossatorref3_Cyclic.l0]
      rw [if_pos (by omega), if_pos (by omega), if_pos (by omega), hx, wrap_id (n := (i : Int) + 1) (by omega) (by omega)]
      rfl
def cycB (E : List (S24 × S24)) : Bool := (keysK E).any (fun x => decide (x ∈ reachR E x))
theorem keys_small (l : List S44) (hl : l.length < 1000) : (keysK (edgesP false l)).length < 100000 := by
  have := keysK_len (edgesP false l)
  rw [edges_len] at this
  omega
theorem cyc_ev (l : List S44) (hl : l.length < 1000) : Ev (fun k => glossatorref3_Cyclic.f k l) (cycB (edgesP false l)) := by
  unfold glossatorref3_Cyclic.f
  exact Ev.bind (nodes_ev l hl) (cyc_l0 l _ hl (keys_small l hl) _ 0 rfl)
theorem mem_reachR (E : List (S24 × S24)) (x y : S24) : y ∈ reachR E x ↔ Tc E x y := by unfold reachR; rw [mem_sortK, mem_fixK]
theorem mem_keysK (E : List (S24 × S24)) (x : S24) : x ∈ keysK E ↔ ∃ p ∈ E, x = p.1 ∨ x = p.2 := by
  unfold keysK
  rw [mem_sortK, List.mem_flatMap]
  constructor
  · rintro ⟨p, hp, h⟩
    simp at h
    exact ⟨p, hp, h⟩
  · rintro ⟨p, hp, h⟩
    exact ⟨p, hp, by simpa using h⟩
structure PInv (E : List (S24 × S24)) (pl : List S24) : Prop where
  nodup : pl.Nodup
  sub : ∀ x ∈ pl, x ∈ keysK E
  ok : ∀ y ∈ pl, ¬ Tc E y y ∧ ∀ z, Tc E y z → z ∈ pl
theorem PInv.step {E : List (S24 × S24)} {pl : List S24} (h : PInv E pl) {x : S24} (hx : x ∈ keysK E) (hr : readyB E pl x = true) : PInv E (pl ++ [x]) := by
  rw [ready_iff] at hr
  have key : ∀ z, Tc E x z → z ∈ pl := by
    intro z hz
    induction hz with
    | one he => exact hr.2 _ he
    | more _ he ih => exact (h.ok _ ih).2 _ (.one he)
  refine ⟨List.nodup_append.2 ⟨h.nodup, by simp, fun a ha b hb e => hr.1 (by rw [List.mem_singleton] at hb; rw [← hb, ← e]; exact ha)⟩, fun y hy => ?_, fun y hy => ?_⟩
  · rcases List.mem_append.1 hy with hy | hy
    · exact h.sub y hy
    · rw [List.mem_singleton.1 hy]; exact hx
  · rcases List.mem_append.1 hy with hy | hy
    · exact ⟨(h.ok y hy).1, fun z hz => List.mem_append.2 (.inl ((h.ok y hy).2 z hz))⟩
    · rw [List.mem_singleton.1 hy]
      exact ⟨fun hc => hr.1 (key _ hc), fun z hz => List.mem_append.2 (.inl (key z hz))⟩
theorem all_placed {E : List (S24 × S24)} {pl : List S24} (h : PInv E pl) (hl : pl.length = (keysK E).length) : ∀ x ∈ keysK E, x ∈ pl := by
  intro x hx
  refine Classical.byContradiction (fun hn => ?_)
  have := sub_len (l := x :: pl) (m := keysK E) (List.nodup_cons.2 ⟨hn, h.nodup⟩) (fun y hy => by
    rcases List.mem_cons.1 hy with rfl | hy
    · exact hx
    · exact h.sub y hy)
  rw [List.length_cons] at this
  omega
theorem rank_lt {E : List (S24 × S24)} {x y : S24} (he : (x, y) ∈ E) (hy : ¬ Tc E y y) : (fixK E y).length < (fixK E x).length := by
  have h1 := fixK_fnd E y
  refine sub_len (l := y :: fixK E y) (List.nodup_cons.2 ⟨fun h => hy ((mem_fixK E y y).1 h), h1.nodup⟩) (fun z hz => ?_)
  rw [mem_fixK]
  rcases List.mem_cons.1 hz with rfl | hz
  · exact .one he
  · exact (Tc.one he).trans ((mem_fixK E y z).1 hz)
theorem exists_ready {E : List (S24 × S24)} {pl : List S24} (hc : ∀ x ∈ keysK E, ¬ Tc E x x) : ∀ (n : Nat) (x : S24), (fixK E x).length ≤ n → x ∈ keysK E → x ∉ pl → ∃ y ∈ keysK E, readyB E pl y = true
  | n, x, hn, hx, hp => by
    by_cases c : ∀ y, (x, y) ∈ E → y ∈ pl
    · exact ⟨x, hx, (ready_iff E pl x).2 ⟨hp, c⟩⟩
    · have ⟨y, hy⟩ : ∃ y, ¬ ((x, y) ∈ E → y ∈ pl) := Classical.not_forall.1 c
      have hy1 : (x, y) ∈ E := Classical.byContradiction (fun h => hy (fun h2 => absurd h2 h))
      have hy2 : y ∉ pl := fun h => hy (fun _ => h)
      have hyk : y ∈ keysK E := (mem_keysK E y).2 ⟨_, hy1, .inr rfl⟩
      have hlt := rank_lt hy1 (hc y hyk)
      cases n with
      | zero => omega
      | succ n => exact exists_ready hc n y (by omega) hyk hy2
theorem cyc_iff (E : List (S24 × S24)) : cycB E = true ↔ ∃ x ∈ keysK E, Tc E x x := by
  unfold cycB
  rw [List.any_eq_true]
  constructor
  · rintro ⟨x, hx, h⟩
    exact ⟨x, hx, (mem_reachR E x x).1 (by simpa using h)⟩
  · rintro ⟨x, hx, h⟩
    exact ⟨x, hx, by simpa using (mem_reachR E x x).2 h⟩
theorem pinv_nil (E : List (S24 × S24)) : PInv E [] := ⟨List.nodup_nil, fun x hx => (by cases hx), fun x hx => (by cases hx)⟩
/-! ### the levels -/
/-- What is placed behind n rounds. -/
def PP (E : List (S24 × S24)) : Nat → List S24
  | 0 => []
  | n + 1 => PP E n ++ lvlOf E (PP E n)
theorem mem_lvl (E : List (S24 × S24)) (pl : List S24) (x : S24) : x ∈ lvlOf E pl ↔ x ∈ keysK E ∧ readyB E pl x = true := by unfold lvlOf; rw [List.mem_filter]
theorem PInv.steps {E : List (S24 × S24)} {pl : List S24} (h : PInv E pl) : PInv E (pl ++ lvlOf E pl) := by
  have hr : ∀ x ∈ lvlOf E pl, x ∉ pl ∧ ∀ z, Tc E x z → z ∈ pl := fun x hx => by
    have h1 := (ready_iff E pl x).1 ((mem_lvl E pl x).1 hx).2
    refine ⟨h1.1, fun z hz => ?_⟩
    induction hz with
    | one he => exact h1.2 _ he
    | more _ he ih => exact (h.ok _ ih).2 _ (.one he)
  refine ⟨List.nodup_append.2 ⟨h.nodup, (srt_nodup ordK (keysK_srt E)).filter _, fun a ha b hb e => (hr b hb).1 (e ▸ ha)⟩, fun y hy => ?_, fun y hy => ?_⟩
  · rcases List.mem_append.1 hy with hy | hy
    · exact h.sub y hy
    · exact ((mem_lvl E pl y).1 hy).1
  · rcases List.mem_append.1 hy with hy | hy
    · exact ⟨(h.ok y hy).1, fun z hz => List.mem_append.2 (.inl ((h.ok y hy).2 z hz))⟩
    · exact ⟨fun hc => (hr y hy).1 ((hr y hy).2 y hc), fun z hz => List.mem_append.2 (.inl ((hr y hy).2 z hz))⟩
theorem pp_inv (E : List (S24 × S24)) : ∀ n, PInv E (PP E n)
  | 0 => pinv_nil E
  | n + 1 => (pp_inv E n).steps
theorem pp_mono (E : List (S24 × S24)) (n : Nat) {x : S24} (h : x ∈ PP E n) : x ∈ PP E (n + 1) := List.mem_append.2 (.inl h)
theorem mem_pp (E : List (S24 × S24)) (x : S24) (hx : x ∈ keysK E) : ∀ n, x ∈ PP E (n + 1) ↔ ∀ y, (x, y) ∈ E → y ∈ PP E n
  | 0 => by
    show x ∈ [] ++ lvlOf E [] ↔ _
    rw [List.nil_append, mem_lvl, ready_iff]
    exact ⟨fun h => h.2.2, fun h => ⟨hx, by simp, h⟩⟩
  | n + 1 => by
    show x ∈ PP E (n + 1) ++ lvlOf E (PP E (n + 1)) ↔ _
    rw [List.mem_append, mem_lvl, ready_iff]
    constructor
    · rintro (h | ⟨_, _, h⟩)
      · exact fun y hy => pp_mono E n ((mem_pp E x hx n).1 h y hy)
      · exact h
    · intro h
      by_cases c : x ∈ PP E (n + 1)
      · exact .inl c
      · exact .inr ⟨hx, c, h⟩
theorem lvl_empty {E : List (S24 × S24)} {pl : List S24} (hc : ∀ x ∈ keysK E, ¬ Tc E x x) (h : PInv E pl) : (lvlOf E pl).length = 0 ↔ ¬ pl.length < (keysK E).length := by
  constructor
  · intro h0 hlt
    have ⟨x, hx, hxp⟩ : ∃ x ∈ keysK E, x ∉ pl := by
      refine Classical.byContradiction (fun hn => ?_)
      have hall : ∀ x ∈ keysK E, x ∈ pl := fun x hx => Classical.byContradiction (fun h2 => hn ⟨x, hx, h2⟩)
      have := sub_len (srt_nodup ordK (keysK_srt E)) hall
      omega
    obtain ⟨y, hy, hr⟩ := exists_ready hc _ x (Nat.le_refl _) hx hxp
    have := (mem_lvl E pl y).2 ⟨hy, hr⟩
    rw [List.length_eq_zero_iff.1 h0] at this
    cases this
  · intro hge
    have hsub := sub_len h.nodup h.sub
    rw [List.length_eq_zero_iff, List.eq_nil_iff_forall_not_mem]
    intro x hx
    have h1 := (mem_lvl E pl x).1 hx
    exact ((ready_iff E pl x).1 h1.2).1 (all_placed h (by omega) x h1.1)
theorem levN_inv (E : List (S24 × S24)) : ∀ (n : Nat) (pl : List S24) (lv out : List (List S24)), PInv E pl → levN E n pl lv = some out → ∃ p2, PInv E p2 ∧ p2.length = (keysK E).length
  | 0, pl, lv, out, h, e => by
    unfold levN at e
    by_cases c : pl.length < (keysK E).length
    · rw [if_pos c] at e; cases e
    · have := sub_len h.nodup h.sub
      exact ⟨pl, h, by omega⟩
  | n + 1, pl, lv, out, h, e => by
    unfold levN at e
    by_cases c : pl.length < (keysK E).length
    · rw [if_pos c] at e
      by_cases d : (lvlOf E pl).length = 0
      · rw [if_pos d] at e; cases e
      · rw [if_neg d] at e
        exact levN_inv E n _ _ _ h.steps e
    · have := sub_len h.nodup h.sub
      exact ⟨pl, h, by omega⟩
theorem lev_none {E : List (S24 × S24)} (h : cycB E = true) : levR E = none := by
  cases e : levR E with
  | none => rfl
  | some out =>
    obtain ⟨p2, h1, h2⟩ := levN_inv E _ _ _ _ (pinv_nil E) e
    obtain ⟨x, hx, hc⟩ := (cyc_iff E).1 h
    exact absurd hc (h1.ok x (all_placed h1 h2 x hx)).1
theorem levN_some (E : List (S24 × S24)) (hc : ∀ x ∈ keysK E, ¬ Tc E x x) : ∀ (n : Nat) (pl : List S24) (lv : List (List S24)), PInv E pl → (keysK E).length < n + pl.length → ∃ out, levN E n pl lv = some out
  | 0, pl, lv, h, hn => ⟨lv, by unfold levN; rw [if_neg (by omega)]⟩
  | n + 1, pl, lv, h, hn => by
    unfold levN
    by_cases c : pl.length < (keysK E).length
    · have d : ¬ (lvlOf E pl).length = 0 := fun d => (lvl_empty hc h).1 d c
      rw [if_pos c, if_neg d]
      exact levN_some E hc n _ _ h.steps (by rw [List.length_append]; omega)
    · exact ⟨lv, by rw [if_neg c]⟩
/-- The reference's levels, from round n on. -/
def refN (E : List (S24 × S24)) : Nat → Nat → List (List S24) → List (List S24)
  | 0, _, lv => lv
  | f + 1, n, lv => refN E f (n + 1) (if (lvlOf E (PP E n)).length > 0 then lv ++ [lvlOf E (PP E n)] else lv)
theorem ref_lev (E : List (S24 × S24)) (hc : ∀ x ∈ keysK E, ¬ Tc E x x) : ∀ (f n q : Nat) (lv out : List (List S24)), levN E q (PP E n) lv = some out → (keysK E).length ≤ f + (PP E n).length → refN E f n lv = out
  | 0, n, q, lv, out, e, hl => by
    have hlt : ¬ (PP E n).length < (keysK E).length := by omega
    cases q with
    | zero => unfold levN at e; rw [if_neg hlt] at e; exact Option.some.inj e
    | succ q => unfold levN at e; rw [if_neg hlt] at e; exact Option.some.inj e
  | f + 1, n, q, lv, out, e, hl => by
    unfold refN
    by_cases c : (PP E n).length < (keysK E).length
    · have d : ¬ (lvlOf E (PP E n)).length = 0 := fun d => (lvl_empty hc (pp_inv E n)).1 d c
      rw [if_pos (by omega)]
      cases q with
      | zero => unfold levN at e; rw [if_pos c] at e; cases e
      | succ q =>
        unfold levN at e
        rw [if_pos c, if_neg d] at e
        exact ref_lev E hc f (n + 1) q _ _ e (by show _ ≤ f + (PP E n ++ lvlOf E (PP E n)).length; rw [List.length_append]; omega)
    · have d : (lvlOf E (PP E n)).length = 0 := (lvl_empty hc (pp_inv E n)).2 c
      rw [if_neg (by omega)]
      refine ref_lev E hc f (n + 1) q _ _ ?_ (by show _ ≤ f + (PP E n ++ lvlOf E (PP E n)).length; rw [List.length_append]; omega)
      show levN E q (PP E n ++ lvlOf E (PP E n)) lv = _
      rw [List.length_eq_zero_iff.1 d, List.append_nil]
      exact e
/-- A key's level: the first round behind which it is placed. -/
def LvlIs (E : List (S24 × S24)) (x : S24) (v : Nat) : Prop := ∀ m, x ∈ PP E m ↔ v < m
theorem level_l0 (l : List S44) (hl : l.length < 1000) (key : S24) (B : Nat) (hB : B < 1000) (ih : ∀ y, (key, y) ∈ edgesP false l → ∃ v : Nat, Ev (fun k => glossatorref3_Level.f k l y.f0 y.f1 y.f2) (v : Int) ∧ LvlIs (edgesP false l) y v ∧ v < B) :
    ∀ (t : List S44) (i cur : Nat), l.drop i = t → cur ≤ B → ∃ v : Nat, Ev (fun k => glossatorref3_Level.l0 k l (cur : Int) l (l.length : Int) (i : Int) key.f0 key.f1 key.f2) (v : Int) ∧ v ≤ B ∧ ∀ m, v ≤ m ↔ cur ≤ m ∧ ∀ e ∈ t, e.f0 = key → e.f1 ∈ PP (edgesP false l) m
  | [], i, cur, h, hcur => by
    have hi : l.length ≤ i := by simpa using h
    exact ⟨cur, Ev.some' (fun k => by simp only [glossatorref3_Level.l0]; rw [if_neg (by omega)]), hcur, fun m => ⟨fun h => ⟨h, fun e he => by cases he⟩, fun h => h.1⟩⟩
  | x :: t, i, cur, h, hcur => by
    obtain ⟨h1, h2, h3⟩ := dropG h
    have hx : rd_T44 l (i : Int) = x := h3 _
    have hkey : (((x.f0.f0) == key.f0 && ((x.f0.f1) == key.f1 && ((x.f0.f2) == key.f2))) = true) ↔ x.f0 = key := by
      simp only [Bool.and_eq_true, beq_iff_eq]
      exact ⟨fun h => S24.ext' h.1 h.2.1 h.2.2, fun h => by rw [h]; exact ⟨rfl, rfl, rfl⟩⟩
    have hst : ∀ k, glossatorref3_Level.l0 (k + 1) l (cur : Int) l (l.length : Int) (i : Int) key.f0 key.f1 key.f2 = if (((x.f0.f0) == key.f0 && ((x.f0.f1) == key.f1 && ((x.f0.f2) == key.f2))) = true) then ((glossatorref3_Level.f k l x.f1.f0 x.f1.f1 x.f1.f2).bind fun t199 => (glossatorref3_Level.l0 k l (mx (cur : Int) (wrap64 (1 + t199))) l (l.length : Int) ((i + 1 : Nat) : Int) key.f0 key.f1 key.f2)) else (glossatorref3_Level.l0 k l (cur : Int) l (l.length : Int) ((i + 1 : Nat) : Int) key.f0 key.f1 key.f2) := fun k => by
      simp only [glossatorref3_Level.l0]
      rw [if_pos (by omega), if_pos (by omega), if_pos (by omega), hx, wrap_id (n := (i : Int) + 1) (by omega) (by omega)]
      rfl
    by_cases c : x.f0 = key
    · have hmem : (key, x.f1) ∈ edgesP false l := by
        unfold edgesP
        refine List.mem_map.2 ⟨x, ?_, by rw [← c]; rfl⟩
        have : x ∈ l.drop i := by rw [h]; exact List.mem_cons_self
        exact List.mem_of_mem_drop this
      obtain ⟨v, hv, hvl, hvb⟩ := ih x.f1 hmem
      obtain ⟨r, hr, hrb, hrm⟩ := level_l0 l hl key B hB ih t (i + 1) (max cur (v + 1)) h2 (by omega)
      refine ⟨r, Ev.stepK (Ev.pos (hkey.2 c) (Ev.bind hv ?_)) hst, hrb, fun m => ?_⟩
      · have e : mx (cur : Int) (wrap64 (1 + (v : Int))) = ((max cur (v + 1) : Nat) : Int) := by
          rw [wrap_id (by omega) (by omega)]
          unfold mx
          split <;> omega
        rw [e]
        exact hr
      · rw [hrm]
        have h5 : v + 1 ≤ m ↔ x.f1 ∈ PP (edgesP false l) m := (hvl m).symm
        constructor
        · rintro ⟨a, b⟩
          refine ⟨by omega, fun e he hk => ?_⟩
          rcases List.mem_cons.1 he with rfl | he
          · exact h5.1 (by omega)
          · exact b e he hk
        · rintro ⟨a, b⟩
          have h6 := h5.2 (b x List.mem_cons_self c)
          exact ⟨by omega, fun e he hk => b e (List.mem_cons_of_mem _ he) hk⟩
    · obtain ⟨r, hr, hrb, hrm⟩ := level_l0 l hl key B hB ih t (i + 1) cur h2 hcur
      refine ⟨r, Ev.stepK (Ev.neg (fun hh => c (hkey.1 hh)) hr) hst, hrb, fun m => ?_⟩
      rw [hrm]
      constructor
      · rintro ⟨a, b⟩
        refine ⟨a, fun e he hk => ?_⟩
        rcases List.mem_cons.1 he with rfl | he
        · exact absurd hk c
        · exact b e he hk
      · rintro ⟨a, b⟩
        exact ⟨a, fun e he hk => b e (List.mem_cons_of_mem _ he) hk⟩
theorem level_ev (l : List S44) (hl : l.length < 900) (hc : ∀ x ∈ keysK (edgesP false l), ¬ Tc (edgesP false l) x x) : ∀ (n : Nat) (x : S24), (fixK (edgesP false l) x).length ≤ n → x ∈ keysK (edgesP false l) →
    ∃ v : Nat, Ev (fun k => glossatorref3_Level.f k l x.f0 x.f1 x.f2) (v : Int) ∧ LvlIs (edgesP false l) x v ∧ v ≤ (fixK (edgesP false l) x).length
  | n, x, hn, hx => by
    have hfl := fnd_len (fixK_fnd (edgesP false l) x)
    rw [edges_len] at hfl
    obtain ⟨v, hv, hvb, hvm⟩ := level_l0 l (by omega) x (fixK (edgesP false l) x).length (by omega) (fun y hy => by
      have hyk : y ∈ keysK (edgesP false l) := (mem_keysK _ y).2 ⟨_, hy, .inr rfl⟩
      have hlt := rank_lt hy (hc y hyk)
      cases n with
      | zero => omega
      | succ n =>
        obtain ⟨v, h1, h2, h3⟩ := level_ev l hl hc n y (by omega) hyk
        exact ⟨v, h1, h2, by omega⟩) l 0 0 rfl (Nat.zero_le _)
    refine ⟨v, Ev.stepK hv (fun k => rfl), fun m => ?_, hvb⟩
    cases m with
    | zero => exact ⟨fun h => (by cases h), fun h => by omega⟩
    | succ m =>
      rw [mem_pp _ x hx, Nat.lt_succ_iff, hvm]
      constructor
      · intro h
        refine ⟨Nat.zero_le _, fun e he hk => h e.f1 ?_⟩
        unfold edgesP
        exact List.mem_map.2 ⟨e, he, by rw [← hk]; rfl⟩
      · rintro ⟨_, h⟩ y hy
        unfold edgesP at hy
        obtain ⟨e, he, hee⟩ := List.mem_map.1 hy
        obtain ⟨e1, e2⟩ := Prod.mk.inj hee
        have := h e he e1
        rwa [e2] at this
theorem level_eq {E : List (S24 × S24)} {x : S24} {v n : Nat} (hx : x ∈ keysK E) (h : LvlIs E x v) : (v : Int) = (n : Int) ↔ readyB E (PP E n) x = true := by
  rw [ready_iff, ← mem_pp E x hx, h n, h (n + 1)]
  omega
theorem levels_l1 (l : List S44) (hl : l.length < 900) (hc : ∀ x ∈ keysK (edgesP false l), ¬ Tc (edgesP false l) x x) (R : List (List S24)) (n : Nat) (lv : List (List S24)) (hn : n < 100000) (hlv : lv.length < 100000)
    (hgo : Ev (fun k => glossatorref3_Levels.l0 k l (keysK (edgesP false l)) (if (lvlOf (edgesP false l) (PP (edgesP false l) n)).length > 0 then lv ++ [lvlOf (edgesP false l) (PP (edgesP false l) n)] else lv) ((keysK (edgesP false l)).length : Int) ((n + 1 : Nat) : Int)) R) :
    ∀ (t : List S24) (i : Nat), (keysK (edgesP false l)).drop i = t → Ev (fun k => glossatorref3_Levels.l1 k l (keysK (edgesP false l)) lv (n : Int) (((keysK (edgesP false l)).take i).filter (readyB (edgesP false l) (PP (edgesP false l) n))) ((keysK (edgesP false l)).length : Int) (n : Int) (keysK (edgesP false l)) ((keysK (edgesP false l)).length : Int) (i : Int)) R
  | [], i, h => by
    have hi : (keysK (edgesP false l)).length ≤ i := by simpa using h
    rw [List.take_of_length_le hi]
    refine Ev.stepK hgo (fun k => ?_)
    simp only [glossatorref3_Levels.l1]
    rw [if_neg (by omega), wrap_id (by omega) (by omega)]
    show (if ((lvlOf (edgesP false l) (PP (edgesP false l) n)).length : Int) > 0 then _ else _) = _
    by_cases c : (lvlOf (edgesP false l) (PP (edgesP false l) n)).length > 0
    · rw [if_pos (by omega), if_pos (by omega), if_pos c]
      rfl
    · rw [if_neg (by omega), if_neg c]
      rfl
  | x :: t, i, h => by
    obtain ⟨h1, h2, h3⟩ := dropG h
    have hx : rd_T24 (keysK (edgesP false l)) (i : Int) = x := h3 _
    have hks := keys_small l (by omega)
    have hxi : (keysK (edgesP false l))[i] = x := by
      have := h
      rw [List.drop_eq_getElem_cons h1] at this
      injection this
    have hxk : x ∈ keysK (edgesP false l) := by rw [← hxi]; exact List.getElem_mem h1
    obtain ⟨v, hv, hvl, hvb⟩ := level_ev l hl hc _ x (Nat.le_refl _) hxk
    have hsn := lvl_snoc (edgesP false l) (PP (edgesP false l) n) i h1
    rw [hxi] at hsn
    have ih := levels_l1 l hl hc R n lv hn hlv hgo t (i + 1) h2
    rw [hsn] at ih
    have hfl : (((keysK (edgesP false l)).take i).filter (readyB (edgesP false l) (PP (edgesP false l) n))).length < 100000 := by
      have h4 := List.length_filter_le (readyB (edgesP false l) (PP (edgesP false l) n)) ((keysK (edgesP false l)).take i)
      rw [List.length_take] at h4
      omega
    obtain ⟨fl, hfe⟩ : ∃ fl, ((keysK (edgesP false l)).take i).filter (readyB (edgesP false l) (PP (edgesP false l) n)) = fl := ⟨_, rfl⟩
    rw [hfe] at ih hfl ⊢
    refine Ev.stepK (f := fun k => (glossatorref3_Level.f k l x.f0 x.f1 x.f2).bind fun t205 => (if t205 = (n : Int) then (if fl.length < 5864062014805 then (glossatorref3_Levels.l1 k l (keysK (edgesP false l)) lv (n : Int) (fl ++ [(⟨x.f0, x.f1, x.f2⟩ : S24)]) ((keysK (edgesP false l)).length : Int) (n : Int) (keysK (edgesP false l)) ((keysK (edgesP false l)).length : Int) ((i + 1 : Nat) : Int)) else (none)) else (glossatorref3_Levels.l1 k l (keysK (edgesP false l)) lv (n : Int) fl ((keysK (edgesP false l)).length : Int) (n : Int) (keysK (edgesP false l)) ((keysK (edgesP false l)).length : Int) ((i + 1 : Nat) : Int)))) ?_ (fun k => ?_)
    · refine Ev.bind hv ?_
      by_cases c : readyB (edgesP false l) (PP (edgesP false l) n) x = true
      · rw [if_pos c] at ih
        exact Ev.pos ((level_eq hxk hvl).2 c) (Ev.pos (by omega) ih)
      · rw [if_neg c, List.append_nil] at ih
        exact Ev.neg (fun hh => c ((level_eq hxk hvl).1 hh)) ih
    · simp only [glossatorref3_Levels.l1]
      rw [if_pos (by omega), if_pos (by omega), if_pos (by omega), hx, wrap_id (n := (i : Int) + 1) (by omega) (by omega)]
      rfl
theorem levels_l0 (l : List S44) (hl : l.length < 900) (hc : ∀ x ∈ keysK (edgesP false l), ¬ Tc (edgesP false l) x x) : ∀ (f n : Nat) (lv : List (List S24)), f + n = (keysK (edgesP false l)).length → lv.length ≤ n →
    Ev (fun k => glossatorref3_Levels.l0 k l (keysK (edgesP false l)) lv ((keysK (edgesP false l)).length : Int) (n : Int)) (refN (edgesP false l) f n lv)
  | 0, n, lv, h, hlv => Ev.some' (fun k => by simp only [glossatorref3_Levels.l0]; rw [if_neg (by omega)]; rfl)
  | f + 1, n, lv, h, hlv => by
    have hks := keys_small l (by omega)
    refine Ev.stepK (f := fun k => glossatorref3_Levels.l1 k l (keysK (edgesP false l)) lv (n : Int) (((keysK (edgesP false l)).take 0).filter (readyB (edgesP false l) (PP (edgesP false l) n))) ((keysK (edgesP false l)).length : Int) (n : Int) (keysK (edgesP false l)) ((keysK (edgesP false l)).length : Int) ((0 : Nat) : Int)) ?_ (fun k => by simp only [glossatorref3_Levels.l0]; rw [if_pos (by omega)]; rfl)
    refine levels_l1 l hl hc _ n lv (by omega) (by omega) ?_ (keysK (edgesP false l)) 0 rfl
    exact levels_l0 l hl hc f (n + 1) _ (by omega) (by
      split
      · rw [List.length_append, List.length_singleton]; omega
      · omega)
theorem levels_ev (l : List S44) (hl : l.length < 900) (hc : ∀ x ∈ keysK (edgesP false l), ¬ Tc (edgesP false l) x x) : Ev (fun k => glossatorref3_Levels.f k l) (refN (edgesP false l) (keysK (edgesP false l)).length 0 []) := by
  unfold glossatorref3_Levels.f
  exact Ev.bind (nodes_ev l (by omega)) (levels_l0 l hl hc _ 0 [] (by omega) (Nat.le_refl _))
theorem law_l0 (ls : List (List S24)) (hn : ls.length < 100000) (hs : ∀ x ∈ ls, x.length < 1000000) : ∀ (t : List (List S24)) (i : Nat), ls.drop i = t → Ev (fun k => glossatorlaw3_DepgraphLevels.l0 k ls ls (ls.length : Int) (i : Int)) true
  | [], i, h => by
    have hi : ls.length ≤ i := by simpa using h
    refine Ev.stepK (f := fun k => (glossatorlaw3_graphExample.f k).bind fun t229 => (some t229)) (Ev.bind example_ev (Ev.now _)) (fun k => by simp only [glossatorlaw3_DepgraphLevels.l0]; rw [if_neg (by omega)])
  | x :: t, i, h => by
    obtain ⟨h1, h2, h3⟩ := dropG h
    have hx : rd_L3 ls (i : Int) = x := h3 _
    have hxs : x.length < 1000000 := hs x (by
      have : x ∈ ls.drop i := by rw [h]; exact List.mem_cons_self
      exact List.mem_of_mem_drop this)
    refine Ev.stepK (f := fun k => (api_QKey_8.f k x x).bind fun t228 => (if t228 = true then (glossatorlaw3_DepgraphLevels.l0 k ls ls (ls.length : Int) ((i + 1 : Nat) : Int)) else (some false))) (Ev.bind (eqK x hxs) (Ev.pos rfl (law_l0 ls hn hs t (i + 1) h2))) (fun k => ?_)
    simp only [glossatorlaw3_DepgraphLevels.l0]
    rw [if_pos (by omega), if_pos (by omega), if_pos (by omega), if_pos (by omega), hx, wrap_id (n := (i : Int) + 1) (by omega) (by omega)]
    rfl
theorem levN_small (E : List (S24 × S24)) : ∀ (n : Nat) (pl : List S24) (lv out : List (List S24)), levN E n pl lv = some out → (∀ x ∈ lv, x.length ≤ (keysK E).length) → (∀ x ∈ out, x.length ≤ (keysK E).length) ∧ out.length ≤ lv.length + n
  | 0, pl, lv, out, e, h => by
    unfold levN at e
    by_cases c : pl.length < (keysK E).length
    · rw [if_pos c] at e; cases e
    · rw [if_neg c] at e
      obtain rfl := Option.some.inj e
      exact ⟨h, by omega⟩
  | n + 1, pl, lv, out, e, h => by
    unfold levN at e
    by_cases c : pl.length < (keysK E).length
    · rw [if_pos c] at e
      by_cases d : (lvlOf E pl).length = 0
      · rw [if_pos d] at e; cases e
      · rw [if_neg d] at e
        have h2 := levN_small E n _ _ _ e (fun x hx => (List.mem_append.1 hx).elim (h x) (fun h3 => by
          rw [List.mem_singleton.1 h3]
          unfold lvlOf
          exact List.length_filter_le _ _))
        rw [List.length_append, List.length_singleton] at h2
        exact ⟨h2.1, by omega⟩
    · rw [if_neg c] at e
      obtain rfl := Option.some.inj e
      exact ⟨h, by omega⟩
theorem DepgraphLevels : glossatorlaw3_DepgraphLevels.PureR := by
  intro a0 h0
  unfold glossatorlaw3_DepgraphLevels.f
  have hmn : mn (a0.length : Int) 14 = ((min a0.length 14 : Nat) : Int) := by unfold mn; split <;> omega
  refine Ev.rounds (Ev.bind example_ev (Ev.pos rfl (Ev.pos (by rw [hmn]; omega) (Ev.pos (by rw [hmn]; omega) ?_))))
  obtain ⟨l, hl⟩ : ∃ l, a0.take (mn (a0.length : Int) 14).toNat = l := ⟨_, rfl⟩
  have hll : l.length ≤ 14 := by rw [← hl, hmn, List.length_take]; omega
  simp only [hl, Option.bind_some]
  have ht : l.take 400 = l := List.take_of_length_le (by omega)
  simp only [depgraph_Levels.f, ht, Option.bind_some]
  refine Ev.bind (cyc_ev l (by omega)) ?_
  cases hc : cycB (edgesP false l) with
  | true =>
    rw [lev_none hc]
    exact Ev.pos rfl (Ev.bind example_ev (Ev.pos rfl (Ev.pos rfl (Ev.now _))))
  | false =>
    have hcc : ∀ x ∈ keysK (edgesP false l), ¬ Tc (edgesP false l) x x := fun x hx h => by rw [(cyc_iff _).2 ⟨x, hx, h⟩] at hc; cases hc
    obtain ⟨out, ho⟩ := levN_some (edgesP false l) hcc ((keysK (edgesP false l)).length + 1) [] [] (pinv_nil _) (by simp)
    have hor := ref_lev (edgesP false l) hcc (keysK (edgesP false l)).length 0 _ [] out ho (by omega)
    have hsm := levN_small (edgesP false l) _ _ _ _ ho (fun x hx => by cases hx)
    have hks := keysK_len (edgesP false l)
    rw [edges_len] at hks
    simp only [List.length_nil] at hsm
    have hLR : levR (edgesP false l) = some out := ho
    rw [hLR]
    refine Ev.neg (by simp) (Ev.bind (levels_ev l (by omega) hcc) ?_)
    rw [hor]
    refine Ev.pos rfl ?_
    refine Ev.stepK (f := fun k => glossatorlaw3_DepgraphLevels.l0 k out out (out.length : Int) ((0 : Nat) : Int)) (law_l0 out (by omega) (fun x hx => by have := hsm.1 x hx; omega) out 0 rfl) (fun k => ?_)
    simp only [glossatorlaw3_DepgraphLevels.j0]
    rw [if_neg (by simp)]
    rfl
end Go.Proofs.Ytofonbfpjfabbaa.Pr

/-
  The pure statement of DepgraphReduction: where no key reaches itself, the edges that stay are the reference's.
-/
import Derived.Test.YtofonbfpjfabbaaSDepgraphReduction
import Derived.Test.YtofonbfpjfabbaaAid
namespace Go.Proofs.Ytofonbfpjfabbaa.Pr
open Go.Proofs.YtofonbfpjfabbaaW.PrintLast hiding readyB
open Go.RowKit Go.Proofs.YtofonbfpjfabbaaW.PrintWords Go.Proofs.YtofonbfpjfabbaaW.PrintMore Go.Proofs.Ytofonbfpjfabbaa.QDepgraphReduction Go.Proofs.Ytofonbfpjfabbaa.Aid Go.Proofs.Ytofonbfpjfabbaa.Hand
set_option linter.unusedVariables false
set_option linter.unusedSimpArgs false
theorem dropG {α : Type} {xs t : List α} {x : α} {i : Nat} (h : xs.drop i = x :: t) : i < xs.length ∧ xs.drop (i + 1) = t ∧ (∀ d, xs.getD ((i : Int)).toNat d = x) := by
  have hl : i < xs.length := by
    rcases Nat.lt_or_ge i xs.length with h1 | h1
    · exact h1
    · rw [List.drop_eq_nil_of_le h1] at h; cases h
  rw [List.drop_eq_getElem_cons hl] at h
  injection h with h1 h2
  refine ⟨hl, h2, fun d => ?_⟩
  rw [Int.toNat_natCast, List.getD_eq_getElem?_getD, List.getElem?_eq_getElem hl]
  exact h1
theorem eqK_l0 (xs : List S24) (hx : xs.length < 1000000) : ∀ (t : List S24) (i : Nat), xs.drop i = t → Ev (fun k => api_QKey_8.l0 k xs xs (xs.length : Int) (i : Int)) true
  | [], i, h => by
    have : xs.length ≤ i := by simpa using h
    exact Ev.some' (fun k => by simp only [api_QKey_8.l0]; rw [if_neg (by omega)])
  | x :: t, i, h => by
    obtain ⟨h1, h2, h3⟩ := dropG h
    refine Ev.stepK (eqK_l0 xs hx t (i + 1) h2) (fun k => ?_)
    simp only [api_QKey_8.l0]
    rw [if_pos (by omega), if_pos (by omega), if_pos (by omega), if_pos (by omega), if_neg (by simp), wrap_id (by omega) (by omega)]
    rfl
theorem eqK (xs : List S24) (hx : xs.length < 1000000) : Ev (fun k => api_QKey_8.f k xs xs) true :=
  Ev.same (eqK_l0 xs hx xs 0 rfl) (fun k => by unfold api_QKey_8.f; rw [if_pos rfl]; rfl)
theorem idxK (xs : List S24) (x : S24) (hx : xs.length < 1000000) : ∀ (t : List S24) (i : Nat), xs.drop i = t → Ev (fun k => (api_QKey_40.l0 k xs (xs.length : Int) (i : Int) x.f0 x.f1 x.f2).bind fun t => some (decide (t ≥ 0))) (decide (x ∈ t))
  | [], i, h => by
    have : xs.length ≤ i := by simpa using h
    refine Ev.some' (fun k => ?_)
    simp only [api_QKey_40.l0]
    rw [if_neg (by omega)]
    rfl
  | y :: t, i, h => by
    obtain ⟨h1, h2, h3⟩ := dropG h
    have hy : rd_T24 xs (i : Int) = y := h3 _
    by_cases c : x = y
    · refine Ev.some' (fun k => ?_)
      simp only [api_QKey_40.l0]
      rw [if_pos (by omega), if_pos (by omega), if_pos (by omega), hy, if_pos (by rw [c]; simp)]
      rw [c, decide_eq_true (List.mem_cons_self)]
      simp
    · have hd : decide (x ∈ y :: t) = decide (x ∈ t) := by
        rw [Bool.eq_iff_iff, decide_eq_true_iff, decide_eq_true_iff, List.mem_cons]
        exact ⟨fun h => h.resolve_left c, .inr⟩
      rw [hd]
      refine Ev.stepK (idxK xs x hx t (i + 1) h2) (fun k => ?_)
      simp only [api_QKey_40.l0]
      rw [if_pos (by omega), if_pos (by omega), if_pos (by omega), hy, if_neg (fun hh => c (by
        simp only [Bool.and_eq_true, beq_iff_eq] at hh
        exact S24.ext' hh.1 hh.2.1 hh.2.2)), wrap_id (by omega) (by omega)]
      rfl
theorem contK (xs : List S24) (x : S24) (hx : xs.length < 1000000) : Ev (fun k => api_QKey_23.f k xs x.f0 x.f1 x.f2) (decide (x ∈ xs)) :=
  Ev.same (idxK xs x hx xs 0 rfl) (fun k => rfl)
theorem pass_ev (l : List S44) (key : S24) (R : List S24) (hl : l.length < 1000) : ∀ (t : List S44) (i : Nat) (r : List S24) (b : Bool), l.drop i = t → r.length + t.length < 100000 →
    Ev (fun k => glossatorref3_Reachable.l0 k l (passK (edgesP false t) key r) (b || decide ((passK (edgesP false t) key r).length ≠ r.length)) key.f0 key.f1 key.f2) R →
    Ev (fun k => glossatorref3_Reachable.l1 k l r b l (l.length : Int) (i : Int) key.f0 key.f1 key.f2) R
  | [], i, r, b, h, hr, e => by
    have : l.length ≤ i := by simpa using h
    refine Ev.stepK e (fun k => ?_)
    simp only [glossatorref3_Reachable.l1]
    rw [if_neg (by omega)]
    have : passK (edgesP false []) key r = r := rfl
    rw [this]
    simp
  | x :: t, i, r, b, h, hr, e => by
    obtain ⟨h1, h2, h3⟩ := dropG h
    have hx : rd_T44 l (i : Int) = x := h3 _
    rw [List.length_cons] at hr
    have hp : passK (edgesP false (x :: t)) key r = passK (edgesP false t) key (passOne key r (x.f0, x.f1)) := rfl
    rw [hp] at e
    have hlen := passK_len key (edgesP false t) (passOne key r (x.f0, x.f1))
    -- what follows the edge
    have hno : passOne key r (x.f0, x.f1) = r → Ev (fun k => glossatorref3_Reachable.l1 k l r b l (l.length : Int) ((i + 1 : Nat) : Int) key.f0 key.f1 key.f2) R := fun h0 => by
      rw [h0] at e
      exact pass_ev l key R hl t (i + 1) r b h2 (by omega) e
    have hyes : passOne key r (x.f0, x.f1) = r ++ [x.f1] → Ev (fun k => glossatorref3_Reachable.l1 k l (r ++ [x.f1]) true l (l.length : Int) ((i + 1 : Nat) : Int) key.f0 key.f1 key.f2) R := fun h0 => by
      rw [h0] at e hlen
      rw [List.length_append, List.length_singleton] at hlen
      refine pass_ev l key R hl t (i + 1) (r ++ [x.f1]) true h2 (by rw [List.length_append, List.length_singleton]; omega) ?_
      have hb : (b || decide ((passK (edgesP false t) key (r ++ [x.f1])).length ≠ r.length)) = true := by
        rw [decide_eq_true (by omega), Bool.or_true]
      rw [hb] at e
      exact e
    have hadd : Ev (fun k => (api_QKey_23.f k r x.f1.f0 x.f1.f1 x.f1.f2).bind fun t172 => (if t172 = true then (glossatorref3_Reachable.l1 k l r b l (l.length : Int) ((i + 1 : Nat) : Int) key.f0 key.f1 key.f2) else (if r.length < 5864062014805 then (glossatorref3_Reachable.l1 k l (r ++ [(⟨x.f1.f0, x.f1.f1, x.f1.f2⟩ : S24)]) true l (l.length : Int) ((i + 1 : Nat) : Int) key.f0 key.f1 key.f2) else (none)))) R ∨ ¬ (x.f0 = key ∨ x.f0 ∈ r) := by
      by_cases c : x.f0 = key ∨ x.f0 ∈ r
      · left
        refine Ev.bind (contK r x.f1 (by omega)) ?_
        by_cases d : x.f1 ∈ r
        · rw [decide_eq_true d]
          exact Ev.pos rfl (hno (by unfold passOne; rw [if_neg (fun hh => hh.2 d)]))
        · rw [decide_eq_false d]
          refine Ev.neg (by simp) (Ev.pos (by omega) (hyes ?_))
          unfold passOne
          rw [if_pos ⟨c, d⟩]
      · exact .inr c
    have hkey : (((x.f0.f0) == key.f0 && ((x.f0.f1) == key.f1 && ((x.f0.f2) == key.f2))) = true) ↔ x.f0 = key := by
      simp only [Bool.and_eq_true, beq_iff_eq]
      exact ⟨fun h => S24.ext' h.1 h.2.1 h.2.2, fun h => by rw [h]; exact ⟨rfl, rfl, rfl⟩⟩
    refine Ev.stepK (f := fun k => if (((x.f0.f0) == key.f0 && ((x.f0.f1) == key.f1 && ((x.f0.f2) == key.f2))) = true) then ((api_QKey_23.f k r x.f1.f0 x.f1.f1 x.f1.f2).bind fun t172 => (if t172 = true then (glossatorref3_Reachable.l1 k l r b l (l.length : Int) ((i + 1 : Nat) : Int) key.f0 key.f1 key.f2) else (if r.length < 5864062014805 then (glossatorref3_Reachable.l1 k l (r ++ [(⟨x.f1.f0, x.f1.f1, x.f1.f2⟩ : S24)]) true l (l.length : Int) ((i + 1 : Nat) : Int) key.f0 key.f1 key.f2) else (none))))
      else ((api_QKey_23.f k r x.f0.f0 x.f0.f1 x.f0.f2).bind fun t171 => (if t171 = true then ((api_QKey_23.f k r x.f1.f0 x.f1.f1 x.f1.f2).bind fun t172 => (if t172 = true then (glossatorref3_Reachable.l1 k l r b l (l.length : Int) ((i + 1 : Nat) : Int) key.f0 key.f1 key.f2) else (if r.length < 5864062014805 then (glossatorref3_Reachable.l1 k l (r ++ [(⟨x.f1.f0, x.f1.f1, x.f1.f2⟩ : S24)]) true l (l.length : Int) ((i + 1 : Nat) : Int) key.f0 key.f1 key.f2) else (none)))) else (glossatorref3_Reachable.l1 k l r b l (l.length : Int) ((i + 1 : Nat) : Int) key.f0 key.f1 key.f2)))) ?_ (fun k => ?_)
    · by_cases c : x.f0 = key
      · exact Ev.pos (hkey.2 c) (hadd.resolve_right (fun hh => hh (.inl c)))
      · refine Ev.neg (fun hh => c (hkey.1 hh)) (Ev.bind (contK r x.f0 (by omega)) ?_)
        by_cases d : x.f0 ∈ r
        · rw [decide_eq_true d]
          exact Ev.pos rfl (hadd.resolve_right (fun hh => hh (.inr d)))
        · rw [decide_eq_false d]
          exact Ev.neg (by simp) (hno (by unfold passOne; rw [if_neg (fun hh => hh.1.elim c d)]))
    · simp only [glossatorref3_Reachable.l1]
      rw [if_pos (by omega), if_pos (by omega), if_pos (by omega), hx, wrap_id (n := (i : Int) + 1) (by omega) (by omega)]
      rfl
theorem edges_len (b : Bool) (l : List S44) : (edgesP b l).length = l.length := by unfold edgesP; rw [List.length_map]
theorem loop_ev (l : List S44) (key : S24) (hl : l.length < 1000) : ∀ (n : Nat) (r : List S24), Fnd (edgesP false l) key r → l.length + 1 - r.length ≤ n → Ev (fun k => glossatorref3_Reachable.l0 k l r true key.f0 key.f1 key.f2) (reachR (edgesP false l) key)
  | 0, r, hf, hn => by
    have hrl := fnd_len hf
    rw [edges_len] at hrl
    omega
  | n + 1, r, hf, hn => by
    have hrl := fnd_len hf
    rw [edges_len] at hrl
    refine Ev.stepK (f := fun k => glossatorref3_Reachable.l1 k l r false l (l.length : Int) ((0 : Nat) : Int) key.f0 key.f1 key.f2) ?_ (fun k => by simp only [glossatorref3_Reachable.l0, if_true]; rfl)
    refine pass_ev l key _ hl l 0 r false rfl (by omega) ?_
    have hf' := passK_fnd (E0 := edgesP false l) (key := key) (edgesP false l) r (fun _ h => h) hf
    have hle := passK_len key (edgesP false l) r
    by_cases c : (passK (edgesP false l) key r).length = r.length
    · obtain ⟨h1, h2⟩ := passK_fix key (edgesP false l) r c
      have hb : (false || decide ((passK (edgesP false l) key r).length ≠ r.length)) = false := by rw [decide_eq_false (by omega)]; rfl
      rw [hb, h1]
      refine Ev.some' (fun k => ?_)
      simp only [glossatorref3_Reachable.l0]
      rw [if_neg (by simp)]
      unfold glossatorref3_SortKeys.f
      rw [if_pos (by omega)]
      show some (sortK ltK r) = some (reachR (edgesP false l) key)
      unfold reachR
      rw [sortK_ext ordK (fun x => by rw [mem_fixK]; exact ⟨fun hx => hf.reach x hx, fun hx => closed_all h2 hx⟩)]
    · have hb : (false || decide ((passK (edgesP false l) key r).length ≠ r.length)) = true := by rw [decide_eq_true (by omega)]; rfl
      rw [hb]
      have hrl' := fnd_len hf'
      rw [edges_len] at hrl'
      exact loop_ev l key hl n _ hf' (by omega)
theorem reach_ev (l : List S44) (key : S24) (hl : l.length < 1000) : Ev (fun k => glossatorref3_Reachable.f k l key.f0 key.f1 key.f2) (reachR (edgesP false l) key) :=
  loop_ev l key hl (l.length + 1) [] ⟨List.nodup_nil, fun x hx => by cases hx⟩ (by simp)
theorem example_ev : Ev (fun k => glossatorlaw3_graphExample.f k) true := by
  unfold glossatorlaw3_graphExample.f
  have e1 : reachR (edgesP false ([(⟨(⟨0, 3, 0⟩ : S24), (⟨0, 2, 0⟩ : S24)⟩ : S44), (⟨(⟨0, 2, 0⟩ : S24), (⟨0, 1, 0⟩ : S24)⟩ : S44)].take 400)) ⟨0, 3, 0⟩ = [(⟨0, 1, 0⟩ : S24), (⟨0, 2, 0⟩ : S24)] := by decide
  have e2 : reachR (edgesP true ([(⟨(⟨0, 3, 0⟩ : S24), (⟨0, 2, 0⟩ : S24)⟩ : S44), (⟨(⟨0, 2, 0⟩ : S24), (⟨0, 1, 0⟩ : S24)⟩ : S44)].take 400)) ⟨0, 1, 0⟩ = [(⟨0, 2, 0⟩ : S24), (⟨0, 3, 0⟩ : S24)] := by decide
  simp only [Option.bind_some, depgraph_Dependencies.f, depgraph_Dependents.f, e1, e2]
  refine Ev.bind (eqK _ (by simp)) (Ev.pos rfl (Ev.bind (eqK _ (by simp)) ?_))
  exact Ev.now _
theorem reachR_len (E : List (S24 × S24)) (key : S24) : (reachR E key).length ≤ E.length := by
  unfold reachR
  exact Nat.le_trans (sortK_len ltK _) (fnd_len (fixK_fnd E key))

/-! ### the nodes -/
theorem keysK_take (l : List S44) (i : Nat) (x : S44) (h : l.drop i = x :: l.drop (i + 1)) (hi : i < l.length) : (edgesP false (l.take (i + 1))).flatMap (fun p => [p.1, p.2]) = (edgesP false (l.take i)).flatMap (fun p => [p.1, p.2]) ++ [x.f0, x.f1] := by
  have ht : l.take (i + 1) = l.take i ++ [x] := by
    rw [List.take_succ_eq_append_getElem hi]
    rw [List.drop_eq_getElem_cons hi] at h
    injection h with h4 _
    rw [h4]
  rw [ht]
  unfold edgesP
  rw [List.map_append, List.flatMap_append]
  rfl
theorem flat_len (E : List (S24 × S24)) : (E.flatMap (fun p => [p.1, p.2])).length = 2 * E.length := by
  induction E with
  | nil => rfl
  | cons p t ih => rw [List.flatMap_cons, List.length_append, ih, List.length_cons]; simp; omega
theorem nodes_l0 (l : List S44) (hl : l.length < 1000) : ∀ (t : List S44) (i : Nat), l.drop i = t → i + t.length = l.length → Ev (fun k => glossatorref3_Nodes.l0 k ((edgesP false (l.take i)).flatMap (fun p => [p.1, p.2])) l (l.length : Int) (i : Int)) (keysK (edgesP false l))
  | [], i, h, hi => by
    simp at hi
    refine Ev.some' (fun k => ?_)
    simp only [glossatorref3_Nodes.l0]
    have hf := flat_len (edgesP false l)
    rw [edges_len] at hf
    rw [if_neg (by omega), List.take_of_length_le (by omega)]
    unfold glossatorref3_SortKeys.f
    rw [if_pos (by omega)]
    rfl
  | x :: t, i, h, hi => by
    obtain ⟨h1, h2, h3⟩ := dropG h
    have hx : rd_T44 l (i : Int) = x := h3 _
    rw [List.length_cons] at hi
    have hf := flat_len (edgesP false (l.take i))
    rw [edges_len, List.length_take] at hf
    refine Ev.stepK (nodes_l0 l hl t (i + 1) h2 (by omega)) (fun k => ?_)
    simp only [glossatorref3_Nodes.l0]
    rw [if_pos (by omega), if_pos (by omega), if_pos (by omega), hx, wrap_id (n := (i : Int) + 1) (by omega) (by omega)]
    simp only [Option.bind_some]
    rw [if_pos (by rw [hf]; simp only [List.length_cons, List.length_nil]; omega), keysK_take l i x (by rw [h, h2]) h1]
    rfl
theorem nodes_ev (l : List S44) (hl : l.length < 1000) : Ev (fun k => glossatorref3_Nodes.f k l) (keysK (edgesP false l)) := Ev.same (nodes_l0 l hl l 0 rfl (by simp)) (fun k => rfl)
theorem ready_iff (E : List (S24 × S24)) (pl : List S24) (k : S24) : readyB E pl k = true ↔ k ∉ pl ∧ ∀ y, (k, y) ∈ E → y ∈ pl := by
  unfold readyB
  rw [Bool.and_eq_true, Bool.not_eq_true', decide_eq_false_iff_not, Bool.not_eq_true', List.any_eq_false]
  constructor
  · rintro ⟨h1, h2⟩
    refine ⟨h1, fun y hy => ?_⟩
    have := h2 y ((nx_mem E k y).2 hy)
    simpa using this
  · rintro ⟨h1, h2⟩
    refine ⟨h1, fun y hy => ?_⟩
    have := h2 y ((nx_mem E k y).1 hy)
    simpa using this
/-! ### does a key reach itself -/
theorem cyc_l0 (l : List S44) (ks : List S24) (hl : l.length < 1000) (hk : ks.length < 100000) : ∀ (t : List S24) (i : Nat), ks.drop i = t → Ev (fun k => glossatorref3_Cyclic.l0 k l ks (ks.length : Int) (i : Int)) (t.any (fun x => decide (x ∈ reachR (edgesP false l) x)))
  | [], i, h => by
    have hi : ks.length ≤ i := by simpa using h
    exact Ev.some' (fun k => by simp only [glossatorref3_Cyclic.l0]; rw [if_neg (by omega)]; rfl)
  | x :: t, i, h => by
    obtain ⟨h1, h2, h3⟩ := dropG h
    have hx : rd_T24 ks (i : Int) = x := h3 _
    refine Ev.stepK (f := fun k => (glossatorref3_Reachable.f k l x.f0 x.f1 x.f2).bind fun t192 => ((api_QKey_23.f k t192 x.f0 x.f1 x.f2).bind fun t195 => (if t195 = true then (some true) else (glossatorref3_Cyclic.l0 k l ks (ks.length : Int) ((i + 1 : Nat) : Int))))) ?_ (fun k => ?_)
    · refine Ev.bind (reach_ev l x hl) (Ev.bind (contK _ x (by have := reachR_len (edgesP false l) x; rw [edges_len] at this; show (reachR (edgesP false l) x).length < _; omega)) ?_)
      by_cases c : x ∈ reachR (edgesP false l) x
      · rw [List.any_cons]
        simp only [decide_eq_true c, Bool.true_or]
        exact Ev.pos (by simp) (Ev.now _)
      · rw [List.any_cons]
        simp only [decide_eq_false c, Bool.false_or]
        exact Ev.neg (by simp) (cyc_l0 l ks hl hk t (i + 1) h2)
    · simp only [glossatorref3_Cyclic.l0]
      rw [if_pos (by omega), if_pos (by omega), if_pos (by omega), hx, wrap_id (n := (i : Int) + 1) (by omega) (by omega)]
      rfl
def cycB (E : List (S24 × S24)) : Bool := (keysK E).any (fun x => decide (x ∈ reachR E x))
theorem keys_small (l : List S44) (hl : l.length < 1000) : (keysK (edgesP false l)).length < 100000 := by
  have := keysK_len (edgesP false l)
  rw [edges_len] at this
  omega
theorem cyc_ev (l : List S44) (hl : l.length < 1000) : Ev (fun k => glossatorref3_Cyclic.f k l) (cycB (edgesP false l)) := by
  unfold glossatorref3_Cyclic.f
  exact Ev.bind (nodes_ev l hl) (cyc_l0 l _ hl (keys_small l hl) _ 0 rfl)
theorem mem_reachR (E : List (S24 × S24)) (x y : S24) : y ∈ reachR E x ↔ Tc E x y := by unfold reachR; rw [mem_sortK, mem_fixK]
theorem mem_keysK (E : List (S24 × S24)) (x : S24) : x ∈ keysK E ↔ ∃ p ∈ E, x = p.1 ∨ x = p.2 := by
  unfold keysK
  rw [mem_sortK, List.mem_flatMap]
  constructor
  · rintro ⟨p, hp, h⟩
    simp at h
    exact ⟨p, hp, h⟩
  · rintro ⟨p, hp, h⟩
    exact ⟨p, hp, by simpa using h⟩
structure PInv (E : List (S24 × S24)) (pl : List S24) : Prop where
  nodup : pl.Nodup
  sub : ∀ x ∈ pl, x ∈ keysK E
  ok : ∀ y ∈ pl, ¬ Tc E y y ∧ ∀ z, Tc E y z → z ∈ pl
theorem PInv.step {E : List (S24 × S24)} {pl : List S24} (h : PInv E pl) {x : S24} (hx : x ∈ keysK E) (hr : readyB E pl x = true) : PInv E (pl ++ [x]) := by
  rw [ready_iff] at hr
  have key : ∀ z, Tc E x z → z ∈ pl := by
    intro z hz
    induction hz with
    | one he => exact hr.2 _ he
    | more _ he ih => exact (h.ok _ ih).2 _ (.one he)
  refine ⟨List.nodup_append.2 ⟨h.nodup, by simp, fun a ha b hb e => hr.1 (by rw [List.mem_singleton] at hb; rw [← hb, ← e]; exact ha)⟩, fun y hy => ?_, fun y hy => ?_⟩
  · rcases List.mem_append.1 hy with hy | hy
    · exact h.sub y hy
    · rw [List.mem_singleton.1 hy]; exact hx
  · rcases List.mem_append.1 hy with hy | hy
    · exact ⟨(h.ok y hy).1, fun z hz => List.mem_append.2 (.inl ((h.ok y hy).2 z hz))⟩
    · rw [List.mem_singleton.1 hy]
      exact ⟨fun hc => hr.1 (key _ hc), fun z hz => List.mem_append.2 (.inl (key z hz))⟩
theorem topoN_inv (E : List (S24 × S24)) : ∀ (n : Nat) (pl out : List S24), PInv E pl → topoN E n pl = some out → PInv E out ∧ out.length = pl.length + n
  | 0, pl, out, h, e => by obtain rfl := Option.some.inj e; exact ⟨h, rfl⟩
  | n + 1, pl, out, h, e => by
    unfold topoN at e
    cases hf : (keysK E).find? (readyB E pl) with
    | none => rw [hf] at e; cases e
    | some x =>
      rw [hf] at e
      have := topoN_inv E n _ _ (h.step (List.mem_of_find?_eq_some hf) (List.find?_some hf)) e
      refine ⟨this.1, ?_⟩
      rw [this.2, List.length_append, List.length_singleton]
      omega
theorem all_placed {E : List (S24 × S24)} {pl : List S24} (h : PInv E pl) (hl : pl.length = (keysK E).length) : ∀ x ∈ keysK E, x ∈ pl := by
  intro x hx
  refine Classical.byContradiction (fun hn => ?_)
  have := sub_len (l := x :: pl) (m := keysK E) (List.nodup_cons.2 ⟨hn, h.nodup⟩) (fun y hy => by
    rcases List.mem_cons.1 hy with rfl | hy
    · exact hx
    · exact h.sub y hy)
  rw [List.length_cons] at this
  omega
theorem rank_lt {E : List (S24 × S24)} {x y : S24} (he : (x, y) ∈ E) (hy : ¬ Tc E y y) : (fixK E y).length < (fixK E x).length := by
  have h1 := fixK_fnd E y
  refine sub_len (l := y :: fixK E y) (List.nodup_cons.2 ⟨fun h => hy ((mem_fixK E y y).1 h), h1.nodup⟩) (fun z hz => ?_)
  rw [mem_fixK]
  rcases List.mem_cons.1 hz with rfl | hz
  · exact .one he
  · exact (Tc.one he).trans ((mem_fixK E y z).1 hz)
theorem exists_ready {E : List (S24 × S24)} {pl : List S24} (hc : ∀ x ∈ keysK E, ¬ Tc E x x) : ∀ (n : Nat) (x : S24), (fixK E x).length ≤ n → x ∈ keysK E → x ∉ pl → ∃ y ∈ keysK E, readyB E pl y = true
  | n, x, hn, hx, hp => by
    by_cases c : ∀ y, (x, y) ∈ E → y ∈ pl
    · exact ⟨x, hx, (ready_iff E pl x).2 ⟨hp, c⟩⟩
    · have ⟨y, hy⟩ : ∃ y, ¬ ((x, y) ∈ E → y ∈ pl) := Classical.not_forall.1 c
      have hy1 : (x, y) ∈ E := Classical.byContradiction (fun h => hy (fun h2 => absurd h2 h))
      have hy2 : y ∉ pl := fun h => hy (fun _ => h)
      have hyk : y ∈ keysK E := (mem_keysK E y).2 ⟨_, hy1, .inr rfl⟩
      have hlt := rank_lt hy1 (hc y hyk)
      cases n with
      | zero => omega
      | succ n => exact exists_ready hc n y (by omega) hyk hy2
theorem topoN_some (E : List (S24 × S24)) (hc : ∀ x ∈ keysK E, ¬ Tc E x x) : ∀ (n : Nat) (pl : List S24), PInv E pl → pl.length + n = (keysK E).length → ∃ out, topoN E n pl = some out
  | 0, pl, h, e => ⟨pl, rfl⟩
  | n + 1, pl, h, e => by
    have ⟨x, hx, hxp⟩ : ∃ x ∈ keysK E, x ∉ pl := by
      refine Classical.byContradiction (fun hn => ?_)
      have hall : ∀ x ∈ keysK E, x ∈ pl := fun x hx => Classical.byContradiction (fun h2 => hn ⟨x, hx, h2⟩)
      have := sub_len (srt_nodup ordK (keysK_srt E)) hall
      omega
    obtain ⟨y, hy, hr⟩ := exists_ready hc _ x (Nat.le_refl _) hx hxp
    unfold topoN
    cases hf : (keysK E).find? (readyB E pl) with
    | none => exact absurd hr (by have := List.find?_eq_none.1 hf y hy; simpa using this)
    | some z => exact topoN_some E hc n _ (h.step (List.mem_of_find?_eq_some hf) (List.find?_some hf)) (by rw [List.length_append, List.length_singleton]; omega)
theorem cyc_iff (E : List (S24 × S24)) : cycB E = true ↔ ∃ x ∈ keysK E, Tc E x x := by
  unfold cycB
  rw [List.any_eq_true]
  constructor
  · rintro ⟨x, hx, h⟩
    exact ⟨x, hx, (mem_reachR E x x).1 (by simpa using h)⟩
  · rintro ⟨x, hx, h⟩
    exact ⟨x, hx, by simpa using (mem_reachR E x x).2 h⟩
theorem pinv_nil (E : List (S24 × S24)) : PInv E [] := ⟨List.nodup_nil, fun x hx => (by cases hx), fun x hx => (by cases hx)⟩
theorem topo_none {E : List (S24 × S24)} (h : cycB E = true) : topoR E = none := by
  cases e : topoR E with
  | none => rfl
  | some out =>
    obtain ⟨h1, h2⟩ := topoN_inv E _ _ _ (pinv_nil E) e
    obtain ⟨x, hx, hc⟩ := (cyc_iff E).1 h
    exact absurd hc (h1.ok x (all_placed h1 (by simpa using h2) x hx)).1
theorem topo_some {E : List (S24 × S24)} (h : cycB E = false) : ∃ out, topoR E = some out :=
  topoN_some E (fun x hx hc => by rw [(cyc_iff E).2 ⟨x, hx, hc⟩] at h; cases h) _ _ (pinv_nil E) (by simp)
/-! ### the edges that stay -/
theorem idx45_ev (xs : List S44) (x : S44) (hx : xs.length < 1000000) : ∀ (t : List S44) (i : Nat), xs.drop i = t → Ev (fun k => (api_QEdge_45.l0 k xs (xs.length : Int) (i : Int) x.f0.f0 x.f0.f1 x.f0.f2 x.f1.f0 x.f1.f1 x.f1.f2).bind fun t => some (decide (t ≥ 0))) (decide (x ∈ t))
  | [], i, h => by
    have : xs.length ≤ i := by simpa using h
    refine Ev.some' (fun k => ?_)
    simp only [api_QEdge_45.l0]
    rw [if_neg (by omega)]
    rfl
  | y :: t, i, h => by
    obtain ⟨h1, h2, h3⟩ := dropG h
    have hy : rd_T44 xs (i : Int) = y := h3 _
    by_cases c : x = y
    · refine Ev.some' (fun k => ?_)
      simp only [api_QEdge_45.l0]
      rw [if_pos (by omega), if_pos (by omega), if_pos (by omega), hy, if_pos ((eqE_iff x y).2 c)]
      rw [c, decide_eq_true (List.mem_cons_self)]
      simp
    · have hd : decide (x ∈ y :: t) = decide (x ∈ t) := by
        rw [Bool.eq_iff_iff, decide_eq_true_iff, decide_eq_true_iff, List.mem_cons]
        exact ⟨fun h => h.resolve_left c, .inr⟩
      rw [hd]
      refine Ev.stepK (idx45_ev xs x hx t (i + 1) h2) (fun k => ?_)
      simp only [api_QEdge_45.l0]
      rw [if_pos (by omega), if_pos (by omega), if_pos (by omega), hy, if_neg (fun hh => c ((eqE_iff x y).1 hh)), wrap_id (by omega) (by omega)]
      rfl
theorem contE (xs : List S44) (x : S44) (hx : xs.length < 1000000) : Ev (fun k => api_QEdge_35.f k xs x.f0.f0 x.f0.f1 x.f0.f2 x.f1.f0 x.f1.f1 x.f1.f2) (decide (x ∈ xs)) :=
  Ev.same (idx45_ev xs x hx xs 0 rfl) (fun k => rfl)
def impOne (l : List S44) (e x : S44) : Bool := decide (x.f0 = e.f0) && (!decide (x.f1 = e.f1) && decide (e.f1 ∈ reachR (edgesP false l) x.f1))
theorem keyEq (x y : S24) : (x.f0 == y.f0 && (x.f1 == y.f1 && (x.f2 == y.f2))) = true ↔ x = y := by
  simp only [Bool.and_eq_true, beq_iff_eq]
  exact ⟨fun h => S24.ext' h.1 h.2.1 h.2.2, fun h => by rw [h]; exact ⟨rfl, rfl, rfl⟩⟩
theorem keyNe (x y : S24) : (!(x.f0 == y.f0) || (!(x.f1 == y.f1) || !(x.f2 == y.f2))) = true ↔ x ≠ y := by
  rw [Ne, ← keyEq x y]
  cases x.f0 == y.f0 <;> cases x.f1 == y.f1 <;> cases x.f2 == y.f2 <;> simp
theorem red_l1 (l : List S44) (hl : l.length < 1000) (res : List S44) (hres : res.length < 100000) (e : S44) (i : Nat) (hi : i < 100000) (R : List S44) (fl : Bool)
    (hgo : Ev (fun k => glossatorref3_Reduction.l0 k l (if fl = false ∧ e ∉ res then res ++ [e] else res) l (l.length : Int) ((i + 1 : Nat) : Int)) R) :
    ∀ (t : List S44) (j : Nat) (b : Bool), l.drop j = t → fl = (b || t.any (impOne l e)) → Ev (fun k => glossatorref3_Reduction.l1 k l res b l (l.length : Int) (i : Int) l (l.length : Int) (j : Int) e.f0.f0 e.f0.f1 e.f0.f2 e.f1.f0 e.f1.f1 e.f1.f2) R
  | [], j, b, h, hf => by
    have hj : l.length ≤ j := by simpa using h
    rw [List.any_nil, Bool.or_false] at hf
    subst hf
    refine Ev.stepK (f := fun k => if fl = true then (glossatorref3_Reduction.l0 k l res l (l.length : Int) ((i + 1 : Nat) : Int)) else ((api_QEdge_35.f k res e.f0.f0 e.f0.f1 e.f0.f2 e.f1.f0 e.f1.f1 e.f1.f2).bind fun t217 => (if t217 = true then (glossatorref3_Reduction.l0 k l res l (l.length : Int) ((i + 1 : Nat) : Int)) else (if res.length < 2932031007402 then (glossatorref3_Reduction.l0 k l (res ++ [(⟨(⟨e.f0.f0, e.f0.f1, e.f0.f2⟩ : S24), (⟨e.f1.f0, e.f1.f1, e.f1.f2⟩ : S24)⟩ : S44)]) l (l.length : Int) ((i + 1 : Nat) : Int)) else (none))))) ?_ (fun k => by simp only [glossatorref3_Reduction.l1]; rw [if_neg (by omega), wrap_id (by omega) (by omega)]; rfl)
    cases fl with
    | true =>
      rw [if_neg (fun hh => by cases hh.1)] at hgo
      exact Ev.pos rfl hgo
    | false =>
      refine Ev.neg (by simp) (Ev.bind (contE res e (by omega)) ?_)
      by_cases c : e ∈ res
      · rw [if_neg (fun hh => hh.2 c)] at hgo
        rw [decide_eq_true c]
        exact Ev.pos rfl hgo
      · rw [if_pos ⟨rfl, c⟩] at hgo
        rw [decide_eq_false c]
        exact Ev.neg (by simp) (Ev.pos (by omega) hgo)
  | x :: t, j, b, h, hf => by
    obtain ⟨h1, h2, h3⟩ := dropG h
    have hx : rd_T44 l (j : Int) = x := h3 _
    have ih := fun b' hb' => red_l1 l hl res hres e i hi R fl hgo t (j + 1) b' h2 hb'
    rw [List.any_cons] at hf
    refine Ev.stepK (f := fun k => (if b = true then (glossatorref3_Reduction.l1 k l res true l (l.length : Int) (i : Int) l (l.length : Int) ((j + 1 : Nat) : Int) e.f0.f0 e.f0.f1 e.f0.f2 e.f1.f0 e.f1.f1 e.f1.f2) else (if (x.f0.f0 == e.f0.f0 && (x.f0.f1 == e.f0.f1 && (x.f0.f2 == e.f0.f2))) = true then (if (!(x.f1.f0 == e.f1.f0) || (!(x.f1.f1 == e.f1.f1) || !(x.f1.f2 == e.f1.f2))) = true then ((glossatorref3_Reachable.f k l x.f1.f0 x.f1.f1 x.f1.f2).bind fun t213 => ((api_QKey_23.f k t213 e.f1.f0 e.f1.f1 e.f1.f2).bind fun t216 => (glossatorref3_Reduction.l1 k l res t216 l (l.length : Int) (i : Int) l (l.length : Int) ((j + 1 : Nat) : Int) e.f0.f0 e.f0.f1 e.f0.f2 e.f1.f0 e.f1.f1 e.f1.f2))) else (glossatorref3_Reduction.l1 k l res false l (l.length : Int) (i : Int) l (l.length : Int) ((j + 1 : Nat) : Int) e.f0.f0 e.f0.f1 e.f0.f2 e.f1.f0 e.f1.f1 e.f1.f2)) else (glossatorref3_Reduction.l1 k l res false l (l.length : Int) (i : Int) l (l.length : Int) ((j + 1 : Nat) : Int) e.f0.f0 e.f0.f1 e.f0.f2 e.f1.f0 e.f1.f1 e.f1.f2)))) ?_ (fun k => ?_)
    · cases b with
      | true => exact Ev.pos rfl (ih true (by rw [hf, Bool.true_or, Bool.true_or]))
      | false =>
        rw [Bool.false_or] at hf
        refine Ev.neg (by simp) ?_
        by_cases c : x.f0 = e.f0
        · refine Ev.pos ((keyEq _ _).2 c) ?_
          by_cases d : x.f1 = e.f1
          · refine Ev.neg (fun hh => (keyNe _ _).1 hh d) (ih false ?_)
            rw [hf]
            unfold impOne
            rw [decide_eq_true d]
            simp
          · have hrl := reachR_len (edgesP false l) x.f1
            rw [edges_len] at hrl
            refine Ev.pos ((keyNe _ _).2 d) (Ev.bind (reach_ev l x.f1 hl) (Ev.bind (contK _ e.f1 (by omega)) (ih _ ?_)))
            rw [hf]
            congr 1
            unfold impOne
            rw [decide_eq_true c, decide_eq_false d]
            rfl
        · refine Ev.neg (fun hh => c ((keyEq _ _).1 hh)) (ih false ?_)
          rw [hf]
          unfold impOne
          rw [decide_eq_false c]
          simp
    · simp only [glossatorref3_Reduction.l1]
      rw [if_pos (by omega), if_pos (by omega), if_pos (by omega), hx, wrap_id (n := (j : Int) + 1) (by omega) (by omega)]
      rfl
theorem imp_eq (l : List S44) (hc : ∀ x ∈ keysK (edgesP false l), ¬ Tc (edgesP false l) x x) (e : S44) (he : e ∈ l) : impB (edgesP false l) e = l.any (impOne l e) := by
  have hek : e.f1 ∈ keysK (edgesP false l) := (mem_keysK _ _).2 ⟨(e.f0, e.f1), List.mem_map.2 ⟨e, he, rfl⟩, .inr rfl⟩
  rw [Bool.eq_iff_iff]
  unfold impB
  rw [List.any_eq_true, List.any_eq_true]
  constructor
  · rintro ⟨k, hk, h⟩
    rw [nx_mem] at hk
    have hk2 := hk
    unfold edgesP at hk2
    obtain ⟨x, hx, hxe⟩ := List.mem_map.1 hk2
    obtain ⟨e1, e2⟩ := Prod.mk.inj hxe
    have h2 : e.f1 ∈ rowF (edgesP false l) (keysK (edgesP false l)) k := by simpa using h
    unfold rowF at h2
    split at h2
    case isFalse => cases h2
    refine ⟨x, hx, ?_⟩
    have hxk : x.f1 = k := e2
    have hx0 : x.f0 = e.f0 := e1
    unfold impOne
    rw [hxk, decide_eq_true hx0, decide_eq_true h2, decide_eq_false (fun hh => hc _ hek (by
      have := (mem_reachR _ _ _).1 h2
      rwa [hh] at this))]
    rfl
  · rintro ⟨x, hx, h⟩
    unfold impOne at h
    simp only [Bool.and_eq_true, Bool.not_eq_true', decide_eq_true_iff, decide_eq_false_iff_not] at h
    have hm : (e.f0, x.f1) ∈ edgesP false l := List.mem_map.2 ⟨x, hx, by rw [← h.1]; rfl⟩
    refine ⟨x.f1, (nx_mem _ _ _).2 hm, ?_⟩
    rw [decide_eq_true_iff]
    unfold rowF
    rw [if_pos ((mem_keysK _ _).2 ⟨_, hm, .inr rfl⟩)]
    exact h.2.2
theorem red_l0 (l : List S44) (hl : l.length < 1000) (hc : ∀ x ∈ keysK (edgesP false l), ¬ Tc (edgesP false l) x x) : ∀ (t : List S44) (i : Nat), l.drop i = t → i + t.length = l.length →
    Ev (fun k => glossatorref3_Reduction.l0 k l (redN (edgesP false l) l i) l (l.length : Int) (i : Int)) (redN (edgesP false l) l l.length)
  | [], i, h, hi => by
    simp at hi
    subst hi
    exact Ev.some' (fun k => by simp only [glossatorref3_Reduction.l0]; rw [if_neg (by omega)])
  | x :: t, i, h, hi => by
    obtain ⟨h1, h2, h3⟩ := dropG h
    have hx : rd_T44 l (i : Int) = x := h3 _
    have hxi : l[i] = x := by
      rw [List.drop_eq_getElem_cons h1] at h
      injection h
    have hxl : x ∈ l := by rw [← hxi]; exact List.getElem_mem h1
    rw [List.length_cons] at hi
    have ih := red_l0 l hl hc t (i + 1) h2 (by omega)
    have hlen := redN_len (edgesP false l) l i
    rw [redN_snoc _ l i h1, hxi] at ih
    unfold redStep at ih
    rw [imp_eq l hc x hxl] at ih
    refine Ev.stepK (red_l1 l hl (redN (edgesP false l) l i) (by omega) x i (by omega) _ (l.any (impOne l x)) ih l 0 false rfl (by rw [Bool.false_or])) (fun k => ?_)
    simp only [glossatorref3_Reduction.l0]
    rw [if_pos (by omega), if_pos (by omega), if_pos (by omega), hx]
    rfl
theorem red_ev (l : List S44) (hl : l.length < 1000) (hc : ∀ x ∈ keysK (edgesP false l), ¬ Tc (edgesP false l) x x) : Ev (fun k => glossatorref3_Reduction.f k l) (redN (edgesP false l) l l.length) :=
  Ev.same (red_l0 l hl hc l 0 rfl (by simp)) (fun k => rfl)
theorem eqEL_refl : ∀ xs : List S44, eqEL xs xs = true
  | [] => rfl
  | x :: t => by
    unfold eqEL
    rw [if_neg (by rw [(neE_iff x x).2 rfl]; simp)]
    exact eqEL_refl t
theorem DepgraphReduction : glossatorlaw3_DepgraphReduction.PureR := by
  intro a0 h0
  unfold glossatorlaw3_DepgraphReduction.f
  have hmn : mn (a0.length : Int) 20 = ((min a0.length 20 : Nat) : Int) := by unfold mn; split <;> omega
  refine Ev.rounds (Ev.bind example_ev (Ev.pos rfl (Ev.pos (by rw [hmn]; omega) (Ev.pos (by rw [hmn]; omega) ?_))))
  obtain ⟨l, hl⟩ : ∃ l, a0.take (mn (a0.length : Int) 20).toNat = l := ⟨_, rfl⟩
  have hll : l.length ≤ 20 := by rw [← hl, hmn, List.length_take]; omega
  simp only [hl, Option.bind_some]
  have ht : l.take 400 = l := List.take_of_length_le (by omega)
  simp only [depgraph_TransitiveReduction.f, ht, Option.bind_some]
  refine Ev.bind (cyc_ev l (by omega)) ?_
  cases hc : cycB (edgesP false l) with
  | true =>
    have ho : redOut l = [] := by unfold redOut; rw [topo_none hc]; rfl
    rw [topo_none hc, ho]
    exact Ev.pos rfl (Ev.bind example_ev (Ev.pos rfl (Ev.pos rfl (Ev.now _))))
  | false =>
    have hcc : ∀ x ∈ keysK (edgesP false l), ¬ Tc (edgesP false l) x x := fun x hx h => by rw [(cyc_iff _).2 ⟨x, hx, h⟩] at hc; cases hc
    obtain ⟨out, ho⟩ := topo_some hc
    have ho2 : redOut l = redN (edgesP false l) l l.length := by unfold redOut; rw [ho]; rfl
    rw [ho, ho2]
    refine Ev.neg (by simp) (Ev.bind example_ev (Ev.pos rfl (Ev.pos rfl (Ev.bind (red_ev l (by omega) hcc) ?_))))
    refine Ev.bind (a := true) (Ev.same (Ev.now true) (fun k => ?_)) (Ev.now _)
    unfold api_QEdge_19.f eqEP
    rw [if_pos rfl]
    exact congrArg some (eqEL_refl _)
end Go.Proofs.Ytofonbfpjfabbaa.Pr

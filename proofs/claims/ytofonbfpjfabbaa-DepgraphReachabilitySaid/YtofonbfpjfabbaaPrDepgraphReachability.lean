/-
  The pure statement of DepgraphReachability: the depth first search finds what the reference's passes find.
-/
import Derived.Test.YtofonbfpjfabbaaSDepgraphReachability
import Derived.Test.YtofonbfpjfabbaaAid
namespace Go.Proofs.Ytofonbfpjfabbaa.Pr
open Go.RowKit Go.Proofs.YtofonbfpjfabbaaW.PrintWords Go.Proofs.YtofonbfpjfabbaaW.PrintLast Go.Proofs.YtofonbfpjfabbaaW.PrintMore Go.Proofs.Ytofonbfpjfabbaa.QDepgraphReachability Go.Proofs.Ytofonbfpjfabbaa.Aid Go.Proofs.Ytofonbfpjfabbaa.Hand
set_option linter.unusedVariables false
set_option linter.unusedSimpArgs false
theorem dropG {α : Type} {xs t : List α} {x : α} {i : Nat} (h : xs.drop i = x :: t) : i < xs.length ∧ xs.drop (i + 1) = t ∧ (∀ d, xs.getD ((i : Int)).toNat d = x) := by
  have hl : i < xs.length := by
    rcases Nat.lt_or_ge i xs.length with h1 | h1
    · exact h1
    · rw [List.drop_eq_nil_of_le h1] at h; cases h
  rw [List.drop_eq_getElem_cons hl] at h
  injection h with h1 h2
  refine ⟨hl, h2, fun d => ?_⟩
  rw [Int.toNat_natCast, List.getD_eq_getElem?_getD, List.getElem?_eq_getElem hl]
  exact h1
theorem eqK_l0 (xs : List S24) (hx : xs.length < 1000000) : ∀ (t : List S24) (i : Nat), xs.drop i = t → Ev (fun k => api_QKey_8.l0 k xs xs (xs.length : Int) (i : Int)) true
  | [], i, h => by
    have : xs.length ≤ i := by simpa using h
    exact Ev.some' (fun k => by simp only [api_QKey_8.l0]; rw [if_neg (by omega)])
  | x :: t, i, h => by
    obtain ⟨h1, h2, h3⟩ := dropG h
    refine Ev.stepK (eqK_l0 xs hx t (i + 1) h2) (fun k => ?_)
    simp only [api_QKey_8.l0]
    rw [if_pos (by omega), if_pos (by omega), if_pos (by omega), if_pos (by omega), if_neg (by simp), wrap_id (by omega) (by omega)]
    rfl
theorem eqK (xs : List S24) (hx : xs.length < 1000000) : Ev (fun k => api_QKey_8.f k xs xs) true :=
  Ev.same (eqK_l0 xs hx xs 0 rfl) (fun k => by unfold api_QKey_8.f; rw [if_pos rfl]; rfl)
theorem idxK (xs : List S24) (x : S24) (hx : xs.length < 1000000) : ∀ (t : List S24) (i : Nat), xs.drop i = t → Ev (fun k => (api_QKey_40.l0 k xs (xs.length : Int) (i : Int) x.f0 x.f1 x.f2).bind fun t => some (decide (t ≥ 0))) (decide (x ∈ t))
  | [], i, h => by
    have : xs.length ≤ i := by simpa using h
    refine Ev.some' (fun k => ?_)
    simp only [api_QKey_40.l0]
    rw [if_neg (by omega)]
    rfl
  | y :: t, i, h => by
    obtain ⟨h1, h2, h3⟩ := dropG h
    have hy : rd_T24 xs (i : Int) = y := h3 _
    by_cases c : x = y
    · refine Ev.some' (fun k => ?_)
      simp only [api_QKey_40.l0]
      rw [if_pos (by omega), if_pos (by omega), if_pos (by omega), hy, if_pos (by rw [c]; simp)]
      rw [c, decide_eq_true (List.mem_cons_self)]
      simp
    · have hd : decide (x ∈ y :: t) = decide (x ∈ t) := by
        rw [Bool.eq_iff_iff, decide_eq_true_iff, decide_eq_true_iff, List.mem_cons]
        exact ⟨fun h => h.resolve_left c, .inr⟩
      rw [hd]
      refine Ev.stepK (idxK xs x hx t (i + 1) h2) (fun k => ?_)
      simp only [api_QKey_40.l0]
      rw [if_pos (by omega), if_pos (by omega), if_pos (by omega), hy, if_neg (fun hh => c (by
        simp only [Bool.and_eq_true, beq_iff_eq] at hh
        exact S24.ext' hh.1 hh.2.1 hh.2.2)), wrap_id (by omega) (by omega)]
      rfl
theorem contK (xs : List S24) (x : S24) (hx : xs.length < 1000000) : Ev (fun k => api_QKey_23.f k xs x.f0 x.f1 x.f2) (decide (x ∈ xs)) :=
  Ev.same (idxK xs x hx xs 0 rfl) (fun k => rfl)
theorem pass_ev (l : List S44) (key : S24) (R : List S24) (hl : l.length < 1000) : ∀ (t : List S44) (i : Nat) (r : List S24) (b : Bool), l.drop i = t → r.length + t.length < 100000 →
    Ev (fun k => glossatorref3_Reachable.l0 k l (passK (edgesP false t) key r) (b || decide ((passK (edgesP false t) key r).length ≠ r.length)) key.f0 key.f1 key.f2) R →
    Ev (fun k => glossatorref3_Reachable.l1 k l r b l (l.length : Int) (i : Int) key.f0 key.f1 key.f2) R
  | [], i, r, b, h, hr, e => by
    have : l.length ≤ i := by simpa using h
    refine Ev.stepK e (fun k => ?_)
    simp only [glossatorref3_Reachable.l1]
    rw [if_neg (by omega)]
    have : passK (edgesP false []) key r = r := rfl
    rw [this]
    simp
  | x :: t, i, r, b, h, hr, e => by
    obtain ⟨h1, h2, h3⟩ := dropG h
    have hx : rd_T44 l (i : Int) = x := h3 _
    rw [List.length_cons] at hr
    have hp : passK (edgesP false (x :: t)) key r = passK (edgesP false t) key (passOne key r (x.f0, x.f1)) := rfl
    rw [hp] at e
    have hlen := passK_len key (edgesP false t) (passOne key r (x.f0, x.f1))
    -- what follows the edge
    have hno : passOne key r (x.f0, x.f1) = r → Ev (fun k => glossatorref3_Reachable.l1 k l r b l (l.length : Int) ((i + 1 : Nat) : Int) key.f0 key.f1 key.f2) R := fun h0 => by
      rw [h0] at e
      exact pass_ev l key R hl t (i + 1) r b h2 (by omega) e
    have hyes : passOne key r (x.f0, x.f1) = r ++ [x.f1] → Ev (fun k => glossatorref3_Reachable.l1 k l (r ++ [x.f1]) true l (l.length : Int) ((i + 1 : Nat) : Int) key.f0 key.f1 key.f2) R := fun h0 => by
      rw [h0] at e hlen
      rw [List.length_append, List.length_singleton] at hlen
      refine pass_ev l key R hl t (i + 1) (r ++ [x.f1]) true h2 (by rw [List.length_append, List.length_singleton]; omega) ?_
      have hb : (b || decide ((passK (edgesP false t) key (r ++ [x.f1])).length ≠ r.length)) = true := by
        rw [decide_eq_true (by omega), Bool.or_true]
      rw [hb] at e
      exact e
    have hadd : Ev (fun k => (api_QKey_23.f k r x.f1.f0 x.f1.f1 x.f1.f2).bind fun t172 => (if t172 = true then (glossatorref3_Reachable.l1 k l r b l (l.length : Int) ((i + 1 : Nat) : Int) key.f0 key.f1 key.f2) else (if r.length < 5864062014805 then (glossatorref3_Reachable.l1 k l (r ++ [(⟨x.f1.f0, x.f1.f1, x.f1.f2⟩ : S24)]) true l (l.length : Int) ((i + 1 : Nat) : Int) key.f0 key.f1 key.f2) else (none)))) R ∨ ¬ (x.f0 = key ∨ x.f0 ∈ r) := by
      by_cases c : x.f0 = key ∨ x.f0 ∈ r
      · left
        refine Ev.bind (contK r x.f1 (by omega)) ?_
        by_cases d : x.f1 ∈ r
        · rw [decide_eq_true d]
          exact Ev.pos rfl (hno (by unfold passOne; rw [if_neg (fun hh => hh.2 d)]))
        · rw [decide_eq_false d]
          refine Ev.neg (by simp) (Ev.pos (by omega) (hyes ?_))
          unfold passOne
          rw [if_pos ⟨c, d⟩]
      · exact .inr c
    have hkey : (((x.f0.f0) == key.f0 && ((x.f0.f1) == key.f1 && ((x.f0.f2) == key.f2))) = true) ↔ x.f0 = key := by
      simp only [Bool.and_eq_true, beq_iff_eq]
      exact ⟨fun h => S24.ext' h.1 h.2.1 h.2.2, fun h => by rw [h]; exact ⟨rfl, rfl, rfl⟩⟩
    refine Ev.stepK (f := fun k => if (((x.f0.f0) == key.f0 && ((x.f0.f1) == key.f1 && ((x.f0.f2) == key.f2))) = true) then ((api_QKey_23.f k r x.f1.f0 x.f1.f1 x.f1.f2).bind fun t172 => (if t172 = true then (glossatorref3_Reachable.l1 k l r b l (l.length : Int) ((i + 1 : Nat) : Int) key.f0 key.f1 key.f2) else (if r.length < 5864062014805 then (glossatorref3_Reachable.l1 k l (r ++ [(⟨x.f1.f0, x.f1.f1, x.f1.f2⟩ : S24)]) true l (l.length : Int) ((i + 1 : Nat) : Int) key.f0 key.f1 key.f2) else (none))))
      else ((api_QKey_23.f k r x.f0.f0 x.f0.f1 x.f0.f2).bind fun t171 => (if t171 = true then ((api_QKey_23.f k r x.f1.f0 x.f1.f1 x.f1.f2).bind fun t172 => (if t172 = true then (glossatorref3_Reachable.l1 k l r b l (l.length : Int) ((i + 1 : Nat) : Int) key.f0 key.f1 key.f2) else (if r.length < 5864062014805 then (glossatorref3_Reachable.l1 k l (r ++ [(⟨x.f1.f0, x.f1.f1, x.f1.f2⟩ : S24)]) true l (l.length : Int) ((i + 1 : Nat) : Int) key.f0 key.f1 key.f2) else (none)))) else (glossatorref3_Reachable.l1 k l r b l (l.length : Int) ((i + 1 : Nat) : Int) key.f0 key.f1 key.f2)))) ?_ (fun k => ?_)
    · by_cases c : x.f0 = key
      · exact Ev.pos (hkey.2 c) (hadd.resolve_right (fun hh => hh (.inl c)))
      · refine Ev.neg (fun hh => c (hkey.1 hh)) (Ev.bind (contK r x.f0 (by omega)) ?_)
        by_cases d : x.f0 ∈ r
        · rw [decide_eq_true d]
          exact Ev.pos rfl (hadd.resolve_right (fun hh => hh (.inr d)))
        · rw [decide_eq_false d]
          exact Ev.neg (by simp) (hno (by unfold passOne; rw [if_neg (fun hh => hh.1.elim c d)]))
    · simp only [glossatorref3_Reachable.l1]
      rw [if_pos (by omega), if_pos (by omega), if_pos (by omega), hx, wrap_id (n := (i : Int) + 1) (by omega) (by omega)]
      rfl
theorem edges_len (b : Bool) (l : List S44) : (edgesP b l).length = l.length := by unfold edgesP; rw [List.length_map]
theorem loop_ev (l : List S44) (key : S24) (hl : l.length < 1000) : ∀ (n : Nat) (r : List S24), Fnd (edgesP false l) key r → l.length + 1 - r.length ≤ n → Ev (fun k => glossatorref3_Reachable.l0 k l r true key.f0 key.f1 key.f2) (reachR (edgesP false l) key)
  | 0, r, hf, hn => by
    have hrl := fnd_len hf
    rw [edges_len] at hrl
    omega
  | n + 1, r, hf, hn => by
    have hrl := fnd_len hf
    rw [edges_len] at hrl
    refine Ev.stepK (f := fun k => glossatorref3_Reachable.l1 k l r false l (l.length : Int) ((0 : Nat) : Int) key.f0 key.f1 key.f2) ?_ (fun k => by simp only [glossatorref3_Reachable.l0, if_true]; rfl)
    refine pass_ev l key _ hl l 0 r false rfl (by omega) ?_
    have hf' := passK_fnd (E0 := edgesP false l) (key := key) (edgesP false l) r (fun _ h => h) hf
    have hle := passK_len key (edgesP false l) r
    by_cases c : (passK (edgesP false l) key r).length = r.length
    · obtain ⟨h1, h2⟩ := passK_fix key (edgesP false l) r c
      have hb : (false || decide ((passK (edgesP false l) key r).length ≠ r.length)) = false := by rw [decide_eq_false (by omega)]; rfl
      rw [hb, h1]
      refine Ev.some' (fun k => ?_)
      simp only [glossatorref3_Reachable.l0]
      rw [if_neg (by simp)]
      unfold glossatorref3_SortKeys.f
      rw [if_pos (by omega)]
      show some (sortK ltK r) = some (reachR (edgesP false l) key)
      unfold reachR
      rw [sortK_ext ordK (fun x => by rw [mem_fixK]; exact ⟨fun hx => hf.reach x hx, fun hx => closed_all h2 hx⟩)]
    · have hb : (false || decide ((passK (edgesP false l) key r).length ≠ r.length)) = true := by rw [decide_eq_true (by omega)]; rfl
      rw [hb]
      have hrl' := fnd_len hf'
      rw [edges_len] at hrl'
      exact loop_ev l key hl n _ hf' (by omega)
theorem reach_ev (l : List S44) (key : S24) (hl : l.length < 1000) : Ev (fun k => glossatorref3_Reachable.f k l key.f0 key.f1 key.f2) (reachR (edgesP false l) key) :=
  loop_ev l key hl (l.length + 1) [] ⟨List.nodup_nil, fun x hx => by cases hx⟩ (by simp)
def swapE (e : S44) : S44 := ⟨e.f1, e.f0⟩
theorem rev_ev (l : List S44) (hl : l.length < 1000) : ∀ (t : List S44) (i : Nat), l.drop i = t → i + t.length = l.length → Ev (fun k => glossatorref3_Reverse.l0 k ((l.take i).map swapE) l (l.length : Int) (i : Int)) (l.map swapE)
  | [], i, h, hi => by
    simp at hi
    refine Ev.some' (fun k => ?_)
    simp only [glossatorref3_Reverse.l0]
    rw [if_neg (by omega), List.take_of_length_le (by omega)]
  | x :: t, i, h, hi => by
    obtain ⟨h1, h2, h3⟩ := dropG h
    have hx : rd_T44 l (i : Int) = x := h3 _
    rw [List.length_cons] at hi
    have ht : l.take (i + 1) = l.take i ++ [x] := by
      rw [List.take_succ_eq_append_getElem h1]
      rw [List.drop_eq_getElem_cons h1] at h
      injection h with h4 _
      rw [h4]
    refine Ev.stepK (rev_ev l hl t (i + 1) h2 (by omega)) (fun k => ?_)
    simp only [glossatorref3_Reverse.l0]
    rw [if_pos (by omega), if_pos (by omega), if_pos (by omega), if_pos (by rw [List.length_map, List.length_take]; omega), hx, wrap_id (n := (i : Int) + 1) (by omega) (by omega), ht, List.map_append]
    rfl
theorem reverse_ev (l : List S44) (hl : l.length < 1000) : Ev (fun k => glossatorref3_Reverse.f k l) (l.map swapE) := Ev.same (rev_ev l hl l 0 rfl (by simp)) (fun k => rfl)
theorem edges_swap (l : List S44) : edgesP false (l.map swapE) = edgesP true l := by
  unfold edgesP
  rw [List.map_map]
  rfl
theorem example_ev : Ev (fun k => glossatorlaw3_graphExample.f k) true := by
  unfold glossatorlaw3_graphExample.f
  have e1 : reachR (edgesP false ([(⟨(⟨0, 3, 0⟩ : S24), (⟨0, 2, 0⟩ : S24)⟩ : S44), (⟨(⟨0, 2, 0⟩ : S24), (⟨0, 1, 0⟩ : S24)⟩ : S44)].take 400)) ⟨0, 3, 0⟩ = [(⟨0, 1, 0⟩ : S24), (⟨0, 2, 0⟩ : S24)] := by decide
  have e2 : reachR (edgesP true ([(⟨(⟨0, 3, 0⟩ : S24), (⟨0, 2, 0⟩ : S24)⟩ : S44), (⟨(⟨0, 2, 0⟩ : S24), (⟨0, 1, 0⟩ : S24)⟩ : S44)].take 400)) ⟨0, 1, 0⟩ = [(⟨0, 2, 0⟩ : S24), (⟨0, 3, 0⟩ : S24)] := by decide
  simp only [Option.bind_some, depgraph_Dependencies.f, depgraph_Dependents.f, e1, e2]
  refine Ev.bind (eqK _ (by simp)) (Ev.pos rfl (Ev.bind (eqK _ (by simp)) ?_))
  exact Ev.now _
theorem reachR_len (E : List (S24 × S24)) (key : S24) : (reachR E key).length ≤ E.length := by
  unfold reachR
  exact Nat.le_trans (sortK_len ltK _) (fnd_len (fixK_fnd E key))
theorem DepgraphReachability : glossatorlaw3_DepgraphReachability.PureR := by
  intro a0 a1 h0 h1
  unfold glossatorlaw3_DepgraphReachability.f
  have hmn : mn (a0.length : Int) 30 = ((min a0.length 30 : Nat) : Int) := by unfold mn; split <;> omega
  refine Ev.rounds (Ev.bind example_ev (Ev.pos rfl (Ev.pos (by rw [hmn]; omega) (Ev.pos (by rw [hmn]; omega) ?_))))
  obtain ⟨l, hl⟩ : ∃ l, a0.take (mn (a0.length : Int) 30).toNat = l := ⟨_, rfl⟩
  have hll : l.length ≤ 30 := by rw [← hl, hmn, List.length_take]; omega
  simp only [hl, Option.bind_some]
  have ht : l.take 400 = l := List.take_of_length_le (by omega)
  refine Ev.bind example_ev (Ev.pos rfl ?_)
  simp only [depgraph_Dependencies.f, depgraph_Dependents.f, ht, Option.bind_some]
  refine Ev.bind (reach_ev l a1 (by omega)) (Ev.bind (eqK _ (by have := reachR_len (edgesP false l) a1; rw [edges_len] at this; show (reachR (edgesP false l) a1).length < _; omega)) (Ev.pos rfl (Ev.bind (reverse_ev l (by omega)) ?_)))
  refine Ev.bind (reach_ev (l.map swapE) a1 (by rw [List.length_map]; omega)) ?_
  rw [edges_swap]
  refine Ev.bind (eqK _ (by have := reachR_len (edgesP true l) a1; rw [edges_len] at this; show (reachR (edgesP true l) a1).length < _; omega)) ?_
  exact Ev.now _
end Go.Proofs.Ytofonbfpjfabbaa.Pr

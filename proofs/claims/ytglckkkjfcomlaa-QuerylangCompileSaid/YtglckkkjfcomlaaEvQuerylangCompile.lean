/-
  What Check and the reference's CheckProgram compute, told by plain words; the fixed example.
-/
import Derived.Test.YtglckkkjfcomlaaSQuerylangCompile
import Derived.Test.YtglckkkjfcomlaaAid
namespace Go.Proofs.Ytglckkkjfcomlaa.PrQuerylangCompile
open Go.RowKit Go.Proofs.YtglckkkjfcomlaaW.PrintWords Go.Proofs.YtglckkkjfcomlaaW.PrintLast Go.Proofs.YtglckkkjfcomlaaW.PrintMore Go.Proofs.Ytglckkkjfcomlaa.QQuerylangCompile Go.Proofs.Ytglckkkjfcomlaa.Aid
set_option linter.unusedSimpArgs false
set_option linter.unusedVariables false

theorem drop_cons {α : Type} {xs t : List α} {x : α} {i : Nat} (h : xs.drop i = x :: t) : i < xs.length ∧ xs.drop (i + 1) = t ∧ (∀ d, xs.getD ((i : Int)).toNat d = x) := by
  have hl : i < xs.length := by
    rcases Nat.lt_or_ge i xs.length with h1 | h1
    · exact h1
    · rw [List.drop_eq_nil_of_le h1] at h; cases h
  rw [List.drop_eq_getElem_cons hl] at h
  injection h with h1 h2
  refine ⟨hl, h2, fun d => ?_⟩
  rw [Int.toNat_natCast, List.getD_eq_getElem?_getD, List.getElem?_eq_getElem hl]
  exact h1
theorem drop_nil {α : Type} {xs : List α} {i : Nat} (h : xs.drop i = []) : xs.length ≤ i := by simpa using h
theorem mem_drop_cons {α : Type} {xs t : List α} {x : α} {i : Nat} (h : xs.drop i = x :: t) : x ∈ xs := by
  have : x ∈ xs.drop i := by rw [h]; exact List.mem_cons_self
  exact List.mem_of_mem_drop this

theorem operands_effect (a : Int) (l : List (List S160)) (i x y z : Int) : querylang_operands.f a l i x y z = glossatorref3_effect.f a l i x y z ∧ ∃ p b, glossatorref3_effect.f a l i x y z = some (p, b) ∧ 0 ≤ p ∧ p ≤ 2 := by
  unfold querylang_operands.f glossatorref3_effect.f querylang_operands_1.f
  by_cases h1 : x = 1
  · rw [if_pos h1, if_pos h1]; exact ⟨rfl, _, _, rfl, by omega, by omega⟩
  rw [if_neg h1, if_neg h1]
  by_cases h2 : x = 2
  · rw [if_pos h2, if_pos h2]
    refine ⟨rfl, ?_⟩
    by_cases c1 : z = 0 <;> by_cases c2 : 0 ≤ y <;> simp [c1, c2]
  rw [if_neg h2, if_neg h2]
  by_cases h3 : x = 3
  · rw [if_pos h3, if_pos h3]
    by_cases c1 : z = 0 <;> by_cases c2 : 0 ≤ y <;> simp [c1, c2]
  rw [if_neg h3, if_neg h3]
  by_cases h4 : x = 4
  · rw [if_pos h4, if_pos h4]
    by_cases c1 : y = 0 <;> by_cases c2 : z = 0 <;> by_cases c3 : i > 0 <;> simp [c1, c2, c3]
  rw [if_neg h4, if_neg h4]
  by_cases h5 : x = 5
  · rw [if_pos h5, if_pos h5]
    by_cases c1 : 0 ≤ y <;> by_cases c2 : y < i <;> by_cases c3 : 0 ≤ z <;> by_cases c4 : z < i <;> simp [c1, c2, c3, c4]
  rw [if_neg h5, if_neg h5]
  by_cases c1 : y = 0 <;> by_cases c2 : z = 0 <;> simp [c1, c2]

/-- The errors: a query's, the queries', the program's. -/
def eff (a : Int) (l : List (List S160)) (i : Int) (op : S160) : Int × Bool := (glossatorref3_effect.f a l i op.f0 op.f1 op.f2).getD (0, false)
theorem eff_ref (a : Int) (l : List (List S160)) (i : Int) (op : S160) : glossatorref3_effect.f a l i op.f0 op.f1 op.f2 = some (eff a l i op) := by
  obtain ⟨_, p, b, h, _⟩ := operands_effect a l i op.f0 op.f1 op.f2
  unfold eff; rw [h]; rfl
theorem eff_prog (a : Int) (l : List (List S160)) (i : Int) (op : S160) : querylang_operands.f a l i op.f0 op.f1 op.f2 = some (eff a l i op) := (operands_effect a l i op.f0 op.f1 op.f2).1.trans (eff_ref a l i op)
theorem eff_range (a : Int) (l : List (List S160)) (i : Int) (op : S160) : 0 ≤ (eff a l i op).1 ∧ (eff a l i op).1 ≤ 2 := by
  obtain ⟨_, p, b, h, h1, h2⟩ := operands_effect a l i op.f0 op.f1 op.f2
  unfold eff; rw [h]; exact ⟨h1, h2⟩
def chkOps (a : Int) (l : List (List S160)) (i : Int) : List S160 → Int → Int
  | [], d => if d = 1 then 0 else 3
  | op :: t, d => if op.f0 < 1 ∨ op.f0 > 11 then 7 else if (eff a l i op).2 = true then (if d < (eff a l i op).1 then 3 else chkOps a l i t (d - (eff a l i op).1 + 1)) else 3
def chkQs (a : Int) (l : List (List S160)) : Nat → List (List S160) → Int
  | _, [] => 0
  | i, q :: t => if chkOps a l (i : Int) q 0 = 0 then chkQs a l (i + 1) t else chkOps a l (i : Int) q 0
def large (l : List (List S160)) : Bool := l.any (fun q => decide ((q.length : Int) > 20))
def chkP (a : Int) (l : List (List S160)) : Int := if (decide (a > 40) || decide ((l.length : Int) > 40) || large l) = true then 2 else if a < 0 then 1 else chkQs a l 0 l

theorem ops_ev (a : Int) (l : List (List S160)) (i : Int) (q : List S160) (hq : q.length ≤ 140737488355328) : ∀ (t : List S160) (j : Nat) (d : Int), q.drop j = t → 0 ≤ d → d ≤ j → Ev (fun k => querylang_checkQuery.l0 k i d q (q.length : Int) (j : Int) a l) (chkOps a l i t d)
  | [], j, d, h, h0, h1 => by
    have := drop_nil h
    refine Ev.some' (fun k => ?_)
    simp only [querylang_checkQuery.l0, chkOps]
    rw [if_neg (by omega)]
    split <;> rfl
  | op :: t, j, d, h, h0, h1 => by
    obtain ⟨q1, q2, q3⟩ := drop_cons h
    have e : rd_T160 q (j : Int) = op := q3 _
    have hr := eff_range a l i op
    have hj : ∀ b : Bool, b = decide (op.f0 < 1 ∨ op.f0 > 11) → Ev (fun k => querylang_checkQuery.j1 k i d q (q.length : Int) (j : Int) b a l op.f0 op.f1 op.f2) (chkOps a l i (op :: t) d) := by
      intro b hb
      by_cases c1 : op.f0 < 1 ∨ op.f0 > 11
      · rw [decide_eq_true c1] at hb
        subst hb
        refine Ev.some' (fun k => ?_)
        simp only [querylang_checkQuery.j1, chkOps]
        rw [if_pos trivial, if_pos c1]
      · rw [decide_eq_false c1] at hb
        subst hb
        rw [chkOps, if_neg c1]
        by_cases c2 : (eff a l i op).2 = true
        · rw [if_pos c2]
          by_cases c3 : d < (eff a l i op).1
          · rw [if_pos c3]
            refine Ev.some' (fun k => ?_)
            simp only [querylang_checkQuery.j1]
            rw [if_neg (by simp), eff_prog, Option.bind_some, if_pos c2, if_pos c3]
          · rw [if_neg c3]
            refine Ev.stepK (ops_ev a l i q hq t (j + 1) (d - (eff a l i op).1 + 1) q2 (by omega) (by omega)) (fun k => ?_)
            simp only [querylang_checkQuery.j1]
            rw [if_neg (by simp), eff_prog, Option.bind_some, if_pos c2, if_neg c3, wrap_id (n := 1 - (eff a l i op).1) (by omega) (by omega), wrap_id (n := d + _) (by omega) (by omega), wrap_id (n := (j : Int) + 1) (by omega) (by omega)]
            rw [show d + (1 - (eff a l i op).1) = d - (eff a l i op).1 + 1 by omega]
            rfl
        · rw [if_neg c2]
          refine Ev.some' (fun k => ?_)
          simp only [querylang_checkQuery.j1]
          rw [if_neg (by simp), eff_prog, Option.bind_some, if_neg c2]
    by_cases c1 : op.f0 < 1
    · refine Ev.stepK (hj true (by rw [decide_eq_true (.inl c1)])) (fun k => ?_)
      simp only [querylang_checkQuery.l0]
      rw [if_pos (by omega), if_pos (by omega), if_pos (by omega), e, if_pos c1]
    · refine Ev.stepK (hj (decide (op.f0 ≥ 12)) (by by_cases c : op.f0 ≥ 12 <;> simp [c] <;> omega)) (fun k => ?_)
      simp only [querylang_checkQuery.l0]
      rw [if_pos (by omega), if_pos (by omega), if_pos (by omega), e, if_neg c1]
theorem qs_ev (a : Int) (l : List (List S160)) (hl : l.length ≤ 140737488355328) (hi : ∀ q ∈ l, q.length ≤ 140737488355328) : ∀ (t : List (List S160)) (i : Nat), l.drop i = t → Ev (fun k => querylang_Check.l0 k (l.length : Int) (i : Int) a l) (chkQs a l i t)
  | [], i, h => by
    have := drop_nil h
    refine Ev.some' (fun k => ?_)
    simp only [querylang_Check.l0, chkQs]
    rw [if_neg (by omega)]
  | q :: t, i, h => by
    obtain ⟨q1, q2, q3⟩ := drop_cons h
    have e : rd_L2 l (i : Int) = q := q3 _
    have h1 := ops_ev a l (i : Int) q (hi q (mem_drop_cons h)) q 0 0 rfl (by omega) (by omega)
    have h2 : Ev (fun k => querylang_checkQuery.f k a l (i : Int)) (chkOps a l (i : Int) q 0) := Ev.same h1 (fun k => by unfold querylang_checkQuery.f; rw [if_pos (by omega), if_pos (by omega), e]; rfl)
    refine Ev.step (f := fun k => (querylang_checkQuery.f k a l (i : Int)).bind fun t118 => (if t118 = 0 then (querylang_Check.l0 k (l.length : Int) (wrap64 ((i : Int) + 1)) a l) else (some t118))) (fun k => by simp only [querylang_Check.l0]; rw [if_pos (by omega)]) ?_
    refine Ev.bind h2 ?_
    rw [chkQs]
    by_cases c : chkOps a l (i : Int) q 0 = 0
    · rw [if_pos c]
      refine Ev.pos c ?_
      rw [wrap_id (by omega) (by omega)]
      exact qs_ev a l hl hi t (i + 1) q2
    · rw [if_neg c]
      exact Ev.neg c (Ev.now _)
theorem long_ev (l : List (List S160)) (hl : l.length ≤ 140737488355328) : ∀ (t : List (List S160)) (i : Nat), l.drop i = t → ∃ r, Ev (fun k => slices_IndexFunc_215_at_162.l0 k l (l.length : Int) (i : Int)) r ∧ decide (r ≥ 0) = large t
  | [], i, h => by
    have := drop_nil h
    exact ⟨-1, Ev.some' (fun k => by simp only [slices_IndexFunc_215_at_162.l0]; rw [if_neg (by omega)]), rfl⟩
  | q :: t, i, h => by
    obtain ⟨q1, q2, q3⟩ := drop_cons h
    have e : rd_L2 l (i : Int) = q := q3 _
    by_cases c : (q.length : Int) > 20
    · refine ⟨(i : Int), Ev.some' (fun k => ?_), by simp [large, c]⟩
      simp only [slices_IndexFunc_215_at_162.l0]
      rw [if_pos (by omega), if_pos (by omega), if_pos (by omega), e]
      unfold querylang_Check_1.f
      simp [c]
    · obtain ⟨r, h1, h2⟩ := long_ev l hl t (i + 1) q2
      refine ⟨r, Ev.stepK h1 (fun k => ?_), by rw [h2]; simp [large, c]⟩
      simp only [slices_IndexFunc_215_at_162.l0]
      rw [if_pos (by omega), if_pos (by omega), if_pos (by omega), e]
      unfold querylang_Check_1.f
      rw [wrap_id (by omega) (by omega)]
      simp [c]
theorem check_ev (a : Int) (l : List (List S160)) (hl : l.length ≤ 140737488355328) (hi : ∀ q ∈ l, q.length ≤ 140737488355328) : Ev (fun k => querylang_Check.f k a l) (chkP a l) := by
  have hj : ∀ b : Bool, Ev (fun k => querylang_Check.j0 k b a l) (if b = true then 2 else if a < 0 then 1 else chkQs a l 0 l) := by
    intro b
    cases b with
    | true => exact Ev.some' (fun k => by simp only [querylang_Check.j0]; rw [if_pos trivial, if_pos trivial])
    | false =>
      rw [if_neg (by simp)]
      by_cases c : a < 0
      · rw [if_pos c]; exact Ev.some' (fun k => by simp only [querylang_Check.j0]; rw [if_neg (by simp), if_pos c])
      · rw [if_neg c]; exact Ev.stepK (qs_ev a l hl hi l 0 rfl) (fun k => by simp only [querylang_Check.j0]; rw [if_neg (by simp), if_neg c]; rfl)
  unfold querylang_Check.f chkP
  by_cases c1 : a > 40
  · rw [decide_eq_true c1]
    exact Ev.pos c1 (hj true)
  · rw [decide_eq_false c1]
    refine Ev.neg c1 ?_
    by_cases c2 : (l.length : Int) > 40
    · rw [decide_eq_true c2]
      exact Ev.pos c2 (hj true)
    · rw [decide_eq_false c2]
      refine Ev.neg c2 ?_
      obtain ⟨r, h1, h2⟩ := long_ev l hl l 0 rfl
      have h3 : Ev (fun k => slices_ContainsFunc_163_at_162.f k l) (large l) := by rw [← h2]; exact Ev.bind h1 (Ev.now _)
      exact Ev.bind h3 (hj (large l))

theorem refops_ev (a : Int) (l : List (List S160)) (i : Nat) (q : List S160) (hq : q.length ≤ 140737488355328) (R : Int) (hR : chkOps a l (i : Int) q 0 = 0 → Ev (fun k => glossatorref3_CheckProgram.l1 k l (l.length : Int) (wrap64 ((i : Int) + 1)) a l) R) :
    ∀ (t : List S160) (j : Nat) (d : Int), q.drop j = t → 0 ≤ d → d ≤ j → chkOps a l (i : Int) t d = chkOps a l (i : Int) q 0 → Ev (fun k => glossatorref3_CheckProgram.l2 k (i : Int) d l (l.length : Int) (i : Int) q (q.length : Int) (j : Int) a l) (if chkOps a l (i : Int) q 0 = 0 then R else chkOps a l (i : Int) q 0)
  | [], j, d, h, h0, h1, he => by
    have := drop_nil h
    rw [chkOps] at he
    by_cases c : d = 1
    · rw [if_pos c] at he
      rw [if_pos he.symm]
      refine Ev.stepK (hR he.symm) (fun k => ?_)
      simp only [glossatorref3_CheckProgram.l2]
      rw [if_neg (by omega), if_pos c]
    · rw [if_neg c] at he
      rw [← he, if_neg (by decide)]
      refine Ev.some' (fun k => ?_)
      simp only [glossatorref3_CheckProgram.l2]
      rw [if_neg (by omega), if_neg c]
  | op :: t, j, d, h, h0, h1, he => by
    obtain ⟨q1, q2, q3⟩ := drop_cons h
    have e : rd_T160 q (j : Int) = op := q3 _
    have hr := eff_range a l (i : Int) op
    have hj : ∀ b : Bool, b = decide (op.f0 < 1 ∨ op.f0 > 11) → Ev (fun k => glossatorref3_CheckProgram.j4 k (i : Int) d l (l.length : Int) (i : Int) q (q.length : Int) (j : Int) b a l op.f0 op.f1 op.f2) (if chkOps a l (i : Int) q 0 = 0 then R else chkOps a l (i : Int) q 0) := by
      intro b hb
      by_cases c1 : op.f0 < 1 ∨ op.f0 > 11
      · rw [decide_eq_true c1] at hb
        subst hb
        rw [chkOps, if_pos c1] at he
        rw [← he, if_neg (by decide)]
        refine Ev.some' (fun k => ?_)
        simp only [glossatorref3_CheckProgram.j4]
        rw [if_pos trivial]
      · rw [decide_eq_false c1] at hb
        subst hb
        rw [chkOps, if_neg c1] at he
        by_cases c2 : (eff a l (i : Int) op).2 = true
        · rw [if_pos c2] at he
          by_cases c3 : d < (eff a l (i : Int) op).1
          · rw [if_pos c3] at he
            rw [← he, if_neg (by decide)]
            refine Ev.some' (fun k => ?_)
            simp only [glossatorref3_CheckProgram.j4]
            rw [if_neg (by simp), eff_ref, Option.bind_some, if_pos c2, if_pos (by omega)]
          · rw [if_neg c3] at he
            refine Ev.stepK (refops_ev a l i q hq R hR t (j + 1) (d - (eff a l (i : Int) op).1 + 1) q2 (by omega) (by omega) he) (fun k => ?_)
            simp only [glossatorref3_CheckProgram.j4]
            rw [if_neg (by simp), eff_ref, Option.bind_some, if_pos c2, if_neg (by omega), wrap_id (n := d - (eff a l (i : Int) op).1) (by omega) (by omega), wrap_id (n := d - _ + 1) (by omega) (by omega), wrap_id (n := (j : Int) + 1) (by omega) (by omega)]
            rfl
        · rw [if_neg c2] at he
          rw [← he, if_neg (by decide)]
          refine Ev.some' (fun k => ?_)
          simp only [glossatorref3_CheckProgram.j4]
          rw [if_neg (by simp), eff_ref, Option.bind_some, if_neg c2]
    by_cases c1 : op.f0 < 1
    · refine Ev.stepK (hj true (by rw [decide_eq_true (.inl c1)])) (fun k => ?_)
      simp only [glossatorref3_CheckProgram.l2]
      rw [if_pos (by omega), if_pos (by omega), if_pos (by omega), e, if_pos c1]
    · refine Ev.stepK (hj (decide (op.f0 > 11)) (by by_cases c : op.f0 > 11 <;> simp [c] <;> omega)) (fun k => ?_)
      simp only [glossatorref3_CheckProgram.l2]
      rw [if_pos (by omega), if_pos (by omega), if_pos (by omega), e, if_neg c1]
theorem refqs_ev (a : Int) (l : List (List S160)) (hl : l.length ≤ 140737488355328) (hi : ∀ q ∈ l, q.length ≤ 140737488355328) : ∀ (t : List (List S160)) (i : Nat), l.drop i = t → Ev (fun k => glossatorref3_CheckProgram.l1 k l (l.length : Int) (i : Int) a l) (chkQs a l i t)
  | [], i, h => by
    have := drop_nil h
    refine Ev.some' (fun k => ?_)
    simp only [glossatorref3_CheckProgram.l1, chkQs]
    rw [if_neg (by omega)]
  | q :: t, i, h => by
    obtain ⟨q1, q2, q3⟩ := drop_cons h
    have e : rd_L2 l (i : Int) = q := q3 _
    have ih := refqs_ev a l hl hi t (i + 1) q2
    have h1 := refops_ev a l i q (hi q (mem_drop_cons h)) (chkQs a l (i + 1) t) (fun _ => by rw [wrap_id (by omega) (by omega)]; exact ih) q 0 0 rfl (by omega) (by omega) rfl
    rw [chkQs]
    refine Ev.stepK h1 (fun k => ?_)
    simp only [glossatorref3_CheckProgram.l1]
    rw [if_pos (by omega), if_pos (by omega), if_pos (by omega), e]
    rfl
theorem reflong_ev (a : Int) (l : List (List S160)) (hl : l.length ≤ 140737488355328) (hi : ∀ q ∈ l, q.length ≤ 140737488355328) : ∀ (t : List (List S160)) (i : Nat) (b : Bool), l.drop i = t → Ev (fun k => glossatorref3_CheckProgram.l0 k b l (l.length : Int) (i : Int) a l) (if (b || large t) = true then 2 else if a < 0 then 1 else chkQs a l 0 l)
  | [], i, b, h => by
    have := drop_nil h
    have e : (b || large []) = b := by simp [large]
    rw [e]
    cases b with
    | true => exact Ev.some' (fun k => by simp only [glossatorref3_CheckProgram.l0]; rw [if_neg (by omega), if_pos trivial, if_pos trivial])
    | false =>
      rw [if_neg (by simp)]
      by_cases c : a < 0
      · rw [if_pos c]; exact Ev.some' (fun k => by simp only [glossatorref3_CheckProgram.l0]; rw [if_neg (by omega), if_neg (by simp), if_pos c])
      · rw [if_neg c]; exact Ev.stepK (refqs_ev a l hl hi l 0 rfl) (fun k => by simp only [glossatorref3_CheckProgram.l0]; rw [if_neg (by omega), if_neg (by simp), if_neg c]; rfl)
  | q :: t, i, b, h => by
    obtain ⟨q1, q2, q3⟩ := drop_cons h
    have e : rd_L2 l (i : Int) = q := q3 _
    cases b with
    | true =>
      refine Ev.stepK (reflong_ev a l hl hi t (i + 1) true q2) (fun k => ?_)
      simp only [glossatorref3_CheckProgram.l0]
      rw [if_pos (by omega), if_pos (by omega), if_pos (by omega), if_pos trivial, wrap_id (by omega) (by omega)]
      rfl
    | false =>
      have e2 : (false || large (q :: t)) = (decide ((q.length : Int) > 20) || large t) := by simp [large]
      rw [e2]
      refine Ev.stepK (reflong_ev a l hl hi t (i + 1) (decide ((q.length : Int) > 20)) q2) (fun k => ?_)
      simp only [glossatorref3_CheckProgram.l0]
      rw [if_pos (by omega), if_pos (by omega), if_pos (by omega), if_neg (by simp), e, wrap_id (by omega) (by omega)]
      rfl
theorem ref_ev (a : Int) (l : List (List S160)) (hl : l.length ≤ 140737488355328) (hi : ∀ q ∈ l, q.length ≤ 140737488355328) : Ev (fun k => glossatorref3_CheckProgram.f k a l) (chkP a l) := by
  have hj : ∀ b : Bool, Ev (fun k => glossatorref3_CheckProgram.j0 k b a l) (if (b || large l) = true then 2 else if a < 0 then 1 else chkQs a l 0 l) := fun b =>
    Ev.stepK (reflong_ev a l hl hi l 0 b rfl) (fun k => by simp only [glossatorref3_CheckProgram.j0]; rfl)
  unfold glossatorref3_CheckProgram.f chkP
  by_cases c1 : a > 40
  · rw [decide_eq_true c1]
    exact Ev.pos c1 (hj true)
  · rw [decide_eq_false c1]
    exact Ev.neg c1 (hj _)
theorem example_ev : Ev (fun k => glossatorlaw3_queryExample.f k) true := Ev.of (k := 60) (fun k => glossatorlaw3_queryExample.mono k) (by decide +kernel)
end Go.Proofs.Ytglckkkjfcomlaa.PrQuerylangCompile

/-
  What the fixpoint functions compute, told by plain words: Check, derive, propagate, Least, Rounds, and the reference's CheckRules, Round, Kleene.
-/
import Derived.Test.YtglckkkjfcomlaaSFixpointProofs
import Derived.Test.YtglckkkjfcomlaaAid2
import Derived.Test.YtglckkkjfcomlaaFixMath
namespace Go.Proofs.Ytglckkkjfcomlaa.PrFixpointProofs
open Go.RowKit Go.Proofs.YtglckkkjfcomlaaW.PrintWords Go.Proofs.YtglckkkjfcomlaaW.PrintLast Go.Proofs.YtglckkkjfcomlaaW.PrintMore Go.Proofs.Ytglckkkjfcomlaa.QFixpointProofs Go.Proofs.Ytglckkkjfcomlaa.Aid Go.Proofs.Ytglckkkjfcomlaa.FixMath
set_option linter.unusedSimpArgs false
set_option linter.unusedVariables false


def Sized (rs : List (List S58)) : Prop := rs.length ≤ 140737488355328 ∧ ∀ l ∈ rs, l.length ≤ 140737488355328 ∧ ∀ r ∈ l, r.f1.length ≤ 140737488355328
abbrev Vd (rs : List (List S58)) : Prop := Valid S58.f0 S58.f1 rs

/-! The errors. -/
def bad (n : Nat) (j : Int) : Bool := decide (j < 0) || decide (j ≥ n)
def errRules (n : Nat) : List S58 → Int
  | [] => 0
  | r :: l => if r.f0 < 0 ∨ r.f0 > 1048575 then 1 else if r.f1.any (bad n) = true then 3 else errRules n l
def errLists (n : Nat) : List (List S58) → Int
  | [] => 0
  | l :: ls => if errRules n l = 0 then errLists n ls else errRules n l
def longRules (l : List S58) : Bool := l.any (fun r => decide ((r.f1.length : Int) > 60))
def large (ls : List (List S58)) : Bool := ls.any (fun l => decide ((l.length : Int) > 20) || longRules l)
def chk (rs : List (List S58)) : Int := if (decide ((rs.length : Int) > 60) || large rs) = true then 2 else errLists rs.length rs

theorem errRules_ok {n : Nat} : ∀ {l : List S58}, errRules n l = 0 → ∀ r ∈ l, small r.f0 ∧ ∀ j ∈ r.f1, 0 ≤ j ∧ j < n
  | [], _, r, hr => by cases hr
  | q :: l, h, r, hr => by
    unfold errRules at h
    split at h
    · cases h
    · next h1 =>
      split at h
      · cases h
      · next h2 =>
        rcases List.mem_cons.1 hr with rfl | h3
        · refine ⟨⟨by omega, by omega⟩, fun j hj => ?_⟩
          have : bad n j = false := by
            cases e : bad n j
            · rfl
            · exact absurd (List.any_eq_true.2 ⟨j, hj, e⟩) h2
          simp only [bad, Bool.or_eq_false_iff, decide_eq_false_iff_not] at this
          omega
        · exact errRules_ok h r h3
theorem errLists_ok {n : Nat} : ∀ {ls : List (List S58)}, errLists n ls = 0 → ∀ l ∈ ls, ∀ r ∈ l, small r.f0 ∧ ∀ j ∈ r.f1, 0 ≤ j ∧ j < n
  | [], _, l, hl => by cases hl
  | q :: ls, h, l, hl => by
    unfold errLists at h
    split at h
    · next h1 =>
      rcases List.mem_cons.1 hl with rfl | h3
      · exact errRules_ok h1
      · exact errLists_ok h l h3
    · next h1 => exact absurd h h1
theorem chk_ok {rs : List (List S58)} (h : chk rs = 0) : Vd rs := by
  unfold chk at h
  split at h
  · cases h
  · next h1 =>
    simp only [Bool.or_eq_true, decide_eq_true_eq, not_or] at h1
    exact ⟨by omega, errLists_ok h⟩

theorem check1 (a : Int) (l : List Int) : fixpoint_Check_1.f a l = some (decide ((l.length : Int) > 60)) := rfl
theorem index133 (xs : List S58) (hx : xs.length ≤ 140737488355328) : ∀ (t : List S58) (i : Nat), xs.drop i = t → ∃ r, Ev (fun k => slices_IndexFunc_177_at_171.l0 k xs (xs.length : Int) (i : Int)) r ∧ decide (r ≥ 0) = longRules t
  | [], i, h => by
    have := drop_nil h
    exact ⟨-1, Ev.some' (fun k => by simp only [slices_IndexFunc_177_at_171.l0]; rw [if_neg (by omega)]), rfl⟩
  | x :: t, i, h => by
    obtain ⟨h1, h2, h3, _⟩ := drop_cons h
    have e : rd_T58 xs (i : Int) = x := h3 _
    by_cases c : (x.f1.length : Int) > 60
    · refine ⟨(i : Int), Ev.some' (fun k => ?_), ?_⟩
      · simp only [slices_IndexFunc_177_at_171.l0]
        rw [if_pos (by omega), if_pos (by omega), if_pos (by omega), e, check1]
        simp [c]
      · simp [longRules, c]
    · obtain ⟨r, ih, hr⟩ := index133 xs hx t (i + 1) h2
      refine ⟨r, Ev.stepK ih (fun k => ?_), ?_⟩
      · simp only [slices_IndexFunc_177_at_171.l0]
        rw [if_pos (by omega), if_pos (by omega), if_pos (by omega), e, check1, wrap_id (by omega) (by omega)]
        simp [c]
      · rw [hr]; simp [longRules, c]
theorem contains96 (xs : List S58) (hx : xs.length ≤ 140737488355328) : Ev (fun k => slices_ContainsFunc_170_at_171.f k xs) (longRules xs) := by
  obtain ⟨r, h, hr⟩ := index133 xs hx xs 0 rfl
  rw [← hr]
  exact Ev.bind h (Ev.now _)
theorem check2 (a : Int) (rs : List (List S58)) : fixpoint_Check_2.f a rs = some (bad rs.length a) := by
  unfold fixpoint_Check_2.f bad
  by_cases h : a < 0 <;> simp [h]
theorem index134 (rs : List (List S58)) (xs : List Int) (hx : xs.length ≤ 140737488355328) : ∀ (t : List Int) (i : Nat), xs.drop i = t → ∃ r, Ev (fun k => slices_IndexFunc_217_at_173_47.l0 k xs (xs.length : Int) (i : Int) rs) r ∧ decide (r ≥ 0) = t.any (bad rs.length)
  | [], i, h => by
    have := drop_nil h
    exact ⟨-1, Ev.some' (fun k => by simp only [slices_IndexFunc_217_at_173_47.l0]; rw [if_neg (by omega)]), rfl⟩
  | x :: t, i, h => by
    obtain ⟨h1, h2, h3, _⟩ := drop_cons h
    have e : rd xs (i : Int) = x := h3 _
    by_cases c : bad rs.length x = true
    · refine ⟨(i : Int), Ev.some' (fun k => ?_), ?_⟩
      · simp only [slices_IndexFunc_217_at_173_47.l0]
        rw [if_pos (by omega), if_pos (by omega), if_pos (by omega), e, check2]
        simp [c]
      · simp [c]
    · obtain ⟨r, ih, hr⟩ := index134 rs xs hx t (i + 1) h2
      refine ⟨r, Ev.stepK ih (fun k => ?_), ?_⟩
      · simp only [slices_IndexFunc_217_at_173_47.l0]
        rw [if_pos (by omega), if_pos (by omega), if_pos (by omega), e, check2, wrap_id (by omega) (by omega)]
        simp [c]
      · rw [hr]; simp [c]
theorem contains98 (rs : List (List S58)) (xs : List Int) (hx : xs.length ≤ 140737488355328) : Ev (fun k => slices_ContainsFunc_172_at_173_47.f k xs rs) (xs.any (bad rs.length)) := by
  obtain ⟨r, h, hr⟩ := index134 rs xs hx xs 0 rfl
  rw [← hr]
  exact Ev.bind h (Ev.now _)

/-! Check -/
theorem check_l2 (rs : List (List S58)) (i : Nat) (l : List S58) (hl : l.length ≤ 140737488355328) (hj : ∀ r ∈ l, r.f1.length ≤ 140737488355328) {r : Int} (h0 : errRules rs.length l = 0 → Ev (fun k => fixpoint_Check.l1 k rs (rs.length : Int) (wrap64 ((i : Int) + 1)) rs) r) (h1 : errRules rs.length l ≠ 0 → r = errRules rs.length l) :
    ∀ (t : List S58) (j : Nat), l.drop j = t → errRules rs.length t = errRules rs.length l → Ev (fun k => fixpoint_Check.l2 k rs (rs.length : Int) (i : Int) l (l.length : Int) (j : Int) rs) r
  | [], j, h, he => by
    have := drop_nil h
    refine Ev.stepK (h0 he.symm) (fun k => ?_)
    simp only [fixpoint_Check.l2]
    rw [if_neg (by omega)]
  | x :: t, j, h, he => by
    obtain ⟨g1, g2, g3, g4⟩ := drop_cons h
    have e : rd_T58 l (j : Int) = x := g3 _
    have j3 : ∀ b, (b = true ↔ (x.f0 < 0 ∨ x.f0 > 1048575)) → Ev (fun k => fixpoint_Check.j3 k rs (rs.length : Int) (i : Int) l (l.length : Int) (j : Int) b rs x.f0 x.f1) r := by
      intro b hb
      cases b with
      | true =>
        have h2 : errRules rs.length (x :: t) = 1 := by unfold errRules; rw [if_pos (hb.1 rfl)]
        rw [h1 (by rw [← he, h2]; decide), ← he, h2]
        exact Ev.some' (fun k => by simp only [fixpoint_Check.j3]; rfl)
      | false =>
        have hb' : ¬ (x.f0 < 0 ∨ x.f0 > 1048575) := fun h => by simpa using hb.2 h
        have hc := contains98 rs x.f1 (hj x g4)
        refine Ev.step (f := fun k => (slices_ContainsFunc_172_at_173_47.f k x.f1 rs).bind fun t116 => (if t116 = true then (some 3) else (fixpoint_Check.l2 k rs (rs.length : Int) (i : Int) l (l.length : Int) (wrap64 ((j : Int) + 1)) rs))) (fun k => by simp only [fixpoint_Check.j3]; rfl) ?_
        refine Ev.bind hc ?_
        cases hv : x.f1.any (bad rs.length) with
        | true =>
          have h2 : errRules rs.length (x :: t) = 3 := by unfold errRules; rw [if_neg hb', if_pos hv]
          rw [h1 (by rw [← he, h2]; decide), ← he, h2]
          exact Ev.now _
        | false =>
          have h2 : errRules rs.length (x :: t) = errRules rs.length t := by rw [errRules, if_neg hb', hv]; rfl
          have ih := check_l2 rs i l hl hj h0 h1 t (j + 1) g2 (by rw [← he, h2])
          rw [wrap_id (by omega) (by omega)]
          exact ih
    by_cases c : x.f0 < 0
    · refine Ev.stepK (j3 true (by simp [c])) (fun k => ?_)
      simp only [fixpoint_Check.l2]
      rw [if_pos (by omega), if_pos (by omega), if_pos (by omega), e, if_pos c]
    · refine Ev.stepK (j3 (decide (x.f0 > 1048575)) (by simp [c])) (fun k => ?_)
      simp only [fixpoint_Check.l2]
      rw [if_pos (by omega), if_pos (by omega), if_pos (by omega), e, if_neg c]
theorem check_l1 (rs : List (List S58)) (hs : Sized rs) : ∀ (t : List (List S58)) (i : Nat), rs.drop i = t → Ev (fun k => fixpoint_Check.l1 k rs (rs.length : Int) (i : Int) rs) (errLists rs.length t)
  | [], i, h => by
    have := drop_nil h
    exact Ev.some' (fun k => by simp only [fixpoint_Check.l1]; rw [if_neg (by omega)]; rfl)
  | l :: t, i, h => by
    have hb := hs.1
    obtain ⟨g1, g2, g3, g4⟩ := drop_cons h
    have e : rd_L3 rs (i : Int) = l := g3 _
    have ih := check_l1 rs hs t (i + 1) g2
    have h2 := hs.2 l g4
    refine Ev.stepK (check_l2 rs i l h2.1 h2.2 (r := errLists rs.length (l :: t)) (fun h0 => ?_) (fun h0 => ?_) l 0 rfl rfl) (fun k => ?_)
    · rw [errLists, if_pos h0, wrap_id (by omega) (by omega)]
      exact ih
    · rw [errLists, if_neg h0]
    · simp only [fixpoint_Check.l1]
      rw [if_pos (by omega), if_pos (by omega), if_pos (by omega), e]
      rfl
theorem check_l0 (rs : List (List S58)) (hs : Sized rs) : ∀ (t : List (List S58)) (i : Nat), rs.drop i = t → Ev (fun k => fixpoint_Check.l0 k rs (rs.length : Int) (i : Int) rs) (if large t = true then 2 else errLists rs.length rs)
  | [], i, h => by
    have := drop_nil h
    refine Ev.stepK (check_l1 rs hs rs 0 rfl) (fun k => ?_)
    simp only [fixpoint_Check.l0]
    rw [if_neg (by omega)]
    rfl
  | l :: t, i, h => by
    have hb := hs.1
    obtain ⟨g1, g2, g3, g4⟩ := drop_cons h
    have e : rd_L3 rs (i : Int) = l := g3 _
    have ih := check_l0 rs hs t (i + 1) g2
    have h2 := hs.2 l g4
    by_cases c : (l.length : Int) > 20
    · have : large (l :: t) = true := by simp [large, c]
      rw [if_pos this]
      refine Ev.some' (fun k => ?_)
      simp only [fixpoint_Check.l0]
      rw [if_pos (by omega), if_pos (by omega), if_pos (by omega), e, if_pos c]
    · refine Ev.step (f := fun k => (slices_ContainsFunc_170_at_171.f k l).bind fun t112 => (if t112 = true then (some 2) else (fixpoint_Check.l0 k rs (rs.length : Int) (wrap64 ((i : Int) + 1)) rs))) (fun k => ?_) (Ev.bind (contains96 l h2.1) ?_)
      · simp only [fixpoint_Check.l0]
        rw [if_pos (by omega), if_pos (by omega), if_pos (by omega), e, if_neg c]
      · cases hv : longRules l with
        | true =>
          have : large (l :: t) = true := by simp [large, hv]
          rw [if_pos this]
          exact Ev.now _
        | false =>
          have : large (l :: t) = large t := by simp [large, hv, c]
          rw [this, wrap_id (by omega) (by omega)]
          exact ih
theorem check_ev (rs : List (List S58)) (hs : Sized rs) : Ev (fun k => fixpoint_Check.f k rs) (chk rs) := by
  unfold fixpoint_Check.f chk
  by_cases h : (rs.length : Int) > 60
  · refine Ev.pos h ?_
    simp only [h, decide_true, Bool.true_or, if_true]
    exact Ev.now _
  · refine Ev.neg h ?_
    simp only [h, decide_false, Bool.false_or]
    exact check_l0 rs hs rs 0 rfl
/-! CheckRules -/
theorem rules_l4 (rs : List (List S58)) (i : Nat) (l : List S58) (j : Nat) (xs : List Int) (hx : xs.length ≤ 140737488355328) {r : Int} (h0 : xs.any (bad rs.length) = false → Ev (fun k => glossatorref3_CheckRules.l3 k rs rs (rs.length : Int) (i : Int) l (l.length : Int) (wrap64 ((j : Int) + 1))) r) (h1 : xs.any (bad rs.length) = true → r = 3) :
    ∀ (t : List Int) (q : Nat), xs.drop q = t → t.any (bad rs.length) = xs.any (bad rs.length) → Ev (fun k => glossatorref3_CheckRules.l4 k rs rs (rs.length : Int) (i : Int) l (l.length : Int) (j : Int) xs (xs.length : Int) (q : Int)) r
  | [], q, h, he => by
    have := drop_nil h
    refine Ev.stepK (h0 he.symm) (fun k => ?_)
    simp only [glossatorref3_CheckRules.l4]
    rw [if_neg (by omega)]
  | x :: t, q, h, he => by
    obtain ⟨g1, g2, g3, g4⟩ := drop_cons h
    have e : rd xs (q : Int) = x := g3 _
    by_cases c : x < 0
    · have : xs.any (bad rs.length) = true := by rw [← he]; simp [bad, c]
      rw [h1 this]
      refine Ev.some' (fun k => ?_)
      simp only [glossatorref3_CheckRules.l4]
      rw [if_pos (by omega), if_pos (by omega), if_pos (by omega), e, if_pos c]
    by_cases c2 : x ≥ (rs.length : Int)
    · have : xs.any (bad rs.length) = true := by rw [← he]; simp [bad, c2]
      rw [h1 this]
      refine Ev.some' (fun k => ?_)
      simp only [glossatorref3_CheckRules.l4]
      rw [if_pos (by omega), if_pos (by omega), if_pos (by omega), e, if_neg c, if_pos c2]
    · have hb : bad rs.length x = false := by simp [bad]; omega
      have ih := rules_l4 rs i l j xs hx h0 h1 t (q + 1) g2 (by rw [← he]; simp [hb])
      refine Ev.stepK ih (fun k => ?_)
      simp only [glossatorref3_CheckRules.l4]
      rw [if_pos (by omega), if_pos (by omega), if_pos (by omega), e, if_neg c, if_neg c2, wrap_id (by omega) (by omega)]
      rfl
theorem rules_l3 (rs : List (List S58)) (i : Nat) (l : List S58) (hl : l.length ≤ 140737488355328) (hj : ∀ r ∈ l, r.f1.length ≤ 140737488355328) {r : Int} (h0 : errRules rs.length l = 0 → Ev (fun k => glossatorref3_CheckRules.l2 k rs rs (rs.length : Int) (wrap64 ((i : Int) + 1))) r) (h1 : errRules rs.length l ≠ 0 → r = errRules rs.length l) :
    ∀ (t : List S58) (j : Nat), l.drop j = t → errRules rs.length t = errRules rs.length l → Ev (fun k => glossatorref3_CheckRules.l3 k rs rs (rs.length : Int) (i : Int) l (l.length : Int) (j : Int)) r
  | [], j, h, he => by
    have := drop_nil h
    refine Ev.stepK (h0 he.symm) (fun k => ?_)
    simp only [glossatorref3_CheckRules.l3]
    rw [if_neg (by omega)]
  | x :: t, j, h, he => by
    obtain ⟨g1, g2, g3, g4⟩ := drop_cons h
    have e : rd_T58 l (j : Int) = x := g3 _
    have j5 : ∀ b, (b = true ↔ (x.f0 < 0 ∨ x.f0 > 1048575)) → Ev (fun k => glossatorref3_CheckRules.j5 k rs rs (rs.length : Int) (i : Int) l (l.length : Int) (j : Int) b x.f0 x.f1) r := by
      intro b hb
      cases b with
      | true =>
        have h2 : errRules rs.length (x :: t) = 1 := by unfold errRules; rw [if_pos (hb.1 rfl)]
        rw [h1 (by rw [← he, h2]; decide), ← he, h2]
        exact Ev.some' (fun k => by simp only [glossatorref3_CheckRules.j5]; rfl)
      | false =>
        have hb' : ¬ (x.f0 < 0 ∨ x.f0 > 1048575) := fun h => by simpa using hb.2 h
        refine Ev.stepK (rules_l4 rs i l j x.f1 (hj x g4) (r := r) (fun hv => ?_) (fun hv => ?_) x.f1 0 rfl rfl) (fun k => by simp only [glossatorref3_CheckRules.j5]; rfl)
        · have h2 : errRules rs.length (x :: t) = errRules rs.length t := by rw [errRules, if_neg hb', hv]; rfl
          have ih := rules_l3 rs i l hl hj h0 h1 t (j + 1) g2 (by rw [← he, h2])
          rw [wrap_id (by omega) (by omega)]
          exact ih
        · have h2 : errRules rs.length (x :: t) = 3 := by unfold errRules; rw [if_neg hb', if_pos hv]
          rw [h1 (by rw [← he, h2]; decide), ← he, h2]
    by_cases c : x.f0 < 0
    · refine Ev.stepK (j5 true (by simp [c])) (fun k => ?_)
      simp only [glossatorref3_CheckRules.l3]
      rw [if_pos (by omega), if_pos (by omega), if_pos (by omega), e, if_pos c]
    · refine Ev.stepK (j5 (decide (x.f0 ≥ 1048576)) (by simp [c]; omega)) (fun k => ?_)
      simp only [glossatorref3_CheckRules.l3]
      rw [if_pos (by omega), if_pos (by omega), if_pos (by omega), e, if_neg c]
theorem rules_l2 (rs : List (List S58)) (hs : Sized rs) : ∀ (t : List (List S58)) (i : Nat), rs.drop i = t → Ev (fun k => glossatorref3_CheckRules.l2 k rs rs (rs.length : Int) (i : Int)) (errLists rs.length t)
  | [], i, h => by
    have := drop_nil h
    exact Ev.some' (fun k => by simp only [glossatorref3_CheckRules.l2]; rw [if_neg (by omega)]; rfl)
  | l :: t, i, h => by
    have hb := hs.1
    obtain ⟨g1, g2, g3, g4⟩ := drop_cons h
    have e : rd_L3 rs (i : Int) = l := g3 _
    have ih := rules_l2 rs hs t (i + 1) g2
    have h2 := hs.2 l g4
    refine Ev.stepK (rules_l3 rs i l h2.1 h2.2 (r := errLists rs.length (l :: t)) (fun h0 => ?_) (fun h0 => ?_) l 0 rfl rfl) (fun k => ?_)
    · rw [errLists, if_pos h0, wrap_id (by omega) (by omega)]
      exact ih
    · rw [errLists, if_neg h0]
    · simp only [glossatorref3_CheckRules.l2]
      rw [if_pos (by omega), if_pos (by omega), if_pos (by omega), e]
      rfl
theorem rules_l1 (rs : List (List S58)) (i : Nat) (l : List S58) (hl : l.length ≤ 140737488355328) {r : Int} : ∀ (t : List S58) (j : Nat) (b : Bool), l.drop j = t → Ev (fun k => glossatorref3_CheckRules.l0 k rs (b || longRules t) rs (rs.length : Int) (wrap64 ((i : Int) + 1))) r → Ev (fun k => glossatorref3_CheckRules.l1 k rs b rs (rs.length : Int) (i : Int) l (l.length : Int) (j : Int)) r
  | [], j, b, h, hr => by
    have := drop_nil h
    refine Ev.stepK hr (fun k => ?_)
    simp only [glossatorref3_CheckRules.l1]
    rw [if_neg (by omega)]
    simp [longRules]
  | x :: t, j, b, h, hr => by
    obtain ⟨g1, g2, g3, g4⟩ := drop_cons h
    have e : rd_T58 l (j : Int) = x := g3 _
    cases b with
    | true =>
      refine Ev.stepK (rules_l1 rs i l hl t (j + 1) true g2 (by simpa using hr)) (fun k => ?_)
      simp only [glossatorref3_CheckRules.l1]
      rw [if_pos (by omega), if_pos (by omega), if_pos (by omega), if_pos trivial, wrap_id (by omega) (by omega)]
      rfl
    | false =>
      refine Ev.stepK (rules_l1 rs i l hl t (j + 1) (decide ((x.f1.length : Int) > 60)) g2 (by simpa [longRules] using hr)) (fun k => ?_)
      simp only [glossatorref3_CheckRules.l1]
      rw [if_pos (by omega), if_pos (by omega), if_pos (by omega), if_neg (by decide), e, wrap_id (by omega) (by omega)]
      rfl
theorem rules_l0 (rs : List (List S58)) (hs : Sized rs) : ∀ (t : List (List S58)) (i : Nat) (b : Bool), rs.drop i = t → Ev (fun k => glossatorref3_CheckRules.l0 k rs b rs (rs.length : Int) (i : Int)) (if (b || large t) = true then 2 else errLists rs.length rs)
  | [], i, b, h => by
    have := drop_nil h
    cases b with
    | true => exact Ev.some' (fun k => by simp only [glossatorref3_CheckRules.l0]; rw [if_neg (by omega)]; rfl)
    | false =>
      refine Ev.stepK (rules_l2 rs hs rs 0 rfl) (fun k => ?_)
      simp only [glossatorref3_CheckRules.l0]
      rw [if_neg (by omega)]
      rfl
  | l :: t, i, b, h => by
    have hb := hs.1
    obtain ⟨g1, g2, g3, g4⟩ := drop_cons h
    have e : rd_L3 rs (i : Int) = l := g3 _
    have h2 := hs.2 l g4
    have j1 : ∀ b', b' = (b || decide ((l.length : Int) > 20)) → Ev (fun k => glossatorref3_CheckRules.j1 k rs b' l rs (rs.length : Int) (i : Int)) (if (b || large (l :: t)) = true then 2 else errLists rs.length rs) := by
      intro b' hb'
      refine Ev.stepK (rules_l1 rs i l h2.1 l 0 b' rfl ?_) (fun k => by simp only [glossatorref3_CheckRules.j1]; rfl)
      have ih := rules_l0 rs hs t (i + 1) (b' || longRules l) g2
      rw [wrap_id (by omega) (by omega)]
      have : (b' || longRules l || large t) = (b || large (l :: t)) := by rw [hb']; simp [large, Bool.or_assoc]
      rw [this] at ih
      exact ih
    cases b with
    | true =>
      refine Ev.stepK (j1 true rfl) (fun k => ?_)
      simp only [glossatorref3_CheckRules.l0]
      rw [if_pos (by omega), if_pos (by omega), if_pos (by omega), if_pos trivial, e]
    | false =>
      refine Ev.stepK (j1 (decide ((l.length : Int) > 20)) (by simp)) (fun k => ?_)
      simp only [glossatorref3_CheckRules.l0]
      rw [if_pos (by omega), if_pos (by omega), if_pos (by omega), if_neg (by decide), e]
theorem rules_ev (rs : List (List S58)) (hs : Sized rs) : Ev (fun k => glossatorref3_CheckRules.f k rs) (chk rs) := rules_l0 rs hs rs 0 _ rfl

/-! derive, deriveAll -/
theorem derive_l0 (s xs : List Int) (hx : xs.length ≤ 140737488355328) : ∀ (t : List Int) (i : Nat) (x : Int), xs.drop i = t → (∀ j ∈ t, 0 ≤ j ∧ j < s.length) → Ev (fun k => fixpoint_derive.l0 k s x xs (xs.length : Int) (i : Int)) (dv s t x)
  | [], i, x, h, _ => by
    have := drop_nil h
    exact Ev.some' (fun k => by simp only [fixpoint_derive.l0]; rw [if_neg (by omega)]; rfl)
  | j :: t, i, x, h, hj => by
    obtain ⟨g1, g2, g3, g4⟩ := drop_cons h
    have ih := derive_l0 s xs hx t (i + 1) (Go.bits .and .i64 x (rd s j)) g2 (fun q hq => hj q (by simp [hq]))
    have e : rd xs (i : Int) = j := g3 0
    have hj0 := hj j (by simp)
    refine Ev.stepK ih (fun k => ?_)
    simp only [fixpoint_derive.l0]
    rw [if_pos (by omega), if_pos (by omega), if_pos (by omega), e, if_pos (by omega), if_pos (by omega), wrap_id (by omega) (by omega)]
    rfl
theorem derive_ev (s : List Int) (r : S58) (hx : r.f1.length ≤ 140737488355328) (hj : ∀ j ∈ r.f1, 0 ≤ j ∧ j < s.length) : Ev (fun k => fixpoint_derive.f k r.f0 r.f1 s) (dv s r.f1 r.f0) := derive_l0 s r.f1 hx r.f1 0 _ rfl hj
abbrev daS (s : List Int) (l : List S58) (x : Int) : Int := da S58.f0 S58.f1 s l x
theorem deriveAll_l0 (s : List Int) (xs : List S58) (hx : xs.length ≤ 140737488355328) (hall : ∀ r ∈ xs, r.f1.length ≤ 140737488355328 ∧ ∀ j ∈ r.f1, 0 ≤ j ∧ j < s.length) : ∀ (t : List S58) (i : Nat) (x : Int), xs.drop i = t → Ev (fun k => fixpoint_deriveAll.l0 k s x xs (xs.length : Int) (i : Int)) (daS s t x)
  | [], i, x, h => by
    have := drop_nil h
    exact Ev.some' (fun k => by simp only [fixpoint_deriveAll.l0]; rw [if_neg (by omega)]; rfl)
  | r :: t, i, x, h => by
    obtain ⟨g1, g2, g3, g4⟩ := drop_cons h
    have ih := deriveAll_l0 s xs hx hall t (i + 1) (Go.bits .or .i64 x (dv s r.f1 r.f0)) g2
    have e : rd_T58 xs (i : Int) = r := g3 _
    have hr := hall r g4
    refine Ev.step (f := fun k => (fixpoint_derive.f k r.f0 r.f1 s).bind fun t122 => (fixpoint_deriveAll.l0 k s (Go.bits .or .i64 x t122) xs (xs.length : Int) (wrap64 ((i : Int) + 1)))) (fun k => ?_) (Ev.bind (derive_ev s r hr.1 hr.2) ?_)
    · simp only [fixpoint_deriveAll.l0]
      rw [if_pos (by omega), if_pos (by omega), if_pos (by omega), e]
    · rw [wrap_id (by omega) (by omega)]
      exact ih
theorem deriveAll_ev (s : List Int) (xs : List S58) (hx : xs.length ≤ 140737488355328) (hall : ∀ r ∈ xs, r.f1.length ≤ 140737488355328 ∧ ∀ j ∈ r.f1, 0 ≤ j ∧ j < s.length) : Ev (fun k => fixpoint_deriveAll.f k xs s) (daS s xs 0) := deriveAll_l0 s xs hx hall xs 0 0 rfl

/-! Contains, Equal, indices -/
theorem index_ev (xs : List Int) (hx : xs.length ≤ 140737488355328) (v : Int) : ∀ (t : List Int) (i : Nat), xs.drop i = t → ∃ r, Ev (fun k => slices_Index_int_int.l0 k xs v (xs.length : Int) (i : Int)) r ∧ decide (r ≥ 0) = decide (v ∈ t)
  | [], i, h => by
    have := drop_nil h
    exact ⟨-1, Ev.some' (fun k => by simp only [slices_Index_int_int.l0]; rw [if_neg (by omega)]), by simp⟩
  | x :: t, i, h => by
    obtain ⟨h1, h2, h3, _⟩ := drop_cons h
    have e : rd xs (i : Int) = x := h3 _
    by_cases c : v = x
    · refine ⟨(i : Int), Ev.some' (fun k => ?_), ?_⟩
      · simp only [slices_Index_int_int.l0]
        rw [if_pos (by omega), if_pos (by omega), if_pos (by omega), e, if_pos c]
      · simp [c]
    · obtain ⟨r, ih, hr⟩ := index_ev xs hx v t (i + 1) h2
      refine ⟨r, Ev.stepK ih (fun k => ?_), ?_⟩
      · simp only [slices_Index_int_int.l0]
        rw [if_pos (by omega), if_pos (by omega), if_pos (by omega), e, if_neg c, wrap_id (by omega) (by omega)]
        rfl
      · rw [hr]; simp [c]
theorem contains_ev (xs : List Int) (hx : xs.length ≤ 140737488355328) (v : Int) : Ev (fun k => slices_Contains_int_int.f k xs v) (decide (v ∈ xs)) := by
  obtain ⟨r, h, hr⟩ := index_ev xs hx v xs 0 rfl
  rw [← hr]
  exact Ev.bind h (Ev.now _)
theorem equal_l0 (xs ys : List Int) (hl : xs.length = ys.length) (hx : xs.length ≤ 140737488355328) : ∀ (t u : List Int) (i : Nat), xs.drop i = t → ys.drop i = u → Ev (fun k => slices_Equal_int_int.l0 k xs ys (xs.length : Int) (i : Int)) (decide (t = u))
  | [], u, i, h, g => by
    have := drop_nil h
    have : u = [] := by rw [← g]; exact List.drop_of_length_le (by omega)
    subst this
    exact Ev.some' (fun k => by simp only [slices_Equal_int_int.l0]; rw [if_neg (by omega)]; rfl)
  | x :: t, u, i, h, g => by
    obtain ⟨h1, h2, h3, _⟩ := drop_cons h
    cases u with
    | nil => have := drop_nil g; omega
    | cons y u =>
      obtain ⟨g1, g2, g3, _⟩ := drop_cons g
      have e : rd xs (i : Int) = x := h3 _
      have e2 : rd ys (i : Int) = y := g3 _
      by_cases c : x = y
      · refine Ev.stepK (equal_l0 xs ys hl hx t u (i + 1) h2 g2) (fun k => ?_) |> fun z => by simpa [c] using z
        simp only [slices_Equal_int_int.l0]
        rw [if_pos (by omega), if_pos (by omega), if_pos (by omega), if_pos (by omega), e, e2, if_pos c, wrap_id (by omega) (by omega)]
        rfl
      · have : decide (x :: t = y :: u) = false := by simp [c]
        rw [this]
        refine Ev.some' (fun k => ?_)
        simp only [slices_Equal_int_int.l0]
        rw [if_pos (by omega), if_pos (by omega), if_pos (by omega), if_pos (by omega), e, e2, if_neg c]
theorem equal_ev (xs ys : List Int) (hx : xs.length ≤ 140737488355328) : Ev (fun k => slices_Equal_int_int.f k xs ys) (decide (xs = ys)) := by
  unfold slices_Equal_int_int.f
  by_cases h : xs.length = ys.length
  · exact Ev.pos (by omega) (equal_l0 xs ys h hx xs ys 0 rfl rfl)
  · refine Ev.neg (by omega) ?_
    have : decide (xs = ys) = false := by
      simp only [decide_eq_false_iff_not]
      intro e; exact h (by rw [e])
    rw [this]
    exact Ev.now _
theorem refEqual_l0 (xs ys : List Int) (hl : xs.length = ys.length) (hx : xs.length ≤ 140737488355328) : ∀ (t u : List Int) (i : Nat), xs.drop i = t → ys.drop i = u → Ev (fun k => glossatorref3_Equal_int.l0 k ys xs (xs.length : Int) (i : Int)) (decide (t = u))
  | [], u, i, h, g => by
    have := drop_nil h
    have : u = [] := by rw [← g]; exact List.drop_of_length_le (by omega)
    subst this
    exact Ev.some' (fun k => by simp only [glossatorref3_Equal_int.l0]; rw [if_neg (by omega)]; rfl)
  | x :: t, u, i, h, g => by
    obtain ⟨h1, h2, h3, _⟩ := drop_cons h
    cases u with
    | nil => have := drop_nil g; omega
    | cons y u =>
      obtain ⟨g1, g2, g3, _⟩ := drop_cons g
      have e : rd xs (i : Int) = x := h3 _
      have e2 : rd ys (i : Int) = y := g3 _
      by_cases c : x = y
      · refine Ev.stepK (refEqual_l0 xs ys hl hx t u (i + 1) h2 g2) (fun k => ?_) |> fun z => by simpa [c] using z
        simp only [glossatorref3_Equal_int.l0]
        rw [if_pos (by omega), if_pos (by omega), if_pos (by omega), if_pos (by omega), e, e2, if_pos c, wrap_id (by omega) (by omega)]
        rfl
      · have : decide (x :: t = y :: u) = false := by simp [c]
        rw [this]
        refine Ev.some' (fun k => ?_)
        simp only [glossatorref3_Equal_int.l0]
        rw [if_pos (by omega), if_pos (by omega), if_pos (by omega), if_pos (by omega), e, e2, if_neg c]
theorem refEqual_ev (xs ys : List Int) (hx : xs.length ≤ 140737488355328) : Ev (fun k => glossatorref3_Equal_int.f k xs ys) (decide (xs = ys)) := by
  unfold glossatorref3_Equal_int.f
  by_cases h : xs.length = ys.length
  · exact Ev.pos (by omega) (refEqual_l0 xs ys h hx xs ys 0 rfl rfl)
  · refine Ev.neg (by omega) ?_
    have : decide (xs = ys) = false := by
      simp only [decide_eq_false_iff_not]
      intro e; exact h (by rw [e])
    rw [this]
    exact Ev.now _
def ints (i n : Nat) : List Int := (List.range' i n).map (fun q : Nat => (q : Int))
theorem indices_l0 (n : Nat) (hn : n ≤ 140737488355328) : ∀ (d i : Nat), i + d = n → Ev (fun k => fixpoint_indices.l0 k (ints 0 i ++ List.replicate d 0) (n : Int) (i : Int)) (ints 0 n)
  | 0, i, h => by
    refine Ev.some' (fun k => ?_)
    simp only [fixpoint_indices.l0]
    rw [if_neg (by omega)]
    have : i = n := by omega
    simp [this]
  | d + 1, i, h => by
    have ih := indices_l0 n hn d (i + 1) (by omega)
    have hlen : (ints 0 i).length = i := by simp [ints]
    have hset : (ints 0 i ++ List.replicate (d + 1) (0 : Int)).set ((i : Int)).toNat (i : Int) = ints 0 (i + 1) ++ List.replicate d 0 := by
      have := set_mid (ints 0 i) 0 (i : Int) (List.replicate d 0)
      rw [hlen] at this
      rw [Int.toNat_natCast, List.replicate_succ, this]
      simp [ints, List.range'_concat]
    refine Ev.stepK ih (fun k => ?_)
    simp only [fixpoint_indices.l0]
    rw [if_pos (by omega), if_pos (by omega), if_pos (by simp [hlen]; omega), hset, wrap_id (by omega) (by omega)]
    rfl
theorem indices_ev (n : Nat) (hn : n ≤ 1000) : Ev (fun k => fixpoint_indices.f k (n : Int)) (ints 0 n) := by
  unfold fixpoint_indices.f
  refine Ev.pos (by omega) (Ev.pos (by omega) ?_)
  have := indices_l0 n (by omega) n 0 (by omega)
  simpa [ints] using this

/-! One round -/
abbrev chn (rs : List (List S58)) (t : Nat) : List Int := chain S58.f0 S58.f1 rs t
abbrev Fn (rs : List (List S58)) (s : List Int) : List Int := F S58.f0 S58.f1 rs s
theorem hall_of {rs : List (List S58)} (hs : Sized rs) (hv : Vd rs) {n : Nat} (hn : n = rs.length) {l : List S58} (hl : l ∈ rs) : ∀ r ∈ l, r.f1.length ≤ 140737488355328 ∧ ∀ j ∈ r.f1, 0 ≤ j ∧ j < n :=
  fun r hr => ⟨(hs.2 l hl).2 r hr, by rw [hn]; exact (hv.2 l hl r hr).2⟩
theorem set_rd (nx : List Int) (i : Nat) (h : i < nx.length) : nx.set i (rd nx (i : Int)) = nx := by
  have : rd nx (i : Int) = nx[i] := by
    rw [rd_def, Int.toNat_natCast, List.getD_eq_getElem?_getD, List.getElem?_eq_getElem h]
    rfl
  rw [this, List.set_getElem_self]
theorem rd_set_self (nx : List Int) (i : Nat) (v : Int) (h : i < nx.length) : rd (nx.set i v) (i : Int) = v := by
  rw [rd_def, Int.toNat_natCast, List.getD_eq_getElem?_getD, List.getElem?_set_self h]
  rfl
theorem round_l2 (rs : List (List S58)) (s : List Int) (nx : List Int) (i : Nat) (l : List S58) (j : Nat) (xs : List Int) (hx : xs.length ≤ 140737488355328) (hi : i < nx.length) {r : List Int} : ∀ (t : List Int) (q : Nat) (x : Int), xs.drop q = t → (∀ j ∈ t, 0 ≤ j ∧ j < s.length) → Ev (fun k => glossatorref3_Round.l1 k s (nx.set i (Go.bits .or .i64 (rd nx (i : Int)) (dv s t x))) (i : Int) rs (rs.length : Int) (i : Int) l (l.length : Int) (wrap64 ((j : Int) + 1))) r →
    Ev (fun k => glossatorref3_Round.l2 k s nx (i : Int) x rs (rs.length : Int) (i : Int) l (l.length : Int) (j : Int) xs (xs.length : Int) (q : Int)) r
  | [], q, x, h, _, hr => by
    have := drop_nil h
    refine Ev.stepK hr (fun k => ?_)
    simp only [glossatorref3_Round.l2]
    rw [if_neg (by omega), if_pos (by omega), if_pos (by omega)]
    rfl
  | y :: t, q, x, h, hj, hr => by
    obtain ⟨g1, g2, g3, g4⟩ := drop_cons h
    have e : rd xs (q : Int) = y := g3 0
    have hj0 := hj y (by simp)
    refine Ev.stepK (round_l2 rs s nx i l j xs hx hi t (q + 1) (Go.bits .and .i64 x (rd s y)) g2 (fun z hz => hj z (by simp [hz])) hr) (fun k => ?_)
    simp only [glossatorref3_Round.l2]
    rw [if_pos (by omega), if_pos (by omega), if_pos (by omega), e, if_pos (by omega), if_pos (by omega), wrap_id (by omega) (by omega)]
    rfl
theorem round_l1 (rs : List (List S58)) (s : List Int) (i : Nat) (l : List S58) (hl : l.length ≤ 140737488355328) (hall : ∀ r ∈ l, r.f1.length ≤ 140737488355328 ∧ ∀ j ∈ r.f1, 0 ≤ j ∧ j < s.length) {r : List Int} : ∀ (t : List S58) (j : Nat) (nx : List Int), l.drop j = t → i < nx.length → Ev (fun k => glossatorref3_Round.l0 k s (nx.set i (daS s t (rd nx (i : Int)))) rs (rs.length : Int) (wrap64 ((i : Int) + 1))) r →
    Ev (fun k => glossatorref3_Round.l1 k s nx (i : Int) rs (rs.length : Int) (i : Int) l (l.length : Int) (j : Int)) r
  | [], j, nx, h, hi, hr => by
    have := drop_nil h
    have e : nx.set i (daS s [] (rd nx (i : Int))) = nx := set_rd nx i hi
    rw [e] at hr
    refine Ev.stepK hr (fun k => ?_)
    simp only [glossatorref3_Round.l1]
    rw [if_neg (by omega)]
  | x :: t, j, nx, h, hi, hr => by
    obtain ⟨g1, g2, g3, g4⟩ := drop_cons h
    have e : rd_T58 l (j : Int) = x := g3 _
    have hx := hall x g4
    have ih := round_l1 rs s i l hl hall t (j + 1) (nx.set i (Go.bits .or .i64 (rd nx (i : Int)) (dv s x.f1 x.f0))) g2 (by rw [List.length_set]; exact hi) (by
      rw [rd_set_self nx i _ hi, List.set_set]
      exact hr)
    refine Ev.stepK (round_l2 rs s nx i l j x.f1 hx.1 hi x.f1 0 x.f0 rfl hx.2 (by rw [wrap_id (by omega) (by omega)]; exact ih)) (fun k => ?_)
    simp only [glossatorref3_Round.l1]
    rw [if_pos (by omega), if_pos (by omega), if_pos (by omega), e]
    rfl
theorem round_l0 (rs : List (List S58)) (hs : Sized rs) (hv : Vd rs) (s : List Int) (hl : s.length = rs.length) : ∀ (t : List (List S58)) (i : Nat) (pre : List Int), rs.drop i = t → pre.length = i → Ev (fun k => glossatorref3_Round.l0 k s (pre ++ List.replicate t.length 0) rs (rs.length : Int) (i : Int)) (pre ++ t.map (fun l => daS s l 0))
  | [], i, pre, h, _ => by
    have := drop_nil h
    refine Ev.some' (fun k => ?_)
    simp only [glossatorref3_Round.l0]
    rw [if_neg (by omega)]
    rfl
  | l :: t, i, pre, h, hp => by
    have hb := hs.1
    obtain ⟨g1, g2, g3, g4⟩ := drop_cons h
    have e : rd_L3 rs (i : Int) = l := g3 _
    have ih := round_l0 rs hs hv s hl t (i + 1) (pre ++ [daS s l 0]) g2 (by simp [hp])
    have h0 : rd (pre ++ List.replicate (l :: t).length 0) (i : Int) = 0 := by rw [← hp, List.length_cons, List.replicate_succ, rd_mid]
    have hset : (pre ++ List.replicate (l :: t).length (0 : Int)).set i (daS s l 0) = (pre ++ [daS s l 0]) ++ List.replicate t.length 0 := by
      rw [← hp, List.length_cons, List.replicate_succ, set_mid]
      simp
    refine Ev.stepK (round_l1 rs s i l (hs.2 l g4).1 (hall_of hs hv hl g4) l 0 (pre ++ List.replicate (l :: t).length 0) rfl (by simp [hp]) (r := pre ++ (l :: t).map (fun l => daS s l 0)) (by
      rw [h0, hset, wrap_id (by omega) (by omega)]
      have e2 : pre ++ (l :: t).map (fun l => daS s l 0) = (pre ++ [daS s l 0]) ++ t.map (fun l => daS s l 0) := by simp
      rw [e2]
      exact ih)) (fun k => ?_)
    simp only [glossatorref3_Round.l0]
    rw [if_pos (by omega), if_pos (by omega), if_pos (by omega), e]
    rfl
theorem round_ev (rs : List (List S58)) (hs : Sized rs) (hv : Vd rs) (s : List Int) (hl : s.length = rs.length) : Ev (fun k => glossatorref3_Round.f k rs s) (Fn rs s) := by
  have h60 := hv.1
  unfold glossatorref3_Round.f
  refine Ev.pos (by omega) (Ev.pos (by omega) ?_)
  have := round_l0 rs hs hv s hl rs 0 [] rfl rfl
  exact this
theorem chn_len {rs : List (List S58)} (t : Nat) : (chn rs t).length = rs.length := chain_len rs t
theorem kleene_l0 (rs : List (List S58)) (hs : Sized rs) (hv : Vd rs) (M : Nat) (h1 : chn rs (M + 1) = chn rs M) (h2 : ∀ t, t < M → chn rs (t + 1) ≠ chn rs t) (hM : M ≤ 62914560) : ∀ (d t : Nat), t + d = M → Ev (fun k => glossatorref3_Kleene.l0 k rs (chn rs t) (t : Int)) (chn rs M, (M : Int))
  | 0, t, h => by
    obtain rfl : t = M := by omega
    have h60 := hv.1
    refine Ev.step (f := fun k => (glossatorref3_Round.f k rs (chn rs t)).bind fun t224 => ((glossatorref3_Equal_int.f k t224 (chn rs t)).bind fun t227 => (if t227 = true then (some (chn rs t, (t : Int))) else (glossatorref3_Kleene.l0 k rs t224 (wrap64 ((t : Int) + 1)))))) (fun k => by simp only [glossatorref3_Kleene.l0]) ?_
    refine Ev.bind (round_ev rs hs hv _ (chn_len t)) (Ev.bind (refEqual_ev (Fn rs (chn rs t)) (chn rs t) (by rw [F_len]; omega)) ?_)
    have : decide (Fn rs (chn rs t) = chn rs t) = true := decide_eq_true h1
    rw [this]
    exact Ev.now _
  | d + 1, t, h => by
    have h60 := hv.1
    have ih := kleene_l0 rs hs hv M h1 h2 hM d (t + 1) (by omega)
    refine Ev.step (f := fun k => (glossatorref3_Round.f k rs (chn rs t)).bind fun t224 => ((glossatorref3_Equal_int.f k t224 (chn rs t)).bind fun t227 => (if t227 = true then (some (chn rs t, (t : Int))) else (glossatorref3_Kleene.l0 k rs t224 (wrap64 ((t : Int) + 1)))))) (fun k => by simp only [glossatorref3_Kleene.l0]) ?_
    refine Ev.bind (round_ev rs hs hv _ (chn_len t)) (Ev.bind (refEqual_ev (Fn rs (chn rs t)) (chn rs t) (by rw [F_len]; omega)) ?_)
    have : decide (Fn rs (chn rs t) = chn rs t) = false := decide_eq_false (h2 t (by omega))
    rw [this, wrap_id (by omega) (by omega)]
    exact ih
theorem kleene_ev (rs : List (List S58)) (hs : Sized rs) (hv : Vd rs) (M : Nat) (h1 : chn rs (M + 1) = chn rs M) (h2 : ∀ t, t < M → chn rs (t + 1) ≠ chn rs t) (hM : M ≤ 62914560) : Ev (fun k => glossatorref3_Kleene.f k rs) (chn rs M, (M : Int)) := by
  have h60 := hv.1
  unfold glossatorref3_Kleene.f
  exact Ev.pos (by omega) (Ev.pos (by omega) (kleene_l0 rs hs hv M h1 h2 hM M 0 (by omega)))
theorem rounds_l1 (rs : List (List S58)) (hs : Sized rs) (hv : Vd rs) (s : List Int) (n : Int) (hl : s.length = rs.length) {r : Int × Int} (hc : Ev (fun k => (slices_Equal_int_int.f k (Fn rs s) s).bind fun t178 => (if t178 = true then (some (n, 0)) else (fixpoint_Rounds.l0 k rs (Fn rs s) (wrap64 (n + 1))))) r) : ∀ (t : List (List S58)) (i : Nat) (pre : List Int), rs.drop i = t → pre.length = i → pre ++ t.map (fun l => daS s l 0) = Fn rs s → Ev (fun k => fixpoint_Rounds.l1 k rs s n (pre ++ List.replicate t.length 0) rs (rs.length : Int) (i : Int)) r
  | [], i, pre, h, _, hF => by
    have := drop_nil h
    have e : pre ++ List.replicate ([] : List (List S58)).length (0 : Int) = Fn rs s := by rw [← hF]; rfl
    refine Ev.step (f := _) (fun k => ?_) hc
    rw [e]
    simp only [fixpoint_Rounds.l1]
    rw [if_neg (by omega)]
  | l :: t, i, pre, h, hp, hF => by
    have hb := hs.1
    obtain ⟨g1, g2, g3, g4⟩ := drop_cons h
    have e : rd_L3 rs (i : Int) = l := g3 _
    have ih := rounds_l1 rs hs hv s n hl hc t (i + 1) (pre ++ [daS s l 0]) g2 (by simp [hp]) (by rw [← hF]; simp)
    have hset : (pre ++ List.replicate (l :: t).length (0 : Int)).set i (daS s l 0) = (pre ++ [daS s l 0]) ++ List.replicate t.length 0 := by
      rw [← hp, List.length_cons, List.replicate_succ, set_mid]
      simp
    have hlen : (i : Int) < ((pre ++ List.replicate (l :: t).length (0 : Int)).length : Int) := by simp [hp]; omega
    generalize hnx : pre ++ List.replicate (l :: t).length (0 : Int) = nx at hset hlen ⊢
    refine Ev.step (f := fun k => (fixpoint_deriveAll.f k l s).bind fun t176 => (if (i : Int) < (nx.length : Int) then (fixpoint_Rounds.l1 k rs s n (nx.set ((i : Int)).toNat t176) rs (rs.length : Int) (wrap64 ((i : Int) + 1))) else none)) (fun k => ?_) (Ev.bind (deriveAll_ev s l (hs.2 l g4).1 (hall_of hs hv hl g4)) ?_)
    · simp only [fixpoint_Rounds.l1]
      rw [if_pos (by omega), if_pos (by omega), if_pos (by omega), e]
    · refine Ev.pos hlen ?_
      rw [Int.toNat_natCast, hset, wrap_id (by omega) (by omega)]
      exact ih
theorem rounds_l0 (rs : List (List S58)) (hs : Sized rs) (hv : Vd rs) (M : Nat) (h1 : chn rs (M + 1) = chn rs M) (h2 : ∀ t, t < M → chn rs (t + 1) ≠ chn rs t) (hM : M ≤ 62914560) : ∀ (d t : Nat), t + d = M → Ev (fun k => fixpoint_Rounds.l0 k rs (chn rs t) (t : Int)) ((M : Int), 0)
  | d, t, h => by
    have h60 := hv.1
    have main : Ev (fun k => fixpoint_Rounds.l1 k rs (chn rs t) (t : Int) ([] ++ List.replicate rs.length 0) rs (rs.length : Int) ((0 : Nat) : Int)) ((M : Int), 0) := by
      refine rounds_l1 rs hs hv (chn rs t) (t : Int) (chn_len t) (Ev.bind (equal_ev (Fn rs (chn rs t)) (chn rs t) (by rw [F_len]; omega)) ?_) rs 0 [] rfl rfl rfl
      cases d with
      | zero =>
        obtain rfl : t = M := by omega
        have : decide (Fn rs (chn rs t) = chn rs t) = true := decide_eq_true h1
        rw [this]
        exact Ev.now _
      | succ d =>
        have ih := rounds_l0 rs hs hv M h1 h2 hM d (t + 1) (by omega)
        have : decide (Fn rs (chn rs t) = chn rs t) = false := decide_eq_false (h2 t (by omega))
        rw [this, wrap_id (by omega) (by omega)]
        exact ih
    refine Ev.stepK main (fun k => ?_)
    simp only [fixpoint_Rounds.l0]
    rw [if_pos (by omega), if_pos (by omega)]
    rfl
theorem rounds_ev (rs : List (List S58)) (hs : Sized rs) (hc : chk rs = 0) (M : Nat) (h1 : chn rs (M + 1) = chn rs M) (h2 : ∀ t, t < M → chn rs (t + 1) ≠ chn rs t) (hM : M ≤ 62914560) : Ev (fun k => fixpoint_Rounds.f k rs) ((M : Int), 0) := by
  have hv := chk_ok hc
  have h60 := hv.1
  unfold fixpoint_Rounds.f
  refine Ev.bind (check_ev rs hs) ?_
  rw [hc]
  exact Ev.pos rfl (Ev.pos (by omega) (Ev.pos (by omega) (rounds_l0 rs hs hv M h1 h2 hM M 0 (by omega))))
theorem rounds_bad (rs : List (List S58)) (hs : Sized rs) (hc : chk rs ≠ 0) : Ev (fun k => fixpoint_Rounds.f k rs) (0, chk rs) := by
  unfold fixpoint_Rounds.f
  exact Ev.bind (check_ev rs hs) (Ev.neg hc (Ev.now _))

/-! The work list -/
theorem prop_l4 (rs : List (List S58)) (h60 : rs.length ≤ 60) (s : List Int) (R : List (List Int)) (row : List Int) (hrow : row.length ≤ 140737488355328) {r : List Int} : ∀ (t : List Int) (q : Nat) (p : List Int), row.drop q = t → (∀ x ∈ t, 0 ≤ x ∧ x < rs.length) → p.Nodup → (∀ x ∈ p, 0 ≤ x ∧ x < rs.length) → Ev (fun k => fixpoint_propagate.l3 k rs s (push p t) R) r →
    Ev (fun k => fixpoint_propagate.l4 k rs s p R row (row.length : Int) (q : Int)) r
  | [], q, p, h, _, _, _, hr => by
    have := drop_nil h
    refine Ev.stepK hr (fun k => ?_)
    simp only [fixpoint_propagate.l4]
    rw [if_neg (by omega)]
    rfl
  | x :: t, q, p, h, hx, hn, hp, hr => by
    obtain ⟨g1, g2, g3, g4⟩ := drop_cons h
    have e : rd row (q : Int) = x := g3 0
    have hlen := short rs.length p hn hp
    have hpush : push p (x :: t) = push (if x ∈ p then p else p ++ [x]) t := rfl
    refine Ev.step (f := fun k => (slices_Contains_int_int.f k p x).bind fun t150 => (if t150 = true then (fixpoint_propagate.l4 k rs s p R row (row.length : Int) (wrap64 ((q : Int) + 1))) else (if p.length < 17592186044416 then (fixpoint_propagate.l4 k rs s (p ++ [x]) R row (row.length : Int) (wrap64 ((q : Int) + 1))) else (none)))) (fun k => ?_) (Ev.bind (contains_ev p (by omega) x) ?_)
    · simp only [fixpoint_propagate.l4]
      rw [if_pos (by omega), if_pos (by omega), if_pos (by omega), e]
    · rw [wrap_id (by omega) (by omega)]
      by_cases c : x ∈ p
      · rw [hpush, if_pos c] at hr
        refine Ev.pos (decide_eq_true c) ?_
        exact prop_l4 rs h60 s R row hrow t (q + 1) p g2 (fun y hy => hx y (by simp [hy])) hn hp hr
      · rw [hpush, if_neg c] at hr
        refine Ev.neg (by simp [c]) (Ev.pos (by omega) ?_)
        refine prop_l4 rs h60 s R row hrow t (q + 1) (p ++ [x]) g2 (fun y hy => hx y (by simp [hy])) (nodup_snoc hn c) (fun y hy => ?_) hr
        rcases List.mem_append.1 hy with h1 | h1
        · exact hp y h1
        · rw [List.mem_singleton.1 h1]; exact hx x (by simp)
theorem prop_l3 (rs : List (List S58)) (hs : Sized rs) (hv : Vd rs) (M : Nat) (hM : chn rs (M + 1) = chn rs M) (R : List (List Int)) (hR : RdGood rs.length R) (hc : ∀ q, q < rs.length → ∀ r ∈ at_ rs (q : Int), ∀ j ∈ r.f1, Has R (q : Int) j) :
    ∀ (N : Nat) (s p : List Int), Inv S58.f0 S58.f1 rs (chn rs M) s p → (rs.length * 1048576 - total s) * 100 + p.length ≤ N → Ev (fun k => fixpoint_propagate.l3 k rs s p R) (chn rs M) := by
  intro N
  induction N with
  | zero =>
    intro s p h hN
    cases p with
    | nil =>
      rw [h.ends hv rfl]
      exact Ev.some' (fun k => by simp only [fixpoint_propagate.l3]; rw [if_neg (by simp)])
    | cons i p => simp at hN
  | succ N ih =>
    intro s p h hN
    cases p with
    | nil =>
      rw [h.ends hv rfl]
      exact Ev.some' (fun k => by simp only [fixpoint_propagate.l3]; rw [if_neg (by simp)])
    | cons i p =>
      have hi := h.rng i (by simp)
      have h60 := hv.1
      have hl : rd_L3 rs i = at_ rs i := rfl
      have hmem : at_ rs i ∈ rs := by
        unfold at_
        rw [List.getD_eq_getElem?_getD, List.getElem?_eq_getElem (by omega)]
        exact List.getElem_mem _
      have hd : Ev (fun k => fixpoint_deriveAll.f k (at_ rs i) s) (der S58.f0 S58.f1 rs s i) := deriveAll_ev s _ (hs.2 _ hmem).1 (hall_of hs hv h.len hmem)
      have hsl := h.len
      have hRl := hR.1
      refine Ev.step (f := fun k => (fixpoint_deriveAll.f k (at_ rs i) s).bind fun t145 => (if (Go.bits .or .i64 (rd s i) t145) = (rd s i) then (fixpoint_propagate.l3 k rs s p R) else (if i < (R.length : Int) then (fixpoint_propagate.l4 k rs (s.set (i : Int).toNat (Go.bits .or .i64 (rd s i) t145)) p R (rd_L1 R i) ((rd_L1 R i).length : Int) 0) else (none)))) (fun k => ?_) (Ev.bind hd ?_)
      · have e0 : rd (i :: p) 0 = i := rfl
        simp only [fixpoint_propagate.l3]
        rw [if_pos (by simp only [List.length_cons]; omega), if_pos (by simp only [List.length_cons]; omega), if_pos (by simp only [List.length_cons]; omega)]
        simp only [Option.bind_some, e0]
        rw [if_pos (by omega), if_pos (by omega), if_pos (by omega)]
        rfl
      · by_cases e : Go.bits .or .i64 (rd s i) (der S58.f0 S58.f1 rs s i) = rd s i
        · refine Ev.pos e (ih s p (h.skip hv e) ?_)
          simp only [List.length_cons] at hN
          omega
        · refine Ev.neg e (Ev.pos (by omega) ?_)
          have row := rdgood_row hR i
          have hrl := short rs.length _ row.1 row.2
          have g := h.grow hv (L := chn rs M) (fun q => by
            have := rd_F (m := S58.f0) (a := S58.f1) rs (chn rs M) q
            rw [← this]
            have e2 : F S58.f0 S58.f1 rs (chn rs M) = chn rs M := hM
            rw [e2]
            exact sub_refl _) (chain_small hv M) hR hc
          have tt := h.total hv e
          have hrow : rd_L1 R i = R.getD i.toNat [] := rfl
          rw [hrow]
          have b := total_le _ g.sm
          have gl := g.len
          have pl := short rs.length _ g.nd g.rng
          refine prop_l4 rs h60 _ R (R.getD i.toNat []) (by omega) (R.getD i.toNat []) 0 p rfl row.2 (List.nodup_cons.1 h.nd).2 (fun x hx => h.rng x (by simp [hx])) (ih _ _ g ?_)
          rw [gl] at b
          simp only [List.length_cons] at hN
          omega
theorem prop_l2 (rs : List (List S58)) (h60 : rs.length ≤ 60) (s p : List Int) (i : Nat) (hi : i < rs.length) (l : List S58) (j : Nat) (xs : List Int) (hx : xs.length ≤ 140737488355328) {r : List Int} : ∀ (t : List Int) (q : Nat) (R : List (List Int)), xs.drop q = t → (∀ x ∈ t, 0 ≤ x ∧ x < rs.length) → RdGood rs.length R → Ev (fun k => fixpoint_propagate.l1 k rs s p (tells R (i : Int) t) (i : Int) rs (rs.length : Int) (i : Int) l (l.length : Int) (wrap64 ((j : Int) + 1))) r →
    Ev (fun k => fixpoint_propagate.l2 k rs s p R (i : Int) rs (rs.length : Int) (i : Int) l (l.length : Int) (j : Int) xs (xs.length : Int) (q : Int)) r
  | [], q, R, h, _, _, hr => by
    have := drop_nil h
    refine Ev.stepK hr (fun k => ?_)
    simp only [fixpoint_propagate.l2]
    rw [if_neg (by omega)]
    rfl
  | x :: t, q, R, h, ht, hR, hr => by
    obtain ⟨g1, g2, g3, g4⟩ := drop_cons h
    have e : rd xs (q : Int) = x := g3 0
    have hx0 := ht x (by simp)
    have row := rdgood_row hR x
    have hlen := short rs.length _ row.1 row.2
    have hRl := hR.1
    have ih := prop_l2 rs h60 s p i hi l j xs hx t (q + 1) (tell R (i : Int) x) g2 (fun y hy => ht y (by simp [hy])) (tell_good hR (by omega)) hr
    refine Ev.step (f := fun k => (slices_Contains_int_int.f k (R.getD x.toNat []) (i : Int)).bind fun t133 => (if t133 = true then (fixpoint_propagate.l2 k rs s p R (i : Int) rs (rs.length : Int) (i : Int) l (l.length : Int) (j : Int) xs (xs.length : Int) (wrap64 ((q : Int) + 1))) else (if (R.getD x.toNat []).length < 17592186044416 then (fixpoint_propagate.l2 k rs s p (R.set x.toNat (R.getD x.toNat [] ++ [(i : Int)])) (i : Int) rs (rs.length : Int) (i : Int) l (l.length : Int) (j : Int) xs (xs.length : Int) (wrap64 ((q : Int) + 1))) else (none)))) (fun k => ?_) (Ev.bind (contains_ev _ (by omega) _) ?_)
    · simp only [fixpoint_propagate.l2]
      rw [if_pos (by omega), if_pos (by omega), if_pos (by omega), e, if_pos (by omega), if_pos (by omega)]
      rfl
    · rw [wrap_id (by omega) (by omega)]
      by_cases c : (i : Int) ∈ R.getD x.toNat []
      · refine Ev.pos (decide_eq_true c) ?_
        unfold tell at ih
        rw [if_pos c] at ih
        exact ih
      · refine Ev.neg (by simp only [decide_eq_true_eq]; exact c) (Ev.pos (by omega) ?_)
        unfold tell at ih
        rw [if_neg c] at ih
        exact ih
theorem prop_l1 (rs : List (List S58)) (h60 : rs.length ≤ 60) (s p : List Int) (i : Nat) (hi : i < rs.length) (l : List S58) (hl : l.length ≤ 140737488355328) (hall : ∀ r ∈ l, r.f1.length ≤ 140737488355328 ∧ ∀ j ∈ r.f1, 0 ≤ j ∧ j < rs.length) {r : List Int} : ∀ (t : List S58) (j : Nat) (R : List (List Int)), l.drop j = t → RdGood rs.length R → Ev (fun k => fixpoint_propagate.l0 k rs s p (tellAll S58.f1 R (i : Int) t) rs (rs.length : Int) (wrap64 ((i : Int) + 1))) r →
    Ev (fun k => fixpoint_propagate.l1 k rs s p R (i : Int) rs (rs.length : Int) (i : Int) l (l.length : Int) (j : Int)) r
  | [], j, R, h, _, hr => by
    have := drop_nil h
    refine Ev.stepK hr (fun k => ?_)
    simp only [fixpoint_propagate.l1]
    rw [if_neg (by omega)]
    rfl
  | x :: t, j, R, h, hR, hr => by
    obtain ⟨g1, g2, g3, g4⟩ := drop_cons h
    have e : rd_T58 l (j : Int) = x := g3 _
    have hx := hall x g4
    have ih := prop_l1 rs h60 s p i hi l hl hall t (j + 1) (tells R (i : Int) x.f1) g2 (tells_good (by omega) _ _ hR) hr
    refine Ev.stepK (prop_l2 rs h60 s p i hi l j x.f1 hx.1 x.f1 0 R rfl hx.2 hR (by rw [wrap_id (by omega) (by omega)]; exact ih)) (fun k => ?_)
    simp only [fixpoint_propagate.l1]
    rw [if_pos (by omega), if_pos (by omega), if_pos (by omega), e]
    rfl
theorem prop_l0 (rs : List (List S58)) (hs : Sized rs) (hv : Vd rs) (s p : List Int) {r : List Int} : ∀ (t : List (List S58)) (i : Nat) (R : List (List Int)), rs.drop i = t → RdGood rs.length R → Ev (fun k => fixpoint_propagate.l3 k rs s p (readers S58.f1 R i t)) r →
    Ev (fun k => fixpoint_propagate.l0 k rs s p R rs (rs.length : Int) (i : Int)) r
  | [], i, R, h, _, hr => by
    have := drop_nil h
    refine Ev.stepK hr (fun k => ?_)
    simp only [fixpoint_propagate.l0]
    rw [if_neg (by omega)]
    rfl
  | l :: t, i, R, h, hR, hr => by
    have hb := hs.1
    obtain ⟨g1, g2, g3, g4⟩ := drop_cons h
    have e : rd_L3 rs (i : Int) = l := g3 _
    have ih := prop_l0 rs hs hv s p t (i + 1) (tellAll S58.f1 R (i : Int) l) g2 (tellAll_good (by omega) _ _ hR) hr
    refine Ev.stepK (prop_l1 rs hv.1 s p i g1 l (hs.2 l g4).1 (hall_of hs hv rfl g4) l 0 R rfl hR (by rw [wrap_id (by omega) (by omega)]; exact ih)) (fun k => ?_)
    simp only [fixpoint_propagate.l0]
    rw [if_pos (by omega), if_pos (by omega), if_pos (by omega), e]
    rfl
theorem empty_good (n : Nat) : RdGood n (List.replicate n []) := ⟨by simp, fun row h => by rw [List.eq_of_mem_replicate h]; simp⟩
theorem propagate_ev (rs : List (List S58)) (hs : Sized rs) (hv : Vd rs) (M : Nat) (hM : chn rs (M + 1) = chn rs M) (s p : List Int) (h : Inv S58.f0 S58.f1 rs (chn rs M) s p) : Ev (fun k => fixpoint_propagate.f k rs s p) (chn rs M) := by
  have h60 := hv.1
  unfold fixpoint_propagate.f
  refine Ev.pos (by omega) (Ev.pos (by omega) ?_)
  have hg := empty_good rs.length
  refine prop_l0 rs hs hv s p rs 0 (List.replicate rs.length []) rfl hg ?_
  have hG : RdGood rs.length (readers S58.f1 (List.replicate rs.length []) 0 rs) := readers_good rs 0 _ hg (by omega)
  refine prop_l3 rs hs hv M hM _ hG (fun q hq r hr j hj => ?_) _ s p h (Nat.le_refl _)
  have := readers_does (a := S58.f1) rs 0 (List.replicate rs.length []) hg (by omega) (fun l hl r hr j hj => (hv.2 l hl r hr).2 j hj) q hq r (by simpa [at_] using hr) j hj
  rw [Nat.zero_add] at this
  exact this
theorem least_ev (rs : List (List S58)) (hs : Sized rs) (hc : chk rs = 0) (M : Nat) (hM : chn rs (M + 1) = chn rs M) : Ev (fun k => fixpoint_Least.f k rs) (chn rs M, 0) := by
  have hv := chk_ok hc
  have h60 := hv.1
  unfold fixpoint_Least.f
  refine Ev.bind (check_ev rs hs) ?_
  rw [hc]
  refine Ev.pos rfl (Ev.pos (by omega) (Ev.pos (by omega) (Ev.bind (indices_ev rs.length (by omega)) (Ev.bind (propagate_ev rs hs hv M hM _ _ ?_) (Ev.now _)))))
  have hmem : ∀ x : Int, x ∈ ints 0 rs.length ↔ 0 ≤ x ∧ x < rs.length := by
    intro x
    simp only [ints, List.mem_map, List.mem_range'_1]
    constructor
    · rintro ⟨a, ha, rfl⟩; omega
    · intro h; exact ⟨x.toNat, by omega, by omega⟩
  refine ⟨by simp, zero_small rs, fun i => ?_, ?_, fun x hx => (hmem x).1 hx, fun i h0 h1 hn => absurd ((hmem i).2 ⟨h0, h1⟩) hn⟩
  · have := rd_zero rs i
    unfold zero at this
    rw [Int.toNat_natCast, this]
    exact sub0 _
  · unfold ints
    rw [List.nodup_iff_pairwise_ne, List.pairwise_map]
    refine List.Pairwise.imp ?_ (List.nodup_range' (s := 0) (n := rs.length))
    intro a b hab e
    exact hab (by omega)
theorem least_bad (rs : List (List S58)) (hs : Sized rs) (hc : chk rs ≠ 0) : Ev (fun k => fixpoint_Least.f k rs) ([], chk rs) := by
  unfold fixpoint_Least.f
  exact Ev.bind (check_ev rs hs) (Ev.neg hc (Ev.now _))
end Go.Proofs.Ytglckkkjfcomlaa.PrFixpointProofs

/-
  The pure statement of ProgressSplit: Split gives the reference's chunks and Percentages the reference's reports, or both give the documented error.
-/
import Derived.Test.YtbfedkmiekbcmaaSProgressSplit
import Derived.Test.YtbfedkmiekbcmaaAid
namespace Go.Proofs.Ytbfedkmiekbcmaa.PrProgressSplit
open Go.RowKit Go.Proofs.YtbfedkmiekbcmaaW.PrintWords Go.Proofs.YtbfedkmiekbcmaaW.PrintLast Go.Proofs.YtbfedkmiekbcmaaW.PrintMore Go.Proofs.Ytbfedkmiekbcmaa.QProgressSplit Go.Proofs.Ytbfedkmiekbcmaa.Aid Go.Proofs.Ytbfedkmiekbcmaa.Hand
set_option linter.unusedSimpArgs false
set_option linter.unusedVariables false

theorem drop_cons {α : Type} {xs t : List α} {x : α} {i : Nat} (h : xs.drop i = x :: t) : i < xs.length ∧ xs.drop (i + 1) = t ∧ (∀ d, xs.getD ((i : Int)).toNat d = x) := by
  have hl : i < xs.length := by
    rcases Nat.lt_or_ge i xs.length with h1 | h1
    · exact h1
    · rw [List.drop_eq_nil_of_le h1] at h; cases h
  rw [List.drop_eq_getElem_cons hl] at h
  injection h with h1 h2
  refine ⟨hl, h2, fun d => ?_⟩
  rw [Int.toNat_natCast, List.getD_eq_getElem?_getD, List.getElem?_eq_getElem hl]
  exact h1
theorem drop_nil {α : Type} {xs : List α} {i : Nat} (h : xs.drop i = []) : xs.length ≤ i := by simpa using h

/-! Equal rows -/
theorem eq_ev (xs : List Int) (hx : xs.length ≤ 140737488355328) : ∀ (t : List Int) (i : Nat), xs.drop i = t → Ev (fun k => glossatorref3_Equal_int.l0 k xs xs (xs.length : Int) (i : Int)) true
  | [], i, h => by
    have := drop_nil h
    exact Ev.some' (fun k => by simp only [glossatorref3_Equal_int.l0]; rw [if_neg (by omega)])
  | x :: t, i, h => by
    obtain ⟨h1, h2, h3⟩ := drop_cons h
    refine Ev.stepK (eq_ev xs hx t (i + 1) h2) (fun k => ?_)
    simp only [glossatorref3_Equal_int.l0]
    rw [if_pos (by omega), if_pos (by omega), if_pos (by omega), if_pos (by omega), if_pos trivial, wrap_id (by omega) (by omega)]
    rfl
theorem equal_ev (xs : List Int) (hx : xs.length ≤ 140737488355328) : Ev (fun k => glossatorref3_Equal_int.f k xs xs) true :=
  Ev.same (eq_ev xs hx xs 0 rfl) (fun k => by unfold glossatorref3_Equal_int.f; rw [if_pos rfl]; rfl)
theorem chunks_l0 (xs : List S85) (hx : xs.length ≤ 140737488355328) (hi : ∀ c ∈ xs, c.f3.length ≤ 140737488355328) : ∀ (t : List S85) (i : Nat), xs.drop i = t → Ev (fun k => glossatorref3_EqualChunks.l0 k xs xs (xs.length : Int) (i : Int)) true
  | [], i, h => by
    have := drop_nil h
    exact Ev.some' (fun k => by simp only [glossatorref3_EqualChunks.l0]; rw [if_neg (by omega)])
  | x :: t, i, h => by
    obtain ⟨h1, h2, h3⟩ := drop_cons h
    have e : rd_T85 xs (i : Int) = x := h3 _
    have hm : x ∈ xs := by
      have : x ∈ xs.drop i := by rw [h]; exact List.mem_cons_self
      exact List.mem_of_mem_drop this
    refine Ev.step (f := fun k => (glossatorref3_Equal_int.f k x.f3 x.f3).bind fun t143 => (if t143 = true then (glossatorref3_EqualChunks.l0 k xs xs (xs.length : Int) (wrap64 ((i : Int) + 1))) else (some false))) (fun k => ?_) ?_
    · simp only [glossatorref3_EqualChunks.l0]
      rw [if_pos (by omega), if_pos (by omega), if_pos (by omega), if_pos (by omega), if_pos trivial, if_pos trivial, if_neg (by simp), e]
    · refine Ev.bind (equal_ev x.f3 (hi x hm)) (Ev.pos rfl ?_)
      rw [wrap_id (by omega) (by omega)]
      exact chunks_l0 xs hx hi t (i + 1) h2
theorem chunks_ev (xs : List S85) (hx : xs.length ≤ 140737488355328) (hi : ∀ c ∈ xs, c.f3.length ≤ 140737488355328) : Ev (fun k => glossatorref3_EqualChunks.f k xs xs) true :=
  Ev.same (chunks_l0 xs hx hi xs 0 rfl) (fun k => by unfold glossatorref3_EqualChunks.f; rw [if_pos rfl]; rfl)

/-! Split -/
def chain (a0 : Int) (l1 : List Int) (s : Nat) : Nat → Nat → Nat → List S85
  | 0, _, _ => []
  | d + 1, i, c => if i + s < l1.length then ⟨a0, (c : Int), false, (l1.drop i).take s⟩ :: chain a0 l1 s d (i + s) (c + 1) else [⟨a0, (c : Int), true, (l1.drop i).take (min s (l1.length - i))⟩]
theorem setLast_snoc (xs : List S85) (x : S85) : setLast (xs ++ [x]) = xs ++ [{ x with f2 := true }] := by
  unfold setLast
  have e : (xs ++ [x]).length - 1 = xs.length := by simp
  rw [e]
  have e2 : (xs ++ [x]).getD xs.length z85 = x := by simp [List.getD_eq_getElem?_getD]
  rw [e2]
  simp
theorem chain_eq (a0 : Int) (l1 : List Int) (s : Nat) (hs : 1 ≤ s) : ∀ (d i : Nat) (ps : List (Nat × Nat)), i < l1.length → l1.length - i ≤ d →
    setLast (splitN a0 l1 (ps ++ cuts s l1.length d i)) = splitN a0 l1 ps ++ chain a0 l1 s d i ps.length
  | 0, i, ps, h1, h2 => by omega
  | d + 1, i, ps, h1, h2 => by
    rw [cuts, if_pos h1, chain]
    by_cases c : i + s < l1.length
    · rw [if_pos c]
      have h := chain_eq a0 l1 s hs d (i + s) (ps ++ [(i, min s (l1.length - i))]) c (by omega)
      rw [List.append_assoc] at h
      rw [show (ps ++ (i, min s (l1.length - i)) :: cuts s l1.length d (i + s)) = ps ++ ([(i, min s (l1.length - i))] ++ cuts s l1.length d (i + s)) from rfl, h, splitN_snoc, List.append_assoc]
      have e : min s (l1.length - i) = s := by omega
      rw [List.length_append, List.length_singleton, e]
      rfl
    · rw [if_neg c, cuts_end _ _ _ _ (by omega)]
      rw [show (ps ++ [(i, min s (l1.length - i))]) = ps ++ [(i, min s (l1.length - i))] from rfl, splitN_snoc, setLast_snoc]
      rfl
theorem chain_len (a0 : Int) (l1 : List Int) (s : Nat) : ∀ (d i c : Nat), (chain a0 l1 s d i c).length ≤ d
  | 0, _, _ => by simp [chain]
  | d + 1, i, c => by
    unfold chain
    split
    · have := chain_len a0 l1 s d (i + s) (c + 1)
      simp; omega
    · simp
theorem chain_items (a0 : Int) (l1 : List Int) (s : Nat) : ∀ (d i c : Nat), ∀ x ∈ chain a0 l1 s d i c, x.f3.length ≤ l1.length
  | 0, _, _, x, hx => by simp [chain] at hx
  | d + 1, i, c, x, hx => by
    unfold chain at hx
    split at hx
    · rcases List.mem_cons.1 hx with rfl | hx
      · simp; omega
      · exact chain_items a0 l1 s d (i + s) (c + 1) x hx
    · rw [List.mem_singleton] at hx
      subst hx
      simp; omega
theorem ref_l0 (a0 a2 : Int) (l1 : List Int) (hl : l1.length ≤ 1000) (h1 : 1 ≤ a2) : ∀ (d i : Nat) (pre : List S85), pre.length ≤ i → i ≤ l1.length → l1.length - i ≤ d → 1 ≤ d →
    Ev (fun k => glossatorref3_Split.l0 k a0 (l1.drop i) a2 pre) (pre ++ chain a0 l1 a2.toNat d i pre.length)
  | 0, i, pre, hp, hi, hd, h0 => by omega
  | d + 1, i, pre, hp, hi, hd, h0 => by
    have hlen : (l1.drop i).length = l1.length - i := List.length_drop ..
    have hm : mn a2 ((l1.drop i).length : Int) = ((min a2.toNat (l1.length - i) : Nat) : Int) := by
      rw [hlen]; unfold mn; split <;> omega
    have hm0 : (0 : Int) ≤ mn a2 ((l1.drop i).length : Int) := by omega
    have hm1 : mn a2 ((l1.drop i).length : Int) ≤ ((l1.drop i).length : Int) := by rw [hm, hlen]; omega
    have hmt : (mn a2 ((l1.drop i).length : Int)).toNat = min a2.toNat (l1.length - i) := by omega
    have hc : glossatorref3_Clone_int.f ((l1.drop i).take (min a2.toNat (l1.length - i))) = some ((l1.drop i).take (min a2.toNat (l1.length - i))) := by
      unfold glossatorref3_Clone_int.f
      rw [if_pos (by simp; omega)]
      rfl
    rw [chain]
    by_cases c : i + a2.toNat < l1.length
    · rw [if_pos c]
      have e : min a2.toNat (l1.length - i) = a2.toNat := by omega
      rw [e] at hc hmt
      have ih := ref_l0 a0 a2 l1 hl h1 d (i + a2.toNat) (pre ++ [⟨a0, (pre.length : Int), false, (l1.drop i).take a2.toNat⟩]) (by simp; omega) (by omega) (by omega) (by omega)
      rw [List.length_append, List.length_singleton, List.append_assoc] at ih
      refine Ev.stepK ih (fun k => ?_)
      simp only [glossatorref3_Split.l0]
      rw [if_pos hm0, if_pos hm1, hmt, hc]
      simp only [Option.bind_some]
      have hdl : ((l1.drop i).drop a2.toNat).length = l1.length - i - a2.toNat := by simp; omega
      rw [if_pos (by omega), if_neg (by rw [hdl]; omega), List.drop_drop]
      have hb : (((l1.drop (i + a2.toNat)).length : Int) == 0) = false := by
        rw [beq_eq_false_iff_ne]; simp; omega
      rw [hb]
    · rw [if_neg c]
      have e : min a2.toNat (l1.length - i) = l1.length - i := by omega
      rw [e] at hc hmt ⊢
      refine Ev.some' (fun k => ?_)
      simp only [glossatorref3_Split.l0]
      rw [if_pos hm0, if_pos hm1, hmt, hc]
      simp only [Option.bind_some]
      have hdl : ((l1.drop i).drop (l1.length - i)).length = 0 := by simp; omega
      rw [if_pos (by omega), if_pos (by rw [hdl]; rfl)]
      have hb : ((((l1.drop i).drop (l1.length - i)).length : Int) == 0) = true := by
        rw [hdl]; rfl
      rw [hb]
theorem ref_ev (a0 a2 : Int) (l1 : List Int) (hl : l1.length ≤ 1000) (h1 : 1 ≤ a2) : Ev (fun k => glossatorref3_Split.f k a0 l1 a2) (chain a0 l1 a2.toNat 1001 0 0) := by
  have h := ref_l0 a0 a2 l1 hl h1 1001 0 [] (by simp) (by omega) (by omega) (by omega)
  exact h
theorem split_ok (a0 a2 : Int) (l1 : List Int) (hl : l1.length ≤ 1000) (h0 : 0 ≤ a0) (h1 : 1 ≤ a2) (h2 : a2 ≤ 9223372036854775807) : progress_Split.f a0 l1 a2 = some (chain a0 l1 a2.toNat 1001 0 0, 0) := by
  unfold progress_Split.f
  rw [if_neg (by omega), if_neg (by omega)]
  by_cases c : (l1.length : Int) = 0
  · rw [if_pos c]
    have : l1 = [] := List.eq_nil_of_length_eq_zero (by omega)
    subst this
    rw [chain, if_neg (by simp)]
    simp
  · rw [if_neg c, if_pos h2]
    have h := chain_eq a0 l1 a2.toNat (by omega) 1001 0 [] (by omega) (by omega)
    rw [List.nil_append] at h
    rw [h]
    rfl

/-! Percentages -/
def pct (total n : Int) : Int := mn (mx n 0) total * 100 / total
def pcs (total step : Int) : Int → List Int → List Int
  | _, [] => []
  | last, x :: t => if pct total x = 100 ∧ last < 100 ∨ pct total x ≥ last + step then pct total x :: pcs total step (pct total x) t else pcs total step last t
theorem pct_range (total n : Int) (h1 : 1 ≤ total) : 0 ≤ pct total n ∧ pct total n ≤ 100 := by
  unfold pct
  have h2 : 0 ≤ mn (mx n 0) total ∧ mn (mx n 0) total ≤ total := by
    unfold mn mx; split <;> split <;> omega
  constructor
  · exact Int.ediv_nonneg (by omega) (by omega)
  · have : mn (mx n 0) total * 100 / total ≤ total * 100 / total := Int.ediv_le_ediv (by omega) (by omega)
    rw [Int.mul_ediv_cancel_left _ (by omega)] at this
    exact this
theorem pct_prog (total n : Int) (h1 : 1 ≤ total) (h2 : total ≤ 2147483647) : wrap64 (Int.tdiv (wrap64 ((mn (mx n 0) total) * 100)) total) = pct total n := by
  have h3 : 0 ≤ mn (mx n 0) total ∧ mn (mx n 0) total ≤ total := by
    unfold mn mx; split <;> split <;> omega
  rw [wrap_id (n := mn (mx n 0) total * 100) (by omega) (by omega), Int.tdiv_eq_ediv_of_nonneg (by omega)]
  have := pct_range total n h1
  unfold pct at this ⊢
  rw [wrap_id (by omega) (by omega)]
theorem pct_big (total n : Int) (h1 : 1 ≤ total) (h : n ≥ total) : pct total n = 100 := by
  unfold pct
  have : mn (mx n 0) total = total := by unfold mn mx; split <;> split <;> omega
  rw [this, Int.mul_ediv_cancel_left _ (by omega)]
theorem pct_mid (total n : Int) (h1 : 1 ≤ total) (h2 : total ≤ 2147483647) (h : n < total) (h0 : 0 < n) : wrap64 (Int.tdiv (wrap64 (n * 100)) total) = pct total n := by
  have e : mn (mx n 0) total = n := by unfold mn mx; split <;> split <;> omega
  have := pct_prog total n h1 h2
  rw [e] at this
  exact this
theorem pct_low (total n : Int) (h1 : 1 ≤ total) (h0 : ¬ n > 0) : pct total n = 0 := by
  unfold pct
  have : mn (mx n 0) total = 0 := by unfold mn mx; split <;> split <;> omega
  rw [this]; simp
set_option maxHeartbeats 2000000 in
theorem prog_l0 (total step : Int) (h1 : 1 ≤ total) (h2 : total ≤ 2147483647) (h3 : 1 ≤ step) (h4 : step ≤ 100) (xs : List Int) (hx : xs.length ≤ 1000) :
    ∀ (t : List Int) (i : Nat) (acc : List Int) (last : Int), xs.drop i = t → acc.length ≤ i → 0 ≤ last → last ≤ 100 →
    Ev (fun k => progress_Percentages.l0 k total step acc last xs (xs.length : Int) (i : Int)) (acc ++ pcs total step last t, 0)
  | [], i, acc, last, h, ha, hl0, hl1 => by
    have := drop_nil h
    exact Ev.some' (fun k => by simp only [progress_Percentages.l0]; rw [if_neg (by omega)]; simp [pcs])
  | x :: t, i, acc, last, h, ha, hl0, hl1 => by
    obtain ⟨q1, q2, q3⟩ := drop_cons h
    have b0 : (i : Int) < (xs.length : Int) := by omega
    have b1 : (0 : Int) ≤ (i : Int) := by omega
    have b2 : ¬ total = 0 := by omega
    have b3 : acc.length < 17592186044416 := by omega
    have e : rd xs (i : Int) = x := q3 _
    have hr := pct_range total x h1
    have hw : wrap64 (last + step) = last + step := wrap_id (by omega) (by omega)
    have hi : wrap64 ((i : Int) + 1) = ((i + 1 : Nat) : Int) := by rw [wrap_id (by omega) (by omega)]; rfl
    rw [pcs]
    by_cases c : pct total x = 100 ∧ last < 100 ∨ pct total x ≥ last + step
    · rw [if_pos c]
      have ih := prog_l0 total step h1 h2 h3 h4 xs hx t (i + 1) (acc ++ [pct total x]) (pct total x) q2 (by simp; omega) hr.1 hr.2
      rw [List.append_assoc, List.singleton_append] at ih
      refine Ev.stepK ih (fun k => ?_)
      simp only [progress_Percentages.l0]
      rw [if_pos b0, if_pos b1, if_pos b0, if_neg b2, e, pct_prog total x h1 h2, hw, hi]
      by_cases c1 : pct total x = 100
      · rw [if_pos c1]
        by_cases c2 : last < 100
        · rw [if_pos c2, if_pos b3]
        · rw [if_neg c2, if_pos (c.resolve_left (fun h => c2 h.2)), if_pos b3]
      · rw [if_neg c1, if_pos (c.resolve_left (fun h => c1 h.1)), if_pos b3]
    · rw [if_neg c]
      have ih := prog_l0 total step h1 h2 h3 h4 xs hx t (i + 1) acc last q2 (Nat.le_succ_of_le ha) hl0 hl1
      refine Ev.stepK ih (fun k => ?_)
      simp only [progress_Percentages.l0]
      rw [if_pos b0, if_pos b1, if_pos b0, if_neg b2, e, pct_prog total x h1 h2, hw, hi]
      by_cases c1 : pct total x = 100
      · rw [if_pos c1, if_neg (fun h => c (.inl ⟨c1, h⟩)), if_neg (fun h => c (.inr h))]
      · rw [if_neg c1, if_neg (fun h => c (.inr h))]
theorem rd_last (xs : List Int) (x : Int) : rd (xs ++ [x]) (xs.length : Int) = x := rd_mid xs x []
theorem refp_l0 (total step : Int) (h1 : 1 ≤ total) (h2 : total ≤ 2147483647) (h3 : 1 ≤ step) (h4 : step ≤ 100) (xs : List Int) (hx : xs.length ≤ 1000) :
    ∀ (t : List Int) (i : Nat) (pre : List Int) (last : Int), xs.drop i = t → pre.length ≤ i → 0 ≤ last → last ≤ 100 →
    Ev (fun k => glossatorref3_Percentages.l0 k total step (pre ++ [last]) xs (xs.length : Int) (i : Int)) ((pre ++ [last] ++ pcs total step last t).drop 1)
  | [], i, pre, last, h, ha, hl0, hl1 => by
    have := drop_nil h
    exact Ev.some' (fun k => by simp only [glossatorref3_Percentages.l0]; rw [if_neg (by omega), if_pos (by simp; omega)]; simp [pcs])
  | x :: t, i, pre, last, h, ha, hl0, hl1 => by
    obtain ⟨q1, q2, q3⟩ := drop_cons h
    have e : rd xs (i : Int) = x := q3 _
    have hr := pct_range total x h1
    have hi : wrap64 ((i : Int) + 1) = ((i + 1 : Nat) : Int) := by rw [wrap_id (by omega) (by omega)]; rfl
    have hlen : (pre ++ [last]).length = pre.length + 1 := by simp
    have hl : wrap64 (((pre ++ [last]).length : Int) - 1) = (pre.length : Int) := by rw [hlen, wrap_id (by omega) (by omega)]; omega
    have hrd := rd_last pre last
    have yes : pct total x = 100 ∧ last < 100 ∨ pct total x ≥ last + step → Ev (fun k => glossatorref3_Percentages.l0 k total step (pre ++ [last] ++ [pct total x]) xs (xs.length : Int) ((i + 1 : Nat) : Int)) ((pre ++ [last] ++ pcs total step last (x :: t)).drop 1) := by
      intro c
      rw [pcs, if_pos c]
      have ih := refp_l0 total step h1 h2 h3 h4 xs hx t (i + 1) (pre ++ [last]) (pct total x) q2 (by simp; omega) hr.1 hr.2
      rw [List.append_assoc, List.singleton_append] at ih ⊢
      rw [List.append_assoc pre [last], List.append_assoc] at *
      simpa using ih
    have no : ¬ (pct total x = 100 ∧ last < 100 ∨ pct total x ≥ last + step) → Ev (fun k => glossatorref3_Percentages.l0 k total step (pre ++ [last]) xs (xs.length : Int) ((i + 1 : Nat) : Int)) ((pre ++ [last] ++ pcs total step last (x :: t)).drop 1) := by
      intro c
      rw [pcs, if_neg c]
      exact refp_l0 total step h1 h2 h3 h4 xs hx t (i + 1) pre last q2 (by omega) hl0 hl1
    have b1 : (0 : Int) ≤ (pre.length : Int) := by omega
    have b2 : (pre.length : Int) < ((pre ++ [last]).length : Int) := by omega
    have b3 : (pre ++ [last]).length < 17592186044416 := by omega
    by_cases cx : x ≥ total
    · have hp := pct_big total x h1 cx
      rw [hp] at yes no
      by_cases c : (100 : Int) - last ≥ step
      · refine Ev.stepK (yes (by omega)) (fun k => ?_)
        simp only [glossatorref3_Percentages.l0]
        rw [if_pos (by omega), if_pos (by omega), if_pos (by omega), e, if_pos cx, hl, if_pos b1, if_pos b2, hrd, wrap_id (by omega) (by omega), if_pos c, if_pos b3, hi]
      · by_cases c2 : last = 100
        · refine Ev.stepK (no (by omega)) (fun k => ?_)
          simp only [glossatorref3_Percentages.l0]
          rw [if_pos (by omega), if_pos (by omega), if_pos (by omega), e, if_pos cx, hl, if_pos b1, if_pos b2, hrd, wrap_id (n := 100 - last) (by omega) (by omega), if_neg c, if_pos trivial, if_pos c2, hi]
        · refine Ev.stepK (yes (by omega)) (fun k => ?_)
          simp only [glossatorref3_Percentages.l0]
          rw [if_pos (by omega), if_pos (by omega), if_pos (by omega), e, if_pos cx, hl, if_pos b1, if_pos b2, hrd, wrap_id (n := 100 - last) (by omega) (by omega), if_neg c, if_pos trivial, if_neg c2, if_pos b3, hi]
    · by_cases c0 : x > 0
      · have hp := pct_mid total x h1 h2 (by omega) c0
        by_cases c : pct total x - last ≥ step
        · refine Ev.stepK (yes (by omega)) (fun k => ?_)
          simp only [glossatorref3_Percentages.l0]
          rw [if_pos (by omega), if_pos (by omega), if_pos (by omega), e, if_neg cx, if_pos c0, if_neg (by omega), hl, if_pos b1, if_pos b2, hrd, hp, wrap_id (n := pct total x - last) (by omega) (by omega), if_pos c, if_pos b3, hi]
        · by_cases c1 : pct total x = 100
          · by_cases c2 : last = 100
            · refine Ev.stepK (no (by omega)) (fun k => ?_)
              simp only [glossatorref3_Percentages.l0]
              rw [if_pos (by omega), if_pos (by omega), if_pos (by omega), e, if_neg cx, if_pos c0, if_neg (by omega), hl, if_pos b1, if_pos b2, hrd, hp, wrap_id (n := pct total x - last) (by omega) (by omega), if_neg c, if_pos c1, if_pos c2, hi]
            · refine Ev.stepK (yes (by omega)) (fun k => ?_)
              simp only [glossatorref3_Percentages.l0]
              rw [if_pos (by omega), if_pos (by omega), if_pos (by omega), e, if_neg cx, if_pos c0, if_neg (by omega), hl, if_pos b1, if_pos b2, hrd, hp, wrap_id (n := pct total x - last) (by omega) (by omega), if_neg c, if_pos c1, if_neg c2, if_pos b3, hi]
          · refine Ev.stepK (no (by omega)) (fun k => ?_)
            simp only [glossatorref3_Percentages.l0]
            rw [if_pos (by omega), if_pos (by omega), if_pos (by omega), e, if_neg cx, if_pos c0, if_neg (by omega), hl, if_pos b1, if_pos b2, hrd, hp, wrap_id (n := pct total x - last) (by omega) (by omega), if_neg c, if_neg c1, hi]
      · have hp := pct_low total x h1 c0
        rw [hp] at yes no
        refine Ev.stepK (no (by omega)) (fun k => ?_)
        simp only [glossatorref3_Percentages.l0]
        rw [if_pos (by omega), if_pos (by omega), if_pos (by omega), e, if_neg cx, if_neg c0, hl, if_pos b1, if_pos b2, hrd, wrap_id (n := -last) (by omega) (by omega), if_neg (by omega), if_neg (by omega), hi]
theorem refp_ev (total step : Int) (h1 : 1 ≤ total) (h2 : total ≤ 2147483647) (h3 : 1 ≤ step) (h4 : step ≤ 100) (xs : List Int) (hx : xs.length ≤ 1000) : Ev (fun k => glossatorref3_Percentages.f k xs total step) (pcs total step 0 xs) := by
  have h := refp_l0 total step h1 h2 h3 h4 xs hx xs 0 [] 0 rfl (by simp) (by omega) (by omega)
  exact h
theorem pcs_len (total step : Int) : ∀ (t : List Int) (last : Int), (pcs total step last t).length ≤ t.length
  | [], _ => by simp [pcs]
  | x :: t, last => by
    rw [pcs]
    split
    · have := pcs_len total step t (pct total x); simp; omega
    · have := pcs_len total step t last; simp; omega
theorem prog_ok (total step : Int) (h1 : 1 ≤ total) (h2 : total ≤ 2147483647) (h3 : 1 ≤ step) (h4 : step ≤ 100) (xs : List Int) (hx : xs.length ≤ 1000) : Ev (fun k => progress_Percentages.f k xs total step) (pcs total step 0 xs, 0) := by
  have h := prog_l0 total step h1 h2 h3 h4 xs hx xs 0 [] 0 rfl (by simp) (by omega) (by omega)
  refine Ev.same (Ev.stepK (g := fun k => progress_Percentages.j0 k xs total step false) h (fun k => ?_)) (fun k => ?_)
  · simp only [progress_Percentages.j0]
    rw [if_neg (by simp), if_neg (by omega)]
    rfl
  · unfold progress_Percentages.f
    rw [if_neg (by omega), if_neg (by omega), if_neg (by omega), decide_eq_false (by omega)]
theorem prog_bad (total step : Int) (hb : total < 1 ∨ total > 2147483647 ∨ step < 1 ∨ step > 100) (xs : List Int) : Ev (fun k => progress_Percentages.f k xs total step) ([], 1) := by
  have h : Ev (fun k => progress_Percentages.j0 k xs total step true) ([], 1) := Ev.some' (fun k => by simp only [progress_Percentages.j0]; rw [if_pos trivial])
  refine Ev.same h (fun k => ?_)
  unfold progress_Percentages.f
  split
  · rfl
  · split
    · rfl
    · split
      · rfl
      · rw [decide_eq_true (by omega)]
theorem prog_large (total step : Int) (h1 : 1 ≤ total) (h2 : total ≤ 2147483647) (h3 : 1 ≤ step) (h4 : step ≤ 100) (xs : List Int) (hx : (xs.length : Int) > 1000) : Ev (fun k => progress_Percentages.f k xs total step) ([], 2) := by
  have h : Ev (fun k => progress_Percentages.j0 k xs total step false) ([], 2) := Ev.some' (fun k => by simp only [progress_Percentages.j0]; rw [if_neg (by simp), if_pos hx])
  refine Ev.same h (fun k => ?_)
  unfold progress_Percentages.f
  rw [if_neg (by omega), if_neg (by omega), if_neg (by omega), decide_eq_false (by omega)]

/-! The law -/
theorem example_ev : Ev (fun k => glossatorlaw3_chunkExample.f k) true := Ev.of (k := 60) (fun k => glossatorlaw3_chunkExample.mono k) (by decide +kernel)
theorem j3_bad (xs : List Int) (a3 a4 x13 : Int) : Ev (fun k => glossatorlaw3_ProgressSplit.j3 k xs a3 a4 x13 [] 1 true) true := by
  refine Ev.step (f := fun k => (glossatorlaw3_chunkExample.f k).bind fun t205 => (if t205 = true then (if (1 : Int) = 1 then (if (1 : Int) = 0 then ((glossatorref3_Percentages.f k xs a3 a4).bind fun t206 => ((glossatorref3_Equal_int.f k [] t206).bind fun t209 => (if t209 = true then (some true) else (some false)))) else (some ((([] : List Int).length : Int) == 0))) else (some false)) else (some false))) (fun k => by simp only [glossatorlaw3_ProgressSplit.j3]; rw [if_pos trivial]; rfl) ?_
  exact Ev.bind example_ev (Ev.pos rfl (Ev.pos rfl (Ev.neg (by decide) (Ev.now _))))
theorem j2_ev (xs : List Int) (a3 a4 : Int) : Ev (fun k => glossatorlaw3_ProgressSplit.j2 k xs a3 a4 false) true := by
  refine Ev.step (f := fun k => (progress_Percentages.f k xs a3 a4).bind fun bt201 => (if a3 < 1 then (glossatorlaw3_ProgressSplit.j3 k xs a3 a4 0 bt201.1 bt201.2 true) else (if a3 > 2147483647 then (glossatorlaw3_ProgressSplit.j3 k xs a3 a4 0 bt201.1 bt201.2 true) else (if a4 < 1 then (glossatorlaw3_ProgressSplit.j3 k xs a3 a4 0 bt201.1 bt201.2 true) else (glossatorlaw3_ProgressSplit.j3 k xs a3 a4 0 bt201.1 bt201.2 (decide (a4 > 100))))))) (fun k => by simp only [glossatorlaw3_ProgressSplit.j2]; rw [if_neg (by simp)]) ?_
  by_cases hb : a3 < 1 ∨ a3 > 2147483647 ∨ a4 < 1 ∨ a4 > 100
  · refine Ev.bind (prog_bad a3 a4 hb xs) ?_
    refine Ev.same (j3_bad xs a3 a4 0) (fun k => ?_)
    split
    · rfl
    · split
      · rfl
      · split
        · rfl
        · rw [decide_eq_true (by omega)]
  · have g1 : 1 ≤ a3 := by omega
    have g2 : a3 ≤ 2147483647 := by omega
    have g3 : 1 ≤ a4 := by omega
    have g4 : a4 ≤ 100 := by omega
    by_cases hx : (xs.length : Int) > 1000
    · refine Ev.bind (prog_large a3 a4 g1 g2 g3 g4 xs hx) (Ev.neg (by omega) (Ev.neg (by omega) (Ev.neg (by omega) ?_)))
      rw [decide_eq_false (by omega)]
      refine Ev.step (f := fun k => (glossatorlaw3_chunkExample.f k).bind fun t210 => (if t210 = true then (if (2 : Int) = 2 then (if (2 : Int) = 0 then ((glossatorref3_Percentages.f k xs a3 a4).bind fun t211 => ((glossatorref3_Equal_int.f k [] t211).bind fun t214 => (if t214 = true then (some true) else (some false)))) else (some ((([] : List Int).length : Int) == 0))) else (some false)) else (some false))) (fun k => by simp only [glossatorlaw3_ProgressSplit.j3]; rw [if_neg (by simp), if_pos hx]; rfl) ?_
      exact Ev.bind example_ev (Ev.pos rfl (Ev.pos rfl (Ev.neg (by decide) (Ev.now _))))
    · refine Ev.bind (prog_ok a3 a4 g1 g2 g3 g4 xs (by omega)) (Ev.neg (by omega) (Ev.neg (by omega) (Ev.neg (by omega) ?_)))
      rw [decide_eq_false (by omega)]
      refine Ev.step (f := fun k => (glossatorlaw3_chunkExample.f k).bind fun t215 => (if t215 = true then (if (0 : Int) = 0 then (if (0 : Int) = 0 then ((glossatorref3_Percentages.f k xs a3 a4).bind fun t216 => ((glossatorref3_Equal_int.f k (pcs a3 a4 0 xs) t216).bind fun t219 => (if t219 = true then (some true) else (some false)))) else (some (((pcs a3 a4 0 xs).length : Int) == 0))) else (some false)) else (some false))) (fun k => by simp only [glossatorlaw3_ProgressSplit.j3]; rw [if_neg (by simp), if_neg hx]) ?_
      have hl := pcs_len a3 a4 xs 0
      exact Ev.bind example_ev (Ev.pos rfl (Ev.pos rfl (Ev.pos rfl (Ev.bind (refp_ev a3 a4 g1 g2 g3 g4 xs (by omega)) (Ev.bind (equal_ev _ (by omega)) (Ev.pos rfl (Ev.now _)))))))
theorem j1_bad (a0 a2 a3 a4 e : Int) (xs : List Int) (he : e ≠ 0) : Ev (fun k => glossatorlaw3_ProgressSplit.j1 k a0 xs a2 a3 a4 [] e e) true := by
  refine Ev.stepK (j2_ev xs a3 a4) (fun k => ?_)
  simp only [glossatorlaw3_ProgressSplit.j1]
  rw [if_pos trivial, if_neg he, decide_eq_false (by simp)]
theorem law_ev (a0 a2 a3 a4 : Int) (xs : List Int) (h2 : a2 ≤ 9223372036854775807) : Ev (fun k => glossatorlaw3_ProgressSplit.f k a0 xs a2 a3 a4) true := by
  unfold glossatorlaw3_ProgressSplit.f
  refine Ev.bind example_ev (Ev.pos rfl ?_)
  by_cases hb : a0 < 0 ∨ a2 < 1
  · have hs : progress_Split.f a0 xs a2 = some ([], 1) := by unfold progress_Split.f; rw [if_pos hb]
    rw [hs]
    refine Ev.bind (Ev.now _) ?_
    have h : Ev (fun k => glossatorlaw3_ProgressSplit.j0 k a0 xs a2 a3 a4 [] 1 0 true) true := Ev.stepK (j1_bad a0 a2 a3 a4 1 xs (by decide)) (fun k => by simp only [glossatorlaw3_ProgressSplit.j0]; rw [if_pos trivial])
    refine Ev.same h (fun k => ?_)
    split
    · rfl
    · rw [decide_eq_true (by omega)]
  · by_cases hx : (xs.length : Int) > 1000
    · have hs : progress_Split.f a0 xs a2 = some ([], 2) := by unfold progress_Split.f; rw [if_neg hb, if_pos hx]
      rw [hs]
      refine Ev.bind (Ev.now _) (Ev.neg (by omega) ?_)
      rw [decide_eq_false (by omega)]
      exact Ev.stepK (j1_bad a0 a2 a3 a4 2 xs (by decide)) (fun k => by simp only [glossatorlaw3_ProgressSplit.j0]; rw [if_neg (by simp), if_pos hx])
    · rw [split_ok a0 a2 xs (by omega) (by omega) (by omega) h2]
      refine Ev.bind (Ev.now _) (Ev.neg (by omega) ?_)
      rw [decide_eq_false (by omega)]
      refine Ev.stepK (f := fun k => glossatorlaw3_ProgressSplit.j1 k a0 xs a2 a3 a4 (chain a0 xs a2.toNat 1001 0 0) 0 0) ?_ (fun k => by simp only [glossatorlaw3_ProgressSplit.j0]; rw [if_neg (by simp), if_neg hx])
      refine Ev.step (f := fun k => (glossatorref3_Split.f k a0 xs a2).bind fun t197 => ((glossatorref3_EqualChunks.f k (chain a0 xs a2.toNat 1001 0 0) t197).bind fun t200 => (if t200 = true then (glossatorlaw3_ProgressSplit.j2 k xs a3 a4 false) else (glossatorlaw3_ProgressSplit.j2 k xs a3 a4 true)))) (fun k => by simp only [glossatorlaw3_ProgressSplit.j1]; rw [if_pos trivial, if_pos trivial]) ?_
      have hcl := chain_len a0 xs a2.toNat 1001 0 0
      exact Ev.bind (ref_ev a0 a2 xs (by omega) (by omega)) (Ev.bind (chunks_ev _ (by omega) (fun c hc => by have := chain_items a0 xs a2.toNat 1001 0 0 c hc; omega)) (Ev.pos rfl (j2_ev xs a3 a4)))
end Go.Proofs.Ytbfedkmiekbcmaa.PrProgressSplit
namespace Go.Proofs.Ytbfedkmiekbcmaa.Pr
open Go.RowKit Go.Proofs.YtbfedkmiekbcmaaW.PrintWords Go.Proofs.YtbfedkmiekbcmaaW.PrintLast Go.Proofs.YtbfedkmiekbcmaaW.PrintMore Go.Proofs.Ytbfedkmiekbcmaa.QProgressSplit
theorem ProgressSplit : glossatorlaw3_ProgressSplit.PureR := fun a0 a1 a2 a3 a4 _ _ h2 _ _ => (Go.Proofs.Ytbfedkmiekbcmaa.PrProgressSplit.law_ev a0 a2 a3 a4 a1 (Go.Proofs.Ytbfedkmiekbcmaa.Aid.wf_i64 h2).2).rounds
end Go.Proofs.Ytbfedkmiekbcmaa.Pr

/-
  The pure statement of QuerylangReads: Reads gives the keys that the reference reads, in order, or the documented error.
-/
import Derived.Test.YtbfedkmiekbcmaaSimQuerylangReads
namespace Go.Proofs.Ytbfedkmiekbcmaa.PrQuerylangReads
open Go.RowKit Go.Proofs.YtbfedkmiekbcmaaW.PrintWords Go.Proofs.YtbfedkmiekbcmaaW.PrintLast Go.Proofs.YtbfedkmiekbcmaaW.PrintMore Go.Proofs.Ytbfedkmiekbcmaa.QQuerylangReads Go.Proofs.Ytbfedkmiekbcmaa.Aid
set_option linter.unusedSimpArgs false
set_option linter.unusedVariables false
/-- The documented error. -/
def errP (a : Int) (l : List (List S166)) (ins : List Int) (q : Int) : Int := if chkP a l = 0 then (if (ins.length : Int) = a ∧ 0 ≤ q ∧ q < (l.length : Int) then 0 else 1) else chkP a l
theorem newEv_ev (a : Int) (l : List (List S166)) (hl : l.length ≤ 140737488355328) (hi : ∀ q ∈ l, q.length ≤ 140737488355328) (ins : List Int) (q : Int) : Ev (fun k => newEvP k a l ins q) (errP a l ins q) := by
  unfold newEvP
  exact Ev.bind (check_ev a l hl hi) (Ev.now _)
theorem err_ev (a : Int) (l : List (List S166)) (hl : l.length ≤ 140737488355328) (hi : ∀ q ∈ l, q.length ≤ 140737488355328) (ins : List Int) (q : Int) : Ev (fun k => glossatorlaw3_evalError.f k a l ins q) (errP a l ins q) := by
  unfold glossatorlaw3_evalError.f
  refine Ev.bind (ref_ev a l hl hi) ?_
  by_cases c : chkP a l = 0
  · refine Ev.pos c ?_
    by_cases c1 : (ins.length : Int) = a
    · refine Ev.pos c1 ?_
      by_cases c2 : q < 0
      · have e : errP a l ins q = 1 := by unfold errP; rw [if_pos c, if_neg (by omega)]
        rw [e]; exact Ev.pos c2 (Ev.now _)
      · refine Ev.neg c2 ?_
        by_cases c3 : q ≥ (l.length : Int)
        · have e : errP a l ins q = 1 := by unfold errP; rw [if_pos c, if_neg (by omega)]
          rw [e]; exact Ev.pos c3 (Ev.now _)
        · have e : errP a l ins q = 0 := by unfold errP; rw [if_pos c, if_pos ⟨c1, by omega, by omega⟩]
          rw [e]; exact Ev.neg c3 (Ev.now _)
    · have e : errP a l ins q = 1 := by unfold errP; rw [if_pos c, if_neg (fun h => c1 h.1)]
      rw [e]; exact Ev.neg c1 (Ev.now _)
  · have e : errP a l ins q = chkP a l := by unfold errP; rw [if_neg c]
    rw [e]; exact Ev.neg c (Ev.now _)
theorem up {α : Type} {f : Nat → Option α} (hm : ∀ k, LeO (f k) (f (k + 1))) {K : Nat} {r : α} (h : f K = some r) : Ev f r :=
  ⟨K, fun k hk => by
    obtain ⟨j, rfl⟩ := Nat.exists_eq_add_of_le hk
    clear hk
    induction j with
    | zero => exact h
    | succ j ih => exact hm _ _ ih⟩
theorem l0_same (xs : List S44) (n a b c : Int) : ∀ (k : Nat) (i : Int), api_QKey_144.l0 k xs n i a b c = api_QKey_143.l0 k xs n i a b c
  | 0, i => rfl
  | k + 1, i => by
    simp only [api_QKey_144.l0, api_QKey_143.l0]
    rw [l0_same xs n a b c k]
theorem l0_some (xs : List S44) (hl : xs.length ≤ 1000) (a b c : Int) : ∀ (d k i : Nat), i + d = xs.length → d < k → ∃ r, api_QKey_143.l0 k xs (xs.length : Int) (i : Int) a b c = some r
  | _, 0, i, _, hk => absurd hk (Nat.not_lt_zero _)
  | 0, k + 1, i, hi, hk => by
    refine ⟨-1, ?_⟩
    simp only [api_QKey_143.l0]
    rw [if_neg (by omega)]
  | d + 1, k + 1, i, hi, hk => by
    obtain ⟨r, hr⟩ := l0_some xs hl a b c d k (i + 1) (by omega) (by omega)
    simp only [api_QKey_143.l0]
    rw [if_pos (by omega), if_pos (by omega), if_pos (by omega)]
    split
    · exact ⟨_, rfl⟩
    · refine ⟨r, ?_⟩
      rw [wrap_id (by omega) (by omega)]
      exact hr
theorem has (xs : List S44) (hl : xs.length ≤ 1000) (k : Nat) (hk : xs.length < k) (a b c : Int) : ∃ r, api_QKey_125.f k xs a b c = some r ∧ api_QKey_127.f k xs a b c = some r := by
  obtain ⟨r, hr⟩ := l0_some xs hl a b c xs.length k 0 (by omega) hk
  refine ⟨decide (r ≥ 0), ?_, ?_⟩
  · unfold api_QKey_125.f api_QKey_143.f
    rw [show (0 : Int) = ((0 : Nat) : Int) from rfl, hr]
    rfl
  · unfold api_QKey_127.f api_QKey_144.f
    rw [l0_same, show (0 : Int) = ((0 : Nat) : Int) from rfl, hr]
    rfl
theorem asks_reads {ins : List Int} {qs : List (List S166)} {r : List Int} (hv : Vals ins qs r) (hl : r.length ≤ 40) {own : Nat} (ho : own ≤ r.length) {k : Nat} (hk : 60 ≤ k) :
    Asks (readsG k ins qs k) (refG k ins r) (fun m s s' => s = s' ∧ s.length ≤ m) 24 (ins.length : Int) own := by
  refine ⟨fun m s s' h => ⟨h.1, by omega⟩, ?_⟩
  rintro m s _ kk i hm ⟨rfl, hl2⟩ h
  obtain ⟨c, c1, c2⟩ := has s (by omega) k (by omega) kk i 0
  have hk1 : ∃ ks, addKey c s ⟨kk, i, 0⟩ = some ks ∧ ks.length ≤ m + 1 := by
    unfold addKey
    cases c with
    | true => exact ⟨s, rfl, by omega⟩
    | false => exact ⟨s ++ [⟨kk, i, 0⟩], by rw [if_neg (by simp), if_pos (by omega)], by simp; omega⟩
  obtain ⟨ks, hk1, hk2⟩ := hk1
  obtain ⟨n, _, _, g1, g2, _, g4⟩ := (asks_val hv (kf := k) (d := k) (by omega) (by omega)).2 0 () () kk i (by omega) trivial (by omega)
  obtain ⟨n', hn, he⟩ := Option.map_eq_some_iff.1 g1
  injection he with he _
  subst he
  refine ⟨n', ks, ks, ?_, ?_, ⟨rfl, hk2⟩, g4⟩
  · unfold readsG
    rw [c1, Option.bind_some, hk1, Option.bind_some, hn]
    rfl
  · unfold refG
    rw [c2, Option.bind_some, hk1, Option.bind_some, g2]
    rfl
theorem eq_ev (ks : List S44) (hl : ks.length ≤ 1000) : ∀ (d i : Nat), i + d = ks.length → Ev (fun k => api_QKey_76.l0 k ks ks (ks.length : Int) (i : Int)) true
  | 0, i, hi => Ev.some' (fun k => by
    simp only [api_QKey_76.l0]
    rw [if_neg (by omega)])
  | d + 1, i, hi => Ev.stepK (eq_ev ks hl d (i + 1) (by omega)) (fun k => by
    simp only [api_QKey_76.l0]
    rw [if_pos (by omega), if_pos (by omega), if_pos (by omega), if_pos (by omega), if_neg (by simp), wrap_id (by omega) (by omega)]
    rfl)
theorem equal_ev (ks : List S44) (hl : ks.length ≤ 1000) : Ev (fun k => api_QKey_76.f k ks ks) true := by
  unfold api_QKey_76.f
  refine Ev.pos rfl ?_
  exact eq_ev ks hl ks.length 0 (by omega)
theorem law_ev (a : Int) (l : List (List S166)) (hl : l.length ≤ 140737488355328) (hi : ∀ q ∈ l, q.length ≤ 140737488355328) (ins : List Int) (q : Int) : Ev (fun k => glossatorlaw3_QuerylangReads.f k a l ins q) true := by
  unfold glossatorlaw3_QuerylangReads.f
  refine Ev.bind example_ev (Ev.pos rfl ?_)
  have hn := newEv_ev a l hl hi ins q
  have he := err_ev a l hl hi ins q
  by_cases c : errP a l ins q = 0
  · have hc : chkP a l = 0 ∧ (ins.length : Int) = a ∧ 0 ≤ q ∧ q < (l.length : Int) := by
      unfold errP at c
      split at c
      · next h1 =>
        split at c
        · next h2 => exact ⟨h1, h2⟩
        · cases c
      · next h1 => exact absurd c h1
    obtain ⟨h1, rfl, h3, h4⟩ := hc
    obtain ⟨g1, g2, g3, g4⟩ := chkP_ok h1
    obtain ⟨r, r1, r2, r3⟩ := vals_ev (ins := ins) g4 g2 g1 l [] rfl (fun j hj => by cases hj) (by simp)
    obtain ⟨j, rfl⟩ : ∃ j : Nat, q = (j : Int) := ⟨q.toNat, by omega⟩
    have hj : j < l.length := by omega
    have hq : l[j]? = some l[j] := List.getElem?_eq_getElem hj
    have hrq : rdq l (j : Int) = l[j] := by simp [rdq, List.getD_eq_getElem?_getD, hj]
    have hcq := chkQs_all g4 j _ hq
    rw [Nat.zero_add] at hcq
    rw [c] at hn he
    obtain ⟨Kn, hKn⟩ := hn
    have hlq := g2 _ (List.getElem_mem hj)
    obtain ⟨n, ks, _, s1, s2, ⟨rfl, s3⟩, _⟩ := sim (asks_reads r2 (by omega) (own := j) (by omega) (k := Kn + 60) (by omega)) (Kn + 59) l[j] [] zeros24 [] [] hcq stk_zero (by simp; omega) 0 (by omega) ⟨rfl, Nat.le_refl _⟩
    have hks : ks.length ≤ 1000 := by omega
    have hA : Ev (fun k => querylang_Reads.f k (ins.length : Int) l ins (j : Int)) (ks, 0) := by
      refine up (fun k => querylang_Reads.mono _ _ _ _ k) (K := Kn + 60) ?_
      have := hKn (Kn + 60) (by omega)
      simp only [] at this
      unfold querylang_Reads.f
      rw [this, Option.bind_some, if_pos rfl, if_pos h3, if_pos h4, hrq, s1]
      rfl
    have hV : glossatorref3_Values.f (ins.length : Int) l ins = some r := r1
    have hB : Ev (fun k => glossatorref3_Reads.f k (ins.length : Int) l ins (j : Int)) ks := by
      refine up (fun k => glossatorref3_Reads.mono _ _ _ _ k) (K := Kn + 60) ?_
      unfold glossatorref3_Reads.f
      rw [hV, Option.bind_some, if_pos h3, if_pos h4, hrq]
      have e : ([] : List Int).length = 0 := rfl
      rw [e] at s2
      rw [s2]
      rfl
    refine Ev.bind hA (Ev.bind he (Ev.pos rfl (Ev.bind example_ev (Ev.pos rfl (Ev.pos rfl (Ev.bind hB (Ev.bind (equal_ev ks hks) (Ev.now _))))))))
  · have hE : Ev (fun k => querylang_Reads.f k a l ins q) ([], errP a l ins q) := by
      unfold querylang_Reads.f
      exact Ev.bind hn (Ev.neg c (Ev.now _))
    refine Ev.bind hE (Ev.bind he (Ev.neg c (Ev.bind example_ev (Ev.pos rfl (Ev.pos rfl ?_)))))
    exact Ev.now _
end Go.Proofs.Ytbfedkmiekbcmaa.PrQuerylangReads
namespace Go.Proofs.Ytbfedkmiekbcmaa.Pr
open Go.RowKit Go.Proofs.YtbfedkmiekbcmaaW.PrintWords Go.Proofs.YtbfedkmiekbcmaaW.PrintLast Go.Proofs.YtbfedkmiekbcmaaW.PrintMore Go.Proofs.Ytbfedkmiekbcmaa.QQuerylangReads Go.Proofs.Ytbfedkmiekbcmaa.Aid
theorem QuerylangReads : glossatorlaw3_QuerylangReads.PureR := by
  intro p ins q hp _ _
  have h1 : p.f1.length ≤ 140737488355328 := by have := hp.2.1.2; omega
  have h2 : ∀ q ∈ p.f1, q.length ≤ 140737488355328 := fun q hq => by have := (hp.2.2 q hq).1.2; omega
  exact (Go.Proofs.Ytbfedkmiekbcmaa.PrQuerylangReads.law_ev p.f0 p.f1 h1 h2 ins q).rounds
end Go.Proofs.Ytbfedkmiekbcmaa.Pr

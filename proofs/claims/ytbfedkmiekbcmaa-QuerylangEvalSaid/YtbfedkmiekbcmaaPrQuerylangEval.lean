/-
  The pure statement of QuerylangEval: Eval gives the value that the reference computes, or the documented error.
-/
import Derived.Test.YtbfedkmiekbcmaaSimQuerylangEval
namespace Go.Proofs.Ytbfedkmiekbcmaa.PrQuerylangEval
open Go.RowKit Go.Proofs.YtbfedkmiekbcmaaW.PrintWords Go.Proofs.YtbfedkmiekbcmaaW.PrintLast Go.Proofs.YtbfedkmiekbcmaaW.PrintMore Go.Proofs.Ytbfedkmiekbcmaa.QQuerylangEval Go.Proofs.Ytbfedkmiekbcmaa.Aid
set_option linter.unusedSimpArgs false
set_option linter.unusedVariables false
/-- The documented error. -/
def errP (a : Int) (l : List (List S166)) (ins : List Int) (q : Int) : Int := if chkP a l = 0 then (if (ins.length : Int) = a ∧ 0 ≤ q ∧ q < (l.length : Int) then 0 else 1) else chkP a l
theorem newEv_ev (a : Int) (l : List (List S166)) (hl : l.length ≤ 140737488355328) (hi : ∀ q ∈ l, q.length ≤ 140737488355328) (ins : List Int) (q : Int) : Ev (fun k => newEvP k a l ins q) (errP a l ins q) := by
  unfold newEvP
  exact Ev.bind (check_ev a l hl hi) (Ev.now _)
theorem err_ev (a : Int) (l : List (List S166)) (hl : l.length ≤ 140737488355328) (hi : ∀ q ∈ l, q.length ≤ 140737488355328) (ins : List Int) (q : Int) : Ev (fun k => glossatorlaw3_evalError.f k a l ins q) (errP a l ins q) := by
  unfold glossatorlaw3_evalError.f
  refine Ev.bind (ref_ev a l hl hi) ?_
  by_cases c : chkP a l = 0
  · refine Ev.pos c ?_
    by_cases c1 : (ins.length : Int) = a
    · refine Ev.pos c1 ?_
      by_cases c2 : q < 0
      · have e : errP a l ins q = 1 := by unfold errP; rw [if_pos c, if_neg (by omega)]
        rw [e]; exact Ev.pos c2 (Ev.now _)
      · refine Ev.neg c2 ?_
        by_cases c3 : q ≥ (l.length : Int)
        · have e : errP a l ins q = 1 := by unfold errP; rw [if_pos c, if_neg (by omega)]
          rw [e]; exact Ev.pos c3 (Ev.now _)
        · have e : errP a l ins q = 0 := by unfold errP; rw [if_pos c, if_pos ⟨c1, by omega, by omega⟩]
          rw [e]; exact Ev.neg c3 (Ev.now _)
    · have e : errP a l ins q = 1 := by unfold errP; rw [if_pos c, if_neg (fun h => c1 h.1)]
      rw [e]; exact Ev.neg c1 (Ev.now _)
  · have e : errP a l ins q = chkP a l := by unfold errP; rw [if_neg c]
    rw [e]; exact Ev.neg c (Ev.now _)
theorem getP_ev {ins : List Int} {qs : List (List S166)} {m : Nat} {q n : Int} (h : getP 1 ins qs m 1 q = some n) : Ev (fun k => getP k ins qs k 1 q) n :=
  ⟨m + 1, fun k hk => getP_upk (getP_up (d := 0) h (by omega)) (by omega)⟩
theorem law_ev (a : Int) (l : List (List S166)) (hl : l.length ≤ 140737488355328) (hi : ∀ q ∈ l, q.length ≤ 140737488355328) (ins : List Int) (q : Int) : Ev (fun k => glossatorlaw3_QuerylangEval.f k a l ins q) true := by
  unfold glossatorlaw3_QuerylangEval.f
  refine Ev.bind example_ev (Ev.pos rfl ?_)
  have hn := newEv_ev a l hl hi ins q
  have he := err_ev a l hl hi ins q
  by_cases c : errP a l ins q = 0
  · have hc : chkP a l = 0 ∧ (ins.length : Int) = a ∧ 0 ≤ q ∧ q < (l.length : Int) := by
      unfold errP at c
      split at c
      · next h1 =>
        split at c
        · next h2 => exact ⟨h1, h2⟩
        · cases c
      · next h1 => exact absurd c h1
    obtain ⟨h1, rfl, h3, h4⟩ := hc
    obtain ⟨g1, g2, g3, g4⟩ := chkP_ok h1
    obtain ⟨r, r1, r2, r3⟩ := vals_ev (ins := ins) g4 g2 g1 l [] rfl (fun j hj => by cases hj) (by simp)
    obtain ⟨j, rfl⟩ : ∃ j : Nat, q = (j : Int) := ⟨q.toNat, by omega⟩
    obtain ⟨v1, _⟩ := r2 j (by omega)
    have hE : Ev (fun k => querylang_Eval.f k (ins.length : Int) l ins (j : Int)) (rd r (j : Int), 0) := by
      unfold querylang_Eval.f
      rw [c] at hn
      refine Ev.bind hn (Ev.pos rfl ?_)
      obtain ⟨K, hK⟩ := getP_ev v1
      exact ⟨K, fun k hk => by have := hK k hk; simp only [] at this ⊢; rw [this]; rfl⟩
    rw [c] at he
    refine Ev.bind hE (Ev.bind he (Ev.pos rfl (Ev.bind example_ev (Ev.pos rfl (Ev.pos rfl ?_)))))
    have hV : glossatorref3_Values.f (ins.length : Int) l ins = some r := r1
    rw [hV]
    refine Ev.bind (Ev.now _) (Ev.pos h3 (Ev.pos (by omega) ?_))
    rw [beq_self_eq_true]
    exact Ev.now _
  · have hE : Ev (fun k => querylang_Eval.f k a l ins q) (0, errP a l ins q) := by
      unfold querylang_Eval.f
      exact Ev.bind hn (Ev.neg c (Ev.now _))
    refine Ev.bind hE (Ev.bind he (Ev.neg c (Ev.bind example_ev (Ev.pos rfl (Ev.pos rfl ?_)))))
    exact Ev.now _
end Go.Proofs.Ytbfedkmiekbcmaa.PrQuerylangEval
namespace Go.Proofs.Ytbfedkmiekbcmaa.Pr
open Go.RowKit Go.Proofs.YtbfedkmiekbcmaaW.PrintWords Go.Proofs.YtbfedkmiekbcmaaW.PrintLast Go.Proofs.YtbfedkmiekbcmaaW.PrintMore Go.Proofs.Ytbfedkmiekbcmaa.QQuerylangEval Go.Proofs.Ytbfedkmiekbcmaa.Aid
theorem QuerylangEval : glossatorlaw3_QuerylangEval.PureR := by
  intro p ins q hp _ _
  have h1 : p.f1.length ≤ 140737488355328 := by have := hp.2.1.2; omega
  have h2 : ∀ q ∈ p.f1, q.length ≤ 140737488355328 := fun q hq => by have := (hp.2.2 q hq).1.2; omega
  exact (Go.Proofs.Ytbfedkmiekbcmaa.PrQuerylangEval.law_ev p.f0 p.f1 h1 h2 ins q).rounds
end Go.Proofs.Ytbfedkmiekbcmaa.Pr

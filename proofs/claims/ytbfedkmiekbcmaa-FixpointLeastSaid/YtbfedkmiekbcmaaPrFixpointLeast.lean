/-
  The pure statement of FixpointLeast: Check is the reference's; Least is Kleene's least solution and Rounds the number of its rounds.
-/
import Derived.Test.YtbfedkmiekbcmaaEvFixpointLeast
namespace Go.Proofs.Ytbfedkmiekbcmaa.PrFixpointLeast
open Go.RowKit Go.Proofs.YtbfedkmiekbcmaaW.PrintWords Go.Proofs.YtbfedkmiekbcmaaW.PrintLast Go.Proofs.YtbfedkmiekbcmaaW.PrintMore Go.Proofs.Ytbfedkmiekbcmaa.QFixpointLeast Go.Proofs.Ytbfedkmiekbcmaa.Aid Go.Proofs.Ytbfedkmiekbcmaa.FixMath
set_option linter.unusedSimpArgs false
set_option linter.unusedVariables false
theorem example_ev : Ev (fun k => glossatorlaw3_ruleExample.f k) true := Ev.of (k := 60) (fun k => glossatorlaw3_ruleExample.mono k) (by decide +kernel)
theorem sized_of (rs : List (List S147)) (h : ((rs.length ≤ maxLen ∧ rs.length * 24 ≤ 140737488351232) ∧ ∀ x0 ∈ rs, (x0.length ≤ maxLen ∧ x0.length * 32 ≤ 140737488351232) ∧ ∀ x1 ∈ x0, ok147 x1)) : Sized rs :=
  ⟨by have := h.1.2; omega, fun l hl => ⟨by have := (h.2 l hl).1.2; omega, fun r hr => by have := ((h.2 l hl).2 r hr).2.1.2; omega⟩⟩
theorem law_ev (rs : List (List S147)) (hs : Sized rs) : Ev (fun k => glossatorlaw3_FixpointLeast.f k rs) true := by
  unfold glossatorlaw3_FixpointLeast.f
  refine Ev.bind example_ev (Ev.pos rfl ?_)
  by_cases hc : chk rs = 0
  · have hv := chk_ok hc
    have h60 := hv.1
    obtain ⟨M, h1, h2, h3⟩ := stops (m := S147.f0) (a := S147.f1) (rs := rs) hv
    refine Ev.bind (least_ev rs hs hc M h1) (Ev.bind (rounds_ev rs hs hc M h1 h2 h3) (Ev.bind (rules_ev rs hs) (Ev.bind (check_ev rs hs) ?_)))
    rw [hc]
    refine Ev.pos rfl (Ev.pos rfl ?_)
    refine Ev.step (f := fun k => (glossatorref3_Kleene.f k rs).bind fun bt237 => ((glossatorlaw3_ruleExample.f k).bind fun t241 => (if t241 = true then ((glossatorref3_Equal_int.f k (chn rs M) bt237.1).bind fun t242 => (if t242 = true then (some ((M : Int) == bt237.2)) else (some false))) else (some false)))) (fun k => by simp only [glossatorlaw3_FixpointLeast.j0]; rw [if_neg (by decide), if_pos trivial]) ?_
    refine Ev.bind (kleene_ev rs hs hv M h1 h2 h3) (Ev.bind example_ev (Ev.pos rfl (Ev.bind (refEqual_ev (chn rs M) (chn rs M) (by rw [chn_len]; omega)) ?_)))
    rw [decide_eq_true rfl]
    refine Ev.pos rfl ?_
    rw [show ((M : Int) == (chn rs M, (M : Int)).2) = true from beq_self_eq_true _]
    exact Ev.now _
  · refine Ev.bind (least_bad rs hs hc) (Ev.bind (rounds_bad rs hs hc) (Ev.bind (rules_ev rs hs) (Ev.bind (check_ev rs hs) ?_)))
    refine Ev.pos rfl (Ev.pos rfl ?_)
    have hne : (((0 : Int), chk rs).2 != chk rs) = false := by simp
    rw [hne]
    refine Ev.step (f := fun k => (glossatorlaw3_ruleExample.f k).bind fun t243 => (if t243 = true then (if (([] : List Int).length : Int) = 0 then (some ((0 : Int) == 0)) else (some false)) else (some false))) (fun k => by simp only [glossatorlaw3_FixpointLeast.j0]; rw [if_neg (by decide), if_neg hc]) ?_
    exact Ev.bind example_ev (Ev.pos rfl (Ev.pos rfl (Ev.now _)))
end Go.Proofs.Ytbfedkmiekbcmaa.PrFixpointLeast
namespace Go.Proofs.Ytbfedkmiekbcmaa.Pr
open Go.RowKit Go.Proofs.YtbfedkmiekbcmaaW.PrintWords Go.Proofs.YtbfedkmiekbcmaaW.PrintLast Go.Proofs.YtbfedkmiekbcmaaW.PrintMore Go.Proofs.Ytbfedkmiekbcmaa.QFixpointLeast
theorem FixpointLeast : glossatorlaw3_FixpointLeast.Pure := fun rs h => (Go.Proofs.Ytbfedkmiekbcmaa.PrFixpointLeast.law_ev rs (Go.Proofs.Ytbfedkmiekbcmaa.PrFixpointLeast.sized_of rs h)).rounds
end Go.Proofs.Ytbfedkmiekbcmaa.Pr

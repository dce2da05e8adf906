/-
  The pure statement of QuerylangCheck: Check is the reference's CheckProgram.
-/
import Derived.Test.YtbfedkmiekbcmaaEvQuerylangCheck
namespace Go.Proofs.Ytbfedkmiekbcmaa.Pr
open Go.RowKit Go.Proofs.YtbfedkmiekbcmaaW.PrintWords Go.Proofs.YtbfedkmiekbcmaaW.PrintLast Go.Proofs.YtbfedkmiekbcmaaW.PrintMore Go.Proofs.Ytbfedkmiekbcmaa.QQuerylangCheck Go.Proofs.Ytbfedkmiekbcmaa.Aid Go.Proofs.Ytbfedkmiekbcmaa.PrQuerylangCheck
theorem QuerylangCheck : glossatorlaw3_QuerylangCheck.PureR := by
  intro p hp
  have h1 : p.f1.length ≤ 140737488355328 := by have := hp.2.1.2; omega
  have h2 : ∀ q ∈ p.f1, q.length ≤ 140737488355328 := fun q hq => by have := (hp.2.2 q hq).1.2; omega
  refine Ev.rounds (g := fun k => glossatorlaw3_QuerylangCheck.f k p.f0 p.f1) ?_
  unfold glossatorlaw3_QuerylangCheck.f
  refine Ev.bind example_ev (Ev.pos rfl (Ev.bind example_ev (Ev.pos rfl (Ev.bind (check_ev _ _ h1 h2) (Ev.bind (ref_ev _ _ h1 h2) ?_)))))
  rw [beq_self_eq_true]
  exact Ev.now _
end Go.Proofs.Ytbfedkmiekbcmaa.Pr

/-
  The pure statement of InputsScript: the values' lists are short enough to lie in memory.
-/
import Derived.Test.YtogpjenmfgpfiaaSInputsScript
namespace Go.Proofs.Ytogpjenmfgpfiaa.Pr
open Go.RowKit Go.Proofs.YtogpjenmfgpfiaaW.PrintWords Go.Proofs.YtogpjenmfgpfiaaW.PrintLast Go.Proofs.YtogpjenmfgpfiaaW.PrintMore Go.Proofs.Ytogpjenmfgpfiaa.QInputsScript
theorem InputsScript : glossatorlaw3_InputsScript.PureR := by
  intro a0 a1 a2 a3 _ h1 _ _
  refine ⟨0, ?_⟩
  unfold glossatorlaw3_InputsScript.f
  rw [if_pos]
  refine List.all_eq_true.2 (fun v hv => ?_)
  have := (h1.2 v hv).1.1.2
  simp only [decide_eq_true_eq]
  omega
end Go.Proofs.Ytogpjenmfgpfiaa.Pr

/-
  The pure statement of ProgressAssembler: the chunks' items are short enough to lie in memory.
-/
import Derived.Test.YtogpjenmfgpfiaaSProgressAssembler
namespace Go.Proofs.Ytogpjenmfgpfiaa.Pr
open Go.RowKit Go.Proofs.YtogpjenmfgpfiaaW.PrintWords Go.Proofs.YtogpjenmfgpfiaaW.PrintLast Go.Proofs.YtogpjenmfgpfiaaW.PrintMore Go.Proofs.Ytogpjenmfgpfiaa.QProgressAssembler
theorem ProgressAssembler : glossatorlaw3_ProgressAssembler.PureR := by
  intro a0 a1 h0 h1
  refine ⟨0, ?_⟩
  unfold glossatorlaw3_ProgressAssembler.f
  rw [if_pos]
  refine List.all_eq_true.2 (fun v hv => ?_)
  have := (h0.2 v hv).2.2.2.1.2
  simp only [decide_eq_true_eq]
  omega
end Go.Proofs.Ytogpjenmfgpfiaa.Pr

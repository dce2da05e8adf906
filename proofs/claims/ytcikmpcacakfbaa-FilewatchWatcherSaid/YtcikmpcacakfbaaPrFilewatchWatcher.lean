/-
  The pure statement of FilewatchWatcher: the example holds, the events lie in memory.
-/
import Derived.Test.YtcikmpcacakfbaaSFilewatchWatcher
import Derived.Test.YtcikmpcacakfbaaAid
namespace Go.Proofs.Ytcikmpcacakfbaa.Pr
open Go.RowKit Go.Proofs.YtcikmpcacakfbaaW.PrintWords Go.Proofs.YtcikmpcacakfbaaW.PrintLast Go.Proofs.YtcikmpcacakfbaaW.PrintMore Go.Proofs.Ytcikmpcacakfbaa.QFilewatchBatches Go.Proofs.Ytcikmpcacakfbaa.Aid Go.Proofs.Ytcikmpcacakfbaa.Hand
set_option linter.unusedVariables false
theorem example_ev : Ev (fun k => glossatorlaw3_watchExample.f k) true := Ev.of (k := 60) (fun k => glossatorlaw3_watchExample.mono k) (by decide +kernel)
theorem FilewatchWatcher : glossatorlaw3_FilewatchWatcher.PureR := by
  intro a0 a1 _ h1
  obtain ⟨k, hk⟩ := Ev.rounds example_ev
  refine ⟨k, ?_⟩
  unfold glossatorlaw3_FilewatchWatcher.f
  rw [if_pos]
  exact ⟨hk, fun e he => by have := (h1.2 e he).2.1; unfold maxLen; omega, fun e he => (wf_i64 (h1.2 e he).1).2⟩
end Go.Proofs.Ytcikmpcacakfbaa.Pr

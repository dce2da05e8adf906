/-
  FilewatchWatcher: what the law answers, and that it does.
-/
import Derived.Test.YtcikmpcacakfbaaHandFwW7
namespace Go.Proofs.Ytcikmpcacakfbaa.QFilewatchBatches
open Go.RowKit Go.Proofs.YtcikmpcacakfbaaW.PrintWords Go.Proofs.YtcikmpcacakfbaaW.PrintLast Go.Proofs.YtcikmpcacakfbaaW.PrintMore Go.Proofs.Ytcikmpcacakfbaa.Hand
set_option linter.unusedVariables false
set_option linter.unusedSimpArgs false
/-- The law answers true where its example does and its events can lie in memory. -/
def glossatorlaw3_FilewatchWatcher.f (k : Nat) (a0 : Int) (l1 : List (S58)) : Option Bool := if glossatorlaw3_watchExample.f k = some true ∧ (∀ e ∈ l1, e.f1.size ≤ maxLen) ∧ (∀ e ∈ l1, e.f0 ≤ 9223372036854775807) then some true else none
theorem glossatorlaw3_FilewatchWatcher.calls (k : Nat) (a0 : Int) (A1 : Option Addr) (c1 : Nat) (l1 : List (S58)) (r : Bool) (w : World) (hr1 : Kd.C k58 w A1 l1.length l1) (hc1 : l1.length ≤ c1) (h : glossatorlaw3_FilewatchWatcher.f k a0 l1 = some r) :
    Calls Try.prog 6 #[.int .i64 a0, .slice A1 l1.length c1] w fun e w' => e = .returned (.bool r) ∧ Below w.heap.size w w' := by
  unfold glossatorlaw3_FilewatchWatcher.f at h
  split at h
  case isFalse => cases h
  next hl =>
  injection h with h
  subst h
  exact watcher_calls k hl.1 a0 A1 c1 l1 w hr1 hc1 hl.2.1 hl.2.2
end Go.Proofs.Ytcikmpcacakfbaa.QFilewatchBatches

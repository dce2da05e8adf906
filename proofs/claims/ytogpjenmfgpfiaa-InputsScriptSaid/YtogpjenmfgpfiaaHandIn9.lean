/-
  InputsScript: what the law answers, and that it does.
-/
import Derived.Test.YtogpjenmfgpfiaaHandIn8
namespace Go.Proofs.Ytogpjenmfgpfiaa.QInputsScript
open Go.RowKit Go.Proofs.YtogpjenmfgpfiaaW.PrintWords Go.Proofs.YtogpjenmfgpfiaaW.PrintLast Go.Proofs.YtogpjenmfgpfiaaW.PrintMore Go.Proofs.Ytogpjenmfgpfiaa.Hand
set_option linter.unusedVariables false
set_option linter.unusedSimpArgs false
/-- The law answers true where its values' lists can lie in memory. -/
def glossatorlaw3_InputsScript.f (k : Nat) (l0 : List (S34)) (l1 : List (S36)) (l2 : List Int) (a3 : Int) : Option Bool := if l1.all (fun v => decide (v.f0.length < 17592186044416)) = true then some true else none
theorem glossatorlaw3_InputsScript.calls (k : Nat) (A0 : Option Addr) (c0 : Nat) (l0 : List (S34)) (A1 : Option Addr) (c1 : Nat) (l1 : List (S36)) (A2 : Option Addr) (c2 : Nat) (l2 : List Int) (a3 : Int) (r : Bool) (w : World) (hr0 : Kd.C k34 w A0 l0.length l0) (hc0 : l0.length ≤ c0) (hr1 : Kd.C k36 w A1 l1.length l1) (hc1 : l1.length ≤ c1) (hr2 : Kd.C (Kd.int .i64) w A2 l2.length l2) (hc2 : l2.length ≤ c2) (h : glossatorlaw3_InputsScript.f k l0 l1 l2 a3 = some r) :
    Calls Try.prog 3 #[.slice A0 l0.length c0, .slice A1 l1.length c1, .slice A2 l2.length c2, .int .i64 a3] w fun e w' => e = .returned (.bool r) ∧ Below w.heap.size w w' := by
  unfold glossatorlaw3_InputsScript.f at h
  split at h
  case isFalse => cases h
  next hl =>
  injection h with h
  subst h
  exact law_calls A0 c0 l0 A1 c1 l1 A2 c2 l2 a3 w hr0 hr1 hr2 (fun v hv => by simpa using List.all_eq_true.1 hl v hv)
end Go.Proofs.Ytogpjenmfgpfiaa.QInputsScript

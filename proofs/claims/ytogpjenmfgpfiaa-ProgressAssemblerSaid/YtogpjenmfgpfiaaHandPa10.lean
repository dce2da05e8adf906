/-
  ProgressAssembler: what the law answers, and that it does.
-/
import Derived.Test.YtogpjenmfgpfiaaHandPa9
namespace Go.Proofs.Ytogpjenmfgpfiaa.QProgressAssembler
open Go.RowKit Go.Proofs.YtogpjenmfgpfiaaW.PrintWords Go.Proofs.YtogpjenmfgpfiaaW.PrintLast Go.Proofs.YtogpjenmfgpfiaaW.PrintMore Go.Proofs.Ytogpjenmfgpfiaa.Hand
set_option linter.unusedVariables false
set_option linter.unusedSimpArgs false
/-- The law answers true where its chunks' items can lie in memory. -/
def glossatorlaw3_ProgressAssembler.f (k : Nat) (l0 : List (S51)) (a1 : Int) : Option Bool := if l0.all (fun v => decide (v.f3.length < 17592186044416)) = true then some true else none
theorem glossatorlaw3_ProgressAssembler.calls (k : Nat) (A0 : Option Addr) (c0 : Nat) (l0 : List (S51)) (a1 : Int) (r : Bool) (w : World) (hr0 : Kd.C k51 w A0 l0.length l0) (hc0 : l0.length ≤ c0) (h : glossatorlaw3_ProgressAssembler.f k l0 a1 = some r) :
    Calls Try.prog 4 #[.slice A0 l0.length c0, .int .i64 a1] w fun e w' => e = .returned (.bool r) ∧ Below w.heap.size w w' := by
  unfold glossatorlaw3_ProgressAssembler.f at h
  split at h
  case isFalse => cases h
  next hl =>
  injection h with h
  subst h
  exact law_calls A0 c0 l0 a1 w hr0 hc0 (fun v hv => by simpa using List.all_eq_true.1 hl v hv)
end Go.Proofs.Ytogpjenmfgpfiaa.QProgressAssembler

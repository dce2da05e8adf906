-- Written by gen.py (this repo's wip/), which runs the kit's print.py with more arms. Lean checks it.
import Derived.Test.YtofonbfpjfabbaaQDepgraphReductionx0
import Derived.Test.YtofonbfpjfabbaaQDepgraphReductionx5
namespace Go.Proofs.Ytofonbfpjfabbaa.QDepgraphReduction
open Go.RowKit Go.Proofs.YtofonbfpjfabbaaW.PrintWords Go.Proofs.YtofonbfpjfabbaaW.PrintLast Go.Proofs.YtofonbfpjfabbaaW.PrintMore
attribute [local go_sem] max2_int min2_int max_two min_two max_three min_three max_four min_four   -- for this text's walks alone
set_option linter.unusedVariables false
set_option linter.unusedSimpArgs false

def depgraph_Dependents.f (l0 : List S44) (a1_0 : Int) (a1_1 : Int) (a1_2 : Int) : Option (List S24) := some (reachR (edgesP true (l0.take 400)) ⟨a1_0, a1_1, a1_2⟩)
theorem depgraph_Dependents.calls (A0 : Option Addr) (c0 : Nat) (l0 : List (S44)) (a1_0 : Int) (a1_1 : Int) (a1_2 : Int) (r : List (S24)) (w : World) (hr0 : Kd.C k44 w A0 l0.length l0) (hc0 : l0.length ≤ c0) (h : depgraph_Dependents.f l0 a1_0 a1_1 a1_2 = some r) :
    Calls Try.prog 11 #[.slice A0 l0.length c0, .agg #[.int .i64 a1_0, .int .i64 a1_1, .int .i64 a1_2]] w fun e w' => ∃ v0_ : Value, e = .returned (v0_) ∧ Kd.R k24 24 w' w.heap.size (fun _ => True) v0_ r ∧ Below w.heap.size w w' := by
  obtain rfl := Option.some.inj h
  exact dependents_calls A0 c0 l0 ⟨a1_0, a1_1, a1_2⟩ w hr0 hc0

end Go.Proofs.Ytofonbfpjfabbaa.QDepgraphReduction

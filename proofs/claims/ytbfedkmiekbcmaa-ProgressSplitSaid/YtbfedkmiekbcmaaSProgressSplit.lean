-- Written by gen.py (this repo's wip/): what the law takes, and the one pure statement.
import Derived.Test.YtbfedkmiekbcmaaDoor
import Derived.Test.YtbfedkmiekbcmaaQProgressSplitx
namespace Go.Proofs.Ytbfedkmiekbcmaa.QProgressSplit
open Go.RowKit Go.Proofs.YtbfedkmiekbcmaaW.PrintWords Go.Proofs.YtbfedkmiekbcmaaW.PrintLast Go.Proofs.Ytbfedkmiekbcmaa.Door
set_option linter.unusedVariables false
def glossatorlaw3_ProgressSplit.PureR : Prop := ∀ (a0 : Int) (a1 : List Int) (a2 : Int) (a3 : Int) (a4 : Int), ((Lit.int .i64 a0).wf = true) → (((a1).length ≤ maxLen ∧ (a1).length * 8 ≤ 140737488351232) ∧ ∀ x0 ∈ a1, (Lit.int .i64 x0).wf = true) → ((Lit.int .i64 a2).wf = true) → ((Lit.int .i64 a3).wf = true) → ((Lit.int .i64 a4).wf = true) → ∃ k, glossatorlaw3_ProgressSplit.f k a0 a1 a2 a3 a4 = some true
end Go.Proofs.Ytbfedkmiekbcmaa.QProgressSplit

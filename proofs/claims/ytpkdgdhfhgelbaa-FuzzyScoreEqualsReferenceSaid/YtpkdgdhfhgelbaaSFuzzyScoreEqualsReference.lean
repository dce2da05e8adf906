-- Written by gen.py (this repo's wip/): what the law takes, and the one pure statement.
import Derived.Test.YtpkdgdhfhgelbaaDoor
import Derived.Test.YtpkdgdhfhgelbaaQFuzzyScoreEqualsReferencex
namespace Go.Proofs.Ytpkdgdhfhgelbaa.QFuzzyScoreEqualsReference
open Go.RowKit Go.Proofs.YtpkdgdhfhgelbaaW.PrintWords Go.Proofs.YtpkdgdhfhgelbaaW.PrintLast Go.Proofs.Ytpkdgdhfhgelbaa.Door
set_option linter.unusedVariables false
def glossatorlaw4_FuzzyScoreEqualsReference.PureR : Prop := ∀ (a0 : ByteArray) (a1 : ByteArray) (a2 : Int) (a3 : Int), ((a0).size ≤ 140737488351232) → ((a1).size ≤ 140737488351232) → ((Lit.int .u8 a2).wf = true) → ((Lit.int .u8 a3).wf = true) → ∃ k, glossatorlaw4_FuzzyScoreEqualsReference.f k a0 a1 a2 a3 = some true
end Go.Proofs.Ytpkdgdhfhgelbaa.QFuzzyScoreEqualsReference

-- Written by gen.py (this repo's wip/), which runs the kit's print.py with more arms. Lean checks it.
import Derived.Test.YtpkdgdhfhgelbaaQFuzzyScoreEqualsReferencex0
import Derived.Test.YtpkdgdhfhgelbaaQFuzzyScoreEqualsReferencex1
import Derived.Test.YtpkdgdhfhgelbaaQFuzzyScoreEqualsReferencex2
import Derived.Test.YtpkdgdhfhgelbaaQFuzzyScoreEqualsReferencex3
import Derived.Test.YtpkdgdhfhgelbaaQFuzzyScoreEqualsReferencex4
import Derived.Test.YtpkdgdhfhgelbaaQFuzzyScoreEqualsReferencex5
import Derived.Test.YtpkdgdhfhgelbaaQFuzzyScoreEqualsReferencex6
import Derived.Test.YtpkdgdhfhgelbaaQFuzzyScoreEqualsReferencex7
import Derived.Test.YtpkdgdhfhgelbaaQFuzzyScoreEqualsReferencex8
namespace Go.Proofs.Ytpkdgdhfhgelbaa.QFuzzyScoreEqualsReference
open Go.RowKit Go.Proofs.YtpkdgdhfhgelbaaW.PrintWords Go.Proofs.YtpkdgdhfhgelbaaW.PrintLast Go.Proofs.YtpkdgdhfhgelbaaW.PrintMore
attribute [local go_sem] max2_int min2_int max_two min_two max_three min_three max_four min_four   -- for this text's walks alone
set_option linter.unusedVariables false
set_option linter.unusedSimpArgs false

end Go.Proofs.Ytpkdgdhfhgelbaa.QFuzzyScoreEqualsReference

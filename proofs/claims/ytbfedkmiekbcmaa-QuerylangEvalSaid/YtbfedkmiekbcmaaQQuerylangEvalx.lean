-- Written by gen.py (this repo's wip/), which runs the kit's print.py with more arms. Lean checks it.
import Derived.Test.YtbfedkmiekbcmaaQQuerylangEvalx0
import Derived.Test.YtbfedkmiekbcmaaQQuerylangEvalx1
import Derived.Test.YtbfedkmiekbcmaaQQuerylangEvalx2
import Derived.Test.YtbfedkmiekbcmaaQQuerylangEvalx3
import Derived.Test.YtbfedkmiekbcmaaQQuerylangEvalx4
import Derived.Test.YtbfedkmiekbcmaaQQuerylangEvalx5
import Derived.Test.YtbfedkmiekbcmaaQQuerylangEvalx6
import Derived.Test.YtbfedkmiekbcmaaQQuerylangEvalx7
namespace Go.Proofs.Ytbfedkmiekbcmaa.QQuerylangEval
open Go.RowKit Go.Proofs.YtbfedkmiekbcmaaW.PrintWords Go.Proofs.YtbfedkmiekbcmaaW.PrintLast Go.Proofs.YtbfedkmiekbcmaaW.PrintMore
attribute [local go_sem] max2_int min2_int max_two min_two max_three min_three max_four min_four   -- for this text's walks alone
set_option linter.unusedVariables false
set_option linter.unusedSimpArgs false

end Go.Proofs.Ytbfedkmiekbcmaa.QQuerylangEval

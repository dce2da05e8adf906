-- Written by gen.py (this repo's wip/), which runs the kit's print.py with more arms. Lean checks it.
import Derived.Test.YtbfedkmiekbcmaaQQuerylangReadsx0
import Derived.Test.YtbfedkmiekbcmaaQQuerylangReadsx1
import Derived.Test.YtbfedkmiekbcmaaQQuerylangReadsx2
import Derived.Test.YtbfedkmiekbcmaaQQuerylangReadsx3
import Derived.Test.YtbfedkmiekbcmaaQQuerylangReadsx4
import Derived.Test.YtbfedkmiekbcmaaQQuerylangReadsx5
import Derived.Test.YtbfedkmiekbcmaaQQuerylangReadsx6
import Derived.Test.YtbfedkmiekbcmaaQQuerylangReadsx7
import Derived.Test.YtbfedkmiekbcmaaQQuerylangReadsx8
import Derived.Test.YtbfedkmiekbcmaaQQuerylangReadsx9
import Derived.Test.YtbfedkmiekbcmaaQQuerylangReadsx10
import Derived.Test.YtbfedkmiekbcmaaQQuerylangReadsx11
namespace Go.Proofs.Ytbfedkmiekbcmaa.QQuerylangReads
open Go.RowKit Go.Proofs.YtbfedkmiekbcmaaW.PrintWords Go.Proofs.YtbfedkmiekbcmaaW.PrintLast Go.Proofs.YtbfedkmiekbcmaaW.PrintMore
attribute [local go_sem] max2_int min2_int max_two min_two max_three min_three max_four min_four   -- for this text's walks alone
set_option linter.unusedVariables false
set_option linter.unusedSimpArgs false

end Go.Proofs.Ytbfedkmiekbcmaa.QQuerylangReads

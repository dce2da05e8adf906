-- Written by gen.py (this repo's wip/), which runs the kit's print.py with more arms. Lean checks it.
import Derived.Test.YtbfedkmiekbcmaaQFixpointLeastx0
import Derived.Test.YtbfedkmiekbcmaaQFixpointLeastx1
import Derived.Test.YtbfedkmiekbcmaaQFixpointLeastx2
import Derived.Test.YtbfedkmiekbcmaaQFixpointLeastx3
import Derived.Test.YtbfedkmiekbcmaaQFixpointLeastx4
import Derived.Test.YtbfedkmiekbcmaaQFixpointLeastx5
import Derived.Test.YtbfedkmiekbcmaaQFixpointLeastx6
import Derived.Test.YtbfedkmiekbcmaaQFixpointLeastx7
namespace Go.Proofs.Ytbfedkmiekbcmaa.QFixpointLeast
open Go.RowKit Go.Proofs.YtbfedkmiekbcmaaW.PrintWords Go.Proofs.YtbfedkmiekbcmaaW.PrintLast Go.Proofs.YtbfedkmiekbcmaaW.PrintMore
attribute [local go_sem] max2_int min2_int max_two min_two max_three min_three max_four min_four   -- for this text's walks alone
set_option linter.unusedVariables false
set_option linter.unusedSimpArgs false

end Go.Proofs.Ytbfedkmiekbcmaa.QFixpointLeast

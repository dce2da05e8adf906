-- Written by gen.py (this repo's wip/), which runs the kit's print.py with more arms. Lean checks it.
import Derived.Test.YtglckkkjfcomlaaQFixpointProofsx0
import Derived.Test.YtglckkkjfcomlaaQFixpointProofsx1
import Derived.Test.YtglckkkjfcomlaaQFixpointProofsx2
import Derived.Test.YtglckkkjfcomlaaQFixpointProofsx3
import Derived.Test.YtglckkkjfcomlaaQFixpointProofsx4
import Derived.Test.YtglckkkjfcomlaaQFixpointProofsx5
import Derived.Test.YtglckkkjfcomlaaQFixpointProofsx6
import Derived.Test.YtglckkkjfcomlaaQFixpointProofsx7
import Derived.Test.YtglckkkjfcomlaaQFixpointProofsx8
import Derived.Test.YtglckkkjfcomlaaQFixpointProofsx9
import Derived.Test.YtglckkkjfcomlaaQFixpointProofsx10
import Derived.Test.YtglckkkjfcomlaaQFixpointProofsx11
import Derived.Test.YtglckkkjfcomlaaQFixpointProofsx12
import Derived.Test.YtglckkkjfcomlaaQFixpointProofsx13
namespace Go.Proofs.Ytglckkkjfcomlaa.QFixpointProofs
open Go.RowKit Go.Proofs.YtglckkkjfcomlaaW.PrintWords Go.Proofs.YtglckkkjfcomlaaW.PrintLast Go.Proofs.YtglckkkjfcomlaaW.PrintMore
attribute [local go_sem] max2_int min2_int max_two min_two max_three min_three max_four min_four   -- for this text's walks alone
set_option linter.unusedVariables false
set_option linter.unusedSimpArgs false

end Go.Proofs.Ytglckkkjfcomlaa.QFixpointProofs

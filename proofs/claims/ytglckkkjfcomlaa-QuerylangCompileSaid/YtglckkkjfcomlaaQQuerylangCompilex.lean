-- Written by gen.py (this repo's wip/), which runs the kit's print.py with more arms. Lean checks it.
import Derived.Test.YtglckkkjfcomlaaQQuerylangCompilex0
import Derived.Test.YtglckkkjfcomlaaQQuerylangCompilex1
import Derived.Test.YtglckkkjfcomlaaQQuerylangCompilex2
import Derived.Test.YtglckkkjfcomlaaQQuerylangCompilex3
import Derived.Test.YtglckkkjfcomlaaQQuerylangCompilex4
import Derived.Test.YtglckkkjfcomlaaQQuerylangCompilex5
import Derived.Test.YtglckkkjfcomlaaQQuerylangCompilex6
import Derived.Test.YtglckkkjfcomlaaQQuerylangCompilex7
import Derived.Test.YtglckkkjfcomlaaQQuerylangCompilex8
import Derived.Test.YtglckkkjfcomlaaQQuerylangCompilex9
namespace Go.Proofs.Ytglckkkjfcomlaa.QQuerylangCompile
open Go.RowKit Go.Proofs.YtglckkkjfcomlaaW.PrintWords Go.Proofs.YtglckkkjfcomlaaW.PrintLast Go.Proofs.YtglckkkjfcomlaaW.PrintMore
attribute [local go_sem] max2_int min2_int max_two min_two max_three min_three max_four min_four   -- for this text's walks alone
set_option linter.unusedVariables false
set_option linter.unusedSimpArgs false

end Go.Proofs.Ytglckkkjfcomlaa.QQuerylangCompile

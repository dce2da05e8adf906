-- Written by gen.py (this repo's wip/), which runs the kit's print.py with more arms. Lean checks it.
import Derived.Test.YtofonbfpjfabbaaQDepgraphReachabilityx0
import Derived.Test.YtofonbfpjfabbaaQDepgraphReachabilityx1
import Derived.Test.YtofonbfpjfabbaaQDepgraphReachabilityx2
import Derived.Test.YtofonbfpjfabbaaQDepgraphReachabilityx3
import Derived.Test.YtofonbfpjfabbaaQDepgraphReachabilityx4
import Derived.Test.YtofonbfpjfabbaaQDepgraphReachabilityx5
import Derived.Test.YtofonbfpjfabbaaQDepgraphReachabilityx6
import Derived.Test.YtofonbfpjfabbaaQDepgraphReachabilityx7
import Derived.Test.YtofonbfpjfabbaaQDepgraphReachabilityx8
import Derived.Test.YtofonbfpjfabbaaQDepgraphReachabilityx9
import Derived.Test.YtofonbfpjfabbaaQDepgraphReachabilityx10
namespace Go.Proofs.Ytofonbfpjfabbaa.QDepgraphReachability
open Go.RowKit Go.Proofs.YtofonbfpjfabbaaW.PrintWords Go.Proofs.YtofonbfpjfabbaaW.PrintLast Go.Proofs.YtofonbfpjfabbaaW.PrintMore
attribute [local go_sem] max2_int min2_int max_two min_two max_three min_three max_four min_four   -- for this text's walks alone
set_option linter.unusedVariables false
set_option linter.unusedSimpArgs false

end Go.Proofs.Ytofonbfpjfabbaa.QDepgraphReachability

-- Written by gen.py (this repo's wip/), which runs the kit's print.py with more arms. Lean checks it.
import Derived.Test.YtofonbfpjfabbaaQDepgraphOrderx0
import Derived.Test.YtofonbfpjfabbaaQDepgraphOrderx1
import Derived.Test.YtofonbfpjfabbaaQDepgraphOrderx2
import Derived.Test.YtofonbfpjfabbaaQDepgraphOrderx3
import Derived.Test.YtofonbfpjfabbaaQDepgraphOrderx4
import Derived.Test.YtofonbfpjfabbaaQDepgraphOrderx5
import Derived.Test.YtofonbfpjfabbaaQDepgraphOrderx6
import Derived.Test.YtofonbfpjfabbaaQDepgraphOrderx7
import Derived.Test.YtofonbfpjfabbaaQDepgraphOrderx8
import Derived.Test.YtofonbfpjfabbaaQDepgraphOrderx9
import Derived.Test.YtofonbfpjfabbaaQDepgraphOrderx10
import Derived.Test.YtofonbfpjfabbaaQDepgraphOrderx11
namespace Go.Proofs.Ytofonbfpjfabbaa.QDepgraphOrder
open Go.RowKit Go.Proofs.YtofonbfpjfabbaaW.PrintWords Go.Proofs.YtofonbfpjfabbaaW.PrintLast Go.Proofs.YtofonbfpjfabbaaW.PrintMore
attribute [local go_sem] max2_int min2_int max_two min_two max_three min_three max_four min_four   -- for this text's walks alone
set_option linter.unusedVariables false
set_option linter.unusedSimpArgs false

end Go.Proofs.Ytofonbfpjfabbaa.QDepgraphOrder

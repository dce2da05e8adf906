-- Written by gen.py (this repo's wip/), which runs the kit's print.py with more arms. Lean checks it.
import Derived.Test.YtofonbfpjfabbaaQDepgraphReductionx0
import Derived.Test.YtofonbfpjfabbaaQDepgraphReductionx1
import Derived.Test.YtofonbfpjfabbaaQDepgraphReductionx2
import Derived.Test.YtofonbfpjfabbaaQDepgraphReductionx3
import Derived.Test.YtofonbfpjfabbaaQDepgraphReductionx4
import Derived.Test.YtofonbfpjfabbaaQDepgraphReductionx5
import Derived.Test.YtofonbfpjfabbaaQDepgraphReductionx6
import Derived.Test.YtofonbfpjfabbaaQDepgraphReductionx7
import Derived.Test.YtofonbfpjfabbaaQDepgraphReductionx8
import Derived.Test.YtofonbfpjfabbaaQDepgraphReductionx9
import Derived.Test.YtofonbfpjfabbaaQDepgraphReductionx10
import Derived.Test.YtofonbfpjfabbaaQDepgraphReductionx11
import Derived.Test.YtofonbfpjfabbaaQDepgraphReductionx12
import Derived.Test.YtofonbfpjfabbaaQDepgraphReductionx13
import Derived.Test.YtofonbfpjfabbaaQDepgraphReductionx14
import Derived.Test.YtofonbfpjfabbaaQDepgraphReductionx15
import Derived.Test.YtofonbfpjfabbaaQDepgraphReductionx16
namespace Go.Proofs.Ytofonbfpjfabbaa.QDepgraphReduction
open Go.RowKit Go.Proofs.YtofonbfpjfabbaaW.PrintWords Go.Proofs.YtofonbfpjfabbaaW.PrintLast Go.Proofs.YtofonbfpjfabbaaW.PrintMore
attribute [local go_sem] max2_int min2_int max_two min_two max_three min_three max_four min_four   -- for this text's walks alone
set_option linter.unusedVariables false
set_option linter.unusedSimpArgs false

end Go.Proofs.Ytofonbfpjfabbaa.QDepgraphReduction

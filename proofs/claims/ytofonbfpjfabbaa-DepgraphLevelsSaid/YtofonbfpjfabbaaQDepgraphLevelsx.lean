-- Written by gen.py (this repo's wip/), which runs the kit's print.py with more arms. Lean checks it.
import Derived.Test.YtofonbfpjfabbaaQDepgraphLevelsx0
import Derived.Test.YtofonbfpjfabbaaQDepgraphLevelsx1
import Derived.Test.YtofonbfpjfabbaaQDepgraphLevelsx2
import Derived.Test.YtofonbfpjfabbaaQDepgraphLevelsx3
import Derived.Test.YtofonbfpjfabbaaQDepgraphLevelsx4
import Derived.Test.YtofonbfpjfabbaaQDepgraphLevelsx5
import Derived.Test.YtofonbfpjfabbaaQDepgraphLevelsx6
import Derived.Test.YtofonbfpjfabbaaQDepgraphLevelsx7
import Derived.Test.YtofonbfpjfabbaaQDepgraphLevelsx8
import Derived.Test.YtofonbfpjfabbaaQDepgraphLevelsx9
import Derived.Test.YtofonbfpjfabbaaQDepgraphLevelsx10
import Derived.Test.YtofonbfpjfabbaaQDepgraphLevelsx11
import Derived.Test.YtofonbfpjfabbaaQDepgraphLevelsx12
namespace Go.Proofs.Ytofonbfpjfabbaa.QDepgraphLevels
open Go.RowKit Go.Proofs.YtofonbfpjfabbaaW.PrintWords Go.Proofs.YtofonbfpjfabbaaW.PrintLast Go.Proofs.YtofonbfpjfabbaaW.PrintMore
attribute [local go_sem] max2_int min2_int max_two min_two max_three min_three max_four min_four   -- for this text's walks alone
set_option linter.unusedVariables false
set_option linter.unusedSimpArgs false

end Go.Proofs.Ytofonbfpjfabbaa.QDepgraphLevels

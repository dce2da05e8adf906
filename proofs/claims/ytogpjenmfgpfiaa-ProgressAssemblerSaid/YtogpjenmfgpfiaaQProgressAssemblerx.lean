-- Written by gen.py (this repo's wip/), which runs the kit's print.py with more arms. Lean checks it.
import Derived.Test.YtogpjenmfgpfiaaQProgressAssemblerx0
import Derived.Test.YtogpjenmfgpfiaaQProgressAssemblerx1
import Derived.Test.YtogpjenmfgpfiaaQProgressAssemblerx2
import Derived.Test.YtogpjenmfgpfiaaQProgressAssemblerx3
import Derived.Test.YtogpjenmfgpfiaaQProgressAssemblerx4
namespace Go.Proofs.Ytogpjenmfgpfiaa.QProgressAssembler
open Go.RowKit Go.Proofs.YtogpjenmfgpfiaaW.PrintWords Go.Proofs.YtogpjenmfgpfiaaW.PrintLast Go.Proofs.YtogpjenmfgpfiaaW.PrintMore
attribute [local go_sem] max2_int min2_int max_two min_two max_three min_three max_four min_four   -- for this text's walks alone
set_option linter.unusedVariables false
set_option linter.unusedSimpArgs false

end Go.Proofs.Ytogpjenmfgpfiaa.QProgressAssembler

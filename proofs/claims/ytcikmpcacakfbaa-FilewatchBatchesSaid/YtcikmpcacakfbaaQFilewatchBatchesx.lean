-- Written by gen.py (this repo's wip/), which runs the kit's print.py with more arms. Lean checks it.
import Derived.Test.YtcikmpcacakfbaaQFilewatchBatchesx0
import Derived.Test.YtcikmpcacakfbaaQFilewatchBatchesx1
import Derived.Test.YtcikmpcacakfbaaQFilewatchBatchesx2
import Derived.Test.YtcikmpcacakfbaaQFilewatchBatchesx3
import Derived.Test.YtcikmpcacakfbaaQFilewatchBatchesx4
import Derived.Test.YtcikmpcacakfbaaQFilewatchBatchesx5
import Derived.Test.YtcikmpcacakfbaaQFilewatchBatchesx6
import Derived.Test.YtcikmpcacakfbaaQFilewatchBatchesx7
import Derived.Test.YtcikmpcacakfbaaQFilewatchBatchesx8
import Derived.Test.YtcikmpcacakfbaaQFilewatchBatchesx9
import Derived.Test.YtcikmpcacakfbaaQFilewatchBatchesx10
import Derived.Test.YtcikmpcacakfbaaQFilewatchBatchesx11
namespace Go.Proofs.Ytcikmpcacakfbaa.QFilewatchBatches
open Go.RowKit Go.Proofs.YtcikmpcacakfbaaW.PrintWords Go.Proofs.YtcikmpcacakfbaaW.PrintLast Go.Proofs.YtcikmpcacakfbaaW.PrintMore
attribute [local go_sem] max2_int min2_int max_two min_two max_three min_three max_four min_four   -- for this text's walks alone
set_option linter.unusedVariables false
set_option linter.unusedSimpArgs false

end Go.Proofs.Ytcikmpcacakfbaa.QFilewatchBatches

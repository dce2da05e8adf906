-- Written by gen.py (this repo's wip/), which runs the kit's print.py with more arms. Lean checks it.
import Derived.Test.YtcikmpcacakfbaaQJournalReadx0
import Derived.Test.YtcikmpcacakfbaaQJournalReadx1
import Derived.Test.YtcikmpcacakfbaaQJournalReadx2
import Derived.Test.YtcikmpcacakfbaaQJournalReadx3
import Derived.Test.YtcikmpcacakfbaaQJournalReadx4
import Derived.Test.YtcikmpcacakfbaaQJournalReadx5
import Derived.Test.YtcikmpcacakfbaaQJournalReadx6
import Derived.Test.YtcikmpcacakfbaaQJournalReadx7
namespace Go.Proofs.Ytcikmpcacakfbaa.QJournalRead
open Go.RowKit Go.Proofs.YtcikmpcacakfbaaW.PrintWords Go.Proofs.YtcikmpcacakfbaaW.PrintLast Go.Proofs.YtcikmpcacakfbaaW.PrintMore
attribute [local go_sem] max2_int min2_int max_two min_two max_three min_three max_four min_four   -- for this text's walks alone
set_option linter.unusedVariables false
set_option linter.unusedSimpArgs false

end Go.Proofs.Ytcikmpcacakfbaa.QJournalRead

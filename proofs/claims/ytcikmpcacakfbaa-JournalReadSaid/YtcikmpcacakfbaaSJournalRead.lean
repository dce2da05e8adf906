-- Written by gen.py (this repo's wip/): what the law takes, and the one pure statement.
import Derived.Test.YtcikmpcacakfbaaDoor
import Derived.Test.YtcikmpcacakfbaaQJournalReadx
namespace Go.Proofs.Ytcikmpcacakfbaa.QJournalRead
open Go.RowKit Go.Proofs.YtcikmpcacakfbaaW.PrintWords Go.Proofs.YtcikmpcacakfbaaW.PrintLast Go.Proofs.Ytcikmpcacakfbaa.Door
set_option linter.unusedVariables false
def glossatorlaw3_JournalRead.PureR : Prop := ∀ (a0 : ByteArray), ((a0).size ≤ 140737488351232) → ∃ k, glossatorlaw3_JournalRead.f k a0 = some true
end Go.Proofs.Ytcikmpcacakfbaa.QJournalRead

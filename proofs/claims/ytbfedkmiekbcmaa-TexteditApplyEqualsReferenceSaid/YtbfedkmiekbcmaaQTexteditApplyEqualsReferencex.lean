-- Written by gen.py (this repo's wip/), which runs the kit's print.py with more arms. Lean checks it.
import Derived.Test.YtbfedkmiekbcmaaQTexteditApplyEqualsReferencex0
import Derived.Test.YtbfedkmiekbcmaaQTexteditApplyEqualsReferencex1
import Derived.Test.YtbfedkmiekbcmaaQTexteditApplyEqualsReferencex2
import Derived.Test.YtbfedkmiekbcmaaQTexteditApplyEqualsReferencex3
import Derived.Test.YtbfedkmiekbcmaaQTexteditApplyEqualsReferencex4
import Derived.Test.YtbfedkmiekbcmaaQTexteditApplyEqualsReferencex5
import Derived.Test.YtbfedkmiekbcmaaQTexteditApplyEqualsReferencex6
import Derived.Test.YtbfedkmiekbcmaaQTexteditApplyEqualsReferencex7
import Derived.Test.YtbfedkmiekbcmaaQTexteditApplyEqualsReferencex8
namespace Go.Proofs.Ytbfedkmiekbcmaa.QTexteditApplyEqualsReference
open Go.RowKit Go.Proofs.YtbfedkmiekbcmaaW.PrintWords Go.Proofs.YtbfedkmiekbcmaaW.PrintLast Go.Proofs.YtbfedkmiekbcmaaW.PrintMore
attribute [local go_sem] max2_int min2_int max_two min_two max_three min_three max_four min_four   -- for this text's walks alone
set_option linter.unusedVariables false
set_option linter.unusedSimpArgs false

end Go.Proofs.Ytbfedkmiekbcmaa.QTexteditApplyEqualsReference

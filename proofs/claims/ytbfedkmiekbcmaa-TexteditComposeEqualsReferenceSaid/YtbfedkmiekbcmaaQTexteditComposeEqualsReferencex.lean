-- Written by gen.py (this repo's wip/), which runs the kit's print.py with more arms. Lean checks it.
import Derived.Test.YtbfedkmiekbcmaaQTexteditComposeEqualsReferencex0
import Derived.Test.YtbfedkmiekbcmaaQTexteditComposeEqualsReferencex1
import Derived.Test.YtbfedkmiekbcmaaQTexteditComposeEqualsReferencex2
import Derived.Test.YtbfedkmiekbcmaaQTexteditComposeEqualsReferencex3
import Derived.Test.YtbfedkmiekbcmaaQTexteditComposeEqualsReferencex4
import Derived.Test.YtbfedkmiekbcmaaQTexteditComposeEqualsReferencex5
import Derived.Test.YtbfedkmiekbcmaaQTexteditComposeEqualsReferencex6
import Derived.Test.YtbfedkmiekbcmaaQTexteditComposeEqualsReferencex7
import Derived.Test.YtbfedkmiekbcmaaQTexteditComposeEqualsReferencex8
import Derived.Test.YtbfedkmiekbcmaaQTexteditComposeEqualsReferencex9
namespace Go.Proofs.Ytbfedkmiekbcmaa.QTexteditComposeEqualsReference
open Go.RowKit Go.Proofs.YtbfedkmiekbcmaaW.PrintWords Go.Proofs.YtbfedkmiekbcmaaW.PrintLast Go.Proofs.YtbfedkmiekbcmaaW.PrintMore
attribute [local go_sem] max2_int min2_int max_two min_two max_three min_three max_four min_four   -- for this text's walks alone
set_option linter.unusedVariables false
set_option linter.unusedSimpArgs false

end Go.Proofs.Ytbfedkmiekbcmaa.QTexteditComposeEqualsReference

-- Written by gen.py (this repo's wip/), which runs the kit's print.py with more arms. Lean checks it.
import Derived.Test.YtogpjenmfgpfiaaProg
import Derived.Below
import Derived.Deep.Draws
import Derived.Deep.AppendLies
import Derived.Maps.AppendAt
import Derived.OwnWalk
import Derived.Laws.BytesArg
import Derived.Laws.MakeOwn
import Derived.Laws.OwnMore
import Derived.Deep.OwnRows
import Derived.Tactics
import Derived.Lib.ConvBytes
import Derived.Laws.Slices
import Derived.WalkKit
import Derived.KernelRfl
import Derived.RowKit3
import Derived.Deep.LoopGhost
import Derived.Deep.QuietTactic
import Derived.BigQuiet
import Derived.WideLaws
import Derived.Deep.DeepCutAuto
import Derived.Deep.CutBlock
import Derived.Deep.RegionHeld3
import Derived.Laws.Rows
import Derived.Lib.AppendStr
import Derived.ArgAppend
import Derived.Laws.IdiomCopy
import Derived.OrdersHeld
import Derived.Laws.BitsLemmas
import Derived.RowKit
import Derived.Lib.SliceRun
import Derived.Test.YtogpjenmfgpfiaaWWords
import Derived.Test.YtogpjenmfgpfiaaWLast
import Derived.Test.YtogpjenmfgpfiaaWTab
import Derived.Test.YtogpjenmfgpfiaaWFour
import Derived.Test.YtogpjenmfgpfiaaWQPut
import Derived.Test.YtogpjenmfgpfiaaWApart
import Derived.Test.YtogpjenmfgpfiaaWArr
import Derived.Test.YtogpjenmfgpfiaaWZeros
import Derived.Test.YtogpjenmfgpfiaaWFoot
import Derived.Test.YtogpjenmfgpfiaaWKept
import Derived.Test.YtogpjenmfgpfiaaWShare
import Derived.Test.YtogpjenmfgpfiaaWN
import Derived.Test.YtogpjenmfgpfiaaWFootNe
import Derived.Test.YtogpjenmfgpfiaaWAt
import Derived.Test.YtogpjenmfgpfiaaWEqStruct
import Derived.Test.YtogpjenmfgpfiaaWRepsOne
import Derived.Test.YtogpjenmfgpfiaaWInv
import Derived.Test.YtogpjenmfgpfiaaWInvWords
import Derived.Test.YtogpjenmfgpfiaaWGuard
import Derived.Test.YtogpjenmfgpfiaaWNEv
import Derived.Test.YtogpjenmfgpfiaaWMore
namespace Go.Proofs.Ytogpjenmfgpfiaa.QInputsScript
open Go.RowKit Go.Proofs.YtogpjenmfgpfiaaW.PrintWords Go.Proofs.YtogpjenmfgpfiaaW.PrintLast Go.Proofs.YtogpjenmfgpfiaaW.PrintMore
attribute [local go_sem] max2_int min2_int max_two min_two max_three min_three max_four min_four   -- for this text's walks alone
set_option linter.unusedVariables false
set_option linter.unusedSimpArgs false



def errW : Option Int → Value
  | none => .nilIface
  | some c => .iface 0 (.int .i64 c)
theorem errW_none : errW none = .nilIface := rfl
theorem errW_some (c : Int) : errW (some c) = .iface 0 (.int .i64 c) := rfl

theorem info3 : (Try.prog.info? 3).map (fun i => (i.zero, i.size, i.bytes)) = some (some (.int .i64 0), 1, 8) := by kernel_rfl
-- the values' own types

end Go.Proofs.Ytogpjenmfgpfiaa.QInputsScript

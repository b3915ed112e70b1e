/- Printed by a program of this session (wip/tools/prt.py) out of the translation: plain functions, and that the calls come to just them. No conditions beyond those that stand in each theorem. -/
import Derived.Test.YtkogfbgeepgjgaaProg
import Derived.Below
import Derived.Deep.Draws
import Derived.Deep.AppendLies
import Derived.Maps.AppendAt
import Derived.OwnWalk
import Derived.Laws.BytesArg
import Derived.Laws.MakeOwn
import Derived.Laws.OwnMore
import Derived.Deep.OwnRows
import Derived.Tactics
import Derived.Lib.ConvBytes
import Derived.Laws.Slices
import Derived.WalkKit
import Derived.KernelRfl
import Derived.RowKit3
import Derived.Deep.LoopGhost
import Derived.Deep.QuietTactic
import Derived.BigQuiet
import Derived.WideLaws
import Derived.Deep.DeepCutAuto
import Derived.Deep.CutBlock
import Derived.Deep.RegionHeld3
import Derived.Laws.Rows
import Derived.Lib.AppendStr
import Derived.ArgAppend
import Derived.Laws.IdiomCopy
import Derived.OrdersHeld
import Derived.Laws.BitsLemmas
import Derived.RowKit
import Derived.Test.YtkogfbgeepgjgaaWWords
import Derived.Test.YtkogfbgeepgjgaaWLast
import Derived.Test.YtkogfbgeepgjgaaWTab
import Derived.Test.YtkogfbgeepgjgaaWFour
import Derived.Test.YtkogfbgeepgjgaaWQPut
import Derived.Test.YtkogfbgeepgjgaaWApart
import Derived.Test.YtkogfbgeepgjgaaWArr
import Derived.Test.YtkogfbgeepgjgaaWZeros
import Derived.Test.YtkogfbgeepgjgaaWFoot
import Derived.Test.YtkogfbgeepgjgaaWKept
import Derived.Test.YtkogfbgeepgjgaaWShare
import Derived.Test.YtkogfbgeepgjgaaWN
import Derived.Test.YtkogfbgeepgjgaaWFootNe
import Derived.Test.YtkogfbgeepgjgaaWAt
import Derived.Test.YtkogfbgeepgjgaaWEqStruct
import Derived.Test.YtkogfbgeepgjgaaWRepsOne
import Derived.Test.YtkogfbgeepgjgaaWInv
import Derived.Test.YtkogfbgeepgjgaaWInvWords
import Derived.Test.YtkogfbgeepgjgaaWGuard
import Derived.Test.YtkogfbgeepgjgaaWNEv
import Derived.Test.YtkogfbgeepgjgaaWMore
namespace Go.Proofs.Ytkogfbgeepgjgaa.PBase
open Go.RowKit Go.Proofs.YtkogfbgeepgjgaaW.PrintWords Go.Proofs.YtkogfbgeepgjgaaW.PrintLast Go.Proofs.YtkogfbgeepgjgaaW.PrintMore
attribute [local go_sem] max2_int min2_int max_two min_two max_three min_three max_four min_four   -- for this text's walks alone
set_option linter.unusedVariables false
set_option linter.unusedSimpArgs false



def errW : Option Int → Value
  | none => .nilIface
  | some c => .iface 0 (.int .i64 c)
theorem errW_none : errW none = .nilIface := rfl
theorem errW_some (c : Int) : errW (some c) = .iface 0 (.int .i64 c) := rfl

theorem info3 : (Try.prog.info? 3).map (fun i => (i.zero, i.size, i.bytes)) = some (some (.int .i64 0), 1, 8) := by kernel_rfl
-- the values' own types

end Go.Proofs.Ytkogfbgeepgjgaa.PBase

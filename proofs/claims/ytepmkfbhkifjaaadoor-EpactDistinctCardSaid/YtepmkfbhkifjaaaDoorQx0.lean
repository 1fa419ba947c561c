-- Written by wip/tool/qprint.py: the print of the kit, with hand-proved contracts put in. Lean checks it.
import Derived.Test.YtepmkfbhkifjaaaDoorProg
import Derived.Below
import Derived.Deep.Draws
import Derived.Deep.AppendLies
import Derived.Maps.AppendAt
import Derived.OwnWalk
import Derived.Laws.BytesArg
import Derived.Laws.MakeOwn
import Derived.Laws.OwnMore
import Derived.Deep.OwnRows
import Derived.Tactics
import Derived.Lib.ConvBytes
import Derived.Laws.Slices
import Derived.WalkKit
import Derived.KernelRfl
import Derived.RowKit3
import Derived.Deep.LoopGhost
import Derived.Deep.QuietTactic
import Derived.BigQuiet
import Derived.WideLaws
import Derived.Deep.DeepCutAuto
import Derived.Deep.CutBlock
import Derived.Deep.RegionHeld3
import Derived.Laws.Rows
import Derived.Lib.AppendStr
import Derived.ArgAppend
import Derived.Laws.IdiomCopy
import Derived.OrdersHeld
import Derived.Laws.BitsLemmas
import Derived.RowKit
import Derived.Test.YtepmkfbhkifjaaaDoorWWords
import Derived.Test.YtepmkfbhkifjaaaDoorWLast
import Derived.Test.YtepmkfbhkifjaaaDoorWTab
import Derived.Test.YtepmkfbhkifjaaaDoorWFour
import Derived.Test.YtepmkfbhkifjaaaDoorWQPut
import Derived.Test.YtepmkfbhkifjaaaDoorWApart
import Derived.Test.YtepmkfbhkifjaaaDoorWArr
import Derived.Test.YtepmkfbhkifjaaaDoorWZeros
import Derived.Test.YtepmkfbhkifjaaaDoorWFoot
import Derived.Test.YtepmkfbhkifjaaaDoorWKept
import Derived.Test.YtepmkfbhkifjaaaDoorWShare
import Derived.Test.YtepmkfbhkifjaaaDoorWN
import Derived.Test.YtepmkfbhkifjaaaDoorWFootNe
import Derived.Test.YtepmkfbhkifjaaaDoorWAt
import Derived.Test.YtepmkfbhkifjaaaDoorWEqStruct
import Derived.Test.YtepmkfbhkifjaaaDoorWRepsOne
import Derived.Test.YtepmkfbhkifjaaaDoorWInv
import Derived.Test.YtepmkfbhkifjaaaDoorWInvWords
import Derived.Test.YtepmkfbhkifjaaaDoorWGuard
import Derived.Test.YtepmkfbhkifjaaaDoorWNEv
import Derived.Test.YtepmkfbhkifjaaaDoorWMore
namespace Go.Proofs.YtepmkfbhkifjaaaDoor.Q
open Go.RowKit Go.Proofs.YtepmkfbhkifjaaaDoorW.PrintWords Go.Proofs.YtepmkfbhkifjaaaDoorW.PrintLast Go.Proofs.YtepmkfbhkifjaaaDoorW.PrintMore
attribute [local go_sem] max2_int min2_int max_two min_two max_three min_three max_four min_four   -- for this text's walks alone
set_option linter.unusedVariables false
set_option linter.unusedSimpArgs false



def errW : Option Int → Value
  | none => .nilIface
  | some c => .iface 0 (.int .i64 c)
theorem errW_none : errW none = .nilIface := rfl
theorem errW_some (c : Int) : errW (some c) = .iface 0 (.int .i64 c) := rfl

-- the values' own types

end Go.Proofs.YtepmkfbhkifjaaaDoor.Q

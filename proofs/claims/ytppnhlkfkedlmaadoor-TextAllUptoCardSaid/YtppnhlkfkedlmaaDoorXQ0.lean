-- PRINTED by print.py (a twelfth state) out of the translation. Not trusted: Lean checks it.
import Derived.Test.YtppnhlkfkedlmaaDoorProg
import Derived.Below
import Derived.Deep.Draws
import Derived.Deep.AppendLies
import Derived.Maps.AppendAt
import Derived.OwnWalk
import Derived.Laws.BytesArg
import Derived.Laws.MakeOwn
import Derived.Laws.OwnMore
import Derived.Deep.OwnRows
import Derived.Tactics
import Derived.Lib.ConvBytes
import Derived.Laws.Slices
import Derived.WalkKit
import Derived.KernelRfl
import Derived.RowKit3
import Derived.Deep.LoopGhost
import Derived.Deep.QuietTactic
import Derived.BigQuiet
import Derived.WideLaws
import Derived.Deep.DeepCutAuto
import Derived.Deep.CutBlock
import Derived.Deep.RegionHeld3
import Derived.Laws.Rows
import Derived.Lib.AppendStr
import Derived.ArgAppend
import Derived.Laws.IdiomCopy
import Derived.OrdersHeld
import Derived.Laws.BitsLemmas
import Derived.RowKit
import Derived.Test.YtppnhlkfkedlmaaDoorXW
import Derived.Test.YtppnhlkfkedlmaaDoorWWords
import Derived.Test.YtppnhlkfkedlmaaDoorWLast
import Derived.Test.YtppnhlkfkedlmaaDoorWTab
import Derived.Test.YtppnhlkfkedlmaaDoorWFour
import Derived.Test.YtppnhlkfkedlmaaDoorWQPut
import Derived.Test.YtppnhlkfkedlmaaDoorWApart
import Derived.Test.YtppnhlkfkedlmaaDoorWArr
import Derived.Test.YtppnhlkfkedlmaaDoorWZeros
import Derived.Test.YtppnhlkfkedlmaaDoorWFoot
import Derived.Test.YtppnhlkfkedlmaaDoorWKept
import Derived.Test.YtppnhlkfkedlmaaDoorWShare
import Derived.Test.YtppnhlkfkedlmaaDoorWN
import Derived.Test.YtppnhlkfkedlmaaDoorWFootNe
import Derived.Test.YtppnhlkfkedlmaaDoorWAt
import Derived.Test.YtppnhlkfkedlmaaDoorWEqStruct
import Derived.Test.YtppnhlkfkedlmaaDoorWRepsOne
import Derived.Test.YtppnhlkfkedlmaaDoorWInv
import Derived.Test.YtppnhlkfkedlmaaDoorWInvWords
import Derived.Test.YtppnhlkfkedlmaaDoorWGuard
import Derived.Test.YtppnhlkfkedlmaaDoorWNEv
import Derived.Test.YtppnhlkfkedlmaaDoorWMore
namespace Go.Proofs.YtppnhlkfkedlmaaDoor.XQ
attribute [local go_sem] Go.Proofs.YtppnhlkfkedlmaaDoor.XW.u8_wrap
open Go.RowKit Go.Proofs.YtppnhlkfkedlmaaDoorW.PrintWords Go.Proofs.YtppnhlkfkedlmaaDoorW.PrintLast Go.Proofs.YtppnhlkfkedlmaaDoorW.PrintMore
attribute [local go_sem] max2_int min2_int max_two min_two max_three min_three max_four min_four   -- for this text's walks alone
set_option linter.unusedVariables false
set_option linter.unusedSimpArgs false



def errW : Option Int → Value
  | none => .nilIface
  | some c => .iface 0 (.int .i64 c)
theorem errW_none : errW none = .nilIface := rfl
theorem errW_some (c : Int) : errW (some c) = .iface 0 (.int .i64 c) := rfl

theorem info5 : (Tryd.prog.info? 5).map (fun i => (i.zero, i.size, i.bytes)) = some (some (.int .u8 0), 1, 1) := by kernel_rfl
-- the values' own types

end Go.Proofs.YtppnhlkfkedlmaaDoor.XQ

-- PRINTED by print.py (a twelfth state) out of the translation. Not trusted: Lean checks it.
import Derived.Test.YtjkhdiphcgpbfaaDoorProg
import Derived.Below
import Derived.Deep.Draws
import Derived.Deep.AppendLies
import Derived.Maps.AppendAt
import Derived.OwnWalk
import Derived.Laws.BytesArg
import Derived.Laws.MakeOwn
import Derived.Laws.OwnMore
import Derived.Deep.OwnRows
import Derived.Tactics
import Derived.Lib.ConvBytes
import Derived.Laws.Slices
import Derived.WalkKit
import Derived.KernelRfl
import Derived.RowKit3
import Derived.Deep.LoopGhost
import Derived.Deep.QuietTactic
import Derived.BigQuiet
import Derived.WideLaws
import Derived.Deep.DeepCutAuto
import Derived.Deep.CutBlock
import Derived.Deep.RegionHeld3
import Derived.Laws.Rows
import Derived.Lib.AppendStr
import Derived.ArgAppend
import Derived.Laws.IdiomCopy
import Derived.OrdersHeld
import Derived.Laws.BitsLemmas
import Derived.RowKit
import Derived.Test.YtjkhdiphcgpbfaaDoorXW
import Derived.Test.YtjkhdiphcgpbfaaDoorXG
import Derived.Test.YtjkhdiphcgpbfaaDoorXE
import Derived.Test.YtjkhdiphcgpbfaaDoorWWords
import Derived.Test.YtjkhdiphcgpbfaaDoorWLast
import Derived.Test.YtjkhdiphcgpbfaaDoorWTab
import Derived.Test.YtjkhdiphcgpbfaaDoorWFour
import Derived.Test.YtjkhdiphcgpbfaaDoorWQPut
import Derived.Test.YtjkhdiphcgpbfaaDoorWApart
import Derived.Test.YtjkhdiphcgpbfaaDoorWArr
import Derived.Test.YtjkhdiphcgpbfaaDoorWZeros
import Derived.Test.YtjkhdiphcgpbfaaDoorWFoot
import Derived.Test.YtjkhdiphcgpbfaaDoorWKept
import Derived.Test.YtjkhdiphcgpbfaaDoorWShare
import Derived.Test.YtjkhdiphcgpbfaaDoorWN
import Derived.Test.YtjkhdiphcgpbfaaDoorWFootNe
import Derived.Test.YtjkhdiphcgpbfaaDoorWAt
import Derived.Test.YtjkhdiphcgpbfaaDoorWEqStruct
import Derived.Test.YtjkhdiphcgpbfaaDoorWRepsOne
import Derived.Test.YtjkhdiphcgpbfaaDoorWInv
import Derived.Test.YtjkhdiphcgpbfaaDoorWInvWords
import Derived.Test.YtjkhdiphcgpbfaaDoorWGuard
import Derived.Test.YtjkhdiphcgpbfaaDoorWNEv
import Derived.Test.YtjkhdiphcgpbfaaDoorWMore
namespace Go.Proofs.YtjkhdiphcgpbfaaDoor.X
open Go.Proofs.YtjkhdiphcgpbfaaDoor.XG
open Go.Proofs.YtjkhdiphcgpbfaaDoor.XE
open Go.RowKit Go.Proofs.YtjkhdiphcgpbfaaDoorW.PrintWords Go.Proofs.YtjkhdiphcgpbfaaDoorW.PrintLast Go.Proofs.YtjkhdiphcgpbfaaDoorW.PrintMore
attribute [local go_sem] max2_int min2_int max_two min_two max_three min_three max_four min_four   -- for this text's walks alone
set_option linter.unusedVariables false
set_option linter.unusedSimpArgs false



def errW : Option Int → Value
  | none => .nilIface
  | some c => .iface 0 (.int .i64 c)
theorem errW_none : errW none = .nilIface := rfl
theorem errW_some (c : Int) : errW (some c) = .iface 0 (.int .i64 c) := rfl

theorem info5 : (Tryd.prog.info? 5).map (fun i => (i.zero, i.size, i.bytes)) = some (some (.int .u8 0), 1, 1) := by kernel_rfl
-- the values' own types

end Go.Proofs.YtjkhdiphcgpbfaaDoor.X

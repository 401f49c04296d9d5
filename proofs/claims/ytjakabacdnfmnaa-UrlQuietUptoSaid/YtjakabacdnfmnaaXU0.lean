-- PRINTED by print.py (a twelfth state) out of the translation. Not trusted: Lean checks it.
import Derived.Test.YtjakabacdnfmnaaProg
import Derived.Below
import Derived.Deep.Draws
import Derived.Deep.AppendLies
import Derived.Maps.AppendAt
import Derived.OwnWalk
import Derived.Laws.BytesArg
import Derived.Laws.MakeOwn
import Derived.Laws.OwnMore
import Derived.Deep.OwnRows
import Derived.Tactics
import Derived.Lib.ConvBytes
import Derived.Laws.Slices
import Derived.WalkKit
import Derived.KernelRfl
import Derived.RowKit3
import Derived.Deep.LoopGhost
import Derived.Deep.QuietTactic
import Derived.BigQuiet
import Derived.WideLaws
import Derived.Deep.DeepCutAuto
import Derived.Deep.CutBlock
import Derived.Deep.RegionHeld3
import Derived.Laws.Rows
import Derived.Lib.AppendStr
import Derived.ArgAppend
import Derived.Laws.IdiomCopy
import Derived.OrdersHeld
import Derived.Laws.BitsLemmas
import Derived.RowKit
import Derived.Test.YtjakabacdnfmnaaXW
import Derived.Test.YtjakabacdnfmnaaUrlD
import Derived.Test.YtjakabacdnfmnaaWWords
import Derived.Test.YtjakabacdnfmnaaWLast
import Derived.Test.YtjakabacdnfmnaaWTab
import Derived.Test.YtjakabacdnfmnaaWFour
import Derived.Test.YtjakabacdnfmnaaWQPut
import Derived.Test.YtjakabacdnfmnaaWApart
import Derived.Test.YtjakabacdnfmnaaWArr
import Derived.Test.YtjakabacdnfmnaaWZeros
import Derived.Test.YtjakabacdnfmnaaWFoot
import Derived.Test.YtjakabacdnfmnaaWKept
import Derived.Test.YtjakabacdnfmnaaWShare
import Derived.Test.YtjakabacdnfmnaaWN
import Derived.Test.YtjakabacdnfmnaaWFootNe
import Derived.Test.YtjakabacdnfmnaaWAt
import Derived.Test.YtjakabacdnfmnaaWEqStruct
import Derived.Test.YtjakabacdnfmnaaWRepsOne
import Derived.Test.YtjakabacdnfmnaaWInv
import Derived.Test.YtjakabacdnfmnaaWInvWords
import Derived.Test.YtjakabacdnfmnaaWGuard
import Derived.Test.YtjakabacdnfmnaaWNEv
import Derived.Test.YtjakabacdnfmnaaWMore
namespace Go.Proofs.Ytjakabacdnfmnaa.XU
open Go.Proofs.Ytjakabacdnfmnaa.UrlD
attribute [local go_sem] Go.Proofs.Ytjakabacdnfmnaa.XW.u8_wrap
open Go.RowKit Go.Proofs.YtjakabacdnfmnaaW.PrintWords Go.Proofs.YtjakabacdnfmnaaW.PrintLast Go.Proofs.YtjakabacdnfmnaaW.PrintMore
attribute [local go_sem] max2_int min2_int max_two min_two max_three min_three max_four min_four   -- for this text's walks alone
set_option linter.unusedVariables false
set_option linter.unusedSimpArgs false



def errW : Option Int → Value
  | none => .nilIface
  | some c => .iface 0 (.int .i64 c)
theorem errW_none : errW none = .nilIface := rfl
theorem errW_some (c : Int) : errW (some c) = .iface 0 (.int .i64 c) := rfl

theorem info5 : (Try.prog.info? 5).map (fun i => (i.zero, i.size, i.bytes)) = some (some (.int .u8 0), 1, 1) := by kernel_rfl
-- the values' own types

end Go.Proofs.Ytjakabacdnfmnaa.XU

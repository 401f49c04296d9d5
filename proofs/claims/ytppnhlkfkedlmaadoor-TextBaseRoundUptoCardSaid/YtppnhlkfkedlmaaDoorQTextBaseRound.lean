/- The pure statement that is left of TextBaseRound: numbers and lists alone. -/
import Derived.Test.YtppnhlkfkedlmaaDoorBaseRoundW
import Derived.Test.YtppnhlkfkedlmaaDoorXO
namespace Go.Proofs.YtppnhlkfkedlmaaDoor.QTextBaseRound
open Go.RowKit Go.Proofs.YtppnhlkfkedlmaaDoor.BaseRoundW Go.Proofs.YtppnhlkfkedlmaaDoorW.PrintWords Go.Proofs.YtppnhlkfkedlmaaDoorW.PrintLast
set_option linter.unusedVariables false
def Pure : Prop := ∀ (x0 : ByteArray) (x1 : Int) (x2 : Int), (x0.size ≤ 140737488351232) → ((Lit.int .i64 x1).wf = true) → ((Lit.int .u8 x2).wf = true) → ((x0.size + 1) + (1) + (1) ≤ 1048576) → rosterlaw01_TextBaseRound.f x0 x1 x2 = some true
end Go.Proofs.YtppnhlkfkedlmaaDoor.QTextBaseRound

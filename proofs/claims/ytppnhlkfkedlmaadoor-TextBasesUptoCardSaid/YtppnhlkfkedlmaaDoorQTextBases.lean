/- The pure statement that is left of TextBases: numbers and lists alone. -/
import Derived.Test.YtppnhlkfkedlmaaDoorX4
import Derived.Test.YtppnhlkfkedlmaaDoorXO
namespace Go.Proofs.YtppnhlkfkedlmaaDoor.QTextBases
open Go.RowKit Go.Proofs.YtppnhlkfkedlmaaDoor.X Go.Proofs.YtppnhlkfkedlmaaDoorW.PrintWords Go.Proofs.YtppnhlkfkedlmaaDoorW.PrintLast
def Pure : Prop := ∀ (x0 : ByteArray), (x0.size ≤ 140737488351232) → ((x0.size + 1) ≤ 1048576) → ∃ k, rosterlaw01_TextBases.f k x0 = some true
end Go.Proofs.YtppnhlkfkedlmaaDoor.QTextBases

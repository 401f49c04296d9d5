/- The pure statement that is left of TextBaseOnly: numbers and lists alone. -/
import Derived.Test.YtppnhlkfkedlmaaDoorX4
import Derived.Test.YtppnhlkfkedlmaaDoorXO
namespace Go.Proofs.YtppnhlkfkedlmaaDoor.QTextBaseOnly
open Go.RowKit Go.Proofs.YtppnhlkfkedlmaaDoor.X Go.Proofs.YtppnhlkfkedlmaaDoorW.PrintWords Go.Proofs.YtppnhlkfkedlmaaDoorW.PrintLast
def Pure : Prop := ∀ (x0 : ByteArray), (x0.size ≤ 140737488351232) → ∃ k, rosterlaw01_TextBaseOnly.f k x0 = some true
end Go.Proofs.YtppnhlkfkedlmaaDoor.QTextBaseOnly

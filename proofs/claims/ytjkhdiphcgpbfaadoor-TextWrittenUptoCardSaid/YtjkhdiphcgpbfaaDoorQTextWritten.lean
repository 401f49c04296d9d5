/- The pure statement that is left of TextWritten: numbers and lists alone. -/
import Derived.Test.YtjkhdiphcgpbfaaDoorXB4
import Derived.Test.YtjkhdiphcgpbfaaDoorXO
namespace Go.Proofs.YtjkhdiphcgpbfaaDoor.QTextWritten
open Go.RowKit Go.Proofs.YtjkhdiphcgpbfaaDoor.XB Go.Proofs.YtjkhdiphcgpbfaaDoorW.PrintWords Go.Proofs.YtjkhdiphcgpbfaaDoorW.PrintLast
def Pure : Prop := ∀ (x0 : ByteArray) (x1 : Int) (x2 : Int), (x0.size ≤ 140737488351232) → ((Lit.int .i64 x1).wf = true) → ((Lit.int .u8 x2).wf = true) → ((x0.size + 1) + (1) + (1) ≤ 1048576) → ∃ k, rosterlaw01_TextWritten.f k x0 x1 x2 = some true
end Go.Proofs.YtjkhdiphcgpbfaaDoor.QTextWritten

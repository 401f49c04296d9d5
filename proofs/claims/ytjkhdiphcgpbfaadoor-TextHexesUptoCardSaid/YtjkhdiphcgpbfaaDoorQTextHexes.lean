/- The pure statement that is left of TextHexes: numbers and lists alone. -/
import Derived.Test.YtjkhdiphcgpbfaaDoorX2
import Derived.Test.YtjkhdiphcgpbfaaDoorXO
namespace Go.Proofs.YtjkhdiphcgpbfaaDoor.QTextHexes
open Go.RowKit Go.Proofs.YtjkhdiphcgpbfaaDoor.X Go.Proofs.YtjkhdiphcgpbfaaDoorW.PrintWords Go.Proofs.YtjkhdiphcgpbfaaDoorW.PrintLast
def Pure : Prop := ∀ (x0 : ByteArray), (x0.size ≤ 140737488351232) → ((x0.size + 1) ≤ 1048576) → ∃ k, rosterlaw01_TextHexes.f k x0 = some true
end Go.Proofs.YtjkhdiphcgpbfaaDoor.QTextHexes

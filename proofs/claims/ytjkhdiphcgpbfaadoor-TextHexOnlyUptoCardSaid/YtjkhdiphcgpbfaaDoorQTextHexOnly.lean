/- The pure statement that is left of TextHexOnly: numbers and lists alone. -/
import Derived.Test.YtjkhdiphcgpbfaaDoorX3
import Derived.Test.YtjkhdiphcgpbfaaDoorXO
namespace Go.Proofs.YtjkhdiphcgpbfaaDoor.QTextHexOnly
open Go.RowKit Go.Proofs.YtjkhdiphcgpbfaaDoor.X Go.Proofs.YtjkhdiphcgpbfaaDoorW.PrintWords Go.Proofs.YtjkhdiphcgpbfaaDoorW.PrintLast
def Pure : Prop := ∀ (x0 : ByteArray) (x1 : ByteArray), (x0.size ≤ 140737488351232) → (x1.size ≤ 140737488351232) → ((x0.size + 1) + (x1.size + 1) ≤ 1048576) → ∃ k, rosterlaw01_TextHexOnly.f k x0 x1 = some true
end Go.Proofs.YtjkhdiphcgpbfaaDoor.QTextHexOnly

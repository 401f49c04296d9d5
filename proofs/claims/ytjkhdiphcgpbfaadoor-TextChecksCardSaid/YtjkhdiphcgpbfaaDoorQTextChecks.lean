/- The pure statement that is left of TextChecks: numbers and lists alone. -/
import Derived.Test.YtjkhdiphcgpbfaaDoorXC3
import Derived.Test.YtjkhdiphcgpbfaaDoorXO
namespace Go.Proofs.YtjkhdiphcgpbfaaDoor.QTextChecks
open Go.RowKit Go.Proofs.YtjkhdiphcgpbfaaDoor.XC Go.Proofs.YtjkhdiphcgpbfaaDoorW.PrintWords Go.Proofs.YtjkhdiphcgpbfaaDoorW.PrintLast
def Pure : Prop := ∀ (x0 : ByteArray), (x0.size ≤ 140737488351232) → ∃ k, rosterlaw01_TextChecks.f k x0 = some true
end Go.Proofs.YtjkhdiphcgpbfaaDoor.QTextChecks

/- The pure statement that is left of TextNormalSteps: numbers and lists alone. -/
import Derived.Test.YtjkhdiphcgpbfaaX4
import Derived.Test.YtjkhdiphcgpbfaaXO
namespace Go.Proofs.Ytjkhdiphcgpbfaa.QTextNormalSteps
open Go.RowKit Go.Proofs.Ytjkhdiphcgpbfaa.X Go.Proofs.YtjkhdiphcgpbfaaW.PrintWords Go.Proofs.YtjkhdiphcgpbfaaW.PrintLast
def Pure : Prop := ∀ (x0 : ByteArray) (x1 : ByteArray), (x0.size ≤ 140737488351232) → (x1.size ≤ 140737488351232) → ((x0.size + 1) + (x1.size + 1) ≤ 1048576) → ∃ k, rosterlaw01_TextNormalSteps.f k x0 x1 = some true
end Go.Proofs.Ytjkhdiphcgpbfaa.QTextNormalSteps

/- The pure statement that is left of TextNormalForm: numbers and lists alone. -/
import Derived.Test.YtjkhdiphcgpbfaaX3
import Derived.Test.YtjkhdiphcgpbfaaXO
namespace Go.Proofs.Ytjkhdiphcgpbfaa.QTextNormalForm
open Go.RowKit Go.Proofs.Ytjkhdiphcgpbfaa.X Go.Proofs.YtjkhdiphcgpbfaaW.PrintWords Go.Proofs.YtjkhdiphcgpbfaaW.PrintLast
def Pure : Prop := ∀ (x0 : ByteArray), (x0.size ≤ 140737488351232) → ∃ k, rosterlaw01_TextNormalForm.f k x0 = some true
end Go.Proofs.Ytjkhdiphcgpbfaa.QTextNormalForm

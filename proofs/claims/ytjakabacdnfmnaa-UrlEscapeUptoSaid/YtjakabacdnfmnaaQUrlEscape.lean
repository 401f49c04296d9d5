/- The pure statement that is left of UrlEscape: numbers and lists alone. -/
import Derived.Test.YtjakabacdnfmnaaXU2
import Derived.Test.YtjakabacdnfmnaaXO
namespace Go.Proofs.Ytjakabacdnfmnaa.QUrlEscape
open Go.RowKit Go.Proofs.Ytjakabacdnfmnaa.XU Go.Proofs.YtjakabacdnfmnaaW.PrintWords Go.Proofs.YtjakabacdnfmnaaW.PrintLast
set_option linter.unusedVariables false
def Pure : Prop := ∀ (x0 : ByteArray) (x1 : ByteArray), (x0.size ≤ 140737488351232) → (x1.size ≤ 140737488351232) → ((x0.size + 1) + (x1.size + 1) ≤ 1048576) → ∃ k, rosterlaw18_UrlEscape.f k x0 x1 = some true
end Go.Proofs.Ytjakabacdnfmnaa.QUrlEscape

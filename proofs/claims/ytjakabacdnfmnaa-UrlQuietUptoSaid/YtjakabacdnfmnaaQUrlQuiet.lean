/- The pure statement that is left of UrlQuiet: numbers and lists alone. -/
import Derived.Test.YtjakabacdnfmnaaXU3
import Derived.Test.YtjakabacdnfmnaaXO
namespace Go.Proofs.Ytjakabacdnfmnaa.QUrlQuiet
open Go.RowKit Go.Proofs.Ytjakabacdnfmnaa.XU Go.Proofs.YtjakabacdnfmnaaW.PrintWords Go.Proofs.YtjakabacdnfmnaaW.PrintLast
set_option linter.unusedVariables false
def Pure : Prop := ∀ (x0 : ByteArray), (x0.size ≤ 140737488351232) → ((x0.size + 1) ≤ 1048576) → ∃ k, rosterlaw18_UrlQuiet.f k x0 = some true
end Go.Proofs.Ytjakabacdnfmnaa.QUrlQuiet

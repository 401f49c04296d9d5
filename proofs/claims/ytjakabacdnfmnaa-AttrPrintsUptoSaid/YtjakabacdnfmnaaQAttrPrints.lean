/- The pure statement that is left of AttrPrints: numbers and lists alone. -/
import Derived.Test.YtjakabacdnfmnaaAttrC
import Derived.Test.YtjakabacdnfmnaaXO
namespace Go.Proofs.Ytjakabacdnfmnaa.QAttrPrints
open Go.RowKit Go.Proofs.Ytjakabacdnfmnaa.AttrW Go.Proofs.YtjakabacdnfmnaaW.PrintWords Go.Proofs.YtjakabacdnfmnaaW.PrintLast
set_option linter.unusedVariables false
def Pure : Prop := ∀ (x0 : ByteArray) (x1 : List ByteArray), (x0.size ≤ 140737488351232) → (x1.length * 16 ≤ 140737488351232 ∧ x1.length ≤ maxLen ∧ ∀ x_ ∈ x1, x_.size ≤ 140737488351232) → ((x0.size + 1) + ((x1.map fun x_ => x_.size + 1).sum + 1) ≤ 1048576) → rosterlaw04_AttrPrints.f x0 x1 = some true
end Go.Proofs.Ytjakabacdnfmnaa.QAttrPrints

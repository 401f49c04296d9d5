/- The pure statement that is left of MatchFits: numbers and lists alone. -/
import Derived.Test.YtjakabacdnfmnaaFitsL
import Derived.Test.YtjakabacdnfmnaaXO
namespace Go.Proofs.Ytjakabacdnfmnaa.QMatchFits
open Go.RowKit Go.Proofs.Ytjakabacdnfmnaa.XM Go.Proofs.YtjakabacdnfmnaaW.PrintWords Go.Proofs.YtjakabacdnfmnaaW.PrintLast
set_option linter.unusedVariables false
def Pure : Prop := ∀ (x0 : ByteArray) (x1 : S37), (x0.size ≤ 140737488351232) → ((x1.f0.size ≤ 140737488351232) ∧ (x1.f1.length * 16 ≤ 140737488351232 ∧ x1.f1.length ≤ maxLen ∧ ∀ x_ ∈ x1.f1, x_.size ≤ 140737488351232) ∧ (x1.f2.size ≤ 140737488351232)) → ((x0.size + 1) + ((x1.f0.size + 1) + ((x1.f1.map fun x_ => x_.size + 1).sum + 1) + (x1.f2.size + 1) + 1) ≤ 1048576) → rosterlaw06_MatchFits.f x0 x1 = some true
end Go.Proofs.Ytjakabacdnfmnaa.QMatchFits

/- The pure statement that is left of IndexGrams: numbers and lists alone. -/
import Derived.Test.YtfiomfcejmmbgaaGramM
import Derived.Test.YtfiomfcejmmbgaaXO
namespace Go.Proofs.Ytfiomfcejmmbgaa.QIndexGrams
open Go.RowKit Go.Proofs.Ytfiomfcejmmbgaa.XI Go.Proofs.YtfiomfcejmmbgaaW.PrintWords Go.Proofs.YtfiomfcejmmbgaaW.PrintLast
set_option linter.unusedVariables false
def Pure : Prop := ∀ (x0 : ByteArray) (x1 : ByteArray), (x0.size ≤ 140737488351232) → (x1.size ≤ 140737488351232) → ((x0.size + 1) + (x1.size + 1) ≤ 1048576) → rosterlaw11_IndexGrams.f x0 x1 = some true
end Go.Proofs.Ytfiomfcejmmbgaa.QIndexGrams

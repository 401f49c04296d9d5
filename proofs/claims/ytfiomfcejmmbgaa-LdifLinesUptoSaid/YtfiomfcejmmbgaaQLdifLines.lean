/- The pure statement that is left of LdifLines: numbers and lists alone. -/
import Derived.Test.YtfiomfcejmmbgaaLinesL
import Derived.Test.YtfiomfcejmmbgaaXO
namespace Go.Proofs.Ytfiomfcejmmbgaa.QLdifLines
open Go.RowKit Go.Proofs.Ytfiomfcejmmbgaa.XL Go.Proofs.YtfiomfcejmmbgaaW.PrintWords Go.Proofs.YtfiomfcejmmbgaaW.PrintLast
set_option linter.unusedVariables false
def Pure : Prop := ∀ (x0 : ByteArray), (x0.size ≤ 140737488351232) → ((x0.size + 1) ≤ 1048576) → rosterlaw07_LdifLines.f x0 = some true
end Go.Proofs.Ytfiomfcejmmbgaa.QLdifLines

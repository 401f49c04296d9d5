/- The pure statement that is left of LdifRefolds: numbers and lists alone. -/
import Derived.Test.YtfiomfcejmmbgaaFoldL
import Derived.Test.YtfiomfcejmmbgaaXO
namespace Go.Proofs.Ytfiomfcejmmbgaa.QLdifRefolds
open Go.RowKit Go.Proofs.Ytfiomfcejmmbgaa.XL Go.Proofs.YtfiomfcejmmbgaaW.PrintWords Go.Proofs.YtfiomfcejmmbgaaW.PrintLast
set_option linter.unusedVariables false
def Pure : Prop := ∀ (x0 : ByteArray) (x1 : Int), (x0.size ≤ 140737488351232) → ((Lit.int .i64 x1).wf = true) → ((x0.size + 1) + (1) ≤ 1048576) → rosterlaw07_LdifRefolds.f x0 x1 = some true
end Go.Proofs.Ytfiomfcejmmbgaa.QLdifRefolds

/- The pure statement that is left of TextHexRound: numbers and lists alone. -/
import Derived.Test.YtjkhdiphcgpbfaaDoorRoundW
import Derived.Test.YtjkhdiphcgpbfaaDoorXO
namespace Go.Proofs.YtjkhdiphcgpbfaaDoor.QTextHexRound
open Go.RowKit Go.Proofs.YtjkhdiphcgpbfaaDoor.RoundW Go.Proofs.YtjkhdiphcgpbfaaDoorW.PrintWords Go.Proofs.YtjkhdiphcgpbfaaDoorW.PrintLast
set_option linter.unusedVariables false
def Pure : Prop := ∀ (x0 : ByteArray) (x1 : List Bool), (x0.size ≤ 140737488351232) → (x1.length * 1 ≤ 140737488351232 ∧ x1.length ≤ maxLen ∧ ∀ x_ ∈ x1, True) → ((x0.size + 1) + ((x1.map fun x_ => 1).sum + 1) ≤ 1048576) → rosterlaw01_TextHexRound.f x0 x1 = some true
end Go.Proofs.YtjkhdiphcgpbfaaDoor.QTextHexRound

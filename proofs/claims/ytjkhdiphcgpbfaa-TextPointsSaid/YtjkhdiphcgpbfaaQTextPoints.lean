/- The pure statement that is left of TextPoints: numbers and lists alone. -/
import Derived.Test.YtjkhdiphcgpbfaaPTextPointsx3
import Derived.Test.YtjkhdiphcgpbfaaXO
namespace Go.Proofs.Ytjkhdiphcgpbfaa.QTextPoints
open Go.RowKit Go.Proofs.Ytjkhdiphcgpbfaa.PTextPoints Go.Proofs.YtjkhdiphcgpbfaaW.PrintWords Go.Proofs.YtjkhdiphcgpbfaaW.PrintLast
def Pure : Prop := ∀ (x0 : List Int) (x1 : List Int), (x0.length * 8 ≤ 140737488351232 ∧ x0.length ≤ maxLen ∧ ∀ x_ ∈ x0, (Lit.int .i64 x_).wf = true) → (x1.length * 8 ≤ 140737488351232 ∧ x1.length ≤ maxLen ∧ ∀ x_ ∈ x1, (Lit.int .i64 x_).wf = true) → ∃ k, rosterlaw01_TextPoints.f k x0 x1 = some true
end Go.Proofs.Ytjkhdiphcgpbfaa.QTextPoints

/- The pure statement that is left of DnWithin: numbers and lists alone. -/
import Derived.Test.YtdkohenilbkmkaaLawDnW
import Derived.Test.YtdkohenilbkmkaaXO
namespace Go.Proofs.Ytdkohenilbkmkaa.QDnWithin
open Go.RowKit Go.Proofs.Ytdkohenilbkmkaa.XD Go.Proofs.YtdkohenilbkmkaaW.PrintWords Go.Proofs.YtdkohenilbkmkaaW.PrintLast
set_option linter.unusedVariables false
def Pure : Prop := ∀ (x0 : List ByteArray) (x1 : List ByteArray), (x0.length * 16 ≤ 140737488351232 ∧ x0.length ≤ maxLen ∧ ∀ x_ ∈ x0, x_.size ≤ 140737488351232) → (x1.length * 16 ≤ 140737488351232 ∧ x1.length ≤ maxLen ∧ ∀ x_ ∈ x1, x_.size ≤ 140737488351232) → (((x0.map fun x_ => x_.size + 1).sum + 1) + ((x1.map fun x_ => x_.size + 1).sum + 1) ≤ 1048576) → rosterlaw05_DnWithin.f x0 x1 = some true
end Go.Proofs.Ytdkohenilbkmkaa.QDnWithin

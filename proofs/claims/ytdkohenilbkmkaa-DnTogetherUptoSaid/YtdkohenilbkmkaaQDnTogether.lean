/- The pure statement that is left of DnTogether: numbers and lists alone. -/
import Derived.Test.YtdkohenilbkmkaaX3
import Derived.Test.YtdkohenilbkmkaaXO
namespace Go.Proofs.Ytdkohenilbkmkaa.QDnTogether
open Go.RowKit Go.Proofs.Ytdkohenilbkmkaa.X Go.Proofs.YtdkohenilbkmkaaW.PrintWords Go.Proofs.YtdkohenilbkmkaaW.PrintLast
def Pure : Prop := ∀ (x0 : List ByteArray) (x1 : List ByteArray) (x2 : List ByteArray) (x3 : List ByteArray), (x0.length * 16 ≤ 140737488351232 ∧ x0.length ≤ maxLen ∧ ∀ x_ ∈ x0, x_.size ≤ 140737488351232) → (x1.length * 16 ≤ 140737488351232 ∧ x1.length ≤ maxLen ∧ ∀ x_ ∈ x1, x_.size ≤ 140737488351232) → (x2.length * 16 ≤ 140737488351232 ∧ x2.length ≤ maxLen ∧ ∀ x_ ∈ x2, x_.size ≤ 140737488351232) → (x3.length * 16 ≤ 140737488351232 ∧ x3.length ≤ maxLen ∧ ∀ x_ ∈ x3, x_.size ≤ 140737488351232) → (((x0.map fun x_ => x_.size + 1).sum + 1) + ((x1.map fun x_ => x_.size + 1).sum + 1) + ((x2.map fun x_ => x_.size + 1).sum + 1) + ((x3.map fun x_ => x_.size + 1).sum + 1) ≤ 1048576) → ∃ k, rosterlaw05_DnTogether.f k x0 x1 x2 x3 = some true
end Go.Proofs.Ytdkohenilbkmkaa.QDnTogether

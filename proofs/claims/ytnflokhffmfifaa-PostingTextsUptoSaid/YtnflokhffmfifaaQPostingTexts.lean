/- The pure statement that is left of PostingTexts: numbers and lists alone. -/
import Derived.Test.YtnflokhffmfifaaLawFT
import Derived.Test.YtnflokhffmfifaaXO
namespace Go.Proofs.Ytnflokhffmfifaa.QPostingTexts
open Go.RowKit Go.Proofs.Ytnflokhffmfifaa.XT Go.Proofs.YtnflokhffmfifaaW.PrintWords Go.Proofs.YtnflokhffmfifaaW.PrintLast
set_option linter.unusedVariables false
def Pure : Prop := ∀ (x0 : List (List ByteArray)) (x1 : Int), (x0.length * 24 ≤ 140737488351232 ∧ x0.length ≤ maxLen ∧ ∀ x_ ∈ x0, x_.length * 16 ≤ 140737488351232 ∧ x_.length ≤ maxLen ∧ ∀ x__ ∈ x_, x__.size ≤ 140737488351232) → ((Lit.int .i64 x1).wf = true) → (((x0.map fun x_ => (x_.map fun x_ => x_.size + 1).sum + 1).sum + 1) + (1) ≤ 1048576) → rosterlaw10_PostingTexts.f x0 x1 = some true
end Go.Proofs.Ytnflokhffmfifaa.QPostingTexts

/- The pure statement that is left of PostingMembers: numbers and lists alone. -/
import Derived.Test.YtnflokhffmfifaaMemb
import Derived.Test.YtnflokhffmfifaaXO
namespace Go.Proofs.Ytnflokhffmfifaa.QPostingMembers
open Go.RowKit Go.Proofs.Ytnflokhffmfifaa.XU Go.Proofs.YtnflokhffmfifaaW.PrintWords Go.Proofs.YtnflokhffmfifaaW.PrintLast
set_option linter.unusedVariables false
def Pure : Prop := ∀ (x0 : List Int) (x1 : List Int) (x2 : Int), (x0.length * 8 ≤ 140737488351232 ∧ x0.length ≤ maxLen ∧ ∀ x_ ∈ x0, (Lit.int .i64 x_).wf = true) → (x1.length * 8 ≤ 140737488351232 ∧ x1.length ≤ maxLen ∧ ∀ x_ ∈ x1, (Lit.int .i64 x_).wf = true) → ((Lit.int .i64 x2).wf = true) → (((x0.map fun x_ => 1).sum + 1) + ((x1.map fun x_ => 1).sum + 1) + (1) ≤ 1048576) → rosterlaw10_PostingMembers.f x0 x1 x2 = some true
end Go.Proofs.Ytnflokhffmfifaa.QPostingMembers

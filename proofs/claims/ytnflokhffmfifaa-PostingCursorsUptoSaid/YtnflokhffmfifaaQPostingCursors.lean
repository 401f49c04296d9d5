/- The pure statement that is left of PostingCursors: numbers and lists alone. -/
import Derived.Test.YtnflokhffmfifaaCursL
import Derived.Test.YtnflokhffmfifaaXO
namespace Go.Proofs.Ytnflokhffmfifaa.QPostingCursors
open Go.RowKit Go.Proofs.Ytnflokhffmfifaa.XP Go.Proofs.YtnflokhffmfifaaW.PrintWords Go.Proofs.YtnflokhffmfifaaW.PrintLast
set_option linter.unusedVariables false
def Pure : Prop := ∀ (x0 : List Int) (x1 : List (S30)), (x0.length * 8 ≤ 140737488351232 ∧ x0.length ≤ maxLen ∧ ∀ x_ ∈ x0, (Lit.int .i64 x_).wf = true) → (x1.length * 16 ≤ 140737488351232 ∧ x1.length ≤ maxLen ∧ ∀ x_ ∈ x1, ((Lit.int .i64 x_.f0).wf = true) ∧ ((Lit.int .i64 x_.f1).wf = true)) → (((x0.map fun x_ => 1).sum + 1) + ((x1.map fun x_ => (1) + (1) + 1).sum + 1) ≤ 1048576) → rosterlaw10_PostingCursors.f x0 x1 = some true
end Go.Proofs.Ytnflokhffmfifaa.QPostingCursors

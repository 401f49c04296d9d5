/- The pure statement that is left of DnUp: numbers and lists alone. -/
import Derived.Test.YtdkohenilbkmkaaUpL
import Derived.Test.YtdkohenilbkmkaaXO
namespace Go.Proofs.Ytdkohenilbkmkaa.QDnUp
open Go.RowKit Go.Proofs.Ytdkohenilbkmkaa.XT Go.Proofs.YtdkohenilbkmkaaW.PrintWords Go.Proofs.YtdkohenilbkmkaaW.PrintLast
set_option linter.unusedVariables false
def Pure : Prop := ∀ (x0 : List (List (S46))) (x1 : Int), (x0.length * 24 ≤ 140737488351232 ∧ x0.length ≤ maxLen ∧ ∀ x_ ∈ x0, x_.length * 32 ≤ 140737488351232 ∧ x_.length ≤ maxLen ∧ ∀ x__ ∈ x_, (x__.f0.size ≤ 140737488351232) ∧ (x__.f1.size ≤ 140737488351232)) → ((Lit.int .i64 x1).wf = true) → (((x0.map fun x_ => (x_.map fun x_ => (x_.f0.size + 1) + (x_.f1.size + 1) + 1).sum + 1).sum + 1) + (1) ≤ 1048576) → rosterlaw05_DnUp.f x0 x1 = some true
end Go.Proofs.Ytdkohenilbkmkaa.QDnUp

/- The pure statement that is left of DitStops: numbers and lists alone. -/
import Derived.Test.YtnogmaljcocfjaaDoorDitLawStop
import Derived.Test.YtnogmaljcocfjaaDoorXO
namespace Go.Proofs.YtnogmaljcocfjaaDoor.QDitStops
open Go.RowKit Go.Proofs.YtnogmaljcocfjaaDoor.XK Go.Proofs.YtnogmaljcocfjaaDoorW.PrintWords Go.Proofs.YtnogmaljcocfjaaDoorW.PrintLast
set_option linter.unusedVariables false
def Pure : Prop := ∀ (x0 : List ByteArray) (x1 : List (S86)) (x2 : Int) (x3 : Int), (x0.length * 16 ≤ 140737488351232 ∧ x0.length ≤ maxLen ∧ ∀ x_ ∈ x0, x_.size ≤ 140737488351232) → (x1.length * 24 ≤ 140737488351232 ∧ x1.length ≤ maxLen ∧ ∀ x_ ∈ x1, ((Lit.int .i64 x_.f0).wf = true) ∧ (x_.f1.size ≤ 140737488351232)) → ((Lit.int .i64 x2).wf = true) → ((Lit.int .i64 x3).wf = true) → (((x0.map fun x_ => x_.size + 1).sum + 1) + ((x1.map fun x_ => (1) + (x_.f1.size + 1) + 1).sum + 1) + (1) + (1) ≤ 1048576) → rosterlaw09_DitStops.f x0 x1 x2 x3 = some true
end Go.Proofs.YtnogmaljcocfjaaDoor.QDitStops

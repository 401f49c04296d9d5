/- The pure statement that is left of TextAll: numbers and lists alone. -/
import Derived.Test.YtppnhlkfkedlmaaDoorXA11
import Derived.Test.YtppnhlkfkedlmaaDoorXO
namespace Go.Proofs.YtppnhlkfkedlmaaDoor.QTextAll
open Go.RowKit Go.Proofs.YtppnhlkfkedlmaaDoor.XA Go.Proofs.YtppnhlkfkedlmaaDoorW.PrintWords Go.Proofs.YtppnhlkfkedlmaaDoorW.PrintLast
set_option linter.unusedVariables false
def Pure : Prop := ∀ (x0 : List (S33)), (x0.length * 24 ≤ 140737488351232 ∧ x0.length ≤ maxLen ∧ ∀ x_ ∈ x0, ((Lit.int .i64 x_.f0).wf = true) ∧ (x_.f1.size ≤ 140737488351232)) → (((x0.map fun x_ => (1) + (x_.f1.size + 1) + 1).sum + 1) ≤ 1048576) → ∃ k, rosterlaw01_TextAll.f k x0 = some true
end Go.Proofs.YtppnhlkfkedlmaaDoor.QTextAll

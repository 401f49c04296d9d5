/- The pure statement that is left of ClientShows: numbers and lists alone. -/
import Derived.Test.YtogkibhbkapobaaDoorCsFin
import Derived.Test.YtogkibhbkapobaaDoorXO
namespace Go.Proofs.YtogkibhbkapobaaDoor.QClientShows
open Go.RowKit Go.Proofs.YtogkibhbkapobaaDoor.XA Go.Proofs.YtogkibhbkapobaaDoorW.PrintWords Go.Proofs.YtogkibhbkapobaaDoorW.PrintLast
set_option linter.unusedVariables false
def Pure : Prop := ∀ (x0 : S29), (((Lit.int .i64 x0.f0).wf = true) ∧ ((Lit.int .i64 x0.f1).wf = true) ∧ (((Lit.int .i64 x0.f2.f0).wf = true) ∧ (x0.f2.f1.size ≤ 140737488351232) ∧ (x0.f2.f2.size ≤ 140737488351232)) ∧ (x0.f3.size ≤ 140737488351232) ∧ (x0.f4.length * 56 ≤ 140737488351232 ∧ x0.f4.length ≤ maxLen ∧ ∀ x_ ∈ x0.f4, (x_.f0.size ≤ 140737488351232) ∧ (x_.f1.size ≤ 140737488351232) ∧ (x_.f2.length * 16 ≤ 140737488351232 ∧ x_.f2.length ≤ maxLen ∧ ∀ x_f2_ ∈ x_.f2, x_f2_.size ≤ 140737488351232)) ∧ (x0.f5.size ≤ 140737488351232) ∧ (True) ∧ (x0.f7.length * 48 ≤ 140737488351232 ∧ x0.f7.length ≤ maxLen ∧ ∀ x_ ∈ x0.f7, (x_.f0.size ≤ 140737488351232) ∧ (True) ∧ (x_.f2.size ≤ 140737488351232) ∧ (True))) → (((1) + (1) + ((1) + (x0.f2.f1.size + 1) + (x0.f2.f2.size + 1) + 1) + (x0.f3.size + 1) + ((x0.f4.map fun x_ => (x_.f0.size + 1) + (x_.f1.size + 1) + ((x_.f2.map fun x_ => x_.size + 1).sum + 1) + 1).sum + 1) + (x0.f5.size + 1) + (1) + ((x0.f7.map fun x_ => (x_.f0.size + 1) + (1) + (x_.f2.size + 1) + (1) + 1).sum + 1) + 1) ≤ 1048576) → rosterlaw19_ClientShows.f x0 = some true
end Go.Proofs.YtogkibhbkapobaaDoor.QClientShows

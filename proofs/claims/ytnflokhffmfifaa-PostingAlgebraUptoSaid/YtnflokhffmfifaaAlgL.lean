/- By hand: the law PostingAlgebra, as the row's proof takes it. -/
import Derived.Test.YtnflokhffmfifaaAlgW
set_option linter.unusedVariables false
namespace Go.Proofs.Ytnflokhffmfifaa.XG
open Go.RowKit Go.Proofs.Ytnflokhffmfifaa.CountW Go.Proofs.YtnflokhffmfifaaW.PrintWords Go.Proofs.YtnflokhffmfifaaW.PrintLast Go.Proofs.YtnflokhffmfifaaW.PrintMore
def rosterlaw10_PostingAlgebra.f (x0 x1 x2 : List Int) : Option Bool := if x0.length + x1.length + x2.length + 3 ≤ 1048576 then some true else none
theorem rosterlaw10_PostingAlgebra.calls (A0 : Option Addr) (c0 : Nat) (l0 : List Int) (A1 : Option Addr) (c1 : Nat) (l1 : List Int) (A2 : Option Addr) (c2 : Nat) (l2 : List Int) (r : Bool) (w : World) (hr0 : Kd.C (Kd.int .i64) w A0 l0.length l0) (hc0 : l0.length ≤ c0) (hr1 : Kd.C (Kd.int .i64) w A1 l1.length l1) (hc1 : l1.length ≤ c1) (hr2 : Kd.C (Kd.int .i64) w A2 l2.length l2) (hc2 : l2.length ≤ c2) (h : rosterlaw10_PostingAlgebra.f l0 l1 l2 = some r) :
    Calls Try.prog 11 #[.slice A0 l0.length c0, .slice A1 l1.length c1, .slice A2 l2.length c2] w fun e w' => e = .returned (.bool r) ∧ Below w.heap.size w w' := by
  unfold rosterlaw10_PostingAlgebra.f at h
  split at h
  case isFalse => cases h
  case isTrue hs =>
  obtain rfl := Option.some.inj h
  exact algebra_walk A0 A1 A2 c0 c1 c2 l0 l1 l2 w hr0 hc0 hr1 hc1 hr2 hc2 hs
end Go.Proofs.Ytnflokhffmfifaa.XG

/- By hand: the law PostingSkips, as the row's proof takes it. -/
import Derived.Test.YtnflokhffmfifaaSkipsW
set_option linter.unusedVariables false
namespace Go.Proofs.Ytnflokhffmfifaa.XS
open Go.RowKit Go.Proofs.Ytnflokhffmfifaa.OfW Go.Proofs.YtnflokhffmfifaaW.PrintWords Go.Proofs.YtnflokhffmfifaaW.PrintLast Go.Proofs.YtnflokhffmfifaaW.PrintMore
def rosterlaw10_PostingSkips.f (x0 : List Int) (x1 : Int) (x2 : Int) : Option Bool := if x0.length ≤ 1048576 then some true else none
theorem rosterlaw10_PostingSkips.calls (A0 : Option Addr) (c0 : Nat) (l0 : List Int) (x1 : Int) (x2 : Int) (r : Bool) (w : World) (hr0 : Kd.C (Kd.int .i64) w A0 l0.length l0) (hc0 : l0.length ≤ c0) (h : rosterlaw10_PostingSkips.f l0 x1 x2 = some r) :
    Calls Try.prog 4 #[.slice A0 l0.length c0, .int .i64 x1, .int .i64 x2] w fun e w' => e = .returned (.bool r) ∧ Below w.heap.size w w' := by
  unfold rosterlaw10_PostingSkips.f at h
  split at h
  case isFalse => cases h
  case isTrue hs =>
  obtain rfl := Option.some.inj h
  exact skips_walk A0 c0 l0 x1 x2 w hr0 hs
end Go.Proofs.Ytnflokhffmfifaa.XS

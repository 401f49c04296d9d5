/- By hand: the law PostingCursors, as the row's proof takes it. -/
import Derived.Test.YtnflokhffmfifaaCursW
import Derived.Test.YtnflokhffmfifaaCursW0
set_option linter.unusedVariables false
namespace Go.Proofs.Ytnflokhffmfifaa.XP
open Go.RowKit Go.Proofs.Ytnflokhffmfifaa.CursW Go.Proofs.YtnflokhffmfifaaW.PrintWords Go.Proofs.YtnflokhffmfifaaW.PrintLast Go.Proofs.YtnflokhffmfifaaW.PrintMore
def rosterlaw10_PostingCursors.f (x0 : List Int) (x1 : List S30) : Option Bool := if x0.length ≤ 1048576 ∧ x1.length ≤ 1048576 then some true else none
theorem rosterlaw10_PostingCursors.calls (A0 : Option Addr) (c0 : Nat) (l0 : List Int) (A1 : Option Addr) (c1 : Nat) (l1 : List S30) (r : Bool) (w : World) (hr0 : Kd.C (Kd.int .i64) w A0 l0.length l0) (hc0 : l0.length ≤ c0) (hr1 : Kd.C k30 w A1 l1.length l1) (hc1 : l1.length ≤ c1) (h : rosterlaw10_PostingCursors.f l0 l1 = some r) :
    Calls Try.prog 3 #[.slice A0 l0.length c0, .slice A1 l1.length c1] w fun e w' => e = .returned (.bool r) ∧ Below w.heap.size w w' := by
  unfold rosterlaw10_PostingCursors.f at h
  split at h
  case isFalse => cases h
  case isTrue hs =>
  obtain rfl := Option.some.inj h
  by_cases hp : 0 < l0.length
  · exact curs_walk A0 c0 l0 A1 c1 l1 w hr0 hc0 hr1 hs.1 hp hs.2
  · exact curs_walk0 A0 c0 l0 A1 c1 l1 w hr0 hc0 hr1 hs.1 (List.length_eq_zero_iff.1 (by omega)) hs.2
end Go.Proofs.Ytnflokhffmfifaa.XP

/- DnUp, as the law's contract. -/
import Derived.Test.YtdkohenilbkmkaaUpJ
set_option linter.unusedVariables false
set_option linter.unusedSimpArgs false
namespace Go.Proofs.Ytdkohenilbkmkaa.XT
open Go.RowKit Go.Proofs.Ytdkohenilbkmkaa.UpW Go.Proofs.YtdkohenilbkmkaaW.PrintWords Go.Proofs.YtdkohenilbkmkaaW.PrintLast Go.Proofs.YtdkohenilbkmkaaW.PrintMore
def rosterlaw05_DnUp.f (x0 : List (List S46)) (x1 : Int) : Option Bool := if x0.length ≤ 1048576 ∧ ∀ r ∈ x0, r.length ≤ 1048576 then some true else none
theorem rosterlaw05_DnUp.calls (A0 : Option Addr) (c0 : Nat) (l0 : List (List S46)) (x1 : Int) (r : Bool) (w : World) (hr0 : Kd.C (Kd.slice 46 k46) w A0 l0.length l0) (hc0 : l0.length ≤ c0) (h : rosterlaw05_DnUp.f l0 x1 = some r) :
    Calls Try.prog 3 #[.slice A0 l0.length c0, .int .i64 x1] w fun e w' => e = .returned (.bool r) ∧ Below w.heap.size w w' := by
  unfold rosterlaw05_DnUp.f at h
  split at h
  case isFalse => cases h
  case isTrue hs =>
  obtain rfl := Option.some.inj h
  exact law_walk w A0 c0 l0 x1 hr0 hc0 hs.1 hs.2
end Go.Proofs.Ytdkohenilbkmkaa.XT

/- ClientShows: the law's form, and that the walk answers to it. -/
import Derived.Test.YtogkibhbkapobaaDoorCsLaw
set_option linter.unusedVariables false
namespace Go.Proofs.YtogkibhbkapobaaDoor.XA
open Go.RowKit Go.Proofs.YtogkibhbkapobaaDoor.CsTab Go.Proofs.YtogkibhbkapobaaDoor.CsEv Go.Proofs.YtogkibhbkapobaaDoorW.PrintWords Go.Proofs.YtogkibhbkapobaaDoorW.PrintLast Go.Proofs.YtogkibhbkapobaaDoorW.PrintMore
structure S25 where
  f0 : Int
  f1 : ByteArray
  f2 : ByteArray
def k25 : Kd S25 := Kd.iso (Kd.pair (Kd.int .i64) (Kd.pair Kd.string Kd.string)) (fun x : S25 => (x.f0, x.f1, x.f2))
theorem k25_open {w : World} {x : S25} {cs : List Value} (h : k25.K w x cs) : cs = [.int .i64 x.f0, .string x.f1, .string x.f2] := by
  obtain ⟨_, _, rfl, rfl, ⟨_, _, rfl, rfl, rfl⟩⟩ := h
  exact rfl
structure S29 where
  f0 : Int
  f1 : Int
  f2 : S25
  f3 : ByteArray
  f4 : List S34
  f5 : ByteArray
  f6 : Bool
  f7 : List S36
def rosterlaw19_ClientShows.f (x : S29) : Option Bool :=
  if -9223372036854775808 ≤ x.f0 ∧ x.f0 ≤ 9223372036854775807 ∧ -9223372036854775808 ≤ x.f2.f0 ∧ x.f2.f0 ≤ 9223372036854775807 ∧ x.f2.f1.size ≤ 1048576 ∧ x.f2.f2.size ≤ 1048576 ∧ x.f3.size ≤ 1048576 ∧ x.f5.size ≤ 1048576 ∧ (∀ a ∈ x.f4, a.f0.size ≤ 1048576 ∧ ∀ v ∈ a.f2, v.size ≤ 1048576) ∧ wt x.f4 ≤ 1048576 ∧ (∀ c ∈ x.f7, c.f0.size ≤ 1048576) ∧ x.f7.length ≤ 1048576 then some true else none
theorem rosterlaw19_ClientShows.calls (f0 f1 : Int) (f2 : S25) (f3 : ByteArray) (A4 : Option Addr) (c4 : Nat) (l4 : List S34) (f5 : ByteArray) (f6 : Bool) (A7 : Option Addr) (c7 : Nat) (l7 : List S36) (r : Bool) (w : World) (hG : Tabs w)
    (hr4 : Kd.C k34 w A4 l4.length l4) (hc4 : l4.length ≤ c4) (hr7 : Kd.C k36 w A7 l7.length l7) (hc7 : l7.length ≤ c7) (h : rosterlaw19_ClientShows.f ⟨f0, f1, f2, f3, l4, f5, f6, l7⟩ = some r) :
    Calls Tryd.prog 3 #[.agg #[.int .i64 f0, .int .i64 f1, .int .i64 f2.f0, .string f2.f1, .string f2.f2, .string f3, .slice A4 l4.length c4, .string f5, .bool f6, .slice A7 l7.length c7]] w fun e w' => e = .returned (.bool r) ∧ Below w.heap.size w w' := by
  unfold rosterlaw19_ClientShows.f at h
  split at h
  case isFalse => cases h
  case isTrue hs =>
  obtain rfl := Option.some.inj h
  obtain ⟨h1, h2, h3, h4, h5, h6, h7, h8, h9, h10, h11, h12⟩ := hs
  exact CsLaw.law_walk f0 f1 f2.f0 f2.f1 f2.f2 f3 A4 c4 l4 f5 f6 A7 c7 l7 w hG ⟨h1, h2, h3, h4, h5, h6, h7, h8, ⟨h9, h10⟩, ⟨h11, h12⟩⟩ hr4 hc4 hr7 hc7
end Go.Proofs.YtogkibhbkapobaaDoor.XA

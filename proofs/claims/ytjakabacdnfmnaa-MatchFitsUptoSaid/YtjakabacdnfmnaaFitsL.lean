/- MatchFits: the law's form, and that the walk answers to it. -/
import Derived.Test.YtjakabacdnfmnaaFitsC
set_option linter.unusedVariables false
namespace Go.Proofs.Ytjakabacdnfmnaa.XM
open Go.RowKit Go.Proofs.Ytjakabacdnfmnaa.FitsW Go.Proofs.YtjakabacdnfmnaaW.PrintWords Go.Proofs.YtjakabacdnfmnaaW.PrintLast Go.Proofs.YtjakabacdnfmnaaW.PrintMore
def rosterlaw06_MatchFits.f (x0 : ByteArray) (x1 : S37) : Option Bool := if x0.size ≤ 1048576 ∧ x1.f0.size ≤ 1048576 ∧ x1.f2.size ≤ 1048576 ∧ x1.f1.length ≤ 1048576 ∧ (∀ x ∈ x1.f1, x.size ≤ 1048576) then some true else none
theorem rosterlaw06_MatchFits.calls (a0 : ByteArray) (i : ByteArray) (A : Option Addr) (c : Nat) (ps : List ByteArray) (f : ByteArray) (r : Bool) (w : World) (hm : ∃ m, w.cell? ⟨0, 0, none⟩ = some (.int .i64 m)) (hr : Kd.C Kd.string w A ps.length ps) (hc : ps.length ≤ c) (h : rosterlaw06_MatchFits.f a0 ⟨i, ps, f⟩ = some r) :
    Calls Try.prog 7 #[.string a0, .agg #[.string i, .slice A ps.length c, .string f]] w fun e w' => e = .returned (.bool r) ∧ Below w.heap.size w w' := by
  unfold rosterlaw06_MatchFits.f at h
  split at h
  case isFalse => cases h
  case isTrue hs =>
  obtain rfl := Option.some.inj h
  obtain ⟨h1, h2, h3, h4, h5⟩ := hs
  exact fitslaw a0 i f A c ps w hr hc h4 h5 h1 h2 h3 hm
end Go.Proofs.Ytjakabacdnfmnaa.XM

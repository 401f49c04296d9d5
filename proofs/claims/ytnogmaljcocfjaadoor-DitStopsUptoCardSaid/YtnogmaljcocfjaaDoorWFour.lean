-- PRINTED BY print.sh 35421559b90ae4d0a3588c463048766b98c2df88dd9212a6774a882060cdf62d: not written by this session
import Derived.Test.YtnogmaljcocfjaaDoorWTab
/-! ### 56. Four, five, six operations that may come up next, in any order -/
namespace Go.Proofs.YtnogmaljcocfjaaDoorW.PrintLast
section
variable {P : Program} {ops : Array Oper} {Q : Exit → Act → World → Prop} {md : Region.Mode} {S : World → Prop} {ds : List Nat} {T : Bool × List (List Nat × List Nat)}
theorem six_of {i j k m n q : Nat} {l li lj lk lm ln lq : Array Bool} (hT : rtab md ops = T) (h : (readyT T.2 l.toList == [i, j, k, m, n, q] && l.toList.set i true == li.toList && l.toList.set j true == lj.toList && l.toList.set k true == lk.toList && l.toList.set m true == lm.toList && l.toList.set n true == ln.toList && l.toList.set q true == lq.toList) = true) : (Region.ready md ops l == [i, j, k, m, n, q] && l.setIfInBounds i true == li && l.setIfInBounds j true == lj && l.setIfInBounds k true == lk && l.setIfInBounds m true == lm && l.setIfInBounds n true == ln && l.setIfInBounds q true == lq) = true := by
  simp only [Bool.and_eq_true] at h ⊢
  obtain ⟨⟨⟨⟨⟨⟨hr, hsi⟩, hsj⟩, hsk⟩, hsm⟩, hsn⟩, hsq⟩ := h
  subst hT
  exact ⟨⟨⟨⟨⟨⟨by rw [ready_eq]; exact hr, set_of hsi⟩, set_of hsj⟩, set_of hsk⟩, set_of hsm⟩, set_of hsn⟩, set_of hsq⟩
end
end Go.Proofs.YtnogmaljcocfjaaDoorW.PrintLast

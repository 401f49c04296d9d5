/- AttrPrints, pure: what is left when the law is walked. -/
import Derived.Test.YtjakabacdnfmnaaQAttrPrints
namespace Go.Proofs.Ytjakabacdnfmnaa.Pure
open Go.RowKit Go.Proofs.Ytjakabacdnfmnaa.AttrW
theorem texts_sum (l : List ByteArray) : (l.map fun o : ByteArray => 59 :: o.data.toList).flatten.length = (l.map fun x_ : ByteArray => x_.size + 1).sum ∧ l.length ≤ (l.map fun x_ : ByteArray => x_.size + 1).sum := by
  induction l with
  | nil => exact ⟨rfl, Nat.le_refl _⟩
  | cons x l ih =>
    have e : x.size = x.data.toList.length := (Array.length_toList (xs := x.data)).symm
    simp only [List.map_cons, List.flatten_cons, List.length_append, List.length_cons, List.sum_cons]
    omega
theorem AttrPrints : QAttrPrints.Pure := by
  intro x0 x1 f0 f1 hb
  have := texts_sum x1
  have e : x0.size = x0.data.toList.length := (Array.length_toList (xs := x0.data)).symm
  unfold rosterlaw04_AttrPrints.f pr
  refine if_pos ⟨by omega, ?_⟩
  rw [List.length_append]
  omega
end Go.Proofs.Ytjakabacdnfmnaa.Pure

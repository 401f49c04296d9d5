/- MatchFits, pure: what is left when the law is walked. -/
import Derived.Test.YtjakabacdnfmnaaQMatchFits
namespace Go.Proofs.Ytjakabacdnfmnaa.Pure
open Go.RowKit Go.Proofs.Ytjakabacdnfmnaa.XM
theorem texts_le (l : List ByteArray) : l.length ≤ (l.map fun x_ : ByteArray => x_.size + 1).sum ∧ ∀ x ∈ l, x.size + 1 ≤ (l.map fun x_ : ByteArray => x_.size + 1).sum := by
  induction l with
  | nil => exact ⟨Nat.le_refl _, fun x hx => by cases hx⟩
  | cons y l ih =>
    simp only [List.map_cons, List.length_cons, List.sum_cons]
    refine ⟨by omega, fun x hx => ?_⟩
    rcases List.mem_cons.1 hx with rfl | hx
    · omega
    · have := ih.2 x hx; omega
theorem MatchFits : QMatchFits.Pure := by
  intro x0 x1 f0 f1 hb
  obtain ⟨h1, h2⟩ := texts_le x1.f1
  unfold rosterlaw06_MatchFits.f
  exact if_pos ⟨by omega, by omega, by omega, by omega, fun x hx => by have := h2 x hx; omega⟩
end Go.Proofs.Ytjakabacdnfmnaa.Pure

/- PostingCursors, pure: what is left when the law is walked. -/
import Derived.Test.YtnflokhffmfifaaQPostingCursors
namespace Go.Proofs.Ytnflokhffmfifaa.Pure
open Go.RowKit Go.Proofs.Ytnflokhffmfifaa.XP
theorem len_sum {α : Type} (f : α → Nat) (h : ∀ x, 1 ≤ f x) (l : List α) : l.length ≤ (l.map f).sum := by
  induction l with
  | nil => exact Nat.le_refl _
  | cons x l ih => have := h x; simp only [List.length_cons, List.map_cons, List.sum_cons]; omega
theorem PostingCursors : QPostingCursors.Pure := by
  intro x0 x1 f0 f1 hb
  have h0 := len_sum (fun _ : Int => 1) (fun _ => Nat.le_refl _) x0
  have h1 := len_sum (fun _ : S30 => (1) + (1) + 1) (fun _ => by omega) x1
  unfold rosterlaw10_PostingCursors.f
  exact if_pos (by omega)
end Go.Proofs.Ytnflokhffmfifaa.Pure

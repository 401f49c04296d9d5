/- PostingMerges, pure: what is left when the law is walked. -/
import Derived.Test.YtnflokhffmfifaaQPostingMerges
namespace Go.Proofs.Ytnflokhffmfifaa.Pure
open Go.RowKit Go.Proofs.Ytnflokhffmfifaa.XM
theorem flat_sum (l : List (List Int)) : l.flatten.length + l.length ≤ (l.map fun x_ => (x_.map fun _ => 1).sum + 1).sum := by
  induction l with
  | nil => exact Nat.le_refl _
  | cons x l ih =>
    have h1 : (x.map fun _ => 1).sum = x.length := by
      clear ih
      induction x with
      | nil => rfl
      | cons y x ih => simp only [List.length_cons, List.map_cons, List.sum_cons, ih]; omega
    simp only [List.flatten_cons, List.length_append, List.length_cons, List.map_cons, List.sum_cons, h1]
    omega
theorem PostingMerges : QPostingMerges.Pure := by
  intro x0 x1 f0 f1 hb
  have := flat_sum x0
  unfold rosterlaw10_PostingMerges.f
  exact if_pos (by omega)
end Go.Proofs.Ytnflokhffmfifaa.Pure

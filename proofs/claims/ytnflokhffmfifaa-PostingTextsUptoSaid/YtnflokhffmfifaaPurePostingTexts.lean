/- PostingTexts, pure: what is left when the law is walked. -/
import Derived.Test.YtnflokhffmfifaaQPostingTexts
namespace Go.Proofs.Ytnflokhffmfifaa.Pure
open Go.RowKit Go.Proofs.Ytnflokhffmfifaa.XT
theorem len_sum (x : List ByteArray) : x.length ≤ (x.map fun x_ => x_.size + 1).sum := by
  induction x with
  | nil => exact Nat.le_refl _
  | cons y x ih => simp only [List.length_cons, List.map_cons, List.sum_cons]; omega
theorem flat_sum (l : List (List ByteArray)) : l.flatten.length + l.length ≤ (l.map fun x_ => (x_.map fun x_ => x_.size + 1).sum + 1).sum := by
  induction l with
  | nil => exact Nat.le_refl _
  | cons x l ih =>
    have h1 := len_sum x
    simp only [List.flatten_cons, List.length_append, List.length_cons, List.map_cons, List.sum_cons]
    omega
theorem PostingTexts : QPostingTexts.Pure := by
  intro x0 x1 f0 f1 hb
  have := flat_sum x0
  unfold rosterlaw10_PostingTexts.f
  exact if_pos (by omega)
end Go.Proofs.Ytnflokhffmfifaa.Pure

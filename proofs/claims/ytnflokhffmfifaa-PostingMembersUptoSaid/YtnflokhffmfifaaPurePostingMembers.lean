/- PostingMembers, pure: what is left when the law is walked. -/
import Derived.Test.YtnflokhffmfifaaQPostingMembers
namespace Go.Proofs.Ytnflokhffmfifaa.Pure
open Go.RowKit Go.Proofs.Ytnflokhffmfifaa.XU
theorem memb_sum (l : List Int) : (l.map fun _ => 1).sum = l.length := by
  induction l with
  | nil => rfl
  | cons x l ih => simp only [List.length_cons, List.map_cons, List.sum_cons, ih]; omega
theorem PostingMembers : QPostingMembers.Pure := by
  intro x0 x1 x2 f0 f1 f2 hb
  rw [memb_sum, memb_sum] at hb
  unfold rosterlaw10_PostingMembers.f
  exact if_pos (by omega)
end Go.Proofs.Ytnflokhffmfifaa.Pure

/- PostingAlgebra, pure: what is left when the law is walked. -/
import Derived.Test.YtnflokhffmfifaaQPostingAlgebra
namespace Go.Proofs.Ytnflokhffmfifaa.Pure
open Go.RowKit Go.Proofs.Ytnflokhffmfifaa.XG
theorem alg_sum (l : List Int) : (l.map fun _ => 1).sum = l.length := by
  induction l with
  | nil => rfl
  | cons x l ih => simp only [List.length_cons, List.map_cons, List.sum_cons, ih]; omega
theorem PostingAlgebra : QPostingAlgebra.Pure := by
  intro x0 x1 x2 f0 f1 f2 hb
  rw [alg_sum, alg_sum, alg_sum] at hb
  unfold rosterlaw10_PostingAlgebra.f
  exact if_pos (by omega)
end Go.Proofs.Ytnflokhffmfifaa.Pure

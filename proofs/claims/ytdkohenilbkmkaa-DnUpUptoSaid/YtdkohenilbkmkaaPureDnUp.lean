/- DnUp, pure: what is left when the law is walked. -/
import Derived.Test.YtdkohenilbkmkaaQDnUp
import Derived.Test.YtdkohenilbkmkaaUpL
namespace Go.Proofs.Ytdkohenilbkmkaa.Pure
open Go.RowKit Go.Proofs.Ytdkohenilbkmkaa.XT
theorem sum_up {α : Type} (f : α → Nat) (l : List α) : (l.map fun x => f x + 1).sum = (l.map f).sum + l.length := by
  induction l with
  | nil => simp
  | cons x l ih => simp only [List.length_cons, List.map_cons, List.sum_cons]; omega
theorem sum_mem {α : Type} (f : α → Nat) {l : List α} {x : α} (h : x ∈ l) : f x ≤ (l.map f).sum := by
  induction l with
  | nil => simp at h
  | cons y l ih =>
    simp only [List.map_cons, List.sum_cons]
    rcases List.mem_cons.1 h with rfl | h
    · omega
    · have := ih h; omega
theorem DnUp : QDnUp.Pure := by
  intro x0 x1 f0 f1 hb
  unfold rosterlaw05_DnUp.f
  refine if_pos ⟨?_, fun r hr => ?_⟩
  · rw [sum_up (fun x_ : List S46 => (x_.map fun x_ => (x_.f0.size + 1) + (x_.f1.size + 1) + 1).sum)] at hb
    omega
  · have h1 := sum_mem (fun x_ : List S46 => (x_.map fun x_ => (x_.f0.size + 1) + (x_.f1.size + 1) + 1).sum + 1) hr
    have h2 := sum_up (fun x_ : S46 => (x_.f0.size + 1) + (x_.f1.size + 1)) r
    omega
end Go.Proofs.Ytdkohenilbkmkaa.Pure

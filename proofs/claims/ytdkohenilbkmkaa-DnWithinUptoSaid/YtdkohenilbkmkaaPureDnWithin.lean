/- DnWithin, pure: what is left when the law is walked. -/
import Derived.Test.YtdkohenilbkmkaaQDnWithin
import Derived.Test.YtdkohenilbkmkaaLawDnW
namespace Go.Proofs.Ytdkohenilbkmkaa.Pure
open Go.RowKit Go.Proofs.Ytdkohenilbkmkaa.XD
theorem sum_len (l : List ByteArray) : l.length ≤ (l.map fun x_ => x_.size + 1).sum := by
  induction l with
  | nil => simp
  | cons x l ih => simp only [List.length_cons, List.map_cons, List.sum_cons]; omega
theorem DnWithin : QDnWithin.Pure := by
  intro x0 x1 f0 f1 hb
  have s0 := sum_len x0
  have s1 := sum_len x1
  unfold rosterlaw05_DnWithin.f
  exact if_pos ⟨by omega, by omega⟩
end Go.Proofs.Ytdkohenilbkmkaa.Pure

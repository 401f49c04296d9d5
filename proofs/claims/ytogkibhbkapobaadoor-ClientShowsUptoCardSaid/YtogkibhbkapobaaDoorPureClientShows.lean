/- ClientShows, pure: what is left when the law is walked: the sizes. -/
import Derived.Test.YtogkibhbkapobaaDoorQClientShows
namespace Go.Proofs.YtogkibhbkapobaaDoor.Pure
open Go.RowKit Go.Proofs.YtogkibhbkapobaaDoor.XA Go.Proofs.YtogkibhbkapobaaDoor.CsEv
theorem sum_mem {α : Type} (f : α → Nat) {l : List α} {x : α} (h : x ∈ l) : f x ≤ (l.map f).sum := by
  induction l with
  | nil => simp at h
  | cons y l ih =>
    simp only [List.map_cons, List.sum_cons]
    rcases List.mem_cons.1 h with rfl | h
    · omega
    · have := ih h; omega
theorem sum_le {α : Type} (f g : α → Nat) (l : List α) (h : ∀ x, f x ≤ g x) : (l.map f).sum ≤ (l.map g).sum := by
  induction l with
  | nil => simp
  | cons y l ih => simp only [List.map_cons, List.sum_cons]; have := h y; omega
theorem sum_one {α : Type} (f : α → Nat) (l : List α) (h : ∀ x, 1 ≤ f x) : l.length ≤ (l.map f).sum := by
  induction l with
  | nil => simp
  | cons y l ih => simp only [List.map_cons, List.sum_cons, List.length_cons]; have := h y; omega
theorem ClientShows : QClientShows.Pure := by
  intro x0 hf hb
  obtain ⟨f0, f1, ⟨f20, f21, f22⟩, f3, f4, f5, _, f7⟩ := hf
  have r0 : -9223372036854775808 ≤ x0.f0 ∧ x0.f0 ≤ 9223372036854775807 := by simp [Lit.wf, IntKind.min, IntKind.max, IntKind.signed, IntKind.bits] at f0; omega
  have r2 : -9223372036854775808 ≤ x0.f2.f0 ∧ x0.f2.f0 ≤ 9223372036854775807 := by simp [Lit.wf, IntKind.min, IntKind.max, IntKind.signed, IntKind.bits] at f20; omega
  clear f0 f20 f1
  have s4 : ∀ a ∈ x0.f4, a.f0.size + ((a.f2.map fun x_ => x_.size + 1).sum) ≤ 1048576 := fun a ha => by
    have := sum_mem (fun x_ : S34 => (x_.f0.size + 1) + (x_.f1.size + 1) + ((x_.f2.map fun x_ => x_.size + 1).sum + 1) + 1) ha
    omega
  have w4 : wt x0.f4 ≤ 1048576 := by
    unfold wt
    have := sum_le (fun a : S34 => a.f2.length + 1) (fun x_ : S34 => (x_.f0.size + 1) + (x_.f1.size + 1) + ((x_.f2.map fun x_ => x_.size + 1).sum + 1) + 1) x0.f4 (fun a => by
      have := sum_one (fun x_ : ByteArray => x_.size + 1) a.f2 (fun _ => by omega)
      omega)
    omega
  have s7 : ∀ c ∈ x0.f7, c.f0.size ≤ 1048576 := fun c hc => by
    have := sum_mem (fun x_ : S36 => (x_.f0.size + 1) + (1) + (x_.f2.size + 1) + (1) + 1) hc
    omega
  have l7 : x0.f7.length ≤ 1048576 := by
    have := sum_one (fun x_ : S36 => (x_.f0.size + 1) + (1) + (x_.f2.size + 1) + (1) + 1) x0.f7 (fun _ => by omega)
    omega
  unfold rosterlaw19_ClientShows.f
  refine if_pos ⟨r0.1, r0.2, r2.1, r2.2, by omega, by omega, by omega, by omega, fun a ha => ⟨by have := s4 a ha; omega, fun v hv => ?_⟩, w4, s7, l7⟩
  have h1 := s4 a ha
  have h2 := sum_mem (fun x_ : ByteArray => x_.size + 1) hv
  omega
end Go.Proofs.YtogkibhbkapobaaDoor.Pure

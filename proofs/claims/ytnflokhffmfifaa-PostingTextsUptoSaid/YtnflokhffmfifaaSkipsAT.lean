/- A cursor over texts: what stands ahead of the place to which it skips. No program. -/
import Derived.Test.YtnflokhffmfifaaNewCT
set_option linter.unusedVariables false
set_option linter.unusedSimpArgs false
namespace Go.Proofs.Ytnflokhffmfifaa.OfT
open Go.RowKit Go.Proofs.Ytnflokhffmfifaa.Blk Go.Proofs.Ytnflokhffmfifaa.Ris Go.Proofs.Ytnflokhffmfifaa.Keys Go.Proofs.Ytnflokhffmfifaa.XV Go.Proofs.YtnflokhffmfifaaW.PrintWords Go.Proofs.YtnflokhffmfifaaW.PrintLast Go.Proofs.YtnflokhffmfifaaW.PrintMore
theorem place_lt : ∀ (l : List ByteArray) (x : ByteArray) (j : Nat), j < place l x → ltS (l.getD j E) x = true
  | [], x, j, h => by simp [place] at h
  | a :: l, x, j, h => by
    by_cases ha : ltS a x = true
    · cases j with
      | zero => simpa using ha
      | succ j =>
        have : j < place l x := by unfold place at h ⊢; rw [List.takeWhile_cons_of_pos (p := fun y => ltS y x) ha] at h; simpa using h
        simpa using place_lt l x j this
    · unfold place at h
      rw [List.takeWhile_cons_of_neg (p := fun y => ltS y x) ha] at h
      simp at h
theorem place_end : ∀ (l : List ByteArray) (x : ByteArray), place l x < l.length → ltS (l.getD (place l x) E) x = false
  | [], x, h => by simp at h
  | a :: l, x, h => by
    by_cases ha : ltS a x = true
    · have e : place (a :: l) x = place l x + 1 := by unfold place; rw [List.takeWhile_cons_of_pos (p := fun y => ltS y x) ha]; rfl
      rw [e] at h ⊢
      have := place_end l x (by simpa using h)
      simpa using this
    · have e : place (a :: l) x = 0 := by unfold place; rw [List.takeWhile_cons_of_neg (p := fun y => ltS y x) ha]; rfl
      rw [e]
      simpa using ha
theorem ris_drop {l : List ByteArray} (h : Ris ltS l) (k : Nat) : Ris ltS (l.drop k) := List.Pairwise.sublist (List.drop_sublist _ _) h
theorem head_drop (l : List ByteArray) (k : Nat) : (l.drop k).getD 0 E = l.getD k E := by simp [List.getD_eq_getElem?_getD, List.getElem?_drop]
theorem grown_on {w w1 : World} {p k : Nat} (h : w.grownBy w1 (some p)) (hk : k < w.heap.size) (hne : k ≠ p) : w1.heap[k]? = w.heap[k]? := h.block k hk (fun e => hne (by cases e; rfl))
theorem below_grown {w w1 w2 : World} {p : Nat} (h : Below w.heap.size w w1) (k : w1.grownBy w2 (some p)) (hp : w.heap.size ≤ p) : Below w.heap.size w w2 :=
  ⟨k.os.trans h.os, k.tape.trans h.tape, k.output.trans h.output, Nat.le_trans h.size k.size, fun j hj => (grown_on k (Nat.lt_of_lt_of_le hj h.size) (by omega)).trans (h.block j hj)⟩
end Go.Proofs.Ytnflokhffmfifaa.OfT

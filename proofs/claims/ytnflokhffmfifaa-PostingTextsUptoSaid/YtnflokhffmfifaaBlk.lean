/- A block of cells, known whole: its cells, that they may be written, what it is behind a store; how it goes on over what leaves it alone. No program. -/
import Derived.OneCell
import Derived.Below
import Derived.Deep.Draws
set_option linter.unusedVariables false
set_option linter.unusedSimpArgs false
namespace Go.Proofs.Ytnflokhffmfifaa.Blk
open Go.RowKit
/-- Block b is these cells, of type t, none frozen. -/
def At (w : World) (b : Nat) (cs : List Value) (t : TypeId) : Prop := w.heap[b]? = some (.cells cs.toArray t (0, 0))
theorem At.lt {w : World} {b : Nat} {cs : List Value} {t : TypeId} (h : At w b cs t) : b < w.heap.size := lt_of_block h
theorem At.cell {w : World} {b : Nat} {cs : List Value} {t : TypeId} (h : At w b cs t) (k : Nat) : w.cell? ⟨b, k, none⟩ = cs[k]? := by
  unfold At at h
  simp [World.cell?, h]
theorem At.get {w : World} {b : Nat} {cs : List Value} {t : TypeId} (h : At w b cs t) (k : Nat) (v : Value) (hk : cs[k]? = some v) : w.cell? ⟨b, k, none⟩ = some v := (h.cell k).trans hk
theorem At.free {w : World} {b : Nat} {cs : List Value} {t : TypeId} (h : At w b cs t) (k : Nat) : w.frozen? ⟨b, k, none⟩ = false := by
  unfold At at h
  simp [World.frozen?, h]
theorem At.set {w : World} {b : Nat} {cs : List Value} {t : TypeId} (h : At w b cs t) (k : Nat) (u : Value) : At (w.setCell ⟨b, k, none⟩ u) b (cs.set k u) t := by
  have hlt := h.lt
  unfold At at h ⊢
  have h' : w.heap[b] = .cells cs.toArray t (0, 0) := by simpa [Array.getElem?_eq_getElem hlt] using h
  show (w.heap.modify b _)[b]? = _
  rw [Array.getElem?_eq_getElem (by simpa using hlt), Array.getElem_modify_self, h']
  simp
theorem At.other {w : World} {b : Nat} {cs : List Value} {t : TypeId} (h : At w b cs t) (a : Addr) (u : Value) (hne : b ≠ a.block) : At (w.setCell a u) b cs t := by
  unfold At at h ⊢
  rw [Below.heap_setCell _ _ _ _ hne]
  exact h
theorem At.alloc {w : World} {b : Nat} {cs : List Value} {t : TypeId} (h : At w b cs t) (o : Obj) : At (w.alloc o) b cs t := by
  have := h.lt
  unfold At at h ⊢
  rw [Below.heap_alloc _ _ _ this]
  exact h
theorem At.drew {w : World} {b : Nat} {cs : List Value} {t : TypeId} (h : At w b cs t) : At w.drew b cs t := h
theorem At.drewN {w : World} {b : Nat} {cs : List Value} {t : TypeId} (h : At w b cs t) (n : Nat) : At (w.drewN n) b cs t := h
theorem At.below {w w1 : World} {b B : Nat} {cs : List Value} {t : TypeId} (h : At w b cs t) (hb : Below B w w1) (hlt : b < B) : At w1 b cs t := (hb.block b hlt).trans h
theorem At.grown {w w1 : World} {b : Nat} {row : Option Nat} {cs : List Value} {t : TypeId} (h : At w b cs t) (hg : w.grownBy w1 row) (hne : some b ≠ row) : At w1 b cs t := (hg.block b h.lt hne).trans h
theorem At.fresh (w : World) (cs : List Value) (t : TypeId) : At (w.alloc (.cells cs.toArray t)) w.heap.size cs t := by
  show (w.heap.push _)[w.heap.size]? = _
  simp
/-- A store into block b, as growth by row b. -/
theorem grown_set {w w1 : World} {b : Nat} (h : w.grownBy w1 (some b)) (k : Nat) (u : Value) : w.grownBy (w1.setCell ⟨b, k, none⟩ u) (some b) :=
  ⟨h.os, h.tape, h.output, by simpa [World.setCell] using h.size, fun j hj hne => (Below.heap_setCell _ _ _ _ (fun e => hne (by rw [e]))).trans (h.block j hj hne)⟩
theorem grown_refl (w : World) (row : Option Nat) : w.grownBy w row := ⟨rfl, rfl, rfl, Nat.le_refl _, fun _ _ _ => rfl⟩
theorem grown_drewN {w w1 : World} {row : Option Nat} (h : w.grownBy w1 row) (n : Nat) : w.grownBy (w1.drewN n) row := ⟨h.os, h.tape, h.output, h.size, h.block⟩
theorem grown_alloc {w w1 : World} {row : Option Nat} (h : w.grownBy w1 row) (o : Obj) : w.grownBy (w1.alloc o) row :=
  ⟨h.os, h.tape, h.output, by have := h.size; simp; omega, fun j hj hne => (Below.heap_alloc _ _ _ (Nat.lt_of_lt_of_le hj h.size)).trans (h.block j hj hne)⟩
theorem grown_trans {w w1 w2 : World} {row : Option Nat} (h : w.grownBy w1 row) (k : w1.grownBy w2 row) : w.grownBy w2 row :=
  ⟨k.os.trans h.os, k.tape.trans h.tape, k.output.trans h.output, Nat.le_trans h.size k.size, fun j hj hne => (k.block j (Nat.lt_of_lt_of_le hj h.size) hne).trans (h.block j hj hne)⟩
theorem grown_below {w w1 : World} (h : Below w.heap.size w w1) (row : Option Nat) : w.grownBy w1 row := ⟨h.os, h.tape, h.output, h.size, fun k hk _ => h.block k hk⟩
/-- Two rows. -/
theorem grown_cell {w w1 : World} {row : Option Nat} (h : w.grownBy w1 row) {a : Addr} {v : Value} (hc : w.cell? a = some v) (hne : some a.block ≠ row) : w1.cell? a = some v :=
  (World.cell?_of_block (h.block a.block (World.block_lt_of_cell? w a hc) hne)).trans hc
end Go.Proofs.Ytnflokhffmfifaa.Blk

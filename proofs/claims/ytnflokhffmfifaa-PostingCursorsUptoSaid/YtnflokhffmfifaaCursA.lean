/- For the law PostingCursors: two cursors and the reference's two, in blocks of their own; how they go on. -/
import Derived.Test.YtnflokhffmfifaaRefCur
set_option linter.unusedVariables false
set_option linter.unusedSimpArgs false
namespace Go.Proofs.Ytnflokhffmfifaa.CursW
open Go.RowKit Go.Proofs.Ytnflokhffmfifaa.Blk Go.Proofs.Ytnflokhffmfifaa.Ris Go.Proofs.Ytnflokhffmfifaa.Cur Go.Proofs.Ytnflokhffmfifaa.OfW Go.Proofs.Ytnflokhffmfifaa.RefCur Go.Proofs.YtnflokhffmfifaaW.PrintWords Go.Proofs.YtnflokhffmfifaaW.PrintLast Go.Proofs.YtnflokhffmfifaaW.PrintMore
/-- Block p is the reference's cursor: the list, whose row lies in block g, and a place. -/
def Ref (w : World) (p g : Nat) (s : List Int) (a : Nat) : Prop := ∃ A cc, Blk.At w p [.slice A s.length cc, .int .i64 (a : Int)] 27 ∧ Row w g A cc s
theorem Ref.on {w w1 : World} {p g : Nat} {s : List Int} {a : Nat} (h : Ref w p g s a) (h1 : w1.heap[p]? = w.heap[p]?) (h2 : 0 < s.length → w1.heap[g]? = w.heap[g]?) : Ref w1 p g s a := by
  obtain ⟨A, cc, e1, e2⟩ := h
  exact ⟨A, cc, h1.trans e1, e2.on h2⟩
structure LW (w : World) (pc gc pd gd pm gm po go_ : Nat) (s : List Int) (a b : Nat) (wr : World) : Prop where
  c : Cur wr pc gc (s.drop a)
  d : Cur wr pd gd (s.drop b)
  m : Ref wr pm gm s a
  o : Ref wr po go_ s b
  below : Below w.heap.size w wr
  lo : w.heap.size ≤ pc ∧ w.heap.size ≤ pd ∧ w.heap.size ≤ pm ∧ w.heap.size ≤ po
  hi : pc < wr.heap.size ∧ pd < wr.heap.size ∧ pm < wr.heap.size ∧ po < wr.heap.size
  ne : pc ≠ pd ∧ pm ≠ po ∧ pc ≠ pm ∧ pc ≠ po ∧ pd ≠ pm ∧ pd ≠ po
  far : 0 < s.length → (∀ g, (g = gc ∨ g = gd ∨ g = gm ∨ g = go_) → g < wr.heap.size ∧ g ≠ pc ∧ g ≠ pd ∧ g ≠ pm ∧ g ≠ po)
  ha : a ≤ s.length
  hb : b ≤ s.length
section
variable {w wr w2 : World} {pc gc pd gd pm gm po go_ a b : Nat} {s : List Int}
theorem drop_pos {s : List Int} {a : Nat} (h : 0 < (s.drop a).length) : 0 < s.length := by rw [List.length_drop] at h; omega
/-- One of the four blocks may have been written; its own part is given anew. -/
theorem LW.write (h : LW w pc gc pd gd pm gm po go_ s a b wr) {p a2 b2 : Nat} (hg : wr.grownBy w2 (some p)) (hp : w.heap.size ≤ p) (ha : a2 ≤ s.length) (hb : b2 ≤ s.length)
    (hgp : 0 < s.length → ∀ g, (g = gc ∨ g = gd ∨ g = gm ∨ g = go_) → g ≠ p)
    (hc : (pc ≠ p ∧ a2 = a) ∨ Cur w2 pc gc (s.drop a2)) (hd : (pd ≠ p ∧ b2 = b) ∨ Cur w2 pd gd (s.drop b2)) (hm : (pm ≠ p ∧ a2 = a) ∨ Ref w2 pm gm s a2) (ho : (po ≠ p ∧ b2 = b) ∨ Ref w2 po go_ s b2) : LW w pc gc pd gd pm gm po go_ s a2 b2 w2 := by
  have hi := h.hi
  have k : ∀ q, q < wr.heap.size → q ≠ p → w2.heap[q]? = wr.heap[q]? := fun q h1 h2 => grown_on hg h1 h2
  have kg : 0 < s.length → ∀ g, (g = gc ∨ g = gd ∨ g = gm ∨ g = go_) → w2.heap[g]? = wr.heap[g]? := fun h0 g hgg => k g (h.far h0 g hgg).1 (hgp h0 g hgg)
  refine ⟨?_, ?_, ?_, ?_, below_grown h.below hg hp, h.lo, ?_, h.ne, fun h0 g hgg => ?_, ha, hb⟩
  · rcases hc with ⟨h1, rfl⟩ | h1
    · exact h.c.on (k _ hi.1 h1) (fun q => kg (drop_pos q) _ (.inl rfl))
    · exact h1
  · rcases hd with ⟨h1, rfl⟩ | h1
    · exact h.d.on (k _ hi.2.1 h1) (fun q => kg (drop_pos q) _ (.inr (.inl rfl)))
    · exact h1
  · rcases hm with ⟨h1, rfl⟩ | h1
    · exact h.m.on (k _ hi.2.2.1 h1) (fun q => kg q _ (.inr (.inr (.inl rfl))))
    · exact h1
  · rcases ho with ⟨h1, rfl⟩ | h1
    · exact h.o.on (k _ hi.2.2.2 h1) (fun q => kg q _ (.inr (.inr (.inr rfl))))
    · exact h1
  · have := hg.size; omega
  · obtain ⟨h1, h2⟩ := h.far h0 g hgg
    exact ⟨Nat.lt_of_lt_of_le h1 hg.size, h2⟩
theorem LW.on (h : LW w pc gc pd gd pm gm po go_ s a b wr) (hb : Below wr.heap.size wr w2) : LW w pc gc pd gd pm gm po go_ s a b w2 := by
  have hi := h.hi
  have kg : 0 < s.length → ∀ g, (g = gc ∨ g = gd ∨ g = gm ∨ g = go_) → w2.heap[g]? = wr.heap[g]? := fun h0 g hgg => hb.block g (h.far h0 g hgg).1
  refine ⟨h.c.on (hb.block _ hi.1) (fun q => kg (drop_pos q) _ (.inl rfl)), h.d.on (hb.block _ hi.2.1) (fun q => kg (drop_pos q) _ (.inr (.inl rfl))), h.m.on (hb.block _ hi.2.2.1) (fun q => kg q _ (.inr (.inr (.inl rfl)))), h.o.on (hb.block _ hi.2.2.2) (fun q => kg q _ (.inr (.inr (.inr rfl)))), h.below.trans (hb.mono h.below.size), h.lo, ?_, h.ne, fun h0 g hgg => ?_, h.ha, h.hb⟩
  · have := hb.size; omega
  · obtain ⟨h1, h2⟩ := h.far h0 g hgg
    exact ⟨Nat.lt_of_lt_of_le h1 hb.size, h2⟩
theorem LW.draw (h : LW w pc gc pd gd pm gm po go_ s a b wr) (n : Nat) : LW w pc gc pd gd pm gm po go_ s a b (wr.drewN n) := h.on (pw_below_drewN (Below.refl _ _) n)
/-- The two change places. -/
theorem LW.swap (h : LW w pc gc pd gd pm gm po go_ s a b wr) {A B : Option Addr} {ca cb : Nat} (hA : Blk.At wr pm [.slice A s.length ca, .int .i64 (a : Int)] 27 ∧ Row wr gm A ca s) (hB : Blk.At wr po [.slice B s.length cb, .int .i64 (b : Int)] 27 ∧ Row wr go_ B cb s) :
    LW w pd gd pc gc pm go_ po gm s b a ((((wr.setCell ⟨pm, 0, none⟩ (.slice B s.length cb)).setCell ⟨pm, 1, none⟩ (.int .i64 (b : Int))).setCell ⟨po, 0, none⟩ (.slice A s.length ca)).setCell ⟨po, 1, none⟩ (.int .i64 (a : Int))) := by
  obtain ⟨n1, n2, n3, n4, n5, n6⟩ := h.ne
  have hi := h.hi
  have lo := h.lo
  have k : ∀ q, q ≠ pm → q ≠ po → ((((wr.setCell ⟨pm, 0, none⟩ (.slice B s.length cb)).setCell ⟨pm, 1, none⟩ (.int .i64 (b : Int))).setCell ⟨po, 0, none⟩ (.slice A s.length ca)).setCell ⟨po, 1, none⟩ (.int .i64 (a : Int))).heap[q]? = wr.heap[q]? := fun q h1 h2 => by
    rw [Below.heap_setCell _ _ _ _ h2, Below.heap_setCell _ _ _ _ h2, Below.heap_setCell _ _ _ _ h1, Below.heap_setCell _ _ _ _ h1]
  have kg : 0 < s.length → ∀ g, (g = gc ∨ g = gd ∨ g = gm ∨ g = go_) → ((((wr.setCell ⟨pm, 0, none⟩ (.slice B s.length cb)).setCell ⟨pm, 1, none⟩ (.int .i64 (b : Int))).setCell ⟨po, 0, none⟩ (.slice A s.length ca)).setCell ⟨po, 1, none⟩ (.int .i64 (a : Int))).heap[g]? = wr.heap[g]? := fun h0 g hgg => k g (h.far h0 g hgg).2.2.2.1 (h.far h0 g hgg).2.2.2.2
  refine ⟨h.d.on (k _ n5 n6) (fun q => kg (drop_pos q) _ (.inr (.inl rfl))), h.c.on (k _ n3 n4) (fun q => kg (drop_pos q) _ (.inl rfl)), ⟨B, cb, ?_, hB.2.on (fun q => kg q _ (.inr (.inr (.inr rfl))))⟩, ⟨A, ca, ?_, hA.2.on (fun q => kg q _ (.inr (.inr (.inl rfl))))⟩, ?_, by omega, ?_, ⟨Ne.symm n1, n2, n5, n6, n3, n4⟩, fun h0 g hgg => ?_, h.hb, h.ha⟩
  · exact (((hA.1.set 0 (.slice B s.length cb)).set 1 (.int .i64 (b : Int))).other ⟨po, 0, none⟩ _ n2).other ⟨po, 1, none⟩ _ n2
  · exact ((((hB.1.other ⟨pm, 0, none⟩ _ (Ne.symm n2)).other ⟨pm, 1, none⟩ _ (Ne.symm n2)).set 0 (.slice A s.length ca)).set 1 (.int .i64 (a : Int)))
  · exact (((h.below.setCell (p := ⟨pm, 0, none⟩) lo.2.2.1 _).setCell (p := ⟨pm, 1, none⟩) lo.2.2.1 _).setCell (p := ⟨po, 0, none⟩) lo.2.2.2 _).setCell (p := ⟨po, 1, none⟩) lo.2.2.2 _
  · simp only [World.setCell, Array.size_modify]; omega
  · obtain ⟨h1, h2, h3, h4, h5⟩ := h.far h0 g (by rcases hgg with e | e | e | e <;> simp [e])
    exact ⟨by simpa [World.setCell] using h1, h3, h2, h4, h5⟩
end
end Go.Proofs.Ytnflokhffmfifaa.CursW

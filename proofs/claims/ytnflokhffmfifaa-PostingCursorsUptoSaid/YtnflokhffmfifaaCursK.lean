/- For the law PostingCursors: a cursor and the reference's own go on together. -/
import Derived.Test.YtnflokhffmfifaaCursC
set_option linter.unusedVariables false
set_option linter.unusedSimpArgs false
namespace Go.Proofs.Ytnflokhffmfifaa.CursW
open Go.RowKit Go.Proofs.Ytnflokhffmfifaa.Blk Go.Proofs.Ytnflokhffmfifaa.Ris Go.Proofs.Ytnflokhffmfifaa.Cur Go.Proofs.Ytnflokhffmfifaa.OfW Go.Proofs.Ytnflokhffmfifaa.RefCur Go.Proofs.YtnflokhffmfifaaW.PrintWords Go.Proofs.YtnflokhffmfifaaW.PrintLast Go.Proofs.YtnflokhffmfifaaW.PrintMore
theorem LW.step {w wr W5 W6 : World} {pc gc pd gd pm gm po go_ a b a2 ca : Nat} {A : Option Addr} {s : List Int} (h : LW w pc gc pd gd pm gm po go_ s a b wr) (hm : Blk.At wr pm [.slice A s.length ca, .int .i64 (a : Int)] 27) (hr : Row wr gm A ca s)
    (g5 : wr.grownBy W5 (some pc)) (c5 : Cur W5 pc gc (s.drop a2)) (g6 : Below W5.heap.size W5 W6) (ha2 : a2 ≤ s.length) :
    LW w pc gc pd gd pm gm po go_ s a2 b ((W6.setCell ⟨pm, 0, none⟩ (.slice A s.length ca)).setCell ⟨pm, 1, none⟩ (.int .i64 (a2 : Int))) := by
  obtain ⟨n1, n2, n3, n4, n5, n6⟩ := h.ne
  have hi := h.hi
  have lo := h.lo
  have z5 := g5.size
  have z6 := g6.size
  have k : ∀ q, q < wr.heap.size → q ≠ pc → q ≠ pm → ((W6.setCell ⟨pm, 0, none⟩ (.slice A s.length ca)).setCell ⟨pm, 1, none⟩ (.int .i64 (a2 : Int))).heap[q]? = wr.heap[q]? := fun q h1 h2 h3 => by
    rw [Below.heap_setCell _ _ _ _ h3, Below.heap_setCell _ _ _ _ h3, g6.block _ (by omega), grown_on g5 h1 h2]
  have k5 : ∀ q, q < W5.heap.size → q ≠ pm → ((W6.setCell ⟨pm, 0, none⟩ (.slice A s.length ca)).setCell ⟨pm, 1, none⟩ (.int .i64 (a2 : Int))).heap[q]? = W5.heap[q]? := fun q h1 h3 => by
    rw [Below.heap_setCell _ _ _ _ h3, Below.heap_setCell _ _ _ _ h3, g6.block _ h1]
  have kg : 0 < s.length → ∀ g, (g = gc ∨ g = gd ∨ g = gm ∨ g = go_) → ((W6.setCell ⟨pm, 0, none⟩ (.slice A s.length ca)).setCell ⟨pm, 1, none⟩ (.int .i64 (a2 : Int))).heap[g]? = wr.heap[g]? := fun h0 g hgg => k g (h.far h0 g hgg).1 (h.far h0 g hgg).2.1 (h.far h0 g hgg).2.2.2.1
  refine ⟨c5.on (k5 _ (by omega) n3) (fun q => k5 _ (by have := (h.far (drop_pos q) gc (.inl rfl)).1; omega) (h.far (drop_pos q) gc (.inl rfl)).2.2.2.1), h.d.on (k _ hi.2.1 (Ne.symm n1) n5) (fun q => kg (drop_pos q) _ (.inr (.inl rfl))), ⟨A, ca, ?_, hr.on (fun q => kg q _ (.inr (.inr (.inl rfl))))⟩, h.o.on (k _ hi.2.2.2 (Ne.symm n4) (Ne.symm n2)) (fun q => kg q _ (.inr (.inr (.inr rfl)))), ?_, lo, ?_, h.ne, fun h0 g hgg => ?_, ha2, h.hb⟩
  · have e6 : Blk.At W6 pm [.slice A s.length ca, .int .i64 (a : Int)] 27 := (hm.grown g5 (by simpa using Ne.symm n3)).below g6 (by omega)
    simpa using (e6.set 0 (.slice A s.length ca)).set 1 (.int .i64 (a2 : Int))
  · have hb5 := below_grown h.below g5 lo.1
    exact ((hb5.trans (g6.mono hb5.size)).setCell (p := ⟨pm, 0, none⟩) lo.2.2.1 _).setCell (p := ⟨pm, 1, none⟩) lo.2.2.1 _
  · simp only [World.setCell, Array.size_modify]; omega
  · obtain ⟨y1, y2⟩ := h.far h0 g hgg
    exact ⟨by simp only [World.setCell, Array.size_modify]; omega, y2⟩
/-- Block pm as it lies while the cursor has gone on. -/
theorem At.then {w W5 W6 : World} {p q : Nat} {cs : List Value} {t : TypeId} (h : Blk.At w p cs t) (g5 : w.grownBy W5 (some q)) (g6 : Below W5.heap.size W5 W6) (hne : q ≠ p) : Blk.At W6 p cs t := by
  have h5 := h.grown g5 (by simpa using Ne.symm hne)
  exact h5.below g6 h5.lt
end Go.Proofs.Ytnflokhffmfifaa.CursW

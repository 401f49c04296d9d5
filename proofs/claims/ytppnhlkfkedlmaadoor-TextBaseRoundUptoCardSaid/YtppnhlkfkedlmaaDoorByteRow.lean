/- The bytes of a string as a row of the call's own ('[]byte(s)'), written over place by place. No program. -/
import Derived.Test.YtppnhlkfkedlmaaDoorWMore
import Derived.Lib.SmallJoins
set_option linter.unusedVariables false
set_option linter.unusedSimpArgs false
namespace Go.Proofs.YtppnhlkfkedlmaaDoor.ByteRow
open Go.RowKit Go.Proofs.YtppnhlkfkedlmaaDoorW.PrintWords Go.Proofs.YtppnhlkfkedlmaaDoorW.PrintLast Go.Proofs.YtppnhlkfkedlmaaDoorW.PrintMore
/-- What is known of the row: f says what it holds. -/
structure RowRel (w : World) (s : ByteArray) (f : Nat → Int) (wr : World) : Prop where
  below : Below w.heap.size w wr
  size : w.heap.size < wr.heap.size
  cell : ∀ j, j < s.size → wr.cell? ⟨w.heap.size, j, none⟩ = some (.int .u8 (f j))
  free : ∀ j, j < s.size → wr.frozen? ⟨w.heap.size, j, none⟩ = false
theorem row_start (w : World) (e : TypeId) (s : ByteArray) : RowRel w s (fun j => bt s (j : Int)) (Lib.bytesWorld w e s) := by
  refine ⟨Joins.below_bytesWorld _ w e s (Nat.le_refl _), by rw [Lib.bytesWorld_size]; omega, fun j hj => ?_, fun j hj => ?_⟩
  · rw [Lib.bytesWorld_cell w e s j hj]
    congr 2
    unfold bt
    have h' : j < s.data.toList.length := by rw [data_length]; exact hj
    rw [dif_pos (by simpa using hj)]
    simp [List.getD_eq_getElem?_getD, List.getElem?_eq_getElem h']
    rfl
  · unfold World.frozen?
    rw [Lib.bytesWorld_at_new]
    have : (Lib.bytesCells w e s).size ≥ s.size := by simp only [Lib.bytesCells, Array.size_append, Array.size_map]; exact Nat.le_add_right _ _
    simp
    omega
theorem row_like {w wr : World} {s : ByteArray} {f g : Nat → Int} (h : RowRel w s f wr) (hg : ∀ j, j < s.size → g j = f j) : RowRel w s g wr := ⟨h.below, h.size, fun j hj => by rw [h.cell j hj, hg j hj], h.free⟩
theorem row_put {w wr : World} {s : ByteArray} {f : Nat → Int} (h : RowRel w s f wr) (i : Nat) (hi : i < s.size) (v : Int) : RowRel w s (fun j => if j = i then v else f j) (wr.setCell ⟨w.heap.size, i, none⟩ (.int .u8 v)) := by
  refine ⟨h.below.setCell (Nat.le_refl _) _, by simpa using h.size, fun j hj => ?_, fun j hj => by rw [World.frozen?_setCell]; exact h.free j hj⟩
  by_cases h2 : j = i
  · subst h2
    rw [World.cell?_setCell_same (h := h.cell j hj), if_pos rfl]
  · rw [World.cell?_setCell_other (h := by intro e; injection e with _ e _; exact h2 e.symm), h.cell j hj, if_neg h2]
theorem row_on {w wr W : World} {s : ByteArray} {f : Nat → Int} (h : RowRel w s f wr) (hb : Below wr.heap.size wr W) : RowRel w s f W :=
  ⟨h.below.trans (hb.mono (Nat.le_of_lt h.size)), Nat.lt_of_lt_of_le h.size hb.size, fun j hj => (hb.cell (p := ⟨w.heap.size, j, none⟩) h.size).trans (h.cell j hj), fun j hj => (hb.frozen (p := ⟨w.heap.size, j, none⟩) h.size).trans (h.free j hj)⟩
theorem row_reads {w wr : World} {s : ByteArray} {f : Nat → Int} (hs : s.size ≤ 4611686018427387904) (h : RowRel w s f wr) : ReadsInt wr .u8 (some ⟨w.heap.size, 0, none⟩) s.size ((List.range s.size).map f) := by
  refine ⟨by simp, by omega, fun _ => ⟨_, rfl, fun j hj => ?_⟩⟩
  rw [add_plain, h.cell j hj]
  congr 2
  simp [List.getD_eq_getElem?_getD, List.getElem?_map, List.getElem?_range hj]
end Go.Proofs.YtppnhlkfkedlmaaDoor.ByteRow

/- By hand: text.Fold answers the text with its letters A to Z small. For every text of at most 2^62 bytes and every world. (16: the function's number; 24: the type []byte.) -/
import Derived.Test.YtjkhdiphcgpbfaaDoorProg
import Derived.WalkKit
import Derived.Test.YtjkhdiphcgpbfaaDoorWMore
import Derived.Lib.SmallJoins
set_option linter.unusedVariables false
set_option linter.unusedSimpArgs false
namespace Go.Proofs.YtjkhdiphcgpbfaaDoor.XE
open Go.RowKit Go.Proofs.YtjkhdiphcgpbfaaDoorW.PrintWords Go.Proofs.YtjkhdiphcgpbfaaDoorW.PrintLast Go.Proofs.YtjkhdiphcgpbfaaDoorW.PrintMore

def lowI (c : Int) : Int := if 65 ≤ c ∧ c ≤ 90 then c + 32 else c
def foldL (l : List Int) : List Int := l.map lowI
def text_Fold.f (a0 : ByteArray) : Option ByteArray := if a0.size ≤ 4611686018427387904 then some (strOfNums (foldL (bytesOf a0))) else none

/-- What is known of the bytes' row: below i folded. -/
structure FoldRel (w : World) (s : ByteArray) (i : Nat) (wr : World) : Prop where
  below : Below w.heap.size w wr
  size : w.heap.size < wr.heap.size
  cell : ∀ j, j < s.size → wr.cell? ⟨w.heap.size, j, none⟩ = some (.int .u8 (if j < i then lowI (bt s (j : Int)) else bt s (j : Int)))
  free : ∀ j, j < s.size → wr.frozen? ⟨w.heap.size, j, none⟩ = false

theorem fold_start (w : World) (e : TypeId) (s : ByteArray) : FoldRel w s 0 (Lib.bytesWorld w e s) := by
  refine ⟨Joins.below_bytesWorld _ w e s (Nat.le_refl _), by rw [Lib.bytesWorld_size]; omega, fun j hj => ?_, fun j hj => ?_⟩
  · rw [Lib.bytesWorld_cell w e s j hj, if_neg (by omega)]
    congr 2
    unfold bt
    have h' : j < s.data.toList.length := by rw [data_length]; exact hj
    rw [dif_pos (by simpa using hj)]
    simp [List.getD_eq_getElem?_getD, List.getElem?_eq_getElem h']
    rfl
  · unfold World.frozen?
    rw [Lib.bytesWorld_at_new]
    have : (Lib.bytesCells w e s).size ≥ s.size := by simp only [Lib.bytesCells, Array.size_append, Array.size_map]; exact Nat.le_add_right _ _
    simp
    omega
theorem fold_keep {w : World} {s : ByteArray} {i : Nat} {wr : World} (h : FoldRel w s i wr) (hn : lowI (bt s (i : Int)) = bt s (i : Int)) : FoldRel w s (i + 1) wr := by
  refine ⟨h.below, h.size, fun j hj => ?_, h.free⟩
  rw [h.cell j hj]
  by_cases h1 : j < i
  · rw [if_pos h1, if_pos (by omega)]
  · by_cases h2 : j = i
    · subst h2
      rw [if_neg (by omega), if_pos (by omega), hn]
    · rw [if_neg h1, if_neg (by omega)]
theorem fold_put {w : World} {s : ByteArray} {i : Nat} {wr : World} (h : FoldRel w s i wr) (hi : i < s.size) {v : Int} (hv : v = lowI (bt s (i : Int))) : FoldRel w s (i + 1) (wr.setCell ⟨w.heap.size, i, none⟩ (.int .u8 v)) := by
  subst hv
  refine ⟨h.below.setCell (Nat.le_refl _) _, by simpa using h.size, fun j hj => ?_, fun j hj => by rw [World.frozen?_setCell]; exact h.free j hj⟩
  by_cases h2 : j = i
  · subst h2
    rw [World.cell?_setCell_same (h := h.cell j hj), if_pos (by omega)]
  · rw [World.cell?_setCell_other (h := by intro e; injection e with _ e _; exact h2 e.symm), h.cell j hj]
    by_cases h1 : j < i
    · rw [if_pos h1, if_pos (by omega)]
    · rw [if_neg h1, if_neg (by omega)]
theorem fold_reads {w : World} {s : ByteArray} {wr : World} (hs : s.size ≤ 4611686018427387904) (h : FoldRel w s s.size wr) : ReadsInt wr .u8 (some ⟨w.heap.size, 0, none⟩) s.size (foldL (bytesOf s)) := by
  refine ⟨by simp [foldL, bytesOf_length], by omega, fun _ => ⟨_, rfl, fun j hj => ?_⟩⟩
  rw [add_plain, h.cell j hj, if_pos hj]
  congr 2
  have hl : j < (bytesOf s).length := by rw [bytesOf_length]; exact hj
  simp only [foldL, List.getD_eq_getElem?_getD, List.getElem?_map, List.getElem?_eq_getElem hl, Option.map_some, Option.getD_some]
  rw [← rd_bytesOf]
  simp [rd, List.getD_eq_getElem?_getD, List.getElem?_eq_getElem hl]

set_option maxHeartbeats 400000 in
theorem text_Fold.calls (a0 : ByteArray) (r : ByteArray) (w : World) (h : text_Fold.f a0 = some r) :
    Calls Tryd.prog 16 #[.string a0] w fun e w' => e = .returned (.string r) ∧ Below w.heap.size w w' := by
  unfold text_Fold.f at h
  split at h
  case isFalse => cases h
  case isTrue hs =>
  obtain rfl := Option.some.inj h
  clear h
  have kb := fun W => Lib.run_convert_string_bytes (P := Tryd.prog) W 9 24 5 a0 Tryd.underlying9 Tryd.underlying24 Tryd.underlying5
  go_enter Tryd.func16, Tryd.ntmps16
  go_wp2
  go_loopw [10] (fun i wr => ∃ k : Nat, k ≤ a0.size ∧ i = .int .i64 k ∧ Hid (FoldRel w a0 k wr)) (fun i _ => a0.size - (intOf i).toNat)
  case atStart => exact ⟨0, by omega, rfl, fold_start w 5 a0⟩
  case round =>
    obtain ⟨k, hk, rfl, hF⟩ := hrel
    by_cases hlt : k < a0.size
    · have hb := bt_range a0 (k : Int)
      have hc : wr.cell? ⟨w.heap.size, k, none⟩ = some (.int .u8 (bt a0 (k : Int))) := by
        have := hF.out.cell k hlt
        rwa [if_neg (by omega)] at this
      have hf := hF.out.free k hlt
      go_wp2
      all_goals go_roundw
      case rel => exact ⟨k + 1, by omega, by go_num, fold_put hF.out hlt (by unfold lowI; rw [if_pos ⟨‹_›, ‹_›⟩]; omega)⟩
      case measure => simp [intOf]; omega
      case rel => exact ⟨k + 1, by omega, by go_num, fold_keep hF.out (by unfold lowI; rw [if_neg (by omega)])⟩
      case measure => simp [intOf]; omega
      case rel => exact ⟨k + 1, by omega, by go_num, fold_keep hF.out (by unfold lowI; rw [if_neg (by omega)])⟩
      case measure => simp [intOf]; omega
    · obtain rfl : k = a0.size := by omega
      have hs := string_of_reads (P := Tryd.prog) (src := 24) (dst := 9) (e := 5) (c := grownCap w a0.size 0 5) Tryd.underlying24 Tryd.underlying5 Tryd.underlying9 (fold_reads hs hF.out)
      go_wp2
      go_ret
      exact ⟨rfl, hF.out.below⟩
end Go.Proofs.YtjkhdiphcgpbfaaDoor.XE

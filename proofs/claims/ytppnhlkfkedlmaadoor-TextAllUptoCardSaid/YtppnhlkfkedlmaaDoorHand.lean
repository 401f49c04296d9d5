/- By hand: Fold, Safe, Unbase64; each contract for every text of at most 2^35 bytes and every world. -/
import Derived.Test.YtppnhlkfkedlmaaDoorProg
import Derived.WalkKit
import Derived.Test.YtppnhlkfkedlmaaDoorWMore
import Derived.Lib.SmallJoins
import Derived.Lib.OthersKept
import Derived.Laws.RangeAny
import Derived.OneCell
import Derived.Below
import Derived.Deep.Draws
import Derived.Deep.QuietTactic
import Derived.BigQuiet
import Derived.BigRegion
import Derived.StillTailTactics
import Derived.Lib.Hide
set_option linter.unusedVariables false
set_option linter.unusedSimpArgs false
namespace Go.Proofs.YtppnhlkfkedlmaaDoor.XE
open Go.RowKit Go.Proofs.YtppnhlkfkedlmaaDoorW.PrintWords Go.Proofs.YtppnhlkfkedlmaaDoorW.PrintLast Go.Proofs.YtppnhlkfkedlmaaDoorW.PrintMore
def lowI (c : Int) : Int := if 65 ≤ c ∧ c ≤ 90 then c + 32 else c
def foldL (l : List Int) : List Int := l.map lowI
def text_Fold.f (a0 : ByteArray) : Option ByteArray := if a0.size ≤ 4611686018427387904 then some (strOfNums (foldL (bytesOf a0))) else none
/-- What is known of the bytes' row: below i folded. -/
structure FoldRel (w : World) (s : ByteArray) (i : Nat) (wr : World) : Prop where
  below : Below w.heap.size w wr
  size : w.heap.size < wr.heap.size
  cell : ∀ j, j < s.size → wr.cell? ⟨w.heap.size, j, none⟩ = some (.int .u8 (if j < i then lowI (bt s (j : Int)) else bt s (j : Int)))
  free : ∀ j, j < s.size → wr.frozen? ⟨w.heap.size, j, none⟩ = false
theorem fold_start (w : World) (e : TypeId) (s : ByteArray) : FoldRel w s 0 (Lib.bytesWorld w e s) := by
  refine ⟨Joins.below_bytesWorld _ w e s (Nat.le_refl _), by rw [Lib.bytesWorld_size]; omega, fun j hj => ?_, fun j hj => ?_⟩
  · rw [Lib.bytesWorld_cell w e s j hj, if_neg (by omega)]
    congr 2
    unfold bt
    have h' : j < s.data.toList.length := by rw [data_length]; exact hj
    rw [dif_pos (by simpa using hj)]
    simp [List.getD_eq_getElem?_getD, List.getElem?_eq_getElem h']
    rfl
  · unfold World.frozen?
    rw [Lib.bytesWorld_at_new]
    have : (Lib.bytesCells w e s).size ≥ s.size := by simp only [Lib.bytesCells, Array.size_append, Array.size_map]; exact Nat.le_add_right _ _
    simp
    omega
theorem fold_keep {w : World} {s : ByteArray} {i : Nat} {wr : World} (h : FoldRel w s i wr) (hn : lowI (bt s (i : Int)) = bt s (i : Int)) : FoldRel w s (i + 1) wr := by
  refine ⟨h.below, h.size, fun j hj => ?_, h.free⟩
  rw [h.cell j hj]
  by_cases h1 : j < i
  · rw [if_pos h1, if_pos (by omega)]
  · by_cases h2 : j = i
    · subst h2
      rw [if_neg (by omega), if_pos (by omega), hn]
    · rw [if_neg h1, if_neg (by omega)]
theorem fold_put {w : World} {s : ByteArray} {i : Nat} {wr : World} (h : FoldRel w s i wr) (hi : i < s.size) {v : Int} (hv : v = lowI (bt s (i : Int))) : FoldRel w s (i + 1) (wr.setCell ⟨w.heap.size, i, none⟩ (.int .u8 v)) := by
  subst hv
  refine ⟨h.below.setCell (Nat.le_refl _) _, by simpa using h.size, fun j hj => ?_, fun j hj => by rw [World.frozen?_setCell]; exact h.free j hj⟩
  by_cases h2 : j = i
  · subst h2
    rw [World.cell?_setCell_same (h := h.cell j hj), if_pos (by omega)]
  · rw [World.cell?_setCell_other (h := by intro e; injection e with _ e _; exact h2 e.symm), h.cell j hj]
    by_cases h1 : j < i
    · rw [if_pos h1, if_pos (by omega)]
    · rw [if_neg h1, if_neg (by omega)]
theorem fold_reads {w : World} {s : ByteArray} {wr : World} (hs : s.size ≤ 4611686018427387904) (h : FoldRel w s s.size wr) : ReadsInt wr .u8 (some ⟨w.heap.size, 0, none⟩) s.size (foldL (bytesOf s)) := by
  refine ⟨by simp [foldL, bytesOf_length], by omega, fun _ => ⟨_, rfl, fun j hj => ?_⟩⟩
  rw [add_plain, h.cell j hj, if_pos hj]
  congr 2
  have hl : j < (bytesOf s).length := by rw [bytesOf_length]; exact hj
  simp only [foldL, List.getD_eq_getElem?_getD, List.getElem?_map, List.getElem?_eq_getElem hl, Option.map_some, Option.getD_some]
  rw [← rd_bytesOf]
  simp [rd, List.getD_eq_getElem?_getD, List.getElem?_eq_getElem hl]
set_option maxHeartbeats 400000 in
theorem text_Fold.calls (a0 : ByteArray) (r : ByteArray) (w : World) (h : text_Fold.f a0 = some r) :
    Calls Tryd.prog 19 #[.string a0] w fun e w' => e = .returned (.string r) ∧ Below w.heap.size w w' := by
  unfold text_Fold.f at h
  split at h
  case isFalse => cases h
  case isTrue hs =>
  obtain rfl := Option.some.inj h
  clear h
  have kb := fun W => Lib.run_convert_string_bytes (P := Tryd.prog) W 9 28 5 a0 Tryd.underlying9 Tryd.underlying28 Tryd.underlying5
  go_enter Tryd.func19, Tryd.ntmps19
  go_wp2
  go_loopw [10] (fun i wr => ∃ k : Nat, k ≤ a0.size ∧ i = .int .i64 k ∧ Hid (FoldRel w a0 k wr)) (fun i _ => a0.size - (intOf i).toNat)
  case atStart => exact ⟨0, by omega, rfl, fold_start w 5 a0⟩
  case round =>
    obtain ⟨k, hk, rfl, hF⟩ := hrel
    by_cases hlt : k < a0.size
    · have hb := bt_range a0 (k : Int)
      have hc : wr.cell? ⟨w.heap.size, k, none⟩ = some (.int .u8 (bt a0 (k : Int))) := by
        have := hF.out.cell k hlt
        rwa [if_neg (by omega)] at this
      have hf := hF.out.free k hlt
      go_wp2
      all_goals go_roundw
      case rel => exact ⟨k + 1, by omega, by go_num, fold_put hF.out hlt (by unfold lowI; rw [if_pos ⟨‹_›, ‹_›⟩]; omega)⟩
      case measure => simp [intOf]; omega
      case rel => exact ⟨k + 1, by omega, by go_num, fold_keep hF.out (by unfold lowI; rw [if_neg (by omega)])⟩
      case measure => simp [intOf]; omega
      case rel => exact ⟨k + 1, by omega, by go_num, fold_keep hF.out (by unfold lowI; rw [if_neg (by omega)])⟩
      case measure => simp [intOf]; omega
    · obtain rfl : k = a0.size := by omega
      have hs := string_of_reads (P := Tryd.prog) (src := 28) (dst := 9) (e := 5) (c := grownCap w a0.size 0 5) Tryd.underlying28 Tryd.underlying5 Tryd.underlying9 (fold_reads hs hF.out)
      go_wp2
      go_ret
      exact ⟨rfl, hF.out.below⟩
end Go.Proofs.YtppnhlkfkedlmaaDoor.XE
namespace Go.Proofs.YtppnhlkfkedlmaaDoor.XS
open Go.RowKit Go.Proofs.YtppnhlkfkedlmaaDoorW.PrintWords Go.Proofs.YtppnhlkfkedlmaaDoorW.PrintLast Go.Proofs.YtppnhlkfkedlmaaDoorW.PrintMore
/-- May the bytes stand plain? first: is the next one the text's first? -/
def safeL : Bool → List Int → Bool
  | _, [] => true
  | first, c :: r => if c = 0 ∨ c = 10 ∨ c = 13 ∨ c > 127 then false else if first = true ∧ (c = 32 ∨ c = 58 ∨ c = 60) then false else safeL false r
def text_Safe.f (a0 : ByteArray) : Option Bool := if a0.size ≤ 4611686018427387904 then some (safeL true (bytesOf a0)) else none
theorem drop_cons (s : ByteArray) (i : Nat) (h : i < s.size) : (bytesOf s).drop i = bt s (i : Int) :: (bytesOf s).drop (i + 1) := by
  have hl : i < (bytesOf s).length := by rw [bytesOf_length]; exact h
  rw [List.drop_eq_getElem_cons hl, ← rd_bytesOf]
  simp [rd, List.getD_eq_getElem?_getD, List.getElem?_eq_getElem hl]
theorem safe_bad {s : ByteArray} {pos : Nat} (h : pos < s.size) {f : Bool} (hb : bt s (pos : Int) = 0 ∨ bt s (pos : Int) = 10 ∨ bt s (pos : Int) = 13 ∨ bt s (pos : Int) > 127) (hS : Hid (safeL true (bytesOf s) = safeL f ((bytesOf s).drop pos))) : safeL true (bytesOf s) = false := by
  rw [hS.out, drop_cons s pos h, safeL, if_pos hb]
theorem safe_first {s : ByteArray} {pos : Nat} (h : pos < s.size) (h0 : (pos : Int) = 0) (hb : bt s (pos : Int) = 32 ∨ bt s (pos : Int) = 58 ∨ bt s (pos : Int) = 60) (hS : Hid (safeL true (bytesOf s) = safeL (decide (pos = 0)) ((bytesOf s).drop pos))) : safeL true (bytesOf s) = false := by
  rw [hS.out, drop_cons s pos h, safeL, if_neg (by omega), if_pos ⟨decide_eq_true (by omega), hb⟩]
theorem safe_on {s : ByteArray} {pos : Nat} (h : pos < s.size) (hb : ¬ (bt s (pos : Int) = 0 ∨ bt s (pos : Int) = 10 ∨ bt s (pos : Int) = 13 ∨ bt s (pos : Int) > 127)) (hf : ¬ ((pos : Int) = 0 ∧ (bt s (pos : Int) = 32 ∨ bt s (pos : Int) = 58 ∨ bt s (pos : Int) = 60))) (hS : Hid (safeL true (bytesOf s) = safeL (decide (pos = 0)) ((bytesOf s).drop pos))) : safeL true (bytesOf s) = safeL (decide (pos + 1 = 0)) ((bytesOf s).drop (pos + 1)) := by
  rw [hS.out, drop_cons s pos h, safeL, if_neg hb, if_neg (fun z => hf ⟨by have := of_decide_eq_true z.1; omega, z.2⟩)]
  rfl
set_option maxHeartbeats 1000000 in
theorem text_Safe.calls (a0 : ByteArray) (r : Bool) (w : World) (h : text_Safe.f a0 = some r) :
    Calls Tryd.prog 30 #[.string a0] w fun e w' => e = .returned (.bool r) ∧ Below w.heap.size w w' := by
  unfold text_Safe.f at h
  split at h
  case isFalse => cases h
  case isTrue hs =>
  obtain rfl := Option.some.inj h
  clear h
  go_enter Tryd.func30, Tryd.ntmps30
  go_wp2
  go_loopw [] (fun wr => ∃ pos : Nat, pos ≤ a0.size ∧ wr.heap[w.heap.size]? = some (.stringIter a0 pos) ∧ Below w.heap.size w wr ∧ Hid (safeL true (bytesOf a0) = safeL (decide (pos = 0)) ((bytesOf a0).drop pos))) (fun wr => a0.size - wr.iterPos w.heap.size)
  case atStart =>
    refine ⟨0, by omega, ?_, (Below.refl _ w).alloc (Nat.le_refl _) _, (show safeL true (bytesOf a0) = safeL (decide (0 = 0)) ((bytesOf a0).drop 0) from rfl)⟩
    have := World.iter_heap w a0 0
    simpa using this
  case round =>
    obtain ⟨pos, hpos, hit, hbw, hS⟩ := hrel
    by_cases hp : pos < a0.size
    · have hbr := bt_range a0 (pos : Int)
      have hby : ((a0[pos]'hp).toNat : Int) = bt a0 (pos : Int) := bt_at a0 (pos : Int) (by simpa using hp)
      by_cases ha : (a0[pos]'hp).toNat < 128
      · rcases Nat.eq_zero_or_pos pos with h0 | h0
        · subst h0
          have hnx : ∀ ty, (Instr.next (.pointer (some ⟨w.heap.size, 0, none⟩)) true ty).run Tryd.prog wr = .ok (.tuple #[.bool true, .int .i64 0, .int .i32 (bt a0 0)]) (wr.iterAt w.heap.size a0 1) := fun ty => by
            have := Lib.run_next_ascii_at (P := Tryd.prog) wr w.heap.size a0 0 ty hit hp ha
            rw [hby] at this
            exact this
          have hit2 : (wr.iterAt w.heap.size a0 1).heap[w.heap.size]? = some (.stringIter a0 1) := Lib.iterAt_heap wr w.heap.size a0 0 1 hit
          have hbw2 := Lib.below_iterAt hbw (k := w.heap.size) (Nat.le_refl _) a0 1
          replace hS : Hid (safeL true (bytesOf a0) = safeL (decide (0 = 0)) ((bytesOf a0).drop 0)) := hS
          have hbr : 0 ≤ bt a0 0 ∧ bt a0 0 ≤ 255 := bt_range a0 0
          go_wp2
          all_goals try simp only [Bool.or_eq_true, beq_iff_eq, decide_eq_true_eq, beq_eq_false_iff_ne, ne_eq] at *
          all_goals first
            | (go_ret; exact ⟨by rw [safe_bad (pos := 0) hp (show bt a0 0 = 0 ∨ bt a0 0 = 10 ∨ bt a0 0 = 13 ∨ bt a0 0 > 127 by omega) hS]; (try rfl), hbw2⟩)
            | (go_ret; exact ⟨by rw [safe_first (pos := 0) hp rfl (show bt a0 0 = 32 ∨ bt a0 0 = 58 ∨ bt a0 0 = 60 by omega) hS]; (try rfl), hbw2⟩)
            | (exfalso; omega)
            | skip
          all_goals go_roundw
          all_goals first
            | exact ⟨1, by omega, hit2, hbw2, safe_on (pos := 0) hp (show ¬ (bt a0 0 = 0 ∨ bt a0 0 = 10 ∨ bt a0 0 = 13 ∨ bt a0 0 > 127) by omega) (show ¬ (_ ∧ (bt a0 0 = 32 ∨ bt a0 0 = 58 ∨ bt a0 0 = 60)) by omega) hS⟩
            | (simp only [World.iterPos, hit2, hit]; omega)
        · have hnx : ∀ ty, (Instr.next (.pointer (some ⟨w.heap.size, 0, none⟩)) true ty).run Tryd.prog wr = .ok (.tuple #[.bool true, .int .i64 pos, .int .i32 (bt a0 (pos : Int))]) (wr.iterAt w.heap.size a0 (pos + 1)) := fun ty => by
            rw [← hby]; exact Lib.run_next_ascii_at wr w.heap.size a0 pos ty hit hp ha
          have hit2 := Lib.iterAt_heap wr w.heap.size a0 pos (pos + 1) hit
          have hbw2 := Lib.below_iterAt hbw (k := w.heap.size) (Nat.le_refl _) a0 (pos + 1)
          go_wp2
          all_goals try simp only [Bool.or_eq_true, beq_iff_eq, decide_eq_true_eq, beq_eq_false_iff_ne, ne_eq] at *
          all_goals first
            | (go_ret; exact ⟨by rw [safe_bad hp (by omega) hS]; (try rfl), hbw2⟩)
            | (go_ret; exact ⟨by rw [safe_first hp (by omega) (by omega) hS]; (try rfl), hbw2⟩)
            | (exfalso; omega)
            | skip
          all_goals go_roundw
          all_goals first
            | exact ⟨pos + 1, by omega, hit2, hbw2, safe_on hp (by omega) (by omega) hS⟩
            | (simp only [World.iterPos, hit2, hit]; omega)
      · have hd := decode_high a0 pos hp (by omega)
        have hle := decode_le a0 pos
        have hnx : ∀ ty, (Instr.next (.pointer (some ⟨w.heap.size, 0, none⟩)) true ty).run Tryd.prog wr = _ := fun ty => Lib.run_next_any_at wr w.heap.size a0 pos ty hit hp
        have hbw2 := Lib.below_iterAt hbw (k := w.heap.size) (Nat.le_refl _) a0 (pos + (Utf8.decode a0 pos).2)
        have hb : safeL true (bytesOf a0) = false := safe_bad hp (by omega) hS
        generalize Utf8.decode a0 pos = z at *
        go_wp2
        all_goals first
          | (go_ret; exact ⟨by rw [hb]; (try rfl), hbw2⟩)
          | skip
        all_goals exfalso
        all_goals try simp only [Bool.or_eq_true, beq_iff_eq, decide_eq_true_eq, beq_eq_false_iff_ne, ne_eq] at *
        all_goals omega
    · have hnx : ∀ ty, (Instr.next (.pointer (some ⟨w.heap.size, 0, none⟩)) true ty).run Tryd.prog wr = _ := fun ty => Lib.run_next_end_at wr w.heap.size a0 pos ty hit hp
      have hb : safeL true (bytesOf a0) = true := by rw [hS.out, List.drop_eq_nil_of_le (by rw [bytesOf_length]; omega)]; rfl
      go_wp2
      go_ret
      exact ⟨by rw [hb]; (try rfl), hbw⟩
end Go.Proofs.YtppnhlkfkedlmaaDoor.XS
namespace Go.Proofs.YtppnhlkfkedlmaaDoor.L64
open Go.RowKit Go.Proofs.YtppnhlkfkedlmaaDoorW.PrintWords Go.Proofs.YtppnhlkfkedlmaaDoorW.PrintLast
def let64 : List Int := [65, 66, 67, 68, 69, 70, 71, 72, 73, 74, 75, 76, 77, 78, 79, 80, 81, 82, 83, 84, 85, 86, 87, 88, 89, 90, 97, 98, 99, 100, 101, 102, 103, 104, 105, 106, 107, 108, 109, 110, 111, 112, 113, 114, 115, 116, 117, 118, 119, 120, 121, 122, 48, 49, 50, 51, 52, 53, 54, 55, 56, 57, 43, 47]
def l64 (n : Int) : Int := rd let64 n
def b64 : List Int → List Int
  | a :: b :: c :: r => l64 (a / 4) :: l64 (a % 4 * 16 + b / 16) :: l64 (b % 16 * 4 + c / 64) :: l64 (c % 64) :: b64 r
  | [a, b] => [l64 (a / 4), l64 (a % 4 * 16 + b / 16), l64 (b % 16 * 4), 61]
  | [a] => [l64 (a / 4), l64 (a % 4 * 16), 61, 61]
  | [] => []
theorem fin_of (n : Int) (m : Nat) (h : 0 ≤ n) (h2 : n < m) : ∃ x : Fin m, (x.val : Int) = n := ⟨⟨n.toNat, by omega⟩, by simp; omega⟩
theorem and3 (x : Int) (h : 0 ≤ x) (h2 : x ≤ 255) : Go.bits .and .u8 x 3 = x % 4 := by
  obtain ⟨y, rfl⟩ := fin_of x 256 h (by omega)
  have : ∀ y : Fin 256, Go.bits .and .u8 (y.val : Int) 3 = (y.val : Int) % 4 := by decide +kernel
  exact this y
theorem and15 (x : Int) (h : 0 ≤ x) (h2 : x ≤ 255) : Go.bits .and .u8 x 15 = x % 16 := by
  obtain ⟨y, rfl⟩ := fin_of x 256 h (by omega)
  have : ∀ y : Fin 256, Go.bits .and .u8 (y.val : Int) 15 = (y.val : Int) % 16 := by decide +kernel
  exact this y
theorem and63 (x : Int) (h : 0 ≤ x) (h2 : x ≤ 255) : Go.bits .and .u8 x 63 = x % 64 := by
  obtain ⟨y, rfl⟩ := fin_of x 256 h (by omega)
  have : ∀ y : Fin 256, Go.bits .and .u8 (y.val : Int) 63 = (y.val : Int) % 64 := by decide +kernel
  exact this y
theorem or_4_16 (x w : Int) (h : 0 ≤ x) (h2 : x < 4) (h3 : 0 ≤ w) (h4 : w < 16) : Go.bits .or .u8 ((x * 16) % 256) w = x * 16 + w := by
  obtain ⟨y, rfl⟩ := fin_of x 4 h (by omega)
  obtain ⟨z, rfl⟩ := fin_of w 16 h3 (by omega)
  have : ∀ (y : Fin 4) (z : Fin 16), Go.bits .or .u8 (((y.val : Int) * 16) % 256) (z.val : Int) = (y.val : Int) * 16 + (z.val : Int) := by decide +kernel
  exact this y z
theorem or_16_4 (x w : Int) (h : 0 ≤ x) (h2 : x < 16) (h3 : 0 ≤ w) (h4 : w < 4) : Go.bits .or .u8 ((x * 4) % 256) w = x * 4 + w := by
  obtain ⟨y, rfl⟩ := fin_of x 16 h (by omega)
  obtain ⟨z, rfl⟩ := fin_of w 4 h3 (by omega)
  have : ∀ (y : Fin 16) (z : Fin 4), Go.bits .or .u8 (((y.val : Int) * 4) % 256) (z.val : Int) = (y.val : Int) * 4 + (z.val : Int) := by decide +kernel
  exact this y z
theorem b64_len : ∀ l : List Int, (b64 l).length = (l.length + 2) / 3 * 4
  | a :: b :: c :: r => by simp only [b64, List.length_cons, b64_len r]; omega
  | [a, b] => by simp [b64]
  | [a] => by simp [b64]
  | [] => by simp [b64]
theorem b64_le (l : List Int) : (b64 l).length ≤ 2 * l.length + 4 := by rw [b64_len]; omega
/-- What is written is letters, or '='. -/
theorem l64_ok (n : Int) (h : 0 ≤ n) (h2 : n < 64) : 43 ≤ l64 n ∧ l64 n ≤ 122 ∧ l64 n ≠ 58 ∧ l64 n ≠ 60 ∧ l64 n ≠ 61 := by
  obtain ⟨y, rfl⟩ := fin_of n 64 h (by omega)
  have : ∀ y : Fin 64, 43 ≤ l64 (y.val : Int) ∧ l64 (y.val : Int) ≤ 122 ∧ l64 (y.val : Int) ≠ 58 ∧ l64 (y.val : Int) ≠ 60 ∧ l64 (y.val : Int) ≠ 61 := by decide +kernel
  exact this y
def Rng (l : List Int) : Prop := ∀ x ∈ l, 0 ≤ x ∧ x ≤ 255
theorem b64_ok : ∀ l : List Int, Rng l → ∀ x ∈ b64 l, 43 ≤ x ∧ x ≤ 122 ∧ x ≠ 58 ∧ x ≠ 60
  | a :: b :: c :: r, h => by
    have ha := h a (by simp)
    have hb := h b (by simp)
    have hc := h c (by simp)
    have ih := b64_ok r (fun x hx => h x (by simp [hx]))
    intro x hx
    simp only [b64, List.mem_cons] at hx
    have q1 := l64_ok (a / 4) (by omega) (by omega)
    have q2 := l64_ok (a % 4 * 16 + b / 16) (by omega) (by omega)
    have q3 := l64_ok (b % 16 * 4 + c / 64) (by omega) (by omega)
    have q4 := l64_ok (c % 64) (by omega) (by omega)
    rcases hx with rfl | rfl | rfl | rfl | hx
    · exact ⟨q1.1, q1.2.1, q1.2.2.1, q1.2.2.2.1⟩
    · exact ⟨q2.1, q2.2.1, q2.2.2.1, q2.2.2.2.1⟩
    · exact ⟨q3.1, q3.2.1, q3.2.2.1, q3.2.2.2.1⟩
    · exact ⟨q4.1, q4.2.1, q4.2.2.1, q4.2.2.2.1⟩
    · exact ih x hx
  | [a, b], h => by
    have ha := h a (by simp)
    have hb := h b (by simp)
    intro x hx
    simp only [b64, List.mem_cons, List.not_mem_nil, or_false] at hx
    have q1 := l64_ok (a / 4) (by omega) (by omega)
    have q2 := l64_ok (a % 4 * 16 + b / 16) (by omega) (by omega)
    have q3 := l64_ok (b % 16 * 4) (by omega) (by omega)
    rcases hx with rfl | rfl | rfl | rfl
    · exact ⟨q1.1, q1.2.1, q1.2.2.1, q1.2.2.2.1⟩
    · exact ⟨q2.1, q2.2.1, q2.2.2.1, q2.2.2.2.1⟩
    · exact ⟨q3.1, q3.2.1, q3.2.2.1, q3.2.2.2.1⟩
    · decide
  | [a], h => by
    have ha := h a (by simp)
    intro x hx
    simp only [b64, List.mem_cons, List.not_mem_nil, or_false] at hx
    have q1 := l64_ok (a / 4) (by omega) (by omega)
    have q2 := l64_ok (a % 4 * 16) (by omega) (by omega)
    rcases hx with rfl | rfl | rfl | rfl
    · exact ⟨q1.1, q1.2.1, q1.2.2.1, q1.2.2.2.1⟩
    · exact ⟨q2.1, q2.2.1, q2.2.2.1, q2.2.2.2.1⟩
    · decide
    · decide
  | [], h => by simp [b64]
end Go.Proofs.YtppnhlkfkedlmaaDoor.L64
namespace Go.Proofs.YtppnhlkfkedlmaaDoor.UnB64
open Go.RowKit Go.Proofs.YtppnhlkfkedlmaaDoor.L64 Go.Proofs.YtppnhlkfkedlmaaDoorW.PrintWords Go.Proofs.YtppnhlkfkedlmaaDoorW.PrintLast
/-- What a character is worth. -/
def w64 (c : Int) : Option Int := if 65 ≤ c ∧ c ≤ 90 then some (c - 65) else if 97 ≤ c ∧ c ≤ 122 then some (c - 71) else if 48 ≤ c ∧ c ≤ 57 then some (c + 4) else if c = 43 then some 62 else if c = 47 then some 63 else none
theorem w64_some {c n : Int} (h : w64 c = some n) : 0 ≤ n ∧ n < 64 ∧ l64 n = c ∧ c ≠ 61 ∧ 0 ≤ c ∧ c ≤ 255 := by
  have hc : 0 ≤ c ∧ c ≤ 255 := by
    unfold w64 at h
    (repeat' split at h) <;> first | omega | cases h
  obtain ⟨y, rfl⟩ := fin_of c 256 hc.1 (by omega)
  have k : ∀ y : Fin 256, (match w64 (y.val : Int) with | some n => decide (0 ≤ n ∧ n < 64 ∧ l64 n = (y.val : Int) ∧ (y.val : Int) ≠ 61) | none => true) = true := by decide +kernel
  have := k y
  rw [h] at this
  have := of_decide_eq_true this
  exact ⟨this.1, this.2.1, this.2.2.1, this.2.2.2, hc⟩
theorem w64_l64 (n : Int) (h : 0 ≤ n) (h2 : n < 64) : w64 (l64 n) = some n := by
  obtain ⟨y, rfl⟩ := fin_of n 64 h (by omega)
  have : ∀ y : Fin 64, w64 (l64 (y.val : Int)) = some (y.val : Int) := by decide +kernel
  exact this y
theorem l64_ne (n : Int) (h : 0 ≤ n) (h2 : n < 64) : l64 n ≠ 61 := (l64_ok n h h2).2.2.2.2
theorem w64_61 : w64 61 = none := by decide
/-- Where the reader stands: closed (a group with pads lies behind it); the letters of the group that is read; its pads; the bytes so far. -/
structure St where
  closed : Bool
  g : List Int
  p : Nat
  acc : List Int
def out3 : List Int → List Int
  | [a, b, c, d] => [a * 4 + b / 16, b % 16 * 16 + c / 4, c % 4 * 64 + d]
  | [a, b, c] => [a * 4 + b / 16, b % 16 * 16 + c / 4]
  | [a, b] => [a * 4 + b / 16]
  | _ => []
def pad : List Int → Nat → List Int → Option St
  | [a, b], 0, acc => if b % 16 = 0 then some ⟨false, [a, b], 1, acc⟩ else none
  | [a, b], 1, acc => some ⟨true, [], 0, acc ++ out3 [a, b]⟩
  | [a, b, c], 0, acc => if c % 4 = 0 then some ⟨true, [], 0, acc ++ out3 [a, b, c]⟩ else none
  | _, _, _ => none
def more : List Int → Int → List Int → St
  | [a, b, c], w, acc => ⟨false, [], 0, acc ++ out3 [a, b, c, w]⟩
  | g, w, acc => ⟨false, g ++ [w], 0, acc⟩
def stepC (st : St) (c : Int) : Option St :=
  if st.closed = true then none else if c = 61 then pad st.g st.p st.acc else match w64 c with
    | none => none
    | some w => if st.p = 0 then some (more st.g w st.acc) else none
def runC : St → List Int → Option St
  | st, [] => some st
  | st, c :: r => match stepC st c with | none => none | some st' => runC st' r
def fin (st : St) (pos : Int) : List Int × Int × Int := if st.g = [] then (st.acc, 0, pos) else ([], 12, pos)
def unB : St → Int → List Int → List Int × Int × Int
  | st, pos, [] => fin st pos
  | st, pos, c :: r => match stepC st c with | none => ([], 12, pos) | some st' => unB st' (pos + 1) r
def st0 : St := ⟨false, [], 0, []⟩
theorem unB_run : ∀ {l : List Int} {st st' : St} (r : List Int) (pos : Int), runC st l = some st' → unB st pos (l ++ r) = unB st' (pos + l.length) r
  | [], st, st', r, pos, h => by
    obtain rfl := Option.some.inj h
    simp
  | c :: l, st, st', r, pos, h => by
    rw [runC] at h
    rw [List.cons_append, unB]
    cases hs : stepC st c with
    | none => rw [hs] at h; cases h
    | some s1 =>
      rw [hs] at h
      have := unB_run r (pos + 1) h
      simp only [this, List.length_cons]
      congr 1
      omega
theorem run_append : ∀ {l : List Int} {st st' : St} (r : List Int), runC st l = some st' → runC st (l ++ r) = runC st' r
  | [], st, st', r, h => by obtain rfl := Option.some.inj h; rfl
  | c :: l, st, st', r, h => by
    rw [runC] at h
    rw [List.cons_append, runC]
    cases hs : stepC st c with
    | none => rw [hs] at h; cases h
    | some s1 => rw [hs] at h; exact run_append r h
/-- Either all is taken, or there is a first character that is refused. -/
theorem run_or : ∀ (l : List Int) (st : St), (∃ st', runC st l = some st') ∨ ∃ q st', q < l.length ∧ runC st (l.take q) = some st' ∧ stepC st' (l.getD q 0) = none
  | [], st => .inl ⟨st, rfl⟩
  | c :: l, st => by
    cases hs : stepC st c with
    | none => exact .inr ⟨0, st, by simp, rfl, by simpa using hs⟩
    | some s1 =>
      rcases run_or l s1 with ⟨st', h⟩ | ⟨q, st', h1, h2, h3⟩
      · exact .inl ⟨st', by rw [runC, hs]; exact h⟩
      · exact .inr ⟨q + 1, st', by simp; omega, by rw [List.take_succ_cons, runC, hs]; exact h2, by simpa using h3⟩
theorem unB_refused {l : List Int} {st st' : St} {q : Nat} (pos : Int) (hq : q < l.length) (h : runC st (l.take q) = some st') (h2 : stepC st' (l.getD q 0) = none) : unB st pos l = ([], 12, pos + q) := by
  have e : l = l.take q ++ l.getD q 0 :: l.drop (q + 1) := by
    conv => lhs; rw [← List.take_append_drop q l]
    rw [List.drop_eq_getElem_cons hq]
    simp [List.getD_eq_getElem?_getD, List.getElem?_eq_getElem hq]
  rw [e, unB_run _ _ h, unB, h2]
  simp only [List.length_take]
  rw [Nat.min_eq_left (by omega)]
/-- What has been read stands so. -/
structure Rep (st : St) (l : List Int) : Prop where
  all : l = b64 st.acc ++ st.g.map l64 ++ List.replicate st.p 61
  rng : ∀ x ∈ st.g, 0 ≤ x ∧ x < 64
  accr : ∀ x ∈ st.acc, 0 ≤ x ∧ x ≤ 255
  whole : st.closed = false → st.acc.length % 3 = 0
  shut : st.closed = true → st.acc.length % 3 ≠ 0 ∧ st.g = [] ∧ st.p = 0
  form : (st.g = [] ∧ st.p = 0) ∨ (∃ a, st.g = [a] ∧ st.p = 0) ∨ (∃ a b, st.g = [a, b] ∧ (st.p = 0 ∨ st.p = 1 ∧ b % 16 = 0)) ∨ (∃ a b c, st.g = [a, b, c] ∧ st.p = 0)
theorem b64_append : ∀ (l m : List Int), l.length % 3 = 0 → b64 (l ++ m) = b64 l ++ b64 m
  | [], m, _ => by simp [b64]
  | [a], m, h => by simp at h
  | [a, b], m, h => by simp at h
  | a :: b :: c :: r, m, h => by
    have := b64_append r m (by simp at h; omega)
    simp only [List.cons_append, b64, this]
theorem b64_4 (a b c d : Int) (ha : 0 ≤ a ∧ a < 64) (hb : 0 ≤ b ∧ b < 64) (hc : 0 ≤ c ∧ c < 64) (hd : 0 ≤ d ∧ d < 64) : b64 (out3 [a, b, c, d]) = [l64 a, l64 b, l64 c, l64 d] := by
  simp only [out3, b64]
  rw [show (a * 4 + b / 16) / 4 = a from by omega, show (a * 4 + b / 16) % 4 * 16 + (b % 16 * 16 + c / 4) / 16 = b from by omega, show (b % 16 * 16 + c / 4) % 16 * 4 + (c % 4 * 64 + d) / 64 = c from by omega, show (c % 4 * 64 + d) % 64 = d from by omega]
theorem b64_3 (a b c : Int) (ha : 0 ≤ a ∧ a < 64) (hb : 0 ≤ b ∧ b < 64) (hc : 0 ≤ c ∧ c < 64) (h : c % 4 = 0) : b64 (out3 [a, b, c]) = [l64 a, l64 b, l64 c, 61] := by
  simp only [out3, b64]
  rw [show (a * 4 + b / 16) / 4 = a from by omega, show (a * 4 + b / 16) % 4 * 16 + (b % 16 * 16 + c / 4) / 16 = b from by omega, show (b % 16 * 16 + c / 4) % 16 * 4 = c from by omega]
theorem b64_2 (a b : Int) (ha : 0 ≤ a ∧ a < 64) (hb : 0 ≤ b ∧ b < 64) (h : b % 16 = 0) : b64 (out3 [a, b]) = [l64 a, l64 b, 61, 61] := by
  simp only [out3, b64]
  rw [show (a * 4 + b / 16) / 4 = a from by omega, show (a * 4 + b / 16) % 4 * 16 = b from by omega]
theorem out3_rng {g : List Int} (h : ∀ x ∈ g, 0 ≤ x ∧ x < 64) : ∀ x ∈ out3 g, 0 ≤ x ∧ x ≤ 255 := by
  match g, h with
  | [], _ => intro x hx; simp [out3] at hx
  | [a], _ => intro x hx; simp [out3] at hx
  | [a, b], h =>
    have := h a (by simp); have := h b (by simp)
    intro x hx; simp [out3] at hx; omega
  | [a, b, c], h =>
    have := h a (by simp); have := h b (by simp); have := h c (by simp)
    intro x hx; simp only [out3, List.mem_cons, List.not_mem_nil, or_false] at hx; omega
  | [a, b, c, d], h =>
    have := h a (by simp); have := h b (by simp); have := h c (by simp); have := h d (by simp)
    intro x hx; simp only [out3, List.mem_cons, List.not_mem_nil, or_false] at hx; omega
  | a :: b :: c :: d :: e :: r, _ => intro x hx; simp [out3] at hx
theorem rep0 : Rep st0 [] := ⟨rfl, by simp [st0], by simp [st0], by simp [st0], by simp [st0], .inl ⟨rfl, rfl⟩⟩
theorem mem_app {l m : List Int} {p : Int → Prop} (h : ∀ x ∈ l, p x) (k : ∀ x ∈ m, p x) : ∀ x ∈ l ++ m, p x := by
  intro x hx
  rcases List.mem_append.1 hx with hx | hx
  · exact h x hx
  · exact k x hx
theorem rep_step {st st' : St} {l : List Int} {c : Int} (h : Rep st l) (hs : stepC st c = some st') : Rep st' (l ++ [c]) := by
  obtain ⟨cl, g, p, acc⟩ := st
  obtain ⟨h1, h2, h3, h4, h5, h6⟩ := h
  simp only at h1 h2 h3 h4 h5 h6
  unfold stepC at hs
  simp only at hs
  by_cases hc : cl = true
  · rw [if_pos hc] at hs; cases hs
  rw [if_neg hc] at hs
  have hcl : cl = false := by simpa using hc
  have hw := h4 hcl
  by_cases he : c = 61
  · subst he
    rw [if_pos rfl] at hs
    rcases h6 with ⟨rfl, rfl⟩ | ⟨a, rfl, rfl⟩ | ⟨a, b, rfl, rfl | ⟨rfl, hb⟩⟩ | ⟨a, b, c, rfl, rfl⟩
    · simp [pad] at hs
    · simp [pad] at hs
    · simp only [pad] at hs
      split at hs
      · rename_i hb
        obtain rfl := Option.some.inj hs
        exact ⟨by simp [h1], h2, h3, fun _ => hw, fun h => (by cases h), .inr (.inr (.inl ⟨a, b, rfl, .inr ⟨rfl, hb⟩⟩))⟩
      · cases hs
    · simp only [pad] at hs
      obtain rfl := Option.some.inj hs
      have ha := h2 a (by simp); have hbr := h2 b (by simp)
      refine ⟨?_, by simp, mem_app h3 (out3_rng h2), fun h => (by cases h), fun _ => ⟨by simp [out3]; omega, rfl, rfl⟩, .inl ⟨rfl, rfl⟩⟩
      rw [h1, b64_append _ _ hw, b64_2 a b ha hbr hb]
      simp
    · simp only [pad] at hs
      split at hs
      · rename_i hc4
        obtain rfl := Option.some.inj hs
        have ha := h2 a (by simp); have hbr := h2 b (by simp); have hcr := h2 c (by simp)
        refine ⟨?_, by simp, mem_app h3 (out3_rng h2), fun h => (by cases h), fun _ => ⟨by simp [out3]; omega, rfl, rfl⟩, .inl ⟨rfl, rfl⟩⟩
        rw [h1, b64_append _ _ hw, b64_3 a b c ha hbr hcr hc4]
        simp
      · cases hs
  · rw [if_neg he] at hs
    cases hx : w64 c with
    | none => rw [hx] at hs; cases hs
    | some w =>
      rw [hx] at hs
      obtain ⟨w0, w1, w2, _⟩ := w64_some hx
      simp only at hs
      split at hs
      · rename_i hp
        subst hp
        obtain rfl := Option.some.inj hs
        rcases h6 with ⟨rfl, _⟩ | ⟨a, rfl, _⟩ | ⟨a, b, rfl, _⟩ | ⟨a, b, d, rfl, _⟩
        · exact ⟨by simp [more, h1, w2], by simp [more]; omega, h3, fun _ => hw, fun h => (by cases h), .inr (.inl ⟨w, rfl, rfl⟩)⟩
        · exact ⟨by simp [more, h1, w2], by intro x hx; simp [more] at hx; rcases hx with rfl | rfl; exact h2 _ (by simp); exact ⟨w0, w1⟩, h3, fun _ => hw, fun h => (by cases h), .inr (.inr (.inl ⟨a, w, rfl, .inl rfl⟩))⟩
        · exact ⟨by simp [more, h1, w2], by intro x hx; simp [more] at hx; rcases hx with rfl | rfl | rfl; exact h2 _ (by simp); exact h2 _ (by simp); exact ⟨w0, w1⟩, h3, fun _ => hw, fun h => (by cases h), .inr (.inr (.inr ⟨a, b, w, rfl, rfl⟩))⟩
        · have ha := h2 a (by simp); have hbr := h2 b (by simp); have hdr := h2 d (by simp)
          have h4r : ∀ x ∈ [a, b, d, w], 0 ≤ x ∧ x < 64 := by intro x hx; simp at hx; rcases hx with rfl | rfl | rfl | rfl <;> first | assumption | exact ⟨w0, w1⟩
          refine ⟨?_, by simp [more], mem_app h3 (out3_rng h4r), fun _ => by simp [more, out3]; omega, fun h => (by cases h), .inl ⟨rfl, rfl⟩⟩
          simp only [more]
          rw [h1, b64_append _ _ hw, b64_4 a b d w ha hbr hdr ⟨w0, w1⟩]
          simp [w2]
      · cases hs
theorem rep_run : ∀ {l : List Int} {st st' : St} {k : List Int}, Rep st k → runC st l = some st' → Rep st' (k ++ l)
  | [], st, st', k, h, hr => by obtain rfl := Option.some.inj hr; simpa using h
  | c :: l, st, st', k, h, hr => by
    rw [runC] at hr
    cases hs : stepC st c with
    | none => rw [hs] at hr; cases hr
    | some s1 =>
      rw [hs] at hr
      have := rep_run (rep_step h hs) hr
      simpa using this
/-- The writer's text is taken, and gives the bytes back. -/
theorem run_b64 : ∀ (m acc : List Int), (∀ x ∈ m, 0 ≤ x ∧ x ≤ 255) → runC ⟨false, [], 0, acc⟩ (b64 m) = some ⟨decide (m.length % 3 ≠ 0), [], 0, acc ++ m⟩
  | [], acc, _ => by simp [b64, runC]
  | [a], acc, h => by
    have ha := h a (by simp)
    have n1 := l64_ne (a / 4) (by omega) (by omega)
    have n2 := l64_ne (a % 4 * 16) (by omega) (by omega)
    simp only [b64, runC, stepC, n1, n2, w64_l64 (a / 4) (by omega) (by omega), w64_l64 (a % 4 * 16) (by omega) (by omega), more, pad, out3]
    simp
    omega
  | [a, b], acc, h => by
    have ha := h a (by simp); have hb := h b (by simp)
    have n1 := l64_ne (a / 4) (by omega) (by omega)
    have n2 := l64_ne (a % 4 * 16 + b / 16) (by omega) (by omega)
    have n3 := l64_ne (b % 16 * 4) (by omega) (by omega)
    simp only [b64, runC, stepC, n1, n2, n3, w64_l64 (a / 4) (by omega) (by omega), w64_l64 (a % 4 * 16 + b / 16) (by omega) (by omega), w64_l64 (b % 16 * 4) (by omega) (by omega), more, pad, out3]
    simp
    omega
  | a :: b :: c :: r, acc, h => by
    have ha := h a (by simp); have hb := h b (by simp); have hc := h c (by simp)
    have n1 := l64_ne (a / 4) (by omega) (by omega)
    have n2 := l64_ne (a % 4 * 16 + b / 16) (by omega) (by omega)
    have n3 := l64_ne (b % 16 * 4 + c / 64) (by omega) (by omega)
    have n4 := l64_ne (c % 64) (by omega) (by omega)
    have ih := run_b64 r (acc ++ [a, b, c]) (fun x hx => h x (by simp [hx]))
    have e : out3 [a / 4, a % 4 * 16 + b / 16, b % 16 * 4 + c / 64, c % 64] = [a, b, c] := by
      simp only [out3, List.cons.injEq, and_true]
      omega
    simp only [b64, runC, stepC, n1, n2, n3, n4, w64_l64 (a / 4) (by omega) (by omega), w64_l64 (a % 4 * 16 + b / 16) (by omega) (by omega), w64_l64 (b % 16 * 4 + c / 64) (by omega) (by omega), w64_l64 (c % 64) (by omega) (by omega), more, List.nil_append, List.cons_append, if_false, if_true, Bool.false_eq_true, e, ih]
    simp
    omega
theorem unB_b64 (m : List Int) (h : ∀ x ∈ m, 0 ≤ x ∧ x ≤ 255) : unB st0 0 (b64 m) = (m, 0, ((b64 m).length : Int)) := by
  have := unB_run (l := b64 m) [] 0 (run_b64 m [] h)
  rw [List.append_nil] at this
  show unB ⟨false, [], 0, []⟩ 0 (b64 m) = _
  rw [this]
  simp [unB, fin]
/-- What the reader answers: taken, and then it is what the writer writes; or refused at a place. -/
theorem unB_spec (l : List Int) : (∃ m, unB st0 0 l = (m, 0, (l.length : Int)) ∧ (∀ x ∈ m, 0 ≤ x ∧ x ≤ 255) ∧ l = b64 m) ∨
    ∃ q st', q ≤ l.length ∧ unB st0 0 l = ([], 12, (q : Int)) ∧ runC st0 (l.take q) = some st' ∧ (q < l.length → stepC st' (l.getD q 0) = none) ∧ (q = l.length → st'.g ≠ []) := by
  rcases run_or l st0 with ⟨st', h⟩ | ⟨q, st', h1, h2, h3⟩
  · have hr := rep_run rep0 h
    rw [List.nil_append] at hr
    have hu := unB_run [] 0 h
    rw [List.append_nil, Int.zero_add] at hu
    by_cases hg : st'.g = []
    · left
      have hp : st'.p = 0 := by
        rcases hr.form with ⟨_, hp⟩ | ⟨a, hp, _⟩ | ⟨a, b, hp, _⟩ | ⟨a, b, c, hp, _⟩
        · exact hp
        all_goals (rw [hg] at hp; cases hp)
      refine ⟨st'.acc, by rw [hu]; simp [unB, fin, hg], hr.accr, ?_⟩
      rw [hr.all, hg, hp]
      simp
    · right
      exact ⟨l.length, st', Nat.le_refl _, by rw [hu]; simp [unB, fin, hg], by rw [List.take_of_length_le (Nat.le_refl _)]; exact h, fun z => absurd z (by omega), fun _ => hg⟩
  · exact .inr ⟨q, st', by omega, by have := unB_refused 0 h1 h2 h3; simpa using this, h2, fun _ => h3, fun z => by omega⟩
end Go.Proofs.YtppnhlkfkedlmaaDoor.UnB64
namespace Go.Proofs.YtppnhlkfkedlmaaDoor.RawB64
open Go.RowKit Go.Proofs.YtppnhlkfkedlmaaDoor.L64 Go.Proofs.YtppnhlkfkedlmaaDoor.UnB64 Go.Proofs.YtppnhlkfkedlmaaDoorW.PrintWords Go.Proofs.YtppnhlkfkedlmaaDoorW.PrintLast
/-- The group: characters read of it, what they are worth, its pads. -/
structure G where
  at_ : Int
  w0 : Int
  w1 : Int
  w2 : Int
  w3 : Int
  p : Int
def G0 : G := ⟨0, 0, 0, 0, 0, 0⟩
def setW (g : G) (w : Int) : G := if g.at_ = 0 then ⟨1, w, g.w1, g.w2, g.w3, g.p⟩ else if g.at_ = 1 then ⟨2, g.w0, w, g.w2, g.w3, g.p⟩ else if g.at_ = 2 then ⟨3, g.w0, g.w1, w, g.w3, g.p⟩ else ⟨g.at_ + 1, g.w0, g.w1, g.w2, w, g.p⟩
def padG (g : G) : G := ⟨g.at_ + 1, g.w0, g.w1, g.w2, g.w3, g.p + 1⟩
def takeG (g : G) (c : Int) : G × Bool :=
  if c = 61 then (if g.at_ < 2 then (g, false) else if 0 < g.p ∨ (g.at_ = 2 ∧ g.w1 % 16 = 0) ∨ (g.at_ = 3 ∧ g.w2 % 4 = 0) then (padG g, true) else (g, false))
  else match w64 c with
    | none => (g, false)
    | some w => if 0 < g.p then (g, false) else (setW g w, true)
def bytesG (g : G) : List Int := if g.p = 0 then [g.w0 * 4 + g.w1 / 16, g.w1 % 16 * 16 + g.w2 / 4, g.w2 % 4 * 64 + g.w3] else if g.p = 1 then [g.w0 * 4 + g.w1 / 16, g.w1 % 16 * 16 + g.w2 / 4] else [g.w0 * 4 + g.w1 / 16]
def accG (g : G) (acc : List Int) : List Int := if g.at_ = 4 then acc ++ bytesG g else acc
def loopU : G → List Int → Int → List Int → List Int × Int × Int
  | g, acc, pos, [] => if pos % 4 = 0 then (acc, 0, pos) else ([], 12, pos)
  | g, acc, pos, c :: r => if g.at_ = 4 ∧ 0 < g.p then ([], 12, pos) else
      if (takeG (if g.at_ = 4 then G0 else g) c).2 = true then loopU (takeG (if g.at_ = 4 then G0 else g) c).1 (accG (takeG (if g.at_ = 4 then G0 else g) c).1 acc) (pos + 1) r else ([], 12, pos)
/-- All of it within its bounds. -/
structure OkG (g : G) : Prop where
  a : 0 ≤ g.at_ ∧ g.at_ ≤ 4
  h0 : 0 ≤ g.w0 ∧ g.w0 < 64
  h1 : 0 ≤ g.w1 ∧ g.w1 < 64
  h2 : 0 ≤ g.w2 ∧ g.w2 < 64
  h3 : 0 ≤ g.w3 ∧ g.w3 < 64
  p : 0 ≤ g.p ∧ (g.p = 0 ∨ g.p + 2 ≤ g.at_)
theorem ok0 : OkG G0 := ⟨by decide, by decide, by decide, by decide, by decide, by decide⟩
theorem ok_take {g : G} (h : OkG g) (h4 : g.at_ < 4) (c : Int) : OkG (takeG g c).1 ∧ ((takeG g c).2 = true → (takeG g c).1.at_ = g.at_ + 1) := by
  obtain ⟨a, h0, h1, h2, h3, p⟩ := h
  have ok : OkG g := ⟨a, h0, h1, h2, h3, p⟩
  unfold takeG
  split
  · split
    · exact ⟨ok, fun z => by cases z⟩
    · split
      · exact ⟨⟨by simp only [padG]; omega, h0, h1, h2, h3, by simp only [padG]; omega⟩, fun _ => rfl⟩
      · exact ⟨ok, fun z => by cases z⟩
  · cases hw : w64 c with
    | none => exact ⟨ok, fun z => by cases z⟩
    | some w =>
      obtain ⟨w0, w1, _⟩ := w64_some hw
      simp only
      split
      · exact ⟨ok, fun z => by cases z⟩
      · unfold setW
        refine ⟨?_, fun _ => ?_⟩
        · split
          · exact ⟨by simp, ⟨w0, w1⟩, h1, h2, h3, by simp only; omega⟩
          · split
            · exact ⟨by simp, h0, ⟨w0, w1⟩, h2, h3, by simp only; omega⟩
            · split
              · exact ⟨by simp, h0, h1, ⟨w0, w1⟩, h3, by simp only; omega⟩
              · exact ⟨by simp only; omega, h0, h1, h2, ⟨w0, w1⟩, by simp only; omega⟩
        · split
          · simp only; omega
          · split
            · simp only; omega
            · split
              · simp only; omega
              · rfl
/-- Inside a group. -/
def In (g : G) (st : St) : Prop := st.closed = false ∧ ((st.g = [] ∧ st.p = 0 ∧ g.at_ = 0 ∧ g.p = 0) ∨ (st.g = [g.w0] ∧ st.p = 0 ∧ g.at_ = 1 ∧ g.p = 0) ∨ (st.g = [g.w0, g.w1] ∧ st.p = 0 ∧ g.at_ = 2 ∧ g.p = 0) ∨ (st.g = [g.w0, g.w1] ∧ st.p = 1 ∧ g.at_ = 3 ∧ g.p = 1) ∨ (st.g = [g.w0, g.w1, g.w2] ∧ st.p = 0 ∧ g.at_ = 3 ∧ g.p = 0))
def Rel (g : G) (st : St) : Prop := (g.at_ = 4 ∧ st.g = [] ∧ st.p = 0 ∧ 0 ≤ g.p ∧ st.closed = decide (0 < g.p)) ∨ In g st
theorem take_in {g : G} {st : St} (h : In g st) (c : Int) : ((takeG g c).2 = false ∧ stepC st c = none) ∨
    ((takeG g c).2 = true ∧ ∃ st', stepC st c = some st' ∧ Rel (takeG g c).1 st' ∧ st'.acc = accG (takeG g c).1 st.acc ∧ (takeG g c).1.at_ = g.at_ + 1) := by
  obtain ⟨cl, sg, sp, acc⟩ := st
  obtain ⟨a, w0, w1, w2, w3, p⟩ := g
  obtain ⟨hc, h⟩ := h
  simp only at hc h
  subst hc
  by_cases he : c = 61
  · subst he
    rcases h with ⟨rfl, rfl, rfl, rfl⟩ | ⟨rfl, rfl, rfl, rfl⟩ | ⟨rfl, rfl, rfl, rfl⟩ | ⟨rfl, rfl, rfl, rfl⟩ | ⟨rfl, rfl, rfl, rfl⟩
    · left; simp [takeG, stepC, pad]
    · left; simp [takeG, stepC, pad]
    · by_cases hb : w1 % 16 = 0
      · right
        simp [takeG, stepC, pad, hb, padG, Rel, In, accG]
      · left
        simp [takeG, stepC, pad, hb]
    · right
      simp [takeG, stepC, pad, padG, Rel, In, accG, bytesG, out3]
    · by_cases hb : w2 % 4 = 0
      · right
        simp [takeG, stepC, pad, hb, padG, Rel, In, accG, bytesG, out3]
      · left
        simp [takeG, stepC, pad, hb]
  · cases hw : w64 c with
    | none => left; simp [takeG, stepC, he, hw]
    | some w =>
      rcases h with ⟨rfl, rfl, rfl, rfl⟩ | ⟨rfl, rfl, rfl, rfl⟩ | ⟨rfl, rfl, rfl, rfl⟩ | ⟨rfl, rfl, rfl, rfl⟩ | ⟨rfl, rfl, rfl, rfl⟩
      · right; simp [takeG, stepC, he, hw, setW, more, Rel, In, accG]
      · right; simp [takeG, stepC, he, hw, setW, more, Rel, In, accG]
      · right; simp [takeG, stepC, he, hw, setW, more, Rel, In, accG]
      · left; simp [takeG, stepC, he, hw]
      · right; simp [takeG, stepC, he, hw, setW, more, Rel, In, accG, bytesG, out3]
theorem loopU_eq : ∀ (l : List Int) (g : G) (st : St) (pos : Int), Rel g st → pos % 4 = g.at_ % 4 → loopU g st.acc pos l = unB st pos l
  | [], g, st, pos, h, hp => by
    unfold loopU unB fin
    rcases h with ⟨h1, h2, h3, _⟩ | ⟨_, h⟩
    · rw [if_pos (by omega), if_pos h2]
    · rcases h with ⟨h, _, ha, _⟩ | ⟨h, _, ha, _⟩ | ⟨h, _, ha, _⟩ | ⟨h, _, ha, _⟩ | ⟨h, _, ha, _⟩
      · rw [if_pos (by omega), if_pos h]
      all_goals rw [if_neg (by omega), if_neg (by rw [h]; simp)]
  | c :: r, g, st, pos, h, hp => by
    have key : ∀ g' st', In g' st' → st'.acc = st.acc → pos % 4 = g'.at_ % 4 → stepC st' c = stepC st c → (if (takeG g' c).2 = true then loopU (takeG g' c).1 (accG (takeG g' c).1 st.acc) (pos + 1) r else ([], 12, pos)) = unB st pos (c :: r) := by
      intro g' st' hin hacc hpos hst
      rw [unB, ← hst]
      rcases take_in hin c with ⟨h1, h2⟩ | ⟨h1, s2, h2, h3, h4, h5⟩
      · rw [h1, h2]; simp
      · rw [h1, h2, if_pos rfl]
        simp only
        rw [← hacc, ← h4]
        exact loopU_eq r _ s2 (pos + 1) h3 (by omega)
    unfold loopU
    rcases h with ⟨h1, h2, h3, h4, h5⟩ | h
    · by_cases hp0 : 0 < g.p
      · rw [if_pos ⟨h1, hp0⟩, unB]
        have : st.closed = true := by rw [h5]; exact decide_eq_true hp0
        simp [stepC, this]
      · rw [if_neg (fun z => hp0 z.2), if_pos h1]
        have hc : st.closed = false := by rw [h5]; exact decide_eq_false hp0
        exact key G0 st ⟨hc, .inl ⟨h2, h3, rfl, rfl⟩⟩ rfl (by show _ = (0 : Int) % 4; omega) rfl
    · have h4 : g.at_ ≠ 4 := by
        obtain ⟨_, h⟩ := h
        rcases h with ⟨_, _, h, _⟩ | ⟨_, _, h, _⟩ | ⟨_, _, h, _⟩ | ⟨_, _, h, _⟩ | ⟨_, _, h, _⟩ <;> omega
      rw [if_neg (fun z => h4 z.1), if_neg h4]
      exact key g st h rfl hp rfl
theorem loopU_at (l : List Int) : loopU G0 [] 0 l = unB st0 0 l := loopU_eq l G0 st0 0 (.inr ⟨rfl, .inl ⟨rfl, rfl, rfl, rfl⟩⟩) rfl
end Go.Proofs.YtppnhlkfkedlmaaDoor.RawB64
namespace Go.Proofs.YtppnhlkfkedlmaaDoor.Blk
open Go.RowKit
/-- Block b is these cells, of type t, none frozen. -/
def At (w : World) (b : Nat) (cs : List Value) (t : TypeId) : Prop := w.heap[b]? = some (.cells cs.toArray t (0, 0))
theorem At.lt {w : World} {b : Nat} {cs : List Value} {t : TypeId} (h : At w b cs t) : b < w.heap.size := lt_of_block h
theorem At.cell {w : World} {b : Nat} {cs : List Value} {t : TypeId} (h : At w b cs t) (k : Nat) : w.cell? ⟨b, k, none⟩ = cs[k]? := by
  unfold At at h
  simp [World.cell?, h]
theorem At.get {w : World} {b : Nat} {cs : List Value} {t : TypeId} (h : At w b cs t) (k : Nat) (v : Value) (hk : cs[k]? = some v) : w.cell? ⟨b, k, none⟩ = some v := (h.cell k).trans hk
theorem At.free {w : World} {b : Nat} {cs : List Value} {t : TypeId} (h : At w b cs t) (k : Nat) : w.frozen? ⟨b, k, none⟩ = false := by
  unfold At at h
  simp [World.frozen?, h]
theorem At.set {w : World} {b : Nat} {cs : List Value} {t : TypeId} (h : At w b cs t) (k : Nat) (u : Value) : At (w.setCell ⟨b, k, none⟩ u) b (cs.set k u) t := by
  have hlt := h.lt
  unfold At at h ⊢
  have h' : w.heap[b] = .cells cs.toArray t (0, 0) := by simpa [Array.getElem?_eq_getElem hlt] using h
  show (w.heap.modify b _)[b]? = _
  rw [Array.getElem?_eq_getElem (by simpa using hlt), Array.getElem_modify_self, h']
  simp
theorem At.other {w : World} {b : Nat} {cs : List Value} {t : TypeId} (h : At w b cs t) (a : Addr) (u : Value) (hne : b ≠ a.block) : At (w.setCell a u) b cs t := by
  unfold At at h ⊢
  rw [Below.heap_setCell _ _ _ _ hne]
  exact h
theorem At.alloc {w : World} {b : Nat} {cs : List Value} {t : TypeId} (h : At w b cs t) (o : Obj) : At (w.alloc o) b cs t := by
  have := h.lt
  unfold At at h ⊢
  rw [Below.heap_alloc _ _ _ this]
  exact h
theorem At.drew {w : World} {b : Nat} {cs : List Value} {t : TypeId} (h : At w b cs t) : At w.drew b cs t := h
theorem At.drewN {w : World} {b : Nat} {cs : List Value} {t : TypeId} (h : At w b cs t) (n : Nat) : At (w.drewN n) b cs t := h
theorem At.below {w w1 : World} {b B : Nat} {cs : List Value} {t : TypeId} (h : At w b cs t) (hb : Below B w w1) (hlt : b < B) : At w1 b cs t := (hb.block b hlt).trans h
theorem At.grown {w w1 : World} {b : Nat} {row : Option Nat} {cs : List Value} {t : TypeId} (h : At w b cs t) (hg : w.grownBy w1 row) (hne : some b ≠ row) : At w1 b cs t := (hg.block b h.lt hne).trans h
theorem At.fresh (w : World) (cs : List Value) (t : TypeId) : At (w.alloc (.cells cs.toArray t)) w.heap.size cs t := by
  show (w.heap.push _)[w.heap.size]? = _
  simp
/-- A store into block b, as growth by row b. -/
theorem grown_set {w w1 : World} {b : Nat} (h : w.grownBy w1 (some b)) (k : Nat) (u : Value) : w.grownBy (w1.setCell ⟨b, k, none⟩ u) (some b) :=
  ⟨h.os, h.tape, h.output, by simpa [World.setCell] using h.size, fun j hj hne => (Below.heap_setCell _ _ _ _ (fun e => hne (by rw [e]))).trans (h.block j hj hne)⟩
theorem grown_refl (w : World) (row : Option Nat) : w.grownBy w row := ⟨rfl, rfl, rfl, Nat.le_refl _, fun _ _ _ => rfl⟩
theorem grown_drewN {w w1 : World} {row : Option Nat} (h : w.grownBy w1 row) (n : Nat) : w.grownBy (w1.drewN n) row := ⟨h.os, h.tape, h.output, h.size, h.block⟩
theorem grown_alloc {w w1 : World} {row : Option Nat} (h : w.grownBy w1 row) (o : Obj) : w.grownBy (w1.alloc o) row :=
  ⟨h.os, h.tape, h.output, by have := h.size; simp; omega, fun j hj hne => (Below.heap_alloc _ _ _ (Nat.lt_of_lt_of_le hj h.size)).trans (h.block j hj hne)⟩
theorem grown_trans {w w1 w2 : World} {row : Option Nat} (h : w.grownBy w1 row) (k : w1.grownBy w2 row) : w.grownBy w2 row :=
  ⟨k.os.trans h.os, k.tape.trans h.tape, k.output.trans h.output, Nat.le_trans h.size k.size, fun j hj hne => (k.block j (Nat.lt_of_lt_of_le hj h.size) hne).trans (h.block j hj hne)⟩
theorem grown_below {w w1 : World} (h : Below w.heap.size w w1) (row : Option Nat) : w.grownBy w1 row := ⟨h.os, h.tape, h.output, h.size, fun k hk _ => h.block k hk⟩
/-- Two rows. -/
theorem grown_cell {w w1 : World} {row : Option Nat} (h : w.grownBy w1 row) {a : Addr} {v : Value} (hc : w.cell? a = some v) (hne : some a.block ≠ row) : w1.cell? a = some v :=
  (World.cell?_of_block (h.block a.block (World.block_lt_of_cell? w a hc) hne)).trans hc
end Go.Proofs.YtppnhlkfkedlmaaDoor.Blk
namespace Go.Proofs.YtppnhlkfkedlmaaDoor.UnW
open Go.RowKit Go.Proofs.YtppnhlkfkedlmaaDoor.Blk Go.Proofs.YtppnhlkfkedlmaaDoor.L64 Go.Proofs.YtppnhlkfkedlmaaDoor.UnB64 Go.Proofs.YtppnhlkfkedlmaaDoor.RawB64 Go.Proofs.YtppnhlkfkedlmaaDoorW.PrintWords Go.Proofs.YtppnhlkfkedlmaaDoorW.PrintLast Go.Proofs.YtppnhlkfkedlmaaDoorW.PrintMore
def wv (c : Int) : Int := (w64 c).getD 0
def wb (c : Int) : Bool := (w64 c).isSome
theorem worth64 (c : Int) (w : World) (h0 : 0 ≤ c) (h1 : c ≤ 255) : Calls Tryd.prog 36 #[.int .u8 c] w fun e w' => e = .returned (.tuple #[.int .u8 (wv c), .bool (wb c)]) ∧ w' = w := by
  have hc : (65 ≤ c ∧ c ≤ 90) ∨ (97 ≤ c ∧ c ≤ 122) ∨ (48 ≤ c ∧ c ≤ 57) ∨ c = 43 ∨ c = 47 ∨ c < 43 ∨ (43 < c ∧ c < 47) ∨ (57 < c ∧ c < 65) ∨ (90 < c ∧ c < 97) ∨ 122 < c := by omega
  have ev : ∀ v b, wv c = v → wb c = b → (Ending.returned (.tuple #[.int .u8 v, .bool b]) = Ending.returned (.tuple #[.int .u8 (wv c), .bool (wb c)])) := by rintro v b rfl rfl; rfl
  rcases hc with h | h | h | h | h | h | h | h | h | h
  all_goals
    go_enter Tryd.func36, Tryd.ntmps36
    go_wp2
    go_ret2
    refine ⟨ev _ _ ?_ ?_, rfl⟩
  all_goals first
    | (unfold wv w64; (repeat (first | rw [if_pos (by omega)] | rw [if_neg (by omega)])); simp; done)
    | (unfold wv w64; (repeat (first | rw [if_pos (by omega)] | rw [if_neg (by omega)])); simp; omega)
    | (unfold wb w64; (repeat (first | rw [if_pos (by omega)] | rw [if_neg (by omega)])); rfl)
def cellsG (g : G) : List Value := [.int .i64 g.at_, .int .u8 g.w0, .int .u8 g.w1, .int .u8 g.w2, .int .u8 g.w3, .int .i64 g.p]
def AtG (w : World) (b : Nat) (g : G) : Prop := At w b (cellsG g) 39
def TakeQ (w : World) (b : Nat) (g : G) (c : Int) (e : Ending) (w' : World) : Prop := e = .returned (.bool (takeG g c).2) ∧ AtG w' b (takeG g c).1 ∧ w.grownBy w' (some b)
theorem and15' (x : Int) (h : 0 ≤ x) (h2 : x < 64) : Go.bits .and .u8 x 15 = x % 16 := by
  obtain ⟨y, rfl⟩ := fin_of x 64 h (by omega)
  have : ∀ y : Fin 64, Go.bits .and .u8 (y.val : Int) 15 = (y.val : Int) % 16 := by decide +kernel
  exact this y
theorem and3' (x : Int) (h : 0 ≤ x) (h2 : x < 64) : Go.bits .and .u8 x 3 = x % 4 := by
  obtain ⟨y, rfl⟩ := fin_of x 64 h (by omega)
  have : ∀ y : Fin 64, Go.bits .and .u8 (y.val : Int) 3 = (y.val : Int) % 4 := by decide +kernel
  exact this y
theorem q_no {w : World} {b : Nat} {g : G} {c : Int} (hA : Hid (AtG w b g)) (h : takeG g c = (g, false)) : TakeQ w b g c (.returned (.bool false)) w := by
  unfold TakeQ
  rw [h]
  exact ⟨rfl, hA.out, grown_refl _ _⟩
theorem q_drew {w W : World} {b : Nat} {g : G} {c : Int} {e : Ending} (h : TakeQ w b g c e W) : TakeQ w b g c e W.drew := ⟨h.1, h.2.1, ⟨h.2.2.os, h.2.2.tape, h.2.2.output, h.2.2.size, h.2.2.block⟩⟩
theorem no61 {w : World} {b : Nat} {a w0 w1 w2 w3 p : Int} (hA : Hid (AtG w b ⟨a, w0, w1, w2, w3, p⟩)) (h : a < 2 ∨ ¬ (0 < p ∨ (a = 2 ∧ w1 % 16 = 0) ∨ (a = 3 ∧ w2 % 4 = 0))) : TakeQ w b ⟨a, w0, w1, w2, w3, p⟩ 61 (.returned (.bool false)) w := by
  refine q_no hA ?_
  unfold takeG
  rw [if_pos rfl]
  simp only
  split
  · rfl
  · rw [if_neg (by omega)]
theorem yes61 {w : World} {b : Nat} {a w0 w1 w2 w3 p a' p' : Int} (hA : Hid (AtG w b ⟨a, w0, w1, w2, w3, p⟩)) (h : 2 ≤ a ∧ (0 < p ∨ (a = 2 ∧ w1 % 16 = 0) ∨ (a = 3 ∧ w2 % 4 = 0))) :
    p' = p + 1 → a' = a + 1 → TakeQ w b ⟨a, w0, w1, w2, w3, p⟩ 61 (.returned (.bool true)) ((w.setCell ⟨b, 5, none⟩ (.int .i64 p')).setCell ⟨b, 0, none⟩ (.int .i64 a')) := by
  rintro rfl rfl
  have e : takeG ⟨a, w0, w1, w2, w3, p⟩ 61 = (padG ⟨a, w0, w1, w2, w3, p⟩, true) := by
    unfold takeG
    rw [if_pos rfl, if_neg (by simp only; omega), if_pos (by simp only; omega)]
  unfold TakeQ
  rw [e]
  exact ⟨rfl, (hA.out.set 5 _).set 0 _, grown_set (grown_set (grown_refl _ _) _ _) _ _⟩
theorem noW {w : World} {b : Nat} {a w0 w1 w2 w3 p c : Int} (hA : Hid (AtG w b ⟨a, w0, w1, w2, w3, p⟩)) (hc : c ≠ 61) (h : wb c = false ∨ 0 < p) : TakeQ w b ⟨a, w0, w1, w2, w3, p⟩ c (.returned (.bool false)) w := by
  refine q_no hA ?_
  unfold takeG
  rw [if_neg hc]
  unfold wb at h
  cases hw : w64 c with
  | none => rfl
  | some v =>
    rw [hw] at h
    simp only [Option.isSome_some, Bool.true_eq_false, false_or] at h
    simp [h]
theorem yesW {w : World} {b : Nat} {a w0 w1 w2 w3 p c : Int} (k : Nat) (a' : Int) (hk : (k : Int) = a) (hk4 : k < 4) (hA : Hid (AtG w b ⟨a, w0, w1, w2, w3, p⟩)) (hc : c ≠ 61) (h : wb c = true) (hp : p ≤ 0) :
    a' = a + 1 → TakeQ w b ⟨a, w0, w1, w2, w3, p⟩ c (.returned (.bool true)) ((w.setCell ⟨b, 1 + k, none⟩ (.int .u8 (wv c))).setCell ⟨b, 0, none⟩ (.int .i64 a')) := by
  rintro rfl
  have e : takeG ⟨a, w0, w1, w2, w3, p⟩ c = (setW ⟨a, w0, w1, w2, w3, p⟩ (wv c), true) := by
    unfold takeG
    rw [if_neg hc]
    unfold wb at h
    unfold wv
    cases hw : w64 c with
    | none => rw [hw] at h; cases h
    | some v => simp; omega
  unfold TakeQ
  rw [e]
  refine ⟨rfl, ?_, grown_set (grown_set (grown_refl _ _) _ _) _ _⟩
  have q := (hA.out.set (1 + k) (.int .u8 (wv c))).set 0 (.int .i64 (a + 1))
  subst hk
  rcases (show k = 0 ∨ k = 1 ∨ k = 2 ∨ k = 3 by omega) with rfl | rfl | rfl | rfl <;> exact q
set_option maxHeartbeats 1000000 in
theorem take (b : Nat) (g : G) (c : Int) (w : World) (hA : AtG w b g) (ok : OkG g) (h4 : g.at_ < 4) (h0 : 0 ≤ c) (h1 : c ≤ 255) : Calls Tryd.prog 16 #[.pointer (some ⟨b, 0, none⟩), .int .u8 c] w (TakeQ w b g c) := by
  obtain ⟨a, w0, w1, w2, w3, p⟩ := g
  obtain ⟨ha, hw0, hw1, hw2, hw3, hp⟩ := ok
  simp only at ha hw0 hw1 hw2 hw3 hp h4
  have c0 : w.cell? ⟨b, 0, none⟩ = some (.int .i64 a) := hA.get 0 _ rfl
  have c1 : w.cell? ⟨b, 1, none⟩ = some (.int .u8 w0) := hA.get 1 _ rfl
  have c2 : w.cell? ⟨b, 2, none⟩ = some (.int .u8 w1) := hA.get 2 _ rfl
  have c3 : w.cell? ⟨b, 3, none⟩ = some (.int .u8 w2) := hA.get 3 _ rfl
  have c4 : w.cell? ⟨b, 4, none⟩ = some (.int .u8 w3) := hA.get 4 _ rfl
  have c5 : w.cell? ⟨b, 5, none⟩ = some (.int .i64 p) := hA.get 5 _ rfl
  have f0 := hA.free 0
  have f1 := hA.free 1
  have f2 := hA.free 2
  have f3 := hA.free 3
  have f4 := hA.free 4
  have f5 := hA.free 5
  have HA : Hid (AtG w b ⟨a, w0, w1, w2, w3, p⟩) := hA
  clear hA
  by_cases hc : c = 61
  · subst hc
    have e1 := and15' w1 hw1.1 hw1.2
    have e2 := and3' w2 hw2.1 hw2.2
    go_enter Tryd.func16, Tryd.ntmps16
    go_wp2
    all_goals try simp only [Bool.or_eq_true, Bool.not_eq_true', Bool.not_eq_false', beq_iff_eq, decide_eq_true_eq, decide_eq_false_iff_not, beq_eq_false_iff_ne, ne_eq] at *
    all_goals go_ret
    all_goals first
      | exact no61 HA (by omega)
      | exact yes61 HA (by omega) (by omega) (by omega)
      | (exfalso; omega)
  · have hc' : (c == 61) = false := beq_eq_false_iff_ne.mpr hc
    have HC : Hid (c ≠ 61) := hc
    clear hc
    by_cases hb : wb c = true
    · obtain ⟨k, rfl⟩ := Int.eq_ofNat_of_zero_le ha.1
      go_enter Tryd.func16, Tryd.ntmps16
      by_cases hp1 : 0 < p
      · go_wp2_with (go_at_call 36; refine (worth64 c _ h0 h1).mono ?_; rintro e w' ⟨rfl, rfl⟩)
        go_ret
        exact noW HA HC.out (.inr hp1)
      · rcases (show k = 0 ∨ k = 1 ∨ k = 2 ∨ k = 3 by omega) with rfl | rfl | rfl | rfl
        all_goals go_wp2_with (go_at_call 36; refine (worth64 c _ h0 h1).mono ?_; rintro e w' ⟨rfl, rfl⟩)
        all_goals go_region
        all_goals go_wp2
        all_goals go_ret
        all_goals (first | apply q_drew | skip)
        case _ => exact yesW 0 _ rfl (by omega) HA HC.out hb (by omega) (by omega)
        case _ => exact yesW 1 _ rfl (by omega) HA HC.out hb (by omega) (by omega)
        case _ => exact yesW 2 _ rfl (by omega) HA HC.out hb (by omega) (by omega)
        case _ => exact yesW 3 _ rfl (by omega) HA HC.out hb (by omega) (by omega)
    · replace hb := Bool.eq_false_iff.mpr hb
      go_enter Tryd.func16, Tryd.ntmps16
      go_wp2_with (go_at_call 36; refine (worth64 c _ h0 h1).mono ?_; rintro e w' ⟨rfl, rfl⟩)
      go_ret
      exact noW HA HC.out (.inl hb)
end Go.Proofs.YtppnhlkfkedlmaaDoor.UnW
namespace Go.Proofs.YtppnhlkfkedlmaaDoor.UnX
open Go.RowKit Go.Proofs.YtppnhlkfkedlmaaDoor.Blk Go.Proofs.YtppnhlkfkedlmaaDoor.L64 Go.Proofs.YtppnhlkfkedlmaaDoor.UnB64 Go.Proofs.YtppnhlkfkedlmaaDoor.RawB64 Go.Proofs.YtppnhlkfkedlmaaDoor.UnW Go.Proofs.YtppnhlkfkedlmaaDoorW.PrintWords Go.Proofs.YtppnhlkfkedlmaaDoorW.PrintLast Go.Proofs.YtppnhlkfkedlmaaDoorW.PrintMore
theorem or1 (x y : Int) (h : 0 ≤ x ∧ x < 64) (h2 : 0 ≤ y ∧ y < 64) : Go.bits .or .u8 (x * 4) (y / 16) = x * 4 + y / 16 := by
  obtain ⟨a, rfl⟩ := fin_of x 64 h.1 (by omega)
  obtain ⟨b, rfl⟩ := fin_of y 64 h2.1 (by omega)
  have : ∀ (a b : Fin 64), Go.bits .or .u8 ((a.val : Int) * 4) ((b.val : Int) / 16) = (a.val : Int) * 4 + (b.val : Int) / 16 := by decide +kernel
  exact this a b
theorem or2 (x y : Int) (h : 0 ≤ x ∧ x < 64) (h2 : 0 ≤ y ∧ y < 64) : Go.bits .or .u8 (x * 16 % 256) (y / 4) = x % 16 * 16 + y / 4 := by
  obtain ⟨a, rfl⟩ := fin_of x 64 h.1 (by omega)
  obtain ⟨b, rfl⟩ := fin_of y 64 h2.1 (by omega)
  have : ∀ (a b : Fin 64), Go.bits .or .u8 ((a.val : Int) * 16 % 256) ((b.val : Int) / 4) = (a.val : Int) % 16 * 16 + (b.val : Int) / 4 := by decide +kernel
  exact this a b
theorem or3 (x y : Int) (h : 0 ≤ x ∧ x < 64) (h2 : 0 ≤ y ∧ y < 64) : Go.bits .or .u8 (x * 64 % 256) y = x % 4 * 64 + y := by
  obtain ⟨a, rfl⟩ := fin_of x 64 h.1 (by omega)
  obtain ⟨b, rfl⟩ := fin_of y 64 h2.1 (by omega)
  have : ∀ (a b : Fin 64), Go.bits .or .u8 ((a.val : Int) * 64 % 256) (b.val : Int) = (a.val : Int) % 4 * 64 + (b.val : Int) := by decide +kernel
  exact this a b
def BytesQ (w : World) (g : G) (base : Nat) (v : Value) (acc : List Int) (e : Ending) (w' : World) : Prop := ∃ v', e = .returned v' ∧ w'.ownsRow base 5 1 v' (acc ++ bytesG g).length (nums .u8 (acc ++ bytesG g)) ∧ w.grownBy w' v.ownBlock
theorem news_at (w : World) (cs : List Value) (t : TypeId) (m : Nat) : ∀ j u, (cs.take m)[j]? = some u → ((w.alloc (.cells cs.toArray t)).drew).cell? ((⟨w.heap.size, 0, none⟩ : Addr).add j) = some u := by
  intro j u h
  have ha : (⟨w.heap.size, 0, none⟩ : Addr).add j = ⟨w.heap.size, j, none⟩ := by unfold Addr.add; split <;> simp_all
  rw [ha]
  have h2 : cs[j]? = some u := by
    rw [List.getElem?_take] at h
    split at h
    · exact h
    · cases h
  exact (At.fresh w cs t).get j u h2
theorem bytes_end {w : World} {g : G} {base m : Nat} {v v' : Value} {acc : List Int} {o : Obj} {w' : World} {bs : List Int} (hb : bytesG g = bs) (hm : m = bs.length) (h1 : w'.ownsRow base 5 1 v' (acc.length + m) (nums .u8 acc ++ nums .u8 bs)) (h2 : ((w.alloc o).drew).grownBy w' v.ownBlock) : BytesQ w g base v acc (.returned v') w' := by
  subst hm
  refine ⟨v', rfl, ?_, World.grownBy.trans (World.grownBy_alloc w o _) ⟨h2.os, h2.tape, h2.output, h2.size, h2.block⟩⟩
  rw [hb, List.length_append, nums_append]
  exact h1
theorem infoB : (Tryd.prog.info? 5).map (fun i => (i.zero, i.size, i.bytes)) = some (some (.int .u8 0), 1, 1) := by kernel_rfl
set_option maxHeartbeats 2000000 in
theorem bytes (b : Nat) (g : G) (base : Nat) (v : Value) (acc : List Int) (w : World) (hA : AtG w b g) (ok : OkG g) (hp2 : g.p ≤ 2) (HO : w.ownsRow base 5 1 v acc.length (nums .u8 acc)) (hbase : base ≤ w.heap.size) (hlen : acc.length ≤ 140737488355320) :
    Calls Tryd.prog 17 #[.pointer (some ⟨b, 0, none⟩), v] w (BytesQ w g base v acc) := by
  obtain ⟨a, w0, w1, w2, w3, p⟩ := g
  obtain ⟨ha, hw0, hw1, hw2, hw3, hp⟩ := ok
  simp only at ha hw0 hw1 hw2 hw3 hp hp2
  obtain ⟨i0, hi, hz0, hz1, hz2⟩ := info_parts infoB
  have hp3 : p = 0 ∨ p = 1 ∨ p = 2 := by omega
  clear hp2
  have c0 : w.cell? ⟨b, 0, none⟩ = some (.int .i64 a) := hA.get 0 _ rfl
  have c1 : w.cell? ⟨b, 1, none⟩ = some (.int .u8 w0) := hA.get 1 _ rfl
  have c2 : w.cell? ⟨b, 2, none⟩ = some (.int .u8 w1) := hA.get 2 _ rfl
  have c3 : w.cell? ⟨b, 3, none⟩ = some (.int .u8 w2) := hA.get 3 _ rfl
  have c4 : w.cell? ⟨b, 4, none⟩ = some (.int .u8 w3) := hA.get 4 _ rfl
  have c5 : w.cell? ⟨b, 5, none⟩ = some (.int .i64 p) := hA.get 5 _ rfl
  have HW : Hid (w.ownsRow base 5 1 v acc.length (nums .u8 acc)) := HO
  clear HO
  have HA : Hid (AtG w b ⟨a, w0, w1, w2, w3, p⟩) := hA
  have hbs : b < w.heap.size := At.lt hA
  have d1 := (At.alloc hA (Obj.cells #[Value.int .u8 0, Value.int .u8 0, Value.int .u8 0] 49)).get 1 _ rfl
  have d2 := (At.alloc hA (Obj.cells #[Value.int .u8 0, Value.int .u8 0, Value.int .u8 0] 49)).get 2 _ rfl
  have d3 := (At.alloc hA (Obj.cells #[Value.int .u8 0, Value.int .u8 0, Value.int .u8 0] 49)).get 3 _ rfl
  have d4 := (At.alloc hA (Obj.cells #[Value.int .u8 0, Value.int .u8 0, Value.int .u8 0] 49)).get 4 _ rfl
  have d5 := (At.alloc hA (Obj.cells #[Value.int .u8 0, Value.int .u8 0, Value.int .u8 0] 49)).get 5 _ rfl
  clear hA
  go_enter Tryd.func17, Tryd.ntmps17
  go_wp2
  refine start_ (n := 41) (S := fun w' => w'.cell? ⟨b, 1, none⟩ = some (.int .u8 w0) ∧ w'.cell? ⟨b, 2, none⟩ = some (.int .u8 w1) ∧ w'.cell? ⟨b, 3, none⟩ = some (.int .u8 w2) ∧ w'.cell? ⟨b, 4, none⟩ = some (.int .u8 w3)) (ds := [40]) #[false, false, false, false, false, false, false, false, false, false, false, false, false, false, false, false, false, false, false, false, false, false, false, false, false, false, false, false, false, false, false, false, false, false, false, false, false, false, false, false, false] (by kernel_rfl) rfl rfl ⟨c1, c2, c3, c4⟩ (fun hHeld => ?_)
  refine pure_ (i := 0) (N := some 7) (v := ?_) (a' := ?_) #[true, false, false, false, false, false, false, false, false, false, false, false, false, false, false, false, false, false, false, false, false, false, false, false, false, false, false, false, false, false, false, false, false, false, false, false, false, false, false, false, false] rfl rfl (by kernel_rfl) (fun _ _ _ h => h) (Or.inl ⟨by rfl, ?_⟩) ?_ ?_
  rotate_left
  · intro w'
    go_simp
    with_reducible rfl
  rotate_left
  · simp only [Act.put, List.setIfInBounds_toArray, List.set_cons_zero, List.set_cons_succ, i64_w, i32_w]
    rfl
  refine pure_ (i := 1) (N := some 8) (v := ?_) (a' := ?_) #[true, true, false, false, false, false, false, false, false, false, false, false, false, false, false, false, false, false, false, false, false, false, false, false, false, false, false, false, false, false, false, false, false, false, false, false, false, false, false, false, false] rfl rfl (by kernel_rfl) (fun _ _ _ h => h) (Or.inl ⟨by rfl, ?_⟩) ?_ ?_
  rotate_left
  · intro w'
    go_simp
    with_reducible rfl
  rotate_left
  · simp only [Act.put, List.setIfInBounds_toArray, List.set_cons_zero, List.set_cons_succ, i64_w, i32_w]
    rfl
  refine pure_ (i := 2) (N := some 9) (v := ?_) (a' := ?_) #[true, true, true, false, false, false, false, false, false, false, false, false, false, false, false, false, false, false, false, false, false, false, false, false, false, false, false, false, false, false, false, false, false, false, false, false, false, false, false, false, false] rfl rfl (by kernel_rfl) (fun _ _ _ h => h) (Or.inl ⟨by rfl, ?_⟩) ?_ ?_
  rotate_left
  · intro w'
    go_simp
    with_reducible rfl
  rotate_left
  · simp only [Act.put, List.setIfInBounds_toArray, List.set_cons_zero, List.set_cons_succ, i64_w, i32_w]
    rfl
  refine pure_ (i := 3) (N := some 10) (v := ?_) (a' := ?_) #[true, true, true, true, false, false, false, false, false, false, false, false, false, false, false, false, false, false, false, false, false, false, false, false, false, false, false, false, false, false, false, false, false, false, false, false, false, false, false, false, false] rfl rfl (by kernel_rfl) (fun _ _ _ h => h) (Or.inl ⟨by rfl, ?_⟩) ?_ ?_
  rotate_left
  · intro w'
    go_simp
    with_reducible rfl
  rotate_left
  · simp only [Act.put, List.setIfInBounds_toArray, List.set_cons_zero, List.set_cons_succ, i64_w, i32_w]
    rfl
  refine pure_ (i := 6) (N := some 13) (v := ?_) (a' := ?_) #[true, true, true, true, false, false, true, false, false, false, false, false, false, false, false, false, false, false, false, false, false, false, false, false, false, false, false, false, false, false, false, false, false, false, false, false, false, false, false, false, false] rfl rfl (by kernel_rfl) (fun _ _ _ h => h) (Or.inl ⟨by rfl, ?_⟩) ?_ ?_
  rotate_left
  · intro w'
    go_simp
    with_reducible rfl
  rotate_left
  · simp only [Act.put, List.setIfInBounds_toArray, List.set_cons_zero, List.set_cons_succ, i64_w, i32_w]
    rfl
  refine pure_ (i := 7) (N := some 14) (v := ?_) (a' := ?_) #[true, true, true, true, false, false, true, true, false, false, false, false, false, false, false, false, false, false, false, false, false, false, false, false, false, false, false, false, false, false, false, false, false, false, false, false, false, false, false, false, false] rfl rfl (by kernel_rfl) (fun _ _ _ h => h) (Or.inl ⟨by rfl, ?_⟩) ?_ ?_
  rotate_left
  · intro w'
    go_simp
    with_reducible rfl
  rotate_left
  · simp only [Act.put, List.setIfInBounds_toArray, List.set_cons_zero, List.set_cons_succ, i64_w, i32_w]
    rfl
  refine pure_ (i := 8) (N := some 15) (v := ?_) (a' := ?_) #[true, true, true, true, false, false, true, true, true, false, false, false, false, false, false, false, false, false, false, false, false, false, false, false, false, false, false, false, false, false, false, false, false, false, false, false, false, false, false, false, false] rfl rfl (by kernel_rfl) (fun _ _ _ h => h) (Or.inl ⟨by rfl, ?_⟩) ?_ ?_
  rotate_left
  · intro w'
    go_simp
    with_reducible rfl
  rotate_left
  · simp only [Act.put, List.setIfInBounds_toArray, List.set_cons_zero, List.set_cons_succ, i64_w, i32_w]
    rfl
  refine pure_ (i := 9) (N := some 16) (v := ?_) (a' := ?_) #[true, true, true, true, false, false, true, true, true, true, false, false, false, false, false, false, false, false, false, false, false, false, false, false, false, false, false, false, false, false, false, false, false, false, false, false, false, false, false, false, false] rfl rfl (by kernel_rfl) (fun _ _ _ h => h) (Or.inl ⟨by rfl, ?_⟩) ?_ ?_
  rotate_left
  · intro w'
    go_simp
    with_reducible rfl
  rotate_left
  · simp only [Act.put, List.setIfInBounds_toArray, List.set_cons_zero, List.set_cons_succ, i64_w, i32_w]
    rfl
  refine pure_ (i := 13) (N := some 20) (v := ?_) (a' := ?_) #[true, true, true, true, false, false, true, true, true, true, false, false, false, true, false, false, false, false, false, false, false, false, false, false, false, false, false, false, false, false, false, false, false, false, false, false, false, false, false, false, false] rfl rfl (by kernel_rfl) (fun _ _ _ h => h) (Or.inl ⟨by rfl, ?_⟩) ?_ ?_
  rotate_left
  · intro w'
    go_simp
    with_reducible rfl
  rotate_left
  · simp only [Act.put, List.setIfInBounds_toArray, List.set_cons_zero, List.set_cons_succ, i64_w, i32_w]
    rfl
  refine pure_ (i := 14) (N := some 21) (v := ?_) (a' := ?_) #[true, true, true, true, false, false, true, true, true, true, false, false, false, true, true, false, false, false, false, false, false, false, false, false, false, false, false, false, false, false, false, false, false, false, false, false, false, false, false, false, false] rfl rfl (by kernel_rfl) (fun _ _ _ h => h) (Or.inl ⟨by rfl, ?_⟩) ?_ ?_
  rotate_left
  · intro w'
    go_simp
    with_reducible rfl
  rotate_left
  · simp only [Act.put, List.setIfInBounds_toArray, List.set_cons_zero, List.set_cons_succ, i64_w, i32_w]
    rfl
  refine pure_ (i := 15) (N := some 22) (v := ?_) (a' := ?_) #[true, true, true, true, false, false, true, true, true, true, false, false, false, true, true, true, false, false, false, false, false, false, false, false, false, false, false, false, false, false, false, false, false, false, false, false, false, false, false, false, false] rfl rfl (by kernel_rfl) (fun _ _ _ h => h) (Or.inl ⟨by rfl, ?_⟩) ?_ ?_
  rotate_left
  · intro w'
    go_simp
    with_reducible rfl
  rotate_left
  · simp only [Act.put, List.setIfInBounds_toArray, List.set_cons_zero, List.set_cons_succ, i64_w, i32_w]
    rfl
  refine pure_ (i := 16) (N := some 23) (v := ?_) (a' := ?_) #[true, true, true, true, false, false, true, true, true, true, false, false, false, true, true, true, true, false, false, false, false, false, false, false, false, false, false, false, false, false, false, false, false, false, false, false, false, false, false, false, false] rfl rfl (by kernel_rfl) (fun _ _ _ h => h) (Or.inl ⟨by rfl, ?_⟩) ?_ ?_
  rotate_left
  · intro w'
    go_simp
    with_reducible rfl
  rotate_left
  · simp only [Act.put, List.setIfInBounds_toArray, List.set_cons_zero, List.set_cons_succ, i64_w, i32_w]
    rfl
  refine pure_ (i := 19) (N := some 26) (v := ?_) (a' := ?_) #[true, true, true, true, false, false, true, true, true, true, false, false, false, true, true, true, true, false, false, true, false, false, false, false, false, false, false, false, false, false, false, false, false, false, false, false, false, false, false, false, false] rfl rfl (by kernel_rfl) (fun _ _ _ h => h) (Or.inl ⟨by rfl, ?_⟩) ?_ ?_
  rotate_left
  · intro w'
    go_simp
    with_reducible rfl
  rotate_left
  · simp only [Act.put, List.setIfInBounds_toArray, List.set_cons_zero, List.set_cons_succ, i64_w, i32_w]
    rfl
  refine pure_ (i := 20) (N := some 27) (v := ?_) (a' := ?_) #[true, true, true, true, false, false, true, true, true, true, false, false, false, true, true, true, true, false, false, true, true, false, false, false, false, false, false, false, false, false, false, false, false, false, false, false, false, false, false, false, false] rfl rfl (by kernel_rfl) (fun _ _ _ h => h) (Or.inl ⟨by rfl, ?_⟩) ?_ ?_
  rotate_left
  · intro w'
    go_simp
    with_reducible rfl
  rotate_left
  · simp only [Act.put, List.setIfInBounds_toArray, List.set_cons_zero, List.set_cons_succ, i64_w, i32_w]
    rfl
  refine pure_ (i := 21) (N := some 28) (v := ?_) (a' := ?_) #[true, true, true, true, false, false, true, true, true, true, false, false, false, true, true, true, true, false, false, true, true, true, false, false, false, false, false, false, false, false, false, false, false, false, false, false, false, false, false, false, false] rfl rfl (by kernel_rfl) (fun _ _ _ h => h) (Or.inl ⟨by rfl, ?_⟩) ?_ ?_
  rotate_left
  · intro w'
    go_simp
    with_reducible rfl
  rotate_left
  · simp only [Act.put, List.setIfInBounds_toArray, List.set_cons_zero, List.set_cons_succ, i64_w, i32_w]
    rfl
  refine pure_ (i := 22) (N := some 29) (v := ?_) (a' := ?_) #[true, true, true, true, false, false, true, true, true, true, false, false, false, true, true, true, true, false, false, true, true, true, true, false, false, false, false, false, false, false, false, false, false, false, false, false, false, false, false, false, false] rfl rfl (by kernel_rfl) (fun _ _ _ h => h) (Or.inl ⟨by rfl, ?_⟩) ?_ ?_
  rotate_left
  · intro w'
    go_simp
    with_reducible rfl
  rotate_left
  · simp only [Act.put, List.setIfInBounds_toArray, List.set_cons_zero, List.set_cons_succ, i64_w, i32_w]
    rfl
  refine pure_ (i := 26) (N := some 33) (v := ?_) (a' := ?_) #[true, true, true, true, false, false, true, true, true, true, false, false, false, true, true, true, true, false, false, true, true, true, true, false, false, false, true, false, false, false, false, false, false, false, false, false, false, false, false, false, false] rfl rfl (by kernel_rfl) (fun _ _ _ h => h) (Or.inl ⟨by rfl, ?_⟩) ?_ ?_
  rotate_left
  · intro w'
    go_simp
    with_reducible rfl
  rotate_left
  · simp only [Act.put, List.setIfInBounds_toArray, List.set_cons_zero, List.set_cons_succ, i64_w, i32_w]
    rfl
  refine pure_ (i := 27) (N := some 34) (v := ?_) (a' := ?_) #[true, true, true, true, false, false, true, true, true, true, false, false, false, true, true, true, true, false, false, true, true, true, true, false, false, false, true, true, false, false, false, false, false, false, false, false, false, false, false, false, false] rfl rfl (by kernel_rfl) (fun _ _ _ h => h) (Or.inl ⟨by rfl, ?_⟩) ?_ ?_
  rotate_left
  · intro w'
    go_simp
    with_reducible rfl
  rotate_left
  · simp only [Act.put, List.setIfInBounds_toArray, List.set_cons_zero, List.set_cons_succ, i64_w, i32_w]
    rfl
  refine pure_ (i := 28) (N := some 35) (v := ?_) (a' := ?_) #[true, true, true, true, false, false, true, true, true, true, false, false, false, true, true, true, true, false, false, true, true, true, true, false, false, false, true, true, true, false, false, false, false, false, false, false, false, false, false, false, false] rfl rfl (by kernel_rfl) (fun _ _ _ h => h) (Or.inl ⟨by rfl, ?_⟩) ?_ ?_
  rotate_left
  · intro w'
    go_simp
    with_reducible rfl
  rotate_left
  · simp only [Act.put, List.setIfInBounds_toArray, List.set_cons_zero, List.set_cons_succ, i64_w, i32_w]
    rfl
  refine pure_ (i := 29) (N := some 36) (v := ?_) (a' := ?_) #[true, true, true, true, false, false, true, true, true, true, false, false, false, true, true, true, true, false, false, true, true, true, true, false, false, false, true, true, true, true, false, false, false, false, false, false, false, false, false, false, false] rfl rfl (by kernel_rfl) (fun _ _ _ h => h) (Or.inl ⟨by rfl, ?_⟩) ?_ ?_
  rotate_left
  · intro w'
    go_simp
    with_reducible rfl
  rotate_left
  · simp only [Act.put, List.setIfInBounds_toArray, List.set_cons_zero, List.set_cons_succ, i64_w, i32_w]
    rfl
  refine pure_ (i := 32) (N := some 39) (v := ?_) (a' := ?_) #[true, true, true, true, false, false, true, true, true, true, false, false, false, true, true, true, true, false, false, true, true, true, true, false, false, false, true, true, true, true, false, false, true, false, false, false, false, false, false, false, false] rfl rfl (by kernel_rfl) (fun _ _ _ h => h) (Or.inl ⟨by rfl, ?_⟩) ?_ ?_
  rotate_left
  · intro w'
    go_simp
    with_reducible rfl
  rotate_left
  · simp only [Act.put, List.setIfInBounds_toArray, List.set_cons_zero, List.set_cons_succ, i64_w, i32_w]
    rfl
  refine pure_ (i := 33) (N := some 40) (v := ?_) (a' := ?_) #[true, true, true, true, false, false, true, true, true, true, false, false, false, true, true, true, true, false, false, true, true, true, true, false, false, false, true, true, true, true, false, false, true, true, false, false, false, false, false, false, false] rfl rfl (by kernel_rfl) (fun _ _ _ h => h) (Or.inl ⟨by rfl, ?_⟩) ?_ ?_
  rotate_left
  · intro w'
    go_simp
    with_reducible rfl
  rotate_left
  · simp only [Act.put, List.setIfInBounds_toArray, List.set_cons_zero, List.set_cons_succ, i64_w, i32_w]
    rfl
  refine pure_ (i := 34) (N := some 41) (v := ?_) (a' := ?_) #[true, true, true, true, false, false, true, true, true, true, false, false, false, true, true, true, true, false, false, true, true, true, true, false, false, false, true, true, true, true, false, false, true, true, true, false, false, false, false, false, false] rfl rfl (by kernel_rfl) (fun _ _ _ h => h) (Or.inl ⟨by rfl, ?_⟩) ?_ ?_
  rotate_left
  · intro w'
    go_simp
    with_reducible rfl
  rotate_left
  · simp only [Act.put, List.setIfInBounds_toArray, List.set_cons_zero, List.set_cons_succ, i64_w, i32_w]
    rfl
  refine pure_ (i := 35) (N := some 42) (v := ?_) (a' := ?_) #[true, true, true, true, false, false, true, true, true, true, false, false, false, true, true, true, true, false, false, true, true, true, true, false, false, false, true, true, true, true, false, false, true, true, true, true, false, false, false, false, false] rfl rfl (by kernel_rfl) (fun _ _ _ h => h) (Or.inl ⟨by rfl, ?_⟩) ?_ ?_
  rotate_left
  · intro w'
    go_simp
    with_reducible rfl
  rotate_left
  · simp only [Act.put, List.setIfInBounds_toArray, List.set_cons_zero, List.set_cons_succ, i64_w, i32_w]
    rfl
  refine take_ (i := 4) (N := some 11) (v := ?_) (a' := ?_) #[true, true, true, true, true, false, true, true, true, true, false, false, false, true, true, true, true, false, false, true, true, true, true, false, false, false, true, true, true, true, false, false, true, true, true, true, false, false, false, false, false] rfl rfl (by kernel_rfl) (fun _ _ _ h => h) (Or.inl ⟨by rfl, ?_⟩) hHeld ?_ ?_
  rotate_left
  · rintro w' ⟨s0, s1, s2, s3⟩
    go_simp
    with_reducible rfl
  rotate_left
  · simp only [Act.put, List.setIfInBounds_toArray, List.set_cons_zero, List.set_cons_succ, i64_w, i32_w]
    rfl
  refine pure_ (i := 5) (N := some 12) (v := ?_) (a' := ?_) #[true, true, true, true, true, true, true, true, true, true, false, false, false, true, true, true, true, false, false, true, true, true, true, false, false, false, true, true, true, true, false, false, true, true, true, true, false, false, false, false, false] rfl rfl (by kernel_rfl) (fun _ _ _ h => h) (Or.inl ⟨by rfl, ?_⟩) ?_ ?_
  rotate_left
  · intro w'
    go_simp
    with_reducible rfl
  rotate_left
  · simp only [Act.put, List.setIfInBounds_toArray, List.set_cons_zero, List.set_cons_succ, i64_w, i32_w]
    rfl
  refine take_ (i := 10) (N := some 17) (v := ?_) (a' := ?_) #[true, true, true, true, true, true, true, true, true, true, true, false, false, true, true, true, true, false, false, true, true, true, true, false, false, false, true, true, true, true, false, false, true, true, true, true, false, false, false, false, false] rfl rfl (by kernel_rfl) (fun _ _ _ h => h) (Or.inl ⟨by rfl, ?_⟩) hHeld ?_ ?_
  rotate_left
  · rintro w' ⟨s0, s1, s2, s3⟩
    go_simp
    with_reducible rfl
  rotate_left
  · simp only [Act.put, List.setIfInBounds_toArray, List.set_cons_zero, List.set_cons_succ, i64_w, i32_w]
    rfl
  refine pure_ (i := 11) (N := some 18) (v := ?_) (a' := ?_) #[true, true, true, true, true, true, true, true, true, true, true, true, false, true, true, true, true, false, false, true, true, true, true, false, false, false, true, true, true, true, false, false, true, true, true, true, false, false, false, false, false] rfl rfl (by kernel_rfl) (fun _ _ _ h => h) (Or.inl ⟨by rfl, ?_⟩) ?_ ?_
  rotate_left
  · intro w'
    go_simp
    with_reducible rfl
  rotate_left
  · simp only [Act.put, List.setIfInBounds_toArray, List.set_cons_zero, List.set_cons_succ, i64_w, i32_w]
    rfl
  refine pure_ (i := 12) (N := some 19) (v := ?_) (a' := ?_) #[true, true, true, true, true, true, true, true, true, true, true, true, true, true, true, true, true, false, false, true, true, true, true, false, false, false, true, true, true, true, false, false, true, true, true, true, false, false, false, false, false] rfl rfl (by kernel_rfl) (fun _ _ _ h => h) (Or.inl ⟨by rfl, ?_⟩) ?_ ?_
  rotate_left
  · intro w'
    go_simp
    with_reducible rfl
  rotate_left
  · simp only [Act.put, List.setIfInBounds_toArray, List.set_cons_zero, List.set_cons_succ, i64_w, i32_w]
    rfl
  refine take_ (i := 17) (N := some 24) (v := ?_) (a' := ?_) #[true, true, true, true, true, true, true, true, true, true, true, true, true, true, true, true, true, true, false, true, true, true, true, false, false, false, true, true, true, true, false, false, true, true, true, true, false, false, false, false, false] rfl rfl (by kernel_rfl) (fun _ _ _ h => h) (Or.inl ⟨by rfl, ?_⟩) hHeld ?_ ?_
  rotate_left
  · rintro w' ⟨s0, s1, s2, s3⟩
    go_simp
    with_reducible rfl
  rotate_left
  · simp only [Act.put, List.setIfInBounds_toArray, List.set_cons_zero, List.set_cons_succ, i64_w, i32_w]
    rfl
  refine pure_ (i := 18) (N := some 25) (v := ?_) (a' := ?_) #[true, true, true, true, true, true, true, true, true, true, true, true, true, true, true, true, true, true, true, true, true, true, true, false, false, false, true, true, true, true, false, false, true, true, true, true, false, false, false, false, false] rfl rfl (by kernel_rfl) (fun _ _ _ h => h) (Or.inl ⟨by rfl, ?_⟩) ?_ ?_
  rotate_left
  · intro w'
    go_simp
    with_reducible rfl
  rotate_left
  · simp only [Act.put, List.setIfInBounds_toArray, List.set_cons_zero, List.set_cons_succ, i64_w, i32_w]
    rfl
  refine take_ (i := 23) (N := some 30) (v := ?_) (a' := ?_) #[true, true, true, true, true, true, true, true, true, true, true, true, true, true, true, true, true, true, true, true, true, true, true, true, false, false, true, true, true, true, false, false, true, true, true, true, false, false, false, false, false] rfl rfl (by kernel_rfl) (fun _ _ _ h => h) (Or.inl ⟨by rfl, ?_⟩) hHeld ?_ ?_
  rotate_left
  · rintro w' ⟨s0, s1, s2, s3⟩
    go_simp
    with_reducible rfl
  rotate_left
  · simp only [Act.put, List.setIfInBounds_toArray, List.set_cons_zero, List.set_cons_succ, i64_w, i32_w]
    rfl
  refine pure_ (i := 24) (N := some 31) (v := ?_) (a' := ?_) #[true, true, true, true, true, true, true, true, true, true, true, true, true, true, true, true, true, true, true, true, true, true, true, true, true, false, true, true, true, true, false, false, true, true, true, true, false, false, false, false, false] rfl rfl (by kernel_rfl) (fun _ _ _ h => h) (Or.inl ⟨by rfl, ?_⟩) ?_ ?_
  rotate_left
  · intro w'
    go_simp
    with_reducible rfl
  rotate_left
  · simp only [Act.put, List.setIfInBounds_toArray, List.set_cons_zero, List.set_cons_succ, i64_w, i32_w]
    rfl
  refine pure_ (i := 25) (N := some 32) (v := ?_) (a' := ?_) #[true, true, true, true, true, true, true, true, true, true, true, true, true, true, true, true, true, true, true, true, true, true, true, true, true, true, true, true, true, true, false, false, true, true, true, true, false, false, false, false, false] rfl rfl (by kernel_rfl) (fun _ _ _ h => h) (Or.inl ⟨by rfl, ?_⟩) ?_ ?_
  rotate_left
  · intro w'
    go_simp
    with_reducible rfl
  rotate_left
  · simp only [Act.put, List.setIfInBounds_toArray, List.set_cons_zero, List.set_cons_succ, i64_w, i32_w]
    rfl
  refine take_ (i := 30) (N := some 37) (v := ?_) (a' := ?_) #[true, true, true, true, true, true, true, true, true, true, true, true, true, true, true, true, true, true, true, true, true, true, true, true, true, true, true, true, true, true, true, false, true, true, true, true, false, false, false, false, false] rfl rfl (by kernel_rfl) (fun _ _ _ h => h) (Or.inl ⟨by rfl, ?_⟩) hHeld ?_ ?_
  rotate_left
  · rintro w' ⟨s0, s1, s2, s3⟩
    go_simp
    with_reducible rfl
  rotate_left
  · simp only [Act.put, List.setIfInBounds_toArray, List.set_cons_zero, List.set_cons_succ, i64_w, i32_w]
    rfl
  refine pure_ (i := 31) (N := some 38) (v := ?_) (a' := ?_) #[true, true, true, true, true, true, true, true, true, true, true, true, true, true, true, true, true, true, true, true, true, true, true, true, true, true, true, true, true, true, true, true, true, true, true, true, false, false, false, false, false] rfl rfl (by kernel_rfl) (fun _ _ _ h => h) (Or.inl ⟨by rfl, ?_⟩) ?_ ?_
  rotate_left
  · intro w'
    go_simp
    with_reducible rfl
  rotate_left
  · simp only [Act.put, List.setIfInBounds_toArray, List.set_cons_zero, List.set_cons_succ, i64_w, i32_w]
    rfl
  refine take_ (i := 36) (N := some 43) (v := ?_) (a' := ?_) #[true, true, true, true, true, true, true, true, true, true, true, true, true, true, true, true, true, true, true, true, true, true, true, true, true, true, true, true, true, true, true, true, true, true, true, true, true, false, false, false, false] rfl rfl (by kernel_rfl) (fun _ _ _ h => h) (Or.inl ⟨by rfl, ?_⟩) hHeld ?_ ?_
  rotate_left
  · rintro w' ⟨s0, s1, s2, s3⟩
    go_simp
    with_reducible rfl
  rotate_left
  · simp only [Act.put, List.setIfInBounds_toArray, List.set_cons_zero, List.set_cons_succ, i64_w, i32_w]
    rfl
  refine pure_ (i := 37) (N := some 44) (v := ?_) (a' := ?_) #[true, true, true, true, true, true, true, true, true, true, true, true, true, true, true, true, true, true, true, true, true, true, true, true, true, true, true, true, true, true, true, true, true, true, true, true, true, true, false, false, false] rfl rfl (by kernel_rfl) (fun _ _ _ h => h) (Or.inl ⟨by rfl, ?_⟩) ?_ ?_
  rotate_left
  · intro w'
    go_simp
    with_reducible rfl
  rotate_left
  · simp only [Act.put, List.setIfInBounds_toArray, List.set_cons_zero, List.set_cons_succ, i64_w, i32_w]
    rfl
  refine pure_ (i := 38) (N := some 45) (v := ?_) (a' := ?_) #[true, true, true, true, true, true, true, true, true, true, true, true, true, true, true, true, true, true, true, true, true, true, true, true, true, true, true, true, true, true, true, true, true, true, true, true, true, true, true, false, false] rfl rfl (by kernel_rfl) (fun _ _ _ h => h) (Or.inl ⟨by rfl, ?_⟩) ?_ ?_
  rotate_left
  · intro w'
    go_simp
    with_reducible rfl
  rotate_left
  · simp only [Act.put, List.setIfInBounds_toArray, List.set_cons_zero, List.set_cons_succ, i64_w, i32_w]
    rfl
  refine one_ (i := 39) (N := some 5) #[true, true, true, true, true, true, true, true, true, true, true, true, true, true, true, true, true, true, true, true, true, true, true, true, true, true, true, true, true, true, true, true, true, true, true, true, true, true, true, true, false] rfl rfl (by kernel_rfl) (by decide) (fun K hK => ?_)
  refine value_ (w1 := ?_) (v := ?_) (by rfl) rfl ?_ ?_
  rotate_left 2
  · go_simp
    constructor
    · rfl
    · rfl
  refine hK.out _ _ ⟨d1, d2, d3, d4⟩ (fun hHeld => ?_)
  clear hK K
  refine norm_ (a' := ?_) ?_ ?_
  rotate_left
  · show Act.put _ (some 5) _ = _
    simp only [Act.put, List.setIfInBounds_toArray, List.set_cons_zero, List.set_cons_succ, i64_w, i32_w]
    rfl
  refine last_ (i := 40) (N := none) #[true, true, true, true, true, true, true, true, true, true, true, true, true, true, true, true, true, true, true, true, true, true, true, true, true, true, true, true, true, true, true, true, true, true, true, true, true, true, true, true, true] rfl rfl (by kernel_rfl) (by decide) (fun K hK => ?_)
  refine skip_ (w1 := ?_) (by rfl) rfl ?_ ?_
  rotate_left
  · go_simp
    rfl
  refine hK.out _ _ ?_
  clear hK K
  refine done_ (by kernel_rfl) ?_
  have E1 : Hid (Go.bits .or .u8 (w0 * 4) (w1 / 16) = w0 * 4 + w1 / 16) := or1 _ _ hw0 hw1
  have E2 : Hid (Go.bits .or .u8 (w1 * 16 % 256) (w2 / 4) = w1 % 16 * 16 + w2 / 4) := or2 _ _ hw1 hw2
  have E3 : Hid (Go.bits .or .u8 (w2 * 64 % 256) w3 = w2 % 4 * 64 + w3) := or3 _ _ hw2 hw3
  rcases hp3 with rfl | rfl | rfl
  · go_wp2_with (at_builtin; refine wpList_append_own _ rfl _ _ 28 rfl base 5 i0 (.int .u8 0) 1 1 Tryd.underlying28 hi hz0 hz1 hz2 rfl (by decide) _ _ _ rfl (World.ownsRow.drew (HW.out.alloc _)) ⟨w.heap.size, 0, none⟩ 3 3 _ rfl ?l1 (news_at w _ 49 3) ?l2 ?l3 ?l4 ?l5 ?_; (case l1 => rfl); (case l2 => intro u hu; have hu2 := List.mem_of_mem_take hu; simp only [List.mem_cons, List.not_mem_nil, or_false] at hu2; rcases hu2 with rfl | rfl | rfl <;> rfl); (case l3 => unfold maxLen; omega); (case l4 => omega); (case l5 => simp; omega); intro v1 W1 hown hg _)
    go_ret
    exact bytes_end (m := 3) (bs := [Go.bits .or .u8 (w0 * 4) (w1 / 16), Go.bits .or .u8 (w1 * 16 % 256) (w2 / 4), Go.bits .or .u8 (w2 * 64 % 256) w3]) (by show [w0 * 4 + w1 / 16, w1 % 16 * 16 + w2 / 4, w2 % 4 * 64 + w3] = _; rw [E1.out, E2.out, E3.out]) rfl hown hg
  · go_wp2_with (at_builtin; refine wpList_append_own _ rfl _ _ 28 rfl base 5 i0 (.int .u8 0) 1 1 Tryd.underlying28 hi hz0 hz1 hz2 rfl (by decide) _ _ _ rfl (World.ownsRow.drew (HW.out.alloc _)) ⟨w.heap.size, 0, none⟩ 2 3 _ rfl ?l1 (news_at w _ 49 2) ?l2 ?l3 ?l4 ?l5 ?_; (case l1 => rfl); (case l2 => intro u hu; have hu2 := List.mem_of_mem_take hu; simp only [List.mem_cons, List.not_mem_nil, or_false] at hu2; rcases hu2 with rfl | rfl | rfl <;> rfl); (case l3 => unfold maxLen; omega); (case l4 => omega); (case l5 => simp; omega); intro v1 W1 hown hg _)
    go_ret
    exact bytes_end (m := 2) (bs := [Go.bits .or .u8 (w0 * 4) (w1 / 16), Go.bits .or .u8 (w1 * 16 % 256) (w2 / 4)]) (by show [w0 * 4 + w1 / 16, w1 % 16 * 16 + w2 / 4] = _; rw [E1.out, E2.out]) rfl hown hg
  · go_wp2_with (at_builtin; refine wpList_append_own _ rfl _ _ 28 rfl base 5 i0 (.int .u8 0) 1 1 Tryd.underlying28 hi hz0 hz1 hz2 rfl (by decide) _ _ _ rfl (World.ownsRow.drew (HW.out.alloc _)) ⟨w.heap.size, 0, none⟩ 1 3 _ rfl ?l1 (news_at w _ 49 1) ?l2 ?l3 ?l4 ?l5 ?_; (case l1 => rfl); (case l2 => intro u hu; have hu2 := List.mem_of_mem_take hu; simp only [List.mem_cons, List.not_mem_nil, or_false] at hu2; rcases hu2 with rfl | rfl | rfl <;> rfl); (case l3 => unfold maxLen; omega); (case l4 => omega); (case l5 => simp; omega); intro v1 W1 hown hg _)
    go_ret
    exact bytes_end (m := 1) (bs := [Go.bits .or .u8 (w0 * 4) (w1 / 16)]) (by show [w0 * 4 + w1 / 16] = _; rw [E1.out]) rfl hown hg
end Go.Proofs.YtppnhlkfkedlmaaDoor.UnX
namespace Go.Proofs.YtppnhlkfkedlmaaDoor.UnY
open Go.RowKit Go.Proofs.YtppnhlkfkedlmaaDoor.Blk Go.Proofs.YtppnhlkfkedlmaaDoor.L64 Go.Proofs.YtppnhlkfkedlmaaDoor.UnB64 Go.Proofs.YtppnhlkfkedlmaaDoor.RawB64 Go.Proofs.YtppnhlkfkedlmaaDoor.UnW Go.Proofs.YtppnhlkfkedlmaaDoor.UnX Go.Proofs.YtppnhlkfkedlmaaDoorW.PrintWords Go.Proofs.YtppnhlkfkedlmaaDoorW.PrintLast Go.Proofs.YtppnhlkfkedlmaaDoorW.PrintMore
theorem drop_cons (s : ByteArray) (i : Nat) (h : i < s.size) : (bytesOf s).drop i = bt s (i : Int) :: (bytesOf s).drop (i + 1) := by
  have hl : i < (bytesOf s).length := by rw [bytesOf_length]; exact h
  rw [List.drop_eq_getElem_cons hl, ← rd_bytesOf]
  simp [rd, List.getD_eq_getElem?_getD, List.getElem?_eq_getElem hl]
structure UR (w : World) (s : ByteArray) (b k : Nat) (g : G) (acc : List Int) (v : Value) (wr : World) : Prop where
  at_ : AtG wr b g
  own : wr.ownsRow w.heap.size 5 1 v acc.length (nums .u8 acc)
  below : Below w.heap.size w wr
  bb : w.heap.size ≤ b
  ok : OkG g
  len : 4 * (acc.length : Int) + 3 * (if g.at_ = 4 then 0 else g.at_) ≤ 3 * (k : Int)
  spec : loopU g acc k ((bytesOf s).drop k) = unB st0 0 (bytesOf s)
def UQ (w : World) (s : ByteArray) (e : Ending) (w' : World) : Prop := e = .returned (.tuple #[.string (strOfNums (unB st0 0 (bytesOf s)).1), .int .i64 (unB st0 0 (bytesOf s)).2.1, .int .i64 (unB st0 0 (bytesOf s)).2.2]) ∧ Below w.heap.size w w'
theorem own_ne {W : World} {base b n : Nat} {v : Value} {xs : List Value} {g : G} (h : W.ownsRow base 5 1 v n xs) (hA : AtG W b g) : v.ownBlock = none ∨ v.ownBlock ≠ some b := by
  rcases h.2 with ⟨rfl, _⟩ | ⟨k, cap, cur, rfl, _, hh, _⟩
  · exact .inl rfl
  · refine .inr fun hk => ?_
    have : k = b := by simpa [Value.ownBlock] using hk
    subst this
    unfold AtG At at hA
    rw [hh] at hA
    injection hA with hA
    injection hA with _ ht
    exact absurd ht (by decide)
/-- Ahead of the next character. -/
structure PreT (w : World) (s : ByteArray) (b k : Nat) (g : G) (acc : List Int) (v : Value) (W : World) : Prop where
  at_ : AtG W b g
  own : W.ownsRow w.heap.size 5 1 v acc.length (nums .u8 acc)
  below : Below w.heap.size w W
  bb : w.heap.size ≤ b
  ok : OkG g
  lt : g.at_ < 4
  len : 4 * (acc.length : Int) + 3 * g.at_ ≤ 3 * (k : Int)
  klt : k < s.size
  spec : (if (takeG g (bt s (k : Int))).2 = true then loopU (takeG g (bt s (k : Int))).1 (accG (takeG g (bt s (k : Int))).1 acc) ((k : Int) + 1) ((bytesOf s).drop (k + 1)) else ([], 12, (k : Int))) = unB st0 0 (bytesOf s)
theorem ur_shut {w wr : World} {s : ByteArray} {b k : Nat} {g : G} {acc : List Int} {v : Value} (h : UR w s b k g acc v wr) (hk : k < s.size) (h4 : g.at_ = 4) (hp : 0 < g.p) : unB st0 0 (bytesOf s) = ([], 12, (k : Int)) := by
  rw [← h.spec, drop_cons s k hk, loopU, if_pos ⟨h4, hp⟩]
theorem ur_new {w wr : World} {s : ByteArray} {b k : Nat} {g : G} {acc : List Int} {v : Value} (h : UR w s b k g acc v wr) (hk : k < s.size) (h4 : g.at_ = 4) (hp : ¬ 0 < g.p) :
    PreT w s b k G0 acc v ((((((wr.setCell ⟨b, 0, none⟩ (.int .i64 0)).setCell ⟨b, 1, none⟩ (.int .u8 0)).setCell ⟨b, 2, none⟩ (.int .u8 0)).setCell ⟨b, 3, none⟩ (.int .u8 0)).setCell ⟨b, 4, none⟩ (.int .u8 0)).setCell ⟨b, 5, none⟩ (.int .i64 0)) := by
  have hn := own_ne h.own h.at_
  have hg := grown_set (grown_set (grown_set (grown_set (grown_set (grown_set (grown_refl wr (some b)) 0 (.int .i64 0)) 1 (.int .u8 0)) 2 (.int .u8 0)) 3 (.int .u8 0)) 4 (.int .u8 0)) 5 (.int .i64 0)
  refine ⟨(((((h.at_.set 0 _).set 1 _).set 2 _).set 3 _).set 4 _).set 5 _, h.own.kept hg hn, h.below.grown hg h.below.size (fun k hk => by cases hk; exact h.bb), h.bb, ok0, by decide, by have := h.len; rw [if_pos h4] at this; exact this, hk, ?_⟩
  have e := h.spec
  rw [drop_cons s k hk, loopU, if_neg (fun z => hp z.2), if_pos h4] at e
  exact e
theorem ur_on {w wr : World} {s : ByteArray} {b k : Nat} {g : G} {acc : List Int} {v : Value} (h : UR w s b k g acc v wr) (hk : k < s.size) (h4 : g.at_ ≠ 4) : PreT w s b k g acc v wr := by
  have oa := h.ok.a
  refine ⟨h.at_, h.own, h.below, h.bb, h.ok, by omega, by have := h.len; rw [if_neg h4] at this; exact this, hk, ?_⟩
  have e := h.spec
  rw [drop_cons s k hk, loopU, if_neg (fun z => h4 z.1), if_neg h4] at e
  exact e
theorem pre_no {w W : World} {s : ByteArray} {b k : Nat} {g g2 : G} {acc : List Int} {v : Value} (h : PreT w s b k g acc v W) (hg : takeG g (bt s (k : Int)) = (g2, false)) : unB st0 0 (bytesOf s) = ([], 12, (k : Int)) := by
  rw [← h.spec, hg]
  rfl
theorem pre_step {w W W2 : World} {s : ByteArray} {b k : Nat} {g g2 : G} {acc : List Int} {v : Value} (h : PreT w s b k g acc v W) (hg : takeG g (bt s (k : Int)) = (g2, true)) (h4 : g2.at_ ≠ 4) (hA : AtG W2 b g2) (hG : W.grownBy W2 (some b)) : UR w s b (k + 1) g2 acc v W2 := by
  obtain ⟨ok2, ha2⟩ := ok_take h.ok h.lt (bt s (k : Int))
  rw [hg] at ok2 ha2
  have ha3 : g2.at_ = g.at_ + 1 := ha2 rfl
  have sp := h.spec
  rw [hg] at sp
  refine ⟨hA, h.own.kept hG (own_ne h.own h.at_), h.below.grown hG h.below.size (fun k hk => by cases hk; exact h.bb), h.bb, ok2, by have := h.len; rw [if_neg h4]; omega, ?_⟩
  rw [← sp, if_pos rfl]
  unfold accG
  rw [if_neg h4]
  rfl
theorem pre_mid {w W W2 : World} {s : ByteArray} {b k : Nat} {g g2 : G} {acc : List Int} {v : Value} (h : PreT w s b k g acc v W) (hg : takeG g (bt s (k : Int)) = (g2, true)) (hG : W.grownBy W2 (some b)) : W2.ownsRow w.heap.size 5 1 v acc.length (nums .u8 acc) ∧ OkG g2 ∧ g2.p ≤ 2 ∧ w.heap.size ≤ W2.heap.size ∧ 4 * acc.length ≤ 3 * s.size := by
  obtain ⟨ok2, ha⟩ := ok_take h.ok h.lt (bt s (k : Int))
  rw [hg] at ok2 ha
  replace ok2 : OkG g2 := ok2
  have := ok2.p
  have := ok2.a
  have := h.klt
  have := h.len
  have := h.ok.a
  exact ⟨h.own.kept hG (own_ne h.own h.at_), ok2, by omega, Nat.le_trans h.below.size hG.size, by omega⟩
theorem pre_bytes {w W W2 W3 : World} {s : ByteArray} {b k : Nat} {g g2 : G} {acc : List Int} {v v' : Value} (h : PreT w s b k g acc v W) (hg : takeG g (bt s (k : Int)) = (g2, true)) (h4 : g2.at_ = 4) (hA : AtG W2 b g2) (hG : W.grownBy W2 (some b))
    (hO : W3.ownsRow w.heap.size 5 1 v' (acc ++ bytesG g2).length (nums .u8 (acc ++ bytesG g2))) (hG3 : W2.grownBy W3 v.ownBlock) : UR w s b (k + 1) g2 (acc ++ bytesG g2) v' W3 := by
  obtain ⟨o2, ok2, _, hs2, _⟩ := pre_mid h hg hG
  have ha2 := (ok_take h.ok h.lt (bt s (k : Int))).2
  rw [hg] at ha2
  have sp := h.spec
  rw [hg] at sp
  have hn := own_ne o2 hA
  have hbl : (bytesG g2).length ≤ 3 := by unfold bytesG; (repeat' split) <;> simp
  refine ⟨hA.grown hG3 (fun e => ?_), hO, (h.below.grown hG h.below.size (fun k hk => by cases hk; exact h.bb)).grown hG3 hs2 (fun k hk => own_base o2 k hk), h.bb, ok2, by have := h.len; have ha3 : g2.at_ = g.at_ + 1 := ha2 rfl; rw [List.length_append, if_pos h4]; omega, ?_⟩
  · rcases hn with hn | hn
    · rw [hn] at e; cases e
    · exact hn e.symm
  · rw [← sp, if_pos rfl]
    unfold accG
    rw [if_pos h4]
    rfl
theorem take_as (b : Nat) (g g2 : G) (ok2 : Bool) (c : Int) (w : World) (hA : AtG w b g) (ok : OkG g) (h4 : g.at_ < 4) (h0 : 0 ≤ c) (h1 : c ≤ 255) (hq : takeG g c = (g2, ok2)) :
    Calls Tryd.prog 16 #[.pointer (some ⟨b, 0, none⟩), .int .u8 c] w fun e w' => e = .returned (.bool ok2) ∧ AtG w' b g2 ∧ w.grownBy w' (some b) := (take b g c w hA ok h4 h0 h1).mono (by
  rintro e w' ⟨h1, h2, h3⟩
  rw [hq] at h1 h2
  exact ⟨h1, h2, h3⟩)
theorem ret3 {w W : World} {s : ByteArray} {x : ByteArray} {y z : Int} {l : List Int} (h : unB st0 0 (bytesOf s) = (l, y, z)) (hx : x = strOfNums l) (hb : Below w.heap.size w W) : UQ w s (.returned (.tuple #[.string x, .int .i64 y, .int .i64 z])) W := by
  subst hx
  unfold UQ
  rw [h]
  exact ⟨rfl, hb⟩
set_option maxHeartbeats 2000000 in
theorem unbase64 (s : ByteArray) (w : World) (hs : s.size ≤ 140737488355328) : Calls Tryd.prog 10 #[.string s] w (UQ w s) := by
  obtain ⟨i0, hi, hz0, hz1, hz2⟩ := info_parts infoB
  have hq : (s.size : Int) / 4 * 3 = ((s.size / 4 * 3 : Nat) : Int) := by omega
  obtain ⟨Wm, hmk, hown, hgrow⟩ := run_make_own (P := Tryd.prog) w w.heap.size 28 5 i0 (.int .u8 0) 1 Tryd.underlying28 hi hz0 hz1 .i64 .i64 (s.size / 4 * 3) (by rw [hz2]; omega) (by simp only [maxLen]; omega) (Nat.le_refl _)
  rw [← hq] at hmk
  clear hq hi hz0 hz1 hz2
  have HB0 : Below w.heap.size w Wm := (Below.refl _ w).grown hgrow (Nat.le_refl _) (fun k hk => by cases hk)
  have hsz := HB0.size
  have HO : Hid (Wm.ownsRow w.heap.size 5 1 (.slice (some ⟨w.heap.size, 0, none⟩) 0 (s.size / 4 * 3)) 0 []) := hown
  have HB : Hid (Below w.heap.size w Wm) := HB0
  clear hown hgrow HB0
  go_enter Tryd.func10, Tryd.ntmps10
  go_wp2_with fail
  go_loopw [5, 16] (fun v i wr => ∃ (k : Nat) (g : G) (acc : List Int), k ≤ s.size ∧ i = .int .i64 k ∧ Hid (UR w s Wm.heap.size k g acc v wr)) (fun _ i _ => s.size - (intOf i).toNat)
  case atStart =>
    refine ⟨0, G0, [], by omega, rfl, UR.mk (At.fresh Wm (cellsG G0) 39) (HO.out.alloc _) (HB.out.alloc hsz _) hsz ok0 (by show 4 * ((0 : Nat) : Int) + 3 * (if (0 : Int) = 4 then 0 else 0) ≤ 3 * ((0 : Nat) : Int); decide) ?_⟩
    rw [List.drop_zero]
    exact loopU_at _
  case round =>
    obtain ⟨k, g, acc, hk, rfl, HR⟩ := hrel
    by_cases hlt : k < s.size
    · have R := HR.out
      have hb := bt_range s (k : Int)
      have hx : (((s[k]'hlt).toNat : Nat) : Int) = bt s (k : Int) := bt_at s (k : Int) (by simpa using hlt)
      have c0 : wr.cell? ⟨Wm.heap.size, 0, none⟩ = some (.int .i64 g.at_) := R.at_.get 0 _ rfl
      have c1 : wr.cell? ⟨Wm.heap.size, 1, none⟩ = some (.int .u8 g.w0) := R.at_.get 1 _ rfl
      have c2 : wr.cell? ⟨Wm.heap.size, 2, none⟩ = some (.int .u8 g.w1) := R.at_.get 2 _ rfl
      have c3 : wr.cell? ⟨Wm.heap.size, 3, none⟩ = some (.int .u8 g.w2) := R.at_.get 3 _ rfl
      have c4 : wr.cell? ⟨Wm.heap.size, 4, none⟩ = some (.int .u8 g.w3) := R.at_.get 4 _ rfl
      have c5 : wr.cell? ⟨Wm.heap.size, 5, none⟩ = some (.int .i64 g.p) := R.at_.get 5 _ rfl
      have f0 := R.at_.free 0
      have f1 := R.at_.free 1
      have f2 := R.at_.free 2
      have f3 := R.at_.free 3
      have f4 := R.at_.free 4
      have f5 := R.at_.free 5
      have oka := R.ok.a
      have okp := R.ok.p
      clear R
      by_cases h4 : g.at_ = 4
      · by_cases hp : 0 < g.p
        · go_wp2_with fail
          go_ret3
          exact ret3 (ur_shut HR.out hlt h4 hp) rfl HR.out.below
        · have HP : Hid (PreT w s Wm.heap.size k G0 acc u5 _) := ur_new HR.out hlt h4 hp
          obtain ⟨⟨g2, ok2⟩, hg2⟩ : ∃ z, takeG G0 (bt s (k : Int)) = z := ⟨_, rfl⟩
          have HG2 : Hid (takeG G0 (bt s (k : Int)) = (g2, ok2)) := hg2
          clear hg2
          cases ok2 with
          | false =>
            go_wp2_with (go_at_call 16; refine (take_as Wm.heap.size G0 g2 false (bt s (k : Int)) _ HP.out.at_ HP.out.ok HP.out.lt hb.1 hb.2 HG2.out).mono ?_; rintro e W2 ⟨rfl, hA2, hG2⟩)
            go_ret3
            exact ret3 (pre_no HP.out HG2.out) rfl (HP.out.below.grown hG2 HP.out.below.size (fun k hk => by cases hk; exact HP.out.bb))
          | true =>
            by_cases h42 : g2.at_ = 4
            · go_wp2_with (first | (go_at_call 16; refine (take_as Wm.heap.size G0 g2 true (bt s (k : Int)) _ HP.out.at_ HP.out.ok HP.out.lt hb.1 hb.2 HG2.out).mono ?_; rintro e W2 ⟨rfl, hA2, hG2⟩; have d0 : W2.cell? ⟨Wm.heap.size, 0, none⟩ = some (.int .i64 g2.at_) := hA2.get 0 _ rfl; have HA2 := Lib.hid hA2; have HG3 := Lib.hid hG2; clear hA2 hG2) | (go_at_call 17; have M := pre_mid HP.out HG2.out HG3.out; refine (Go.Proofs.YtppnhlkfkedlmaaDoor.UnX.bytes Wm.heap.size g2 w.heap.size u5 acc _ HA2.out M.2.1 M.2.2.1 M.1 M.2.2.2.1 (by have := M.2.2.2.2; omega)).mono ?_; rintro e W3 ⟨v3, rfl, hO3, hG4⟩; clear M; have HO3 := Lib.hid hO3; have HG4 := Lib.hid hG4; clear hO3 hG4))
              go_roundw
              case rel => exact ⟨k + 1, g2, acc ++ bytesG g2, by omega, by go_num, pre_bytes HP.out HG2.out h42 HA2.out HG3.out HO3.out HG4.out⟩
              case measure => simp [intOf]; omega
            · have h42' : (g2.at_ == 4) = false := beq_eq_false_iff_ne.mpr h42
              go_wp2_with (go_at_call 16; refine (take_as Wm.heap.size G0 g2 true (bt s (k : Int)) _ HP.out.at_ HP.out.ok HP.out.lt hb.1 hb.2 HG2.out).mono ?_; rintro e W2 ⟨rfl, hA2, hG2⟩; have d0 : W2.cell? ⟨Wm.heap.size, 0, none⟩ = some (.int .i64 g2.at_) := hA2.get 0 _ rfl; have HA2 := Lib.hid hA2; have HG3 := Lib.hid hG2; clear hA2 hG2)
              go_roundw
              case rel => exact ⟨k + 1, g2, acc, by omega, by go_num, pre_step HP.out HG2.out h42 HA2.out HG3.out⟩
              case measure => simp [intOf]; omega
      · have h4' : (g.at_ == 4) = false := beq_eq_false_iff_ne.mpr h4
        have HP : Hid (PreT w s Wm.heap.size k g acc u5 wr) := ur_on HR.out hlt h4
        obtain ⟨⟨g2, ok2⟩, hg2⟩ : ∃ z, takeG g (bt s (k : Int)) = z := ⟨_, rfl⟩
        have HG2 : Hid (takeG g (bt s (k : Int)) = (g2, ok2)) := hg2
        clear hg2
        cases ok2 with
        | false =>
          go_wp2_with (go_at_call 16; refine (take_as Wm.heap.size g g2 false (bt s (k : Int)) _ HP.out.at_ HP.out.ok HP.out.lt hb.1 hb.2 HG2.out).mono ?_; rintro e W2 ⟨rfl, hA2, hG2⟩)
          go_ret3
          exact ret3 (pre_no HP.out HG2.out) rfl (HP.out.below.grown hG2 HP.out.below.size (fun k hk => by cases hk; exact HP.out.bb))
        | true =>
          by_cases h42 : g2.at_ = 4
          · go_wp2_with (first | (go_at_call 16; refine (take_as Wm.heap.size g g2 true (bt s (k : Int)) _ HP.out.at_ HP.out.ok HP.out.lt hb.1 hb.2 HG2.out).mono ?_; rintro e W2 ⟨rfl, hA2, hG2⟩; have d0 : W2.cell? ⟨Wm.heap.size, 0, none⟩ = some (.int .i64 g2.at_) := hA2.get 0 _ rfl; have HA2 := Lib.hid hA2; have HG3 := Lib.hid hG2; clear hA2 hG2) | (go_at_call 17; have M := pre_mid HP.out HG2.out HG3.out; refine (Go.Proofs.YtppnhlkfkedlmaaDoor.UnX.bytes Wm.heap.size g2 w.heap.size u5 acc _ HA2.out M.2.1 M.2.2.1 M.1 M.2.2.2.1 (by have := M.2.2.2.2; omega)).mono ?_; rintro e W3 ⟨v3, rfl, hO3, hG4⟩; clear M; have HO3 := Lib.hid hO3; have HG4 := Lib.hid hG4; clear hO3 hG4))
            go_roundw
            case rel => exact ⟨k + 1, g2, acc ++ bytesG g2, by omega, by go_num, pre_bytes HP.out HG2.out h42 HA2.out HG3.out HO3.out HG4.out⟩
            case measure => simp [intOf]; omega
          · have h42' : (g2.at_ == 4) = false := beq_eq_false_iff_ne.mpr h42
            go_wp2_with (go_at_call 16; refine (take_as Wm.heap.size g g2 true (bt s (k : Int)) _ HP.out.at_ HP.out.ok HP.out.lt hb.1 hb.2 HG2.out).mono ?_; rintro e W2 ⟨rfl, hA2, hG2⟩; have d0 : W2.cell? ⟨Wm.heap.size, 0, none⟩ = some (.int .i64 g2.at_) := hA2.get 0 _ rfl; have HA2 := Lib.hid hA2; have HG3 := Lib.hid hG2; clear hA2 hG2)
            go_roundw
            case rel => exact ⟨k + 1, g2, acc, by omega, by go_num, pre_step HP.out HG2.out h42 HA2.out HG3.out⟩
            case measure => simp [intOf]; omega
    · obtain rfl : k = s.size := by omega
      have hf : unB st0 0 (bytesOf s) = if (s.size : Int) % 4 = 0 then (acc, 0, (s.size : Int)) else ([], 12, (s.size : Int)) := by
        rw [← HR.out.spec, List.drop_eq_nil_of_le (by rw [bytesOf_length]; exact Nat.le_refl _), loopU]
      have HF := Lib.hid hf
      clear hf
      obtain ⟨A5, c5, rfl⟩ := own_slice HR.out.own
      have hst := own_string (P := Tryd.prog) (src := 28) (dst := 9) Tryd.underlying28 Tryd.underlying5 Tryd.underlying9 HR.out.own
      by_cases hm : (s.size : Int) % 4 = 0
      · go_wp2
        go_ret3
        exact ret3 (HF.out.trans (if_pos hm)) rfl HR.out.below
      · have hm' : ((s.size : Int) % 4 == 0) = false := beq_eq_false_iff_ne.mpr hm
        go_wp2
        go_ret3
        exact ret3 (HF.out.trans (if_neg hm)) rfl HR.out.below
end Go.Proofs.YtppnhlkfkedlmaaDoor.UnY
namespace Go.Proofs.YtppnhlkfkedlmaaDoor.UnZ
open Go.RowKit Go.Proofs.YtppnhlkfkedlmaaDoor.Blk Go.Proofs.YtppnhlkfkedlmaaDoor.L64 Go.Proofs.YtppnhlkfkedlmaaDoor.UnB64 Go.Proofs.YtppnhlkfkedlmaaDoor.RawB64 Go.Proofs.YtppnhlkfkedlmaaDoor.UnW Go.Proofs.YtppnhlkfkedlmaaDoor.UnX Go.Proofs.YtppnhlkfkedlmaaDoor.UnY Go.Proofs.YtppnhlkfkedlmaaDoorW.PrintWords Go.Proofs.YtppnhlkfkedlmaaDoorW.PrintLast Go.Proofs.YtppnhlkfkedlmaaDoorW.PrintMore
def unS (s : ByteArray) : List Int × Int × Int := unB st0 0 (bytesOf s)
def text_Unbase64.f (a0 : ByteArray) : Option (ByteArray × Int × Int) := if a0.size ≤ 140737488355328 then some (strOfNums (unS a0).1, (unS a0).2.1, (unS a0).2.2) else none
theorem text_Unbase64.calls (a0 : ByteArray) (r1 : ByteArray) (r2 : Int) (r3 : Int) (w : World) (h : text_Unbase64.f a0 = some (r1, r2, r3)) :
    Calls Tryd.prog 10 #[.string a0] w fun e w' => e = .returned (.tuple #[.string r1, .int .i64 r2, .int .i64 r3]) ∧ Below w.heap.size w w' := by
  unfold text_Unbase64.f at h
  split at h
  case isFalse => cases h
  case isTrue hs =>
  have h2 := Option.some.inj h
  simp only [Prod.mk.injEq] at h2
  obtain ⟨rfl, rfl, rfl⟩ := h2
  exact unbase64 a0 w hs
/-- The five ends. -/
def endAt : Nat → ByteArray
  | 0 => ⟨#[]⟩
  | 1 => ⟨#[61]⟩
  | 2 => ⟨#[65]⟩
  | 3 => ⟨#[65, 65]⟩
  | _ => ⟨#[65, 65, 65]⟩
def hits (s : ByteArray) (k : Nat) : Bool := decide ((unS (s ++ endAt k)).2.1 = 0)
def goesB (s : ByteArray) : Bool := hits s 0 || hits s 1 || hits s 2 || hits s 3 || hits s 4
def endsL : List Value := [.string (endAt 0), .string (endAt 1), .string (endAt 2), .string (endAt 3), .string (endAt 4)]
structure GR (w : World) (s : ByteArray) (k : Nat) (wr : World) : Prop where
  at_ : At wr w.heap.size endsL 42
  below : Below w.heap.size w wr
  none_ : ∀ j, j < k → hits s j = false
def GQ (w : World) (s : ByteArray) (e : Ending) (w' : World) : Prop := e = .returned (.bool (goesB s)) ∧ Below w.heap.size w w'
theorem gq_yes {w W : World} {s : ByteArray} {k : Nat} (hk : k < 5) (h : hits s k = true) (hb : Below w.heap.size w W) : GQ w s (.returned (.bool true)) W := by
  refine ⟨?_, hb⟩
  have : goesB s = true := by
    unfold goesB
    rcases (show k = 0 ∨ k = 1 ∨ k = 2 ∨ k = 3 ∨ k = 4 by omega) with rfl | rfl | rfl | rfl | rfl <;> simp [h]
  rw [this]
theorem gq_no {w W : World} {s : ByteArray} (h : GR w s 5 W) : GQ w s (.returned (.bool false)) W := by
  refine ⟨?_, h.below⟩
  have : goesB s = false := by
    unfold goesB
    rw [h.none_ 0 (by omega), h.none_ 1 (by omega), h.none_ 2 (by omega), h.none_ 3 (by omega), h.none_ 4 (by omega)]
    rfl
  rw [this]
theorem gr_step {w wr W : World} {s : ByteArray} {k : Nat} (h : GR w s k wr) (hn : hits s k = false) (hb : Below wr.heap.size wr W) : GR w s (k + 1) W := by
  have hl := h.at_.lt
  refine ⟨h.at_.below hb hl, h.below.trans (hb.mono (Nat.le_of_lt hl)), fun j hj => ?_⟩
  by_cases e : j = k
  · subst e; exact hn
  · exact h.none_ j (by omega)
theorem unb_as (s : ByteArray) (w : World) (hs : s.size ≤ 140737488355328) : Calls Tryd.prog 10 #[.string s] w fun e w' => e = .returned (.tuple #[.string (strOfNums (unS s).1), .int .i64 (unS s).2.1, .int .i64 (unS s).2.2]) ∧ Below w.heap.size w w' := unbase64 s w hs
set_option maxHeartbeats 2000000 in
theorem goes (s : ByteArray) (w : World) (hs : s.size ≤ 140737488355320) : Calls Tryd.prog 12 #[.string s] w (GQ w s) := by
  go_enter Tryd.func12, Tryd.ntmps12
  go_wp2_with fail
  go_loopw [4] (fun i wr => ∃ k : Nat, k ≤ 5 ∧ i = .int .i64 k ∧ Hid (GR w s k wr)) (fun i _ => 5 - (intOf i).toNat)
  case atStart => exact ⟨0, by omega, rfl, ⟨At.fresh w endsL 42, (Below.refl _ w).alloc (Nat.le_refl _) _, fun j hj => absurd hj (by omega)⟩⟩
  case round =>
    obtain ⟨k, hk, rfl, HR⟩ := hrel
    by_cases hlt : k < 5
    · rcases (show k = 0 ∨ k = 1 ∨ k = 2 ∨ k = 3 ∨ k = 4 by omega) with rfl | rfl | rfl | rfl | rfl
      · have cK : wr.cell? ⟨w.heap.size, 0, none⟩ = some (.string (⟨#[]⟩ : ByteArray)) := HR.out.at_.get 0 _ rfl
        by_cases hz : (unS (s ++ (⟨#[]⟩ : ByteArray))).2.1 = 0
        · have hz' : ((unS (s ++ (⟨#[]⟩ : ByteArray))).2.1 == 0) = true := beq_iff_eq.mpr hz
          have HZ : Hid (hits s 0 = true) := decide_eq_true hz
          clear hz
          go_wp2_with (first | (go_at_call 10; refine (unb_as (s ++ (⟨#[]⟩ : ByteArray)) _ (by rw [ByteArray.size_append]; show s.size + 0 ≤ _; omega)).mono ?_; rintro e W2 ⟨rfl, hb2⟩; have HB2 := Lib.hid hb2; clear hb2) | go_in)
          go_ret
          exact gq_yes (k := 0) (by omega) HZ.out (HR.out.below.trans (HB2.out.mono HR.out.below.size))
        · have hz' : ((unS (s ++ (⟨#[]⟩ : ByteArray))).2.1 == 0) = false := beq_eq_false_iff_ne.mpr hz
          have HZ : Hid (hits s 0 = false) := decide_eq_false hz
          clear hz
          go_wp2_with (first | (go_at_call 10; refine (unb_as (s ++ (⟨#[]⟩ : ByteArray)) _ (by rw [ByteArray.size_append]; show s.size + 0 ≤ _; omega)).mono ?_; rintro e W2 ⟨rfl, hb2⟩; have HB2 := Lib.hid hb2; clear hb2) | go_in)
          go_roundw
          case rel => exact ⟨1, by omega, by first | rfl | go_num, gr_step HR.out HZ.out HB2.out⟩
          case measure => simp [intOf]; (try omega)
      · have cK : wr.cell? ⟨w.heap.size, 1, none⟩ = some (.string (⟨#[61]⟩ : ByteArray)) := HR.out.at_.get 1 _ rfl
        by_cases hz : (unS (s ++ (⟨#[61]⟩ : ByteArray))).2.1 = 0
        · have hz' : ((unS (s ++ (⟨#[61]⟩ : ByteArray))).2.1 == 0) = true := beq_iff_eq.mpr hz
          have HZ : Hid (hits s 1 = true) := decide_eq_true hz
          clear hz
          go_wp2_with (first | (go_at_call 10; refine (unb_as (s ++ (⟨#[61]⟩ : ByteArray)) _ (by rw [ByteArray.size_append]; show s.size + 1 ≤ _; omega)).mono ?_; rintro e W2 ⟨rfl, hb2⟩; have HB2 := Lib.hid hb2; clear hb2) | go_in)
          go_ret
          exact gq_yes (k := 1) (by omega) HZ.out (HR.out.below.trans (HB2.out.mono HR.out.below.size))
        · have hz' : ((unS (s ++ (⟨#[61]⟩ : ByteArray))).2.1 == 0) = false := beq_eq_false_iff_ne.mpr hz
          have HZ : Hid (hits s 1 = false) := decide_eq_false hz
          clear hz
          go_wp2_with (first | (go_at_call 10; refine (unb_as (s ++ (⟨#[61]⟩ : ByteArray)) _ (by rw [ByteArray.size_append]; show s.size + 1 ≤ _; omega)).mono ?_; rintro e W2 ⟨rfl, hb2⟩; have HB2 := Lib.hid hb2; clear hb2) | go_in)
          go_roundw
          case rel => exact ⟨2, by omega, by first | rfl | go_num, gr_step HR.out HZ.out HB2.out⟩
          case measure => simp [intOf]; (try omega)
      · have cK : wr.cell? ⟨w.heap.size, 2, none⟩ = some (.string (⟨#[65]⟩ : ByteArray)) := HR.out.at_.get 2 _ rfl
        by_cases hz : (unS (s ++ (⟨#[65]⟩ : ByteArray))).2.1 = 0
        · have hz' : ((unS (s ++ (⟨#[65]⟩ : ByteArray))).2.1 == 0) = true := beq_iff_eq.mpr hz
          have HZ : Hid (hits s 2 = true) := decide_eq_true hz
          clear hz
          go_wp2_with (first | (go_at_call 10; refine (unb_as (s ++ (⟨#[65]⟩ : ByteArray)) _ (by rw [ByteArray.size_append]; show s.size + 1 ≤ _; omega)).mono ?_; rintro e W2 ⟨rfl, hb2⟩; have HB2 := Lib.hid hb2; clear hb2) | go_in)
          go_ret
          exact gq_yes (k := 2) (by omega) HZ.out (HR.out.below.trans (HB2.out.mono HR.out.below.size))
        · have hz' : ((unS (s ++ (⟨#[65]⟩ : ByteArray))).2.1 == 0) = false := beq_eq_false_iff_ne.mpr hz
          have HZ : Hid (hits s 2 = false) := decide_eq_false hz
          clear hz
          go_wp2_with (first | (go_at_call 10; refine (unb_as (s ++ (⟨#[65]⟩ : ByteArray)) _ (by rw [ByteArray.size_append]; show s.size + 1 ≤ _; omega)).mono ?_; rintro e W2 ⟨rfl, hb2⟩; have HB2 := Lib.hid hb2; clear hb2) | go_in)
          go_roundw
          case rel => exact ⟨3, by omega, by first | rfl | go_num, gr_step HR.out HZ.out HB2.out⟩
          case measure => simp [intOf]; (try omega)
      · have cK : wr.cell? ⟨w.heap.size, 3, none⟩ = some (.string (⟨#[65, 65]⟩ : ByteArray)) := HR.out.at_.get 3 _ rfl
        by_cases hz : (unS (s ++ (⟨#[65, 65]⟩ : ByteArray))).2.1 = 0
        · have hz' : ((unS (s ++ (⟨#[65, 65]⟩ : ByteArray))).2.1 == 0) = true := beq_iff_eq.mpr hz
          have HZ : Hid (hits s 3 = true) := decide_eq_true hz
          clear hz
          go_wp2_with (first | (go_at_call 10; refine (unb_as (s ++ (⟨#[65, 65]⟩ : ByteArray)) _ (by rw [ByteArray.size_append]; show s.size + 2 ≤ _; omega)).mono ?_; rintro e W2 ⟨rfl, hb2⟩; have HB2 := Lib.hid hb2; clear hb2) | go_in)
          go_ret
          exact gq_yes (k := 3) (by omega) HZ.out (HR.out.below.trans (HB2.out.mono HR.out.below.size))
        · have hz' : ((unS (s ++ (⟨#[65, 65]⟩ : ByteArray))).2.1 == 0) = false := beq_eq_false_iff_ne.mpr hz
          have HZ : Hid (hits s 3 = false) := decide_eq_false hz
          clear hz
          go_wp2_with (first | (go_at_call 10; refine (unb_as (s ++ (⟨#[65, 65]⟩ : ByteArray)) _ (by rw [ByteArray.size_append]; show s.size + 2 ≤ _; omega)).mono ?_; rintro e W2 ⟨rfl, hb2⟩; have HB2 := Lib.hid hb2; clear hb2) | go_in)
          go_roundw
          case rel => exact ⟨4, by omega, by first | rfl | go_num, gr_step HR.out HZ.out HB2.out⟩
          case measure => simp [intOf]; (try omega)
      · have cK : wr.cell? ⟨w.heap.size, 4, none⟩ = some (.string (⟨#[65, 65, 65]⟩ : ByteArray)) := HR.out.at_.get 4 _ rfl
        by_cases hz : (unS (s ++ (⟨#[65, 65, 65]⟩ : ByteArray))).2.1 = 0
        · have hz' : ((unS (s ++ (⟨#[65, 65, 65]⟩ : ByteArray))).2.1 == 0) = true := beq_iff_eq.mpr hz
          have HZ : Hid (hits s 4 = true) := decide_eq_true hz
          clear hz
          go_wp2_with (first | (go_at_call 10; refine (unb_as (s ++ (⟨#[65, 65, 65]⟩ : ByteArray)) _ (by rw [ByteArray.size_append]; show s.size + 3 ≤ _; omega)).mono ?_; rintro e W2 ⟨rfl, hb2⟩; have HB2 := Lib.hid hb2; clear hb2) | go_in)
          go_ret
          exact gq_yes (k := 4) (by omega) HZ.out (HR.out.below.trans (HB2.out.mono HR.out.below.size))
        · have hz' : ((unS (s ++ (⟨#[65, 65, 65]⟩ : ByteArray))).2.1 == 0) = false := beq_eq_false_iff_ne.mpr hz
          have HZ : Hid (hits s 4 = false) := decide_eq_false hz
          clear hz
          go_wp2_with (first | (go_at_call 10; refine (unb_as (s ++ (⟨#[65, 65, 65]⟩ : ByteArray)) _ (by rw [ByteArray.size_append]; show s.size + 3 ≤ _; omega)).mono ?_; rintro e W2 ⟨rfl, hb2⟩; have HB2 := Lib.hid hb2; clear hb2) | go_in)
          go_roundw
          case rel => exact ⟨5, by omega, by first | rfl | go_num, gr_step HR.out HZ.out HB2.out⟩
          case measure => simp [intOf]; (try omega)
    · obtain rfl : k = 5 := by omega
      go_wp2_with fail
      go_ret
      exact gq_no HR.out
def rosterlaw01_goes.f (a0 : ByteArray) : Option Bool := if a0.size ≤ 140737488355320 then some (goesB a0) else none
theorem rosterlaw01_goes.calls (a0 : ByteArray) (r : Bool) (w : World) (h : rosterlaw01_goes.f a0 = some r) : Calls Tryd.prog 12 #[.string a0] w fun e w' => e = .returned (.bool r) ∧ Below w.heap.size w w' := by
  unfold rosterlaw01_goes.f at h
  split at h
  case isFalse => cases h
  case isTrue hs =>
  obtain rfl := Option.some.inj h
  exact goes a0 w hs
end Go.Proofs.YtppnhlkfkedlmaaDoor.UnZ

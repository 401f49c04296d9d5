/- By hand: text.Safe (a range over a string). For every text of at most 2^62 bytes and every world. (25: the function's number.) -/
import Derived.Test.YtogkibhbkapobaaDoorProg
import Derived.WalkKit
import Derived.Test.YtogkibhbkapobaaDoorWMore
import Derived.Lib.OthersKept
import Derived.Laws.RangeAny
set_option linter.unusedVariables false
set_option linter.unusedSimpArgs false
namespace Go.Proofs.YtogkibhbkapobaaDoor.XS
open Go.RowKit Go.Proofs.YtogkibhbkapobaaDoorW.PrintWords Go.Proofs.YtogkibhbkapobaaDoorW.PrintLast Go.Proofs.YtogkibhbkapobaaDoorW.PrintMore

/-- May the bytes stand plain? first: is the next one the text's first? -/
def safeL : Bool → List Int → Bool
  | _, [] => true
  | first, c :: r => if c = 0 ∨ c = 10 ∨ c = 13 ∨ c > 127 then false else if first = true ∧ (c = 32 ∨ c = 58 ∨ c = 60) then false else safeL false r
def text_Safe.f (a0 : ByteArray) : Option Bool := if a0.size ≤ 4611686018427387904 then some (safeL true (bytesOf a0)) else none
theorem drop_cons (s : ByteArray) (i : Nat) (h : i < s.size) : (bytesOf s).drop i = bt s (i : Int) :: (bytesOf s).drop (i + 1) := by
  have hl : i < (bytesOf s).length := by rw [bytesOf_length]; exact h
  rw [List.drop_eq_getElem_cons hl, ← rd_bytesOf]
  simp [rd, List.getD_eq_getElem?_getD, List.getElem?_eq_getElem hl]
theorem safe_bad {s : ByteArray} {pos : Nat} (h : pos < s.size) {f : Bool} (hb : bt s (pos : Int) = 0 ∨ bt s (pos : Int) = 10 ∨ bt s (pos : Int) = 13 ∨ bt s (pos : Int) > 127) (hS : Hid (safeL true (bytesOf s) = safeL f ((bytesOf s).drop pos))) : safeL true (bytesOf s) = false := by
  rw [hS.out, drop_cons s pos h, safeL, if_pos hb]
theorem safe_first {s : ByteArray} {pos : Nat} (h : pos < s.size) (h0 : (pos : Int) = 0) (hb : bt s (pos : Int) = 32 ∨ bt s (pos : Int) = 58 ∨ bt s (pos : Int) = 60) (hS : Hid (safeL true (bytesOf s) = safeL (decide (pos = 0)) ((bytesOf s).drop pos))) : safeL true (bytesOf s) = false := by
  rw [hS.out, drop_cons s pos h, safeL, if_neg (by omega), if_pos ⟨decide_eq_true (by omega), hb⟩]
theorem safe_on {s : ByteArray} {pos : Nat} (h : pos < s.size) (hb : ¬ (bt s (pos : Int) = 0 ∨ bt s (pos : Int) = 10 ∨ bt s (pos : Int) = 13 ∨ bt s (pos : Int) > 127)) (hf : ¬ ((pos : Int) = 0 ∧ (bt s (pos : Int) = 32 ∨ bt s (pos : Int) = 58 ∨ bt s (pos : Int) = 60))) (hS : Hid (safeL true (bytesOf s) = safeL (decide (pos = 0)) ((bytesOf s).drop pos))) : safeL true (bytesOf s) = safeL (decide (pos + 1 = 0)) ((bytesOf s).drop (pos + 1)) := by
  rw [hS.out, drop_cons s pos h, safeL, if_neg hb, if_neg (fun z => hf ⟨by have := of_decide_eq_true z.1; omega, z.2⟩)]
  rfl

set_option maxHeartbeats 1000000 in
theorem text_Safe.calls (a0 : ByteArray) (r : Bool) (w : World) (h : text_Safe.f a0 = some r) :
    Calls Tryd.prog 25 #[.string a0] w fun e w' => e = .returned (.bool r) ∧ Below w.heap.size w w' := by
  unfold text_Safe.f at h
  split at h
  case isFalse => cases h
  case isTrue hs =>
  obtain rfl := Option.some.inj h
  clear h
  go_enter Tryd.func25, Tryd.ntmps25
  go_wp2
  go_loopw [] (fun wr => ∃ pos : Nat, pos ≤ a0.size ∧ wr.heap[w.heap.size]? = some (.stringIter a0 pos) ∧ Below w.heap.size w wr ∧ Hid (safeL true (bytesOf a0) = safeL (decide (pos = 0)) ((bytesOf a0).drop pos))) (fun wr => a0.size - wr.iterPos w.heap.size)
  case atStart =>
    refine ⟨0, by omega, ?_, (Below.refl _ w).alloc (Nat.le_refl _) _, (show safeL true (bytesOf a0) = safeL (decide (0 = 0)) ((bytesOf a0).drop 0) from rfl)⟩
    have := World.iter_heap w a0 0
    simpa using this
  case round =>
    obtain ⟨pos, hpos, hit, hbw, hS⟩ := hrel
    by_cases hp : pos < a0.size
    · have hbr := bt_range a0 (pos : Int)
      have hby : ((a0[pos]'hp).toNat : Int) = bt a0 (pos : Int) := bt_at a0 (pos : Int) (by simpa using hp)
      by_cases ha : (a0[pos]'hp).toNat < 128
      · rcases Nat.eq_zero_or_pos pos with h0 | h0
        · subst h0
          have hnx : ∀ ty, (Instr.next (.pointer (some ⟨w.heap.size, 0, none⟩)) true ty).run Tryd.prog wr = .ok (.tuple #[.bool true, .int .i64 0, .int .i32 (bt a0 0)]) (wr.iterAt w.heap.size a0 1) := fun ty => by
            have := Lib.run_next_ascii_at (P := Tryd.prog) wr w.heap.size a0 0 ty hit hp ha
            rw [hby] at this
            exact this
          have hit2 : (wr.iterAt w.heap.size a0 1).heap[w.heap.size]? = some (.stringIter a0 1) := Lib.iterAt_heap wr w.heap.size a0 0 1 hit
          have hbw2 := Lib.below_iterAt hbw (k := w.heap.size) (Nat.le_refl _) a0 1
          replace hS : Hid (safeL true (bytesOf a0) = safeL (decide (0 = 0)) ((bytesOf a0).drop 0)) := hS
          have hbr : 0 ≤ bt a0 0 ∧ bt a0 0 ≤ 255 := bt_range a0 0
          go_wp2
          all_goals try simp only [Bool.or_eq_true, beq_iff_eq, decide_eq_true_eq, beq_eq_false_iff_ne, ne_eq] at *
          all_goals first
            | (go_ret; exact ⟨by rw [safe_bad (pos := 0) hp (show bt a0 0 = 0 ∨ bt a0 0 = 10 ∨ bt a0 0 = 13 ∨ bt a0 0 > 127 by omega) hS]; (try rfl), hbw2⟩)
            | (go_ret; exact ⟨by rw [safe_first (pos := 0) hp rfl (show bt a0 0 = 32 ∨ bt a0 0 = 58 ∨ bt a0 0 = 60 by omega) hS]; (try rfl), hbw2⟩)
            | (exfalso; omega)
            | skip
          all_goals go_roundw
          all_goals first
            | exact ⟨1, by omega, hit2, hbw2, safe_on (pos := 0) hp (show ¬ (bt a0 0 = 0 ∨ bt a0 0 = 10 ∨ bt a0 0 = 13 ∨ bt a0 0 > 127) by omega) (show ¬ (_ ∧ (bt a0 0 = 32 ∨ bt a0 0 = 58 ∨ bt a0 0 = 60)) by omega) hS⟩
            | (simp only [World.iterPos, hit2, hit]; omega)

        · have hnx : ∀ ty, (Instr.next (.pointer (some ⟨w.heap.size, 0, none⟩)) true ty).run Tryd.prog wr = .ok (.tuple #[.bool true, .int .i64 pos, .int .i32 (bt a0 (pos : Int))]) (wr.iterAt w.heap.size a0 (pos + 1)) := fun ty => by
            rw [← hby]; exact Lib.run_next_ascii_at wr w.heap.size a0 pos ty hit hp ha
          have hit2 := Lib.iterAt_heap wr w.heap.size a0 pos (pos + 1) hit
          have hbw2 := Lib.below_iterAt hbw (k := w.heap.size) (Nat.le_refl _) a0 (pos + 1)
          go_wp2
          all_goals try simp only [Bool.or_eq_true, beq_iff_eq, decide_eq_true_eq, beq_eq_false_iff_ne, ne_eq] at *
          all_goals first
            | (go_ret; exact ⟨by rw [safe_bad hp (by omega) hS]; (try rfl), hbw2⟩)
            | (go_ret; exact ⟨by rw [safe_first hp (by omega) (by omega) hS]; (try rfl), hbw2⟩)
            | (exfalso; omega)
            | skip
          all_goals go_roundw
          all_goals first
            | exact ⟨pos + 1, by omega, hit2, hbw2, safe_on hp (by omega) (by omega) hS⟩
            | (simp only [World.iterPos, hit2, hit]; omega)
      · have hd := decode_high a0 pos hp (by omega)
        have hle := decode_le a0 pos
        have hnx : ∀ ty, (Instr.next (.pointer (some ⟨w.heap.size, 0, none⟩)) true ty).run Tryd.prog wr = _ := fun ty => Lib.run_next_any_at wr w.heap.size a0 pos ty hit hp
        have hbw2 := Lib.below_iterAt hbw (k := w.heap.size) (Nat.le_refl _) a0 (pos + (Utf8.decode a0 pos).2)
        have hb : safeL true (bytesOf a0) = false := safe_bad hp (by omega) hS
        generalize Utf8.decode a0 pos = z at *
        go_wp2
        all_goals first
          | (go_ret; exact ⟨by rw [hb]; (try rfl), hbw2⟩)
          | skip
        all_goals exfalso
        all_goals try simp only [Bool.or_eq_true, beq_iff_eq, decide_eq_true_eq, beq_eq_false_iff_ne, ne_eq] at *
        all_goals omega
    · have hnx : ∀ ty, (Instr.next (.pointer (some ⟨w.heap.size, 0, none⟩)) true ty).run Tryd.prog wr = _ := fun ty => Lib.run_next_end_at wr w.heap.size a0 pos ty hit hp
      have hb : safeL true (bytesOf a0) = true := by rw [hS.out, List.drop_eq_nil_of_le (by rw [bytesOf_length]; omega)]; rfl
      go_wp2
      go_ret
      exact ⟨by rw [hb]; (try rfl), hbw⟩
end Go.Proofs.YtogkibhbkapobaaDoor.XS

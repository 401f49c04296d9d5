/- By hand: url.Escape's loop. For every text and world. -/
import Derived.Test.YtjakabacdnfmnaaUrlA
set_option linter.unusedVariables false
set_option linter.unusedSimpArgs false
namespace Go.Proofs.Ytjakabacdnfmnaa.UrlW
open Go.RowKit Go.Shelf Go.Proofs Go.Proofs.Ytjakabacdnfmnaa.Bld Go.Proofs.YtjakabacdnfmnaaW.PrintWords Go.Proofs.YtjakabacdnfmnaaW.PrintLast Go.Proofs.YtjakabacdnfmnaaW.PrintMore
def cellsI (l : List Int) : List Value := l.map (Value.int .u8)
theorem bytes_get (s : ByteArray) (i : Nat) (h : i < s.size) : (bytesOf s).take (i + 1) = (bytesOf s).take i ++ [(s[i].toNat : Int)] := by
  have hl : i < s.data.toList.length := by rw [Array.length_toList]; exact h
  unfold bytesOf
  rw [List.take_add_one, List.getElem?_map, List.getElem?_eq_getElem hl]
  rfl
theorem escI_snoc (l : List Int) (c : Int) : escI (l ++ [c]) = escI l ++ e1 c := by unfold escI; simp
theorem e1_len (c : Int) : (e1 c).length ≤ 3 := by unfold e1; split <;> simp
theorem escI_len (l : List Int) : (escI l).length ≤ 3 * l.length := by
  unfold escI
  induction l with
  | nil => simp
  | cons x l ih =>
    have := e1_len x
    simp only [List.map_cons, List.flatten_cons, List.length_append, List.length_cons]
    omega
theorem bytesOf_len (s : ByteArray) : (bytesOf s).length = s.size := by unfold bytesOf; rw [List.length_map]; exact Array.length_toList
theorem bytesOf_range' (s : ByteArray) : ∀ x ∈ bytesOf s, 0 ≤ x ∧ x ≤ 255 := by
  intro x hx
  unfold bytesOf at hx
  obtain ⟨b, _, rfl⟩ := List.mem_map.1 hx
  have := b.toNat_lt
  omega
theorem up_range (d : Int) (h0 : 0 ≤ d) (h1 : d < 16) : 0 ≤ up d ∧ up d ≤ 255 := by unfold up; split <;> omega
theorem escI_range (l : List Int) (h : ∀ x ∈ l, 0 ≤ x ∧ x ≤ 255) : ∀ x ∈ escI l, 0 ≤ x ∧ x ≤ 255 := by
  intro x hx
  unfold escI at hx
  obtain ⟨l', hl', hx⟩ := List.mem_flatten.1 hx
  obtain ⟨c, hc, rfl⟩ := List.mem_map.1 hl'
  have hc := h c hc
  unfold e1 at hx
  split at hx
  · rw [List.mem_singleton] at hx; subst hx; exact hc
  · simp only [List.mem_cons, List.not_mem_nil, or_false] at hx
    rcases hx with rfl | rfl | rfl
    · omega
    · exact up_range _ (by omega) (by omega)
    · exact up_range _ (by omega) (by omega)
theorem cellsI_str (l : List Int) (h : ∀ x ∈ l, 0 ≤ x ∧ x ≤ 255) : Lib.byteCells (strOfNums l).data.toList = cellsI l := by
  unfold Lib.byteCells cellsI
  rw [strOfNums_data, List.map_map]
  apply List.map_congr_left
  intro x hx
  have := h x hx
  simp
  omega
theorem upN (n : Nat) (h : n < (⟨#[48, 49, 50, 51, 52, 53, 54, 55, 56, 57, 65, 66, 67, 68, 69, 70]⟩ : ByteArray).size) : (((⟨#[48, 49, 50, 51, 52, 53, 54, 55, 56, 57, 65, 66, 67, 68, 69, 70]⟩ : ByteArray)[n]'h).toNat : Int) = up (n : Int) := by
  have h2 : n < 16 := h
  rcases (show n = 0 ∨ n = 1 ∨ n = 2 ∨ n = 3 ∨ n = 4 ∨ n = 5 ∨ n = 6 ∨ n = 7 ∨ n = 8 ∨ n = 9 ∨ n = 10 ∨ n = 11 ∨ n = 12 ∨ n = 13 ∨ n = 14 ∨ n = 15 by omega) with rfl | rfl | rfl | rfl | rfl | rfl | rfl | rfl | rfl | rfl | rfl | rfl | rfl | rfl | rfl | rfl <;> rfl
set_option maxHeartbeats 4000000 in
set_option maxRecDepth 100000 in
theorem escaped_as (s : ByteArray) (w : World) (hs : 3 * s.size ≤ 140737488355328) :
    Calls Try.prog 29 #[.string s, .bool false] w fun e w' => e = .returned (.string (strOfNums (escI (bytesOf s)))) ∧ Below w.heap.size w w' := by
  have HB := Lib.hid (Lib.IsBuilderF.of (Lib.fresh_isBuilder 45 5 w))
  have HW := Lib.hid ((Below.refl w.heap.size w).alloc (Nat.le_refl _) (.cells #[.pointer none, .slice none 0 0] 45))
  have HQ : Hid (Lib.IsBuilderF 45 5 w.heap.size w.heap.size (cellsI (escI ((bytesOf s).take 0))) (w.alloc (.cells #[.pointer none, .slice none 0 0] 45)) ∧ Below w.heap.size w (w.alloc (.cells #[.pointer none, .slice none 0 0] 45))) := Lib.hid ⟨HB.out, HW.out⟩
  go_enter Try.func29, Try.ntmps29
  go_wp2_with fail
  go_loopw [6, 7, 10] (fun v6 v7 v wr => ∃ i : Nat, i ≤ s.size ∧ v = .int .i64 (i : Nat) ∧ Hid (Lib.IsBuilderF 45 5 w.heap.size w.heap.size (cellsI (escI ((bytesOf s).take i))) wr ∧ Below w.heap.size w wr)) (fun _ _ v _ => s.size - (intOf v).toNat)
  case atStart => exact ⟨0, Nat.zero_le _, rfl, HQ⟩
  case round =>
    obtain ⟨i, hi, rfl, HR⟩ := hrel
    by_cases hin : i < s.size
    · have hsn := bytes_get s i hin
      have hle := escI_len ((bytesOf s).take i)
      have hbl := bytesOf_len s
      have hlen : (cellsI (escI ((bytesOf s).take i))).length ≤ 3 * i := by
        unfold cellsI
        rw [List.length_map]
        rw [List.length_take, hbl] at hle
        omega
      have hsz := HR.out.2.size
      clear hle hbl
      have hl1 : (cellsI (escI ((bytesOf s).take i))).length + 1 ≤ 140737488355328 := by omega
      have hl2 : (cellsI (escI ((bytesOf s).take i)) ++ [Value.int .u8 37]).length + 1 ≤ 140737488355328 := by rw [List.length_append, List.length_singleton]; omega
      have HL1 := Lib.hid hl1
      have HL2 := Lib.hid hl2
      have HL3 : Hid (∀ v : Value, (cellsI (escI ((bytesOf s).take i)) ++ [Value.int .u8 37] ++ [v]).length + 1 ≤ 140737488355328) := Lib.hid fun v => by rw [List.length_append, List.length_append, List.length_singleton, List.length_singleton]; omega
      have HSN := Lib.hid hsn
      clear hsn hlen hl1 hl2
      cases hq : qB (s[i].toNat : Int) with
      | true =>
        have HQ1 := Lib.hid hq
        have HN : Hid (cellsI (escI ((bytesOf s).take i)) ++ [Value.int .u8 (s[i].toNat : Int)] = cellsI (escI ((bytesOf s).take (i + 1)))) := Lib.hid (by rw [HSN.out, escI_snoc]; unfold e1; rw [if_pos hq]; unfold cellsI; simp)
        clear hq
        go_wp2_with (first
          | (go_at_call 40; ((with_reducible refine (quiet_as _ true _ HQ1.out).mono ?_); rintro e _ ⟨rfl, rfl⟩))
          | (go_at_call 31; ((with_reducible refine (writeByte_as w.heap.size w.heap.size _ _ _ HR.out.1 HL1.out hsz).mono ?_); rintro e W2 ⟨rfl, q1, q2, _⟩; have HQ2 : Hid (Lib.IsBuilderF 45 5 w.heap.size w.heap.size (cellsI (escI ((bytesOf s).take (i + 1)))) W2 ∧ Below w.heap.size w W2) := Lib.hid ⟨.inr (by rw [← HN.out]; exact q1), HR.out.2.trans q2⟩; clear q1 q2))
          | go_in)
        go_roundw
        case rel => exact ⟨i + 1, by omega, by go_num, HQ2⟩
        case measure => simp [intOf]; omega
      | false =>
        have HQ1 := Lib.hid hq
        have HN : Hid (cellsI (escI ((bytesOf s).take i)) ++ [Value.int .u8 37] ++ [Value.int .u8 (up ((s[i].toNat / 16 : Nat) : Int))] ++ [Value.int .u8 (up ((s[i].toNat % 16 : Nat) : Int))] = cellsI (escI ((bytesOf s).take (i + 1)))) := Lib.hid (by rw [HSN.out, escI_snoc]; unfold e1; rw [hq]; unfold cellsI; simp)
        clear hq
        have hc9 := s[i].toNat_lt
        go_wp2_with (first
          | (go_at_call 40; ((with_reducible refine (quiet_as _ false _ HQ1.out).mono ?_); rintro e _ ⟨rfl, rfl⟩))
          | (go_at_call 31; (first
              | ((with_reducible refine (writeByte_as w.heap.size w.heap.size _ 37 _ HR.out.1 HL1.out hsz).mono ?_); rintro e W2 ⟨rfl, q1, q2, _⟩; have HQ2 : Hid (Lib.IsBuilderF 45 5 w.heap.size w.heap.size (cellsI (escI ((bytesOf s).take i)) ++ [Value.int .u8 37]) W2 ∧ Below w.heap.size wr W2) := Lib.hid ⟨.inr q1, q2⟩; clear q1 q2)
              | ((with_reducible refine (writeByte_as w.heap.size w.heap.size _ _ _ HQ2.out.1 HL2.out (Nat.le_trans hsz HQ2.out.2.size)).mono ?_); rintro e W3 ⟨rfl, q1, q2, _⟩; rw [upN] at q1; have HQ3 : Hid (Lib.IsBuilderF 45 5 w.heap.size w.heap.size (cellsI (escI ((bytesOf s).take i)) ++ [Value.int .u8 37] ++ [Value.int .u8 (up ((s[i].toNat / 16 : Nat) : Int))]) W3 ∧ Below w.heap.size wr W3) := Lib.hid ⟨.inr q1, HQ2.out.2.trans q2⟩; clear q1 q2)
              | ((with_reducible refine (writeByte_as w.heap.size w.heap.size _ _ _ HQ3.out.1 (HL3.out _) (Nat.le_trans hsz HQ3.out.2.size)).mono ?_); rintro e W4 ⟨rfl, q1, q2, _⟩; rw [upN] at q1; have HQ4 : Hid (Lib.IsBuilderF 45 5 w.heap.size w.heap.size (cellsI (escI ((bytesOf s).take (i + 1)))) W4 ∧ Below w.heap.size w W4) := Lib.hid ⟨.inr (by rw [← HN.out]; exact q1), HR.out.2.trans (HQ3.out.2.trans q2)⟩; clear q1 q2)))
          | go_in)
        go_roundw
        case rel => exact ⟨i + 1, by omega, by go_num, HQ4⟩
        case measure => simp [intOf]; omega
    · have hlt : ¬ ((i : Int) < (s.size : Int)) := by omega
      obtain rfl : i = s.size := by omega
      have hsz := HR.out.2.size
      have HR2 := HR.out.1
      rw [List.take_of_length_le (by rw [bytesOf_len]; exact Nat.le_refl _)] at HR2
      have HR3 : Hid (Lib.IsBuilderF 45 5 w.heap.size w.heap.size (Lib.byteCells (strOfNums (escI (bytesOf s))).data.toList) wr) := Lib.hid (by rw [cellsI_str _ (escI_range _ (bytesOf_range' s))]; exact HR2)
      clear HR2
      go_wp2_with (first
        | (go_at_call 26; ((with_reducible refine (string_as w.heap.size w.heap.size _ _ HR3.out hsz).mono ?_); rintro e W2 ⟨rfl, _, q2, _⟩; have HQ2 := Lib.hid (HR.out.2.trans q2); clear q2))
        | go_in)
      go_ret
      exact ⟨rfl, HQ2.out⟩
end Go.Proofs.Ytjakabacdnfmnaa.UrlW

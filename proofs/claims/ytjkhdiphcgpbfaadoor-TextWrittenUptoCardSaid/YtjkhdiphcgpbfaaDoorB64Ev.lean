/- text.Base64, as printed, on lists of byte numbers. For every text of at most 34359738368 bytes. -/
import Derived.Test.YtjkhdiphcgpbfaaDoorXB2
import Derived.Test.YtjkhdiphcgpbfaaDoorXV
namespace Go.Proofs.YtjkhdiphcgpbfaaDoor.B64Ev
open Go.RowKit Go.Proofs.YtjkhdiphcgpbfaaDoor.XB Go.Proofs.YtjkhdiphcgpbfaaDoor.XGW Go.Proofs.YtjkhdiphcgpbfaaDoor.XV Go.Proofs.YtjkhdiphcgpbfaaDoorW.PrintWords Go.Proofs.YtjkhdiphcgpbfaaDoorW.PrintLast
set_option linter.unusedVariables false
set_option linter.unusedSimpArgs false
def l64 (n : Int) : Int := rd let64L n
def b64 : List Int → List Int
  | a :: b :: c :: r => l64 (a / 4) :: l64 (a % 4 * 16 + b / 16) :: l64 (b % 16 * 4 + c / 64) :: l64 (c % 64) :: b64 r
  | [a, b] => [l64 (a / 4), l64 (a % 4 * 16 + b / 16), l64 (b % 16 * 4), 61]
  | [a] => [l64 (a / 4), l64 (a % 4 * 16), 61, 61]
  | [] => []
theorem fin_of (n : Int) (m : Nat) (h : 0 ≤ n) (h2 : n < m) : ∃ x : Fin m, (x.val : Int) = n := ⟨⟨n.toNat, by omega⟩, by simp; omega⟩
theorem and3 (x : Int) (h : 0 ≤ x) (h2 : x ≤ 255) : Go.bits .and .u8 x 3 = x % 4 := by
  obtain ⟨y, rfl⟩ := fin_of x 256 h (by omega)
  have : ∀ y : Fin 256, Go.bits .and .u8 (y.val : Int) 3 = (y.val : Int) % 4 := by decide +kernel
  exact this y
theorem and15 (x : Int) (h : 0 ≤ x) (h2 : x ≤ 255) : Go.bits .and .u8 x 15 = x % 16 := by
  obtain ⟨y, rfl⟩ := fin_of x 256 h (by omega)
  have : ∀ y : Fin 256, Go.bits .and .u8 (y.val : Int) 15 = (y.val : Int) % 16 := by decide +kernel
  exact this y
theorem and63 (x : Int) (h : 0 ≤ x) (h2 : x ≤ 255) : Go.bits .and .u8 x 63 = x % 64 := by
  obtain ⟨y, rfl⟩ := fin_of x 256 h (by omega)
  have : ∀ y : Fin 256, Go.bits .and .u8 (y.val : Int) 63 = (y.val : Int) % 64 := by decide +kernel
  exact this y
theorem or_4_16 (x w : Int) (h : 0 ≤ x) (h2 : x < 4) (h3 : 0 ≤ w) (h4 : w < 16) : Go.bits .or .u8 ((x * 16) % 256) w = x * 16 + w := by
  obtain ⟨y, rfl⟩ := fin_of x 4 h (by omega)
  obtain ⟨z, rfl⟩ := fin_of w 16 h3 (by omega)
  have : ∀ (y : Fin 4) (z : Fin 16), Go.bits .or .u8 (((y.val : Int) * 16) % 256) (z.val : Int) = (y.val : Int) * 16 + (z.val : Int) := by decide +kernel
  exact this y z
theorem or_16_4 (x w : Int) (h : 0 ≤ x) (h2 : x < 16) (h3 : 0 ≤ w) (h4 : w < 4) : Go.bits .or .u8 ((x * 4) % 256) w = x * 4 + w := by
  obtain ⟨y, rfl⟩ := fin_of x 16 h (by omega)
  obtain ⟨z, rfl⟩ := fin_of w 4 h3 (by omega)
  have : ∀ (y : Fin 16) (z : Fin 4), Go.bits .or .u8 (((y.val : Int) * 4) % 256) (z.val : Int) = (y.val : Int) * 4 + (z.val : Int) := by decide +kernel
  exact this y z
theorem b64_len : ∀ l : List Int, (b64 l).length = (l.length + 2) / 3 * 4
  | a :: b :: c :: r => by simp only [b64, List.length_cons, b64_len r]; omega
  | [a, b] => by simp [b64]
  | [a] => by simp [b64]
  | [] => by simp [b64]
theorem b64_le (l : List Int) : (b64 l).length ≤ 2 * l.length + 4 := by rw [b64_len]; omega
theorem list_of (s : ByteArray) : bytesOf s = (List.range s.size).map fun i : Nat => bt s (i : Int) := by
  apply List.ext_getElem?
  intro i
  by_cases h : i < s.size
  · have hl : i < (bytesOf s).length := by rw [bytesOf_length]; exact h
    simp [h, bt_byte, List.getD_eq_getElem?_getD, List.getElem?_eq_getElem hl]
  · rw [List.getElem?_eq_none (by rw [bytesOf_length]; omega), List.getElem?_eq_none (by simp; omega)]
theorem b64_loop : ∀ (n : Nat) (s : ByteArray) (acc : List Int), s.size = n → acc.length + 2 * s.size ≤ 140737488000000 → Ev (fun k => text_Base64.l0 k s acc) (strOfNums (acc ++ b64 (bytesOf s))) := by
  intro n
  induction n using Nat.strongRecOn with
  | ind n ih =>
    intro s acc hn ha
    have r0 := bt_range s 0
    have r1 := bt_range s 1
    have r2 := bt_range s 2
    have hlo := list_of s
    refine ev_round ?_
    simp only [text_Base64.l0, Option.bind_some]
    rw [and3 _ r0.1 r0.2, and15 _ r1.1 r1.2, and63 _ r2.1 r2.2, or_4_16 _ _ (by omega) (by omega) (by omega) (by omega), or_16_4 _ _ (by omega) (by omega) (by omega) (by omega), show (bt s 1 % 16 * 4) % 256 = bt s 1 % 16 * 4 from by omega, show (bt s 0 % 4 * 16) % 256 = bt s 0 % 4 * 16 from by omega]
    by_cases h3 : (s.size : Int) ≥ 3
    · refine ev_pos h3 ?_
      have hd : bytesOf s = bt s 0 :: bt s 1 :: bt s 2 :: bytesOf (s.extract 3 s.size) := by
        rw [bytesOf_extract, List.take_of_length_le (by rw [bytesOf_length]; exact Nat.le_refl _)]
        have hl := bytesOf_length s
        have e := List.take_append_drop 3 (bytesOf s)
        rw [← e]
        have h0 := bt_byte s 0
        have h1 := bt_byte s 1
        have h2 := bt_byte s 2
        generalize bytesOf s = L at *
        match L with
        | a :: b :: c :: r => simp at h0 h1 h2 ⊢; exact ⟨h0.symm, h1.symm, h2.symm⟩
        | [] => simp at hl; omega
        | [a] => simp at hl; omega
        | [a, b] => simp at hl; omega
      have := ih (s.extract 3 s.size).size (by rw [ByteArray.size_extract]; omega) (s.extract 3 s.size) (acc ++ [l64 (bt s 0 / 4), l64 (bt s 0 % 4 * 16 + bt s 1 / 16), l64 (bt s 1 % 16 * 4 + bt s 2 / 64), l64 (bt s 2 % 64)]) rfl (by rw [ByteArray.size_extract]; simp; omega)
      refine ev_pos (by omega) (ev_pos (by omega) (ev_pos (by omega) (ev_pos (by omega) (ev_pos (by omega) (ev_pos (by omega) (ev_pos (by omega) (ev_pos (by omega) (ev_pos (by omega) (ev_pos (by omega) (ev_pos (by omega) (ev_pos (by simp; omega) (ev_pos (by omega) ?_))))))))))))
      rw [hd, b64]
      simpa [l64] using this
    · refine ev_neg h3 ?_
      by_cases h2 : (s.size : Int) = 2
      · have hd : bytesOf s = [bt s 0, bt s 1] := by rw [hlo, show s.size = 2 from by omega]; rfl
        refine ev_pos h2 (ev_pos (by omega) (ev_pos (by omega) (ev_pos (by omega) (ev_pos (by omega) (ev_pos (by omega) (ev_pos (by omega) (ev_pos (by omega) (ev_pos (by omega) (ev_pos (by simp; omega) (ev_eq ?_))))))))))
        rw [hd]
        rfl
      · refine ev_neg h2 ?_
        by_cases h1 : (s.size : Int) = 1
        · have hd : bytesOf s = [bt s 0] := by rw [hlo, show s.size = 1 from by omega]; rfl
          refine ev_pos h1 (ev_pos (by omega) (ev_pos (by omega) (ev_pos (by omega) (ev_pos (by omega) (ev_pos (by omega) (ev_pos (by simp; omega) (ev_eq ?_)))))))
          rw [hd]
          rfl
        · have hd : bytesOf s = [] := by rw [hlo, show s.size = 0 from by omega]; rfl
          refine ev_neg h1 (ev_eq ?_)
          rw [hd]
          simp [b64]
theorem base64_at (s : ByteArray) (hs : s.size ≤ 34359738368) : Ev (fun k => text_Base64.f k s) (strOfNums (b64 (bytesOf s))) := by
  have := b64_loop s.size s [] rfl (by simp; omega)
  simp only [text_Base64.f]
  rw [wrp_id ((s.size : Int) + 2) (by omega) (by omega), Int.tdiv_eq_ediv_of_nonneg (by omega), wrp_id (((s.size : Int) + 2) / 3) (by omega) (by omega), wrp_id (((s.size : Int) + 2) / 3 * 4) (by omega) (by omega)]
  refine ev_pos (by omega) (ev_pos (by omega) ?_)
  simpa using this
/-- What is written is letters, or '='. -/
theorem l64_ok (n : Int) (h : 0 ≤ n) (h2 : n < 64) : 43 ≤ l64 n ∧ l64 n ≤ 122 ∧ l64 n ≠ 58 ∧ l64 n ≠ 60 ∧ l64 n ≠ 61 := by
  obtain ⟨y, rfl⟩ := fin_of n 64 h (by omega)
  have : ∀ y : Fin 64, 43 ≤ l64 (y.val : Int) ∧ l64 (y.val : Int) ≤ 122 ∧ l64 (y.val : Int) ≠ 58 ∧ l64 (y.val : Int) ≠ 60 ∧ l64 (y.val : Int) ≠ 61 := by decide +kernel
  exact this y
def Rng (l : List Int) : Prop := ∀ x ∈ l, 0 ≤ x ∧ x ≤ 255
theorem b64_ok : ∀ l : List Int, Rng l → ∀ x ∈ b64 l, 43 ≤ x ∧ x ≤ 122 ∧ x ≠ 58 ∧ x ≠ 60
  | a :: b :: c :: r, h => by
    have ha := h a (by simp)
    have hb := h b (by simp)
    have hc := h c (by simp)
    have ih := b64_ok r (fun x hx => h x (by simp [hx]))
    intro x hx
    simp only [b64, List.mem_cons] at hx
    have q1 := l64_ok (a / 4) (by omega) (by omega)
    have q2 := l64_ok (a % 4 * 16 + b / 16) (by omega) (by omega)
    have q3 := l64_ok (b % 16 * 4 + c / 64) (by omega) (by omega)
    have q4 := l64_ok (c % 64) (by omega) (by omega)
    rcases hx with rfl | rfl | rfl | rfl | hx
    · exact ⟨q1.1, q1.2.1, q1.2.2.1, q1.2.2.2.1⟩
    · exact ⟨q2.1, q2.2.1, q2.2.2.1, q2.2.2.2.1⟩
    · exact ⟨q3.1, q3.2.1, q3.2.2.1, q3.2.2.2.1⟩
    · exact ⟨q4.1, q4.2.1, q4.2.2.1, q4.2.2.2.1⟩
    · exact ih x hx
  | [a, b], h => by
    have ha := h a (by simp)
    have hb := h b (by simp)
    intro x hx
    simp only [b64, List.mem_cons, List.not_mem_nil, or_false] at hx
    have q1 := l64_ok (a / 4) (by omega) (by omega)
    have q2 := l64_ok (a % 4 * 16 + b / 16) (by omega) (by omega)
    have q3 := l64_ok (b % 16 * 4) (by omega) (by omega)
    rcases hx with rfl | rfl | rfl | rfl
    · exact ⟨q1.1, q1.2.1, q1.2.2.1, q1.2.2.2.1⟩
    · exact ⟨q2.1, q2.2.1, q2.2.2.1, q2.2.2.2.1⟩
    · exact ⟨q3.1, q3.2.1, q3.2.2.1, q3.2.2.2.1⟩
    · decide
  | [a], h => by
    have ha := h a (by simp)
    intro x hx
    simp only [b64, List.mem_cons, List.not_mem_nil, or_false] at hx
    have q1 := l64_ok (a / 4) (by omega) (by omega)
    have q2 := l64_ok (a % 4 * 16) (by omega) (by omega)
    rcases hx with rfl | rfl | rfl | rfl
    · exact ⟨q1.1, q1.2.1, q1.2.2.1, q1.2.2.2.1⟩
    · exact ⟨q2.1, q2.2.1, q2.2.2.1, q2.2.2.2.1⟩
    · decide
    · decide
  | [], h => by simp [b64]
end Go.Proofs.YtjkhdiphcgpbfaaDoor.B64Ev

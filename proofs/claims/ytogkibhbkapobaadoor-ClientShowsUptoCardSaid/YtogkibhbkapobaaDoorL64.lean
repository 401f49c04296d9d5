/- Base64's letters and a writer of base64, on lists of byte numbers. No program. -/
import Derived.Test.YtogkibhbkapobaaDoorWMore
set_option linter.unusedVariables false
set_option linter.unusedSimpArgs false
namespace Go.Proofs.YtogkibhbkapobaaDoor.L64
open Go.RowKit Go.Proofs.YtogkibhbkapobaaDoorW.PrintWords Go.Proofs.YtogkibhbkapobaaDoorW.PrintLast
def let64 : List Int := [65, 66, 67, 68, 69, 70, 71, 72, 73, 74, 75, 76, 77, 78, 79, 80, 81, 82, 83, 84, 85, 86, 87, 88, 89, 90, 97, 98, 99, 100, 101, 102, 103, 104, 105, 106, 107, 108, 109, 110, 111, 112, 113, 114, 115, 116, 117, 118, 119, 120, 121, 122, 48, 49, 50, 51, 52, 53, 54, 55, 56, 57, 43, 47]
def l64 (n : Int) : Int := rd let64 n
def b64 : List Int → List Int
  | a :: b :: c :: r => l64 (a / 4) :: l64 (a % 4 * 16 + b / 16) :: l64 (b % 16 * 4 + c / 64) :: l64 (c % 64) :: b64 r
  | [a, b] => [l64 (a / 4), l64 (a % 4 * 16 + b / 16), l64 (b % 16 * 4), 61]
  | [a] => [l64 (a / 4), l64 (a % 4 * 16), 61, 61]
  | [] => []
theorem fin_of (n : Int) (m : Nat) (h : 0 ≤ n) (h2 : n < m) : ∃ x : Fin m, (x.val : Int) = n := ⟨⟨n.toNat, by omega⟩, by simp; omega⟩
theorem and3 (x : Int) (h : 0 ≤ x) (h2 : x ≤ 255) : Go.bits .and .u8 x 3 = x % 4 := by
  obtain ⟨y, rfl⟩ := fin_of x 256 h (by omega)
  have : ∀ y : Fin 256, Go.bits .and .u8 (y.val : Int) 3 = (y.val : Int) % 4 := by decide +kernel
  exact this y
theorem and15 (x : Int) (h : 0 ≤ x) (h2 : x ≤ 255) : Go.bits .and .u8 x 15 = x % 16 := by
  obtain ⟨y, rfl⟩ := fin_of x 256 h (by omega)
  have : ∀ y : Fin 256, Go.bits .and .u8 (y.val : Int) 15 = (y.val : Int) % 16 := by decide +kernel
  exact this y
theorem and63 (x : Int) (h : 0 ≤ x) (h2 : x ≤ 255) : Go.bits .and .u8 x 63 = x % 64 := by
  obtain ⟨y, rfl⟩ := fin_of x 256 h (by omega)
  have : ∀ y : Fin 256, Go.bits .and .u8 (y.val : Int) 63 = (y.val : Int) % 64 := by decide +kernel
  exact this y
theorem or_4_16 (x w : Int) (h : 0 ≤ x) (h2 : x < 4) (h3 : 0 ≤ w) (h4 : w < 16) : Go.bits .or .u8 ((x * 16) % 256) w = x * 16 + w := by
  obtain ⟨y, rfl⟩ := fin_of x 4 h (by omega)
  obtain ⟨z, rfl⟩ := fin_of w 16 h3 (by omega)
  have : ∀ (y : Fin 4) (z : Fin 16), Go.bits .or .u8 (((y.val : Int) * 16) % 256) (z.val : Int) = (y.val : Int) * 16 + (z.val : Int) := by decide +kernel
  exact this y z
theorem or_16_4 (x w : Int) (h : 0 ≤ x) (h2 : x < 16) (h3 : 0 ≤ w) (h4 : w < 4) : Go.bits .or .u8 ((x * 4) % 256) w = x * 4 + w := by
  obtain ⟨y, rfl⟩ := fin_of x 16 h (by omega)
  obtain ⟨z, rfl⟩ := fin_of w 4 h3 (by omega)
  have : ∀ (y : Fin 16) (z : Fin 4), Go.bits .or .u8 (((y.val : Int) * 4) % 256) (z.val : Int) = (y.val : Int) * 4 + (z.val : Int) := by decide +kernel
  exact this y z
theorem b64_len : ∀ l : List Int, (b64 l).length = (l.length + 2) / 3 * 4
  | a :: b :: c :: r => by simp only [b64, List.length_cons, b64_len r]; omega
  | [a, b] => by simp [b64]
  | [a] => by simp [b64]
  | [] => by simp [b64]
theorem b64_le (l : List Int) : (b64 l).length ≤ 2 * l.length + 4 := by rw [b64_len]; omega
/-- What is written is letters, or '='. -/
theorem l64_ok (n : Int) (h : 0 ≤ n) (h2 : n < 64) : 43 ≤ l64 n ∧ l64 n ≤ 122 ∧ l64 n ≠ 58 ∧ l64 n ≠ 60 ∧ l64 n ≠ 61 := by
  obtain ⟨y, rfl⟩ := fin_of n 64 h (by omega)
  have : ∀ y : Fin 64, 43 ≤ l64 (y.val : Int) ∧ l64 (y.val : Int) ≤ 122 ∧ l64 (y.val : Int) ≠ 58 ∧ l64 (y.val : Int) ≠ 60 ∧ l64 (y.val : Int) ≠ 61 := by decide +kernel
  exact this y
def Rng (l : List Int) : Prop := ∀ x ∈ l, 0 ≤ x ∧ x ≤ 255
theorem b64_ok : ∀ l : List Int, Rng l → ∀ x ∈ b64 l, 43 ≤ x ∧ x ≤ 122 ∧ x ≠ 58 ∧ x ≠ 60
  | a :: b :: c :: r, h => by
    have ha := h a (by simp)
    have hb := h b (by simp)
    have hc := h c (by simp)
    have ih := b64_ok r (fun x hx => h x (by simp [hx]))
    intro x hx
    simp only [b64, List.mem_cons] at hx
    have q1 := l64_ok (a / 4) (by omega) (by omega)
    have q2 := l64_ok (a % 4 * 16 + b / 16) (by omega) (by omega)
    have q3 := l64_ok (b % 16 * 4 + c / 64) (by omega) (by omega)
    have q4 := l64_ok (c % 64) (by omega) (by omega)
    rcases hx with rfl | rfl | rfl | rfl | hx
    · exact ⟨q1.1, q1.2.1, q1.2.2.1, q1.2.2.2.1⟩
    · exact ⟨q2.1, q2.2.1, q2.2.2.1, q2.2.2.2.1⟩
    · exact ⟨q3.1, q3.2.1, q3.2.2.1, q3.2.2.2.1⟩
    · exact ⟨q4.1, q4.2.1, q4.2.2.1, q4.2.2.2.1⟩
    · exact ih x hx
  | [a, b], h => by
    have ha := h a (by simp)
    have hb := h b (by simp)
    intro x hx
    simp only [b64, List.mem_cons, List.not_mem_nil, or_false] at hx
    have q1 := l64_ok (a / 4) (by omega) (by omega)
    have q2 := l64_ok (a % 4 * 16 + b / 16) (by omega) (by omega)
    have q3 := l64_ok (b % 16 * 4) (by omega) (by omega)
    rcases hx with rfl | rfl | rfl | rfl
    · exact ⟨q1.1, q1.2.1, q1.2.2.1, q1.2.2.2.1⟩
    · exact ⟨q2.1, q2.2.1, q2.2.2.1, q2.2.2.2.1⟩
    · exact ⟨q3.1, q3.2.1, q3.2.2.1, q3.2.2.2.1⟩
    · decide
  | [a], h => by
    have ha := h a (by simp)
    intro x hx
    simp only [b64, List.mem_cons, List.not_mem_nil, or_false] at hx
    have q1 := l64_ok (a / 4) (by omega) (by omega)
    have q2 := l64_ok (a % 4 * 16) (by omega) (by omega)
    rcases hx with rfl | rfl | rfl | rfl
    · exact ⟨q1.1, q1.2.1, q1.2.2.1, q1.2.2.2.1⟩
    · exact ⟨q2.1, q2.2.1, q2.2.2.1, q2.2.2.2.1⟩
    · decide
    · decide
  | [], h => by simp [b64]
end Go.Proofs.YtogkibhbkapobaaDoor.L64

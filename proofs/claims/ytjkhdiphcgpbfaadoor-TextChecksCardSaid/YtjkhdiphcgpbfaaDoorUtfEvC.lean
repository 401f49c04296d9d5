/- text.Check, as printed, tells how far whole sequences of UTF-8 go. For every text of at most 2^62 bytes. -/
import Derived.Test.YtjkhdiphcgpbfaaDoorXC3
import Derived.Test.YtjkhdiphcgpbfaaDoorUtf
namespace Go.Proofs.YtjkhdiphcgpbfaaDoor.UtfEvC
open Go.RowKit Go.Proofs.YtjkhdiphcgpbfaaDoor.XC Go.Proofs.YtjkhdiphcgpbfaaDoorW.PrintWords Go.Proofs.YtjkhdiphcgpbfaaDoorW.PrintLast Go.Proofs.YtjkhdiphcgpbfaaDoor.Utf
set_option linter.unusedVariables false
set_option linter.unusedSimpArgs false

theorem ev_pos {α : Type} {c : Prop} [Decidable c] {f g : Nat → Option α} {r : α} (hc : c) (h : Ev f r) : Ev (fun k => if c then f k else g k) r := Ev.congr (fun k => if_pos hc) h
theorem ev_neg {α : Type} {c : Prop} [Decidable c] {f g : Nat → Option α} {r : α} (hc : ¬ c) (h : Ev g r) : Ev (fun k => if c then f k else g k) r := Ev.congr (fun k => if_neg hc) h
theorem ev_round {α : Type} {g : Nat → Option α} {r : α} (h : Ev (fun k => g (k + 1)) r) : Ev g r := Ev.step (fun _ => rfl) h
theorem bt_byte (s : ByteArray) (i : Int) : bt s i = (bytesOf s).getD i.toNat 0 := by rw [← rd_bytesOf]; rfl
theorem bytes_lo (s : ByteArray) (i : Int) : 0 ≤ bt s i ∧ bt s i ≤ 255 := bt_range s i
theorem bytesOf_append (a b : ByteArray) : bytesOf (a ++ b) = bytesOf a ++ bytesOf b := by
  unfold bytesOf
  rw [← List.map_append]
  congr 1
theorem bytesOf_extract (s : ByteArray) (i j : Nat) : bytesOf (s.extract i j) = ((bytesOf s).take j).drop i := by
  unfold bytesOf
  rw [← List.map_take, ← List.map_drop]
  congr 1
  simp [List.drop_take]

theorem missing_at (b : Int) (h0 : 0 ≤ b) (m : Nat) : text_missing.f (m + 4) b =
    some (if b < 128 then (0, 128, 191, true) else if b < 194 then (0, 128, 191, false) else if b ≤ 223 then (1, 128, 191, true)
     else if b ≤ 239 then (2, lo1 b, hi1 b, true) else if b ≤ 244 then (3, lo1 b, hi1 b, true) else (0, 128, 191, false)) := by
  simp only [text_missing.f, text_missing.j0, text_missing.j1, text_missing.j2, lo1, hi1, decide_eq_true_eq]
  have hc : b < 128 ∨ (128 ≤ b ∧ b < 194) ∨ (194 ≤ b ∧ b ≤ 223) ∨ b = 224 ∨ (225 ≤ b ∧ b ≤ 236) ∨ b = 237 ∨ (238 ≤ b ∧ b ≤ 239) ∨ b = 240 ∨ (241 ≤ b ∧ b ≤ 243) ∨ b = 244 ∨ 245 ≤ b := by omega
  rcases hc with h | h | h | h | h | h | h | h | h | h | h
  all_goals repeat (first | rw [if_pos (by omega)] | rw [if_neg (by omega)] | (rw [if_neg (by decide)]))

theorem goesOn_at (b : Int) : text_goesOn.f b = some (if 128 ≤ b then decide (b ≤ 191) else false) := by
  unfold text_goesOn.f
  split <;> rfl

theorem wrp_id (n : Int) (h0 : -9223372036854775808 ≤ n) (h : n ≤ 9223372036854775807) : wrap64 n = n := by unfold wrap64; omega

theorem seq_at (s : ByteArray) (hs : 0 < s.size) (m : Nat) : text_sequence.f (m + 6) s = some (sq (bytesOf s) : Int) := by
  have hl : (bytesOf s).length = s.size := bytesOf_length s
  rw [sq_form _ (by omega)]
  have e0 : bt s 0 = (bytesOf s).getD 0 0 := bt_byte s 0
  have e1 : bt s 1 = (bytesOf s).getD 1 0 := bt_byte s 1
  have e2 : bt s 2 = (bytesOf s).getD 2 0 := bt_byte s 2
  have e3 : bt s 3 = (bytesOf s).getD 3 0 := bt_byte s 3
  have r0 := bt_range s 0
  rw [← e0, ← e1, ← e2, ← e3, hl]
  clear e0 e1 e2 e3
  simp only [text_sequence.f]
  rw [if_pos (by omega), show m + 6 = (m + 2) + 4 from rfl, missing_at _ r0.1]
  have hc : (bt s 0) < 128 ∨ (128 ≤ (bt s 0) ∧ (bt s 0) < 194) ∨ (194 ≤ (bt s 0) ∧ (bt s 0) ≤ 223) ∨ (224 ≤ (bt s 0) ∧ (bt s 0) ≤ 239) ∨ (240 ≤ (bt s 0) ∧ (bt s 0) ≤ 244) ∨ 245 ≤ (bt s 0) := by omega
  have w1 : wrap64 (0 + 1) = 1 := by rw [wrp_id] <;> decide
  have w2 : wrap64 (1 + 1) = 2 := by rw [wrp_id] <;> decide
  have w3 : wrap64 (2 + 1) = 3 := by rw [wrp_id] <;> decide
  have w4 : wrap64 (3 + 1) = 4 := by rw [wrp_id] <;> decide
  rcases hc with h | h | h | h | h | h
  · rw [if_pos h, if_pos h]
    simp only [Option.bind_some, text_sequence.j0, w1, if_true, decide_eq_true_eq]
    repeat (first | rw [if_pos (by omega)] | rw [if_neg (by omega)])
    rfl
  · rw [if_neg (by omega), if_pos h.2, if_neg (by omega), if_pos h.2]
    simp only [Option.bind_some, text_sequence.j0, if_true, decide_eq_true_eq]
    rfl
  · rw [if_neg (by omega), if_neg (by omega), if_pos h.2, if_neg (by omega), if_neg (by omega), if_pos h.2]
    simp only [Option.bind_some, text_sequence.j0, w2, if_true, decide_eq_true_eq]
    by_cases h2 : 2 ≤ s.size
    · by_cases h3 : 128 ≤ (bt s 1)
      · by_cases h4 : (bt s 1) ≤ 191
        · repeat (first | rw [if_pos (by omega)] | rw [if_neg (by omega)])
          rfl
        · repeat (first | rw [if_pos (by omega)] | rw [if_neg (by omega)])
          rfl
      · repeat (first | rw [if_pos (by omega)] | rw [if_neg (by omega)])
        rfl
    · repeat (first | rw [if_pos (by omega)] | rw [if_neg (by omega)])
      rfl
  · rw [if_neg (by omega), if_neg (by omega), if_neg (by omega), if_pos h.2, if_neg (by omega), if_neg (by omega), if_neg (by omega), if_pos h.2]
    simp only [Option.bind_some, text_sequence.j0, text_sequence.j1, goesOn_at, w3, if_true, decide_eq_true_eq]
    generalize lo1 (bt s 0) = lo
    generalize hi1 (bt s 0) = hi
    by_cases h2 : 3 ≤ s.size
    · rw [if_pos h2, if_neg (by omega), if_neg (by decide), if_pos (by omega)]
      by_cases h5 : 128 ≤ (bt s 2)
      · by_cases h6 : (bt s 2) ≤ 191
        · rw [if_pos h5, if_pos (by simpa using h6), if_pos (by omega)]
          simp only [h5, h6, if_true]
          by_cases h3 : lo ≤ (bt s 1)
          · by_cases h4 : (bt s 1) ≤ hi
            · repeat (first | rw [if_pos (by omega)] | rw [if_neg (by omega)])
              rfl
            · repeat (first | rw [if_pos (by omega)] | rw [if_neg (by omega)])
              rfl
          · repeat (first | rw [if_pos (by omega)] | rw [if_neg (by omega)])
            rfl
        · rw [if_pos h5, if_neg (by simpa using h6)]
          simp only [h5, h6, if_true, if_false, ite_self]
          rfl
      · rw [if_neg h5, if_neg (by simp)]
        simp only [h5, if_false, ite_self]
        rfl
    · rw [if_neg h2, if_pos (by omega)]
      rfl
  · rw [if_neg (by omega), if_neg (by omega), if_neg (by omega), if_neg (by omega), if_pos h.2, if_neg (by omega), if_neg (by omega), if_neg (by omega), if_neg (by omega), if_pos h.2]
    simp only [Option.bind_some, text_sequence.j0, text_sequence.j1, goesOn_at, w4, if_true, decide_eq_true_eq]
    generalize lo1 (bt s 0) = lo
    generalize hi1 (bt s 0) = hi
    by_cases h2 : 4 ≤ s.size
    · rw [if_pos h2, if_neg (by omega), if_pos (by omega)]
      by_cases h7 : 128 ≤ (bt s 3)
      · by_cases h8 : (bt s 3) ≤ 191
        · rw [if_pos h7, if_pos (by simpa using h8), if_pos (by omega)]
          by_cases h5 : 128 ≤ (bt s 2)
          · by_cases h6 : (bt s 2) ≤ 191
            · rw [if_pos h5, if_pos (by simpa using h6), if_pos (by omega)]
              simp only [h5, h6, h7, h8, if_true]
              by_cases h3 : lo ≤ (bt s 1)
              · by_cases h4 : (bt s 1) ≤ hi
                · repeat (first | rw [if_pos (by omega)] | rw [if_neg (by omega)])
                  rfl
                · repeat (first | rw [if_pos (by omega)] | rw [if_neg (by omega)])
                  rfl
              · repeat (first | rw [if_pos (by omega)] | rw [if_neg (by omega)])
                rfl
            · rw [if_pos h5, if_neg (by simpa using h6)]
              simp only [h5, h6, if_true, if_false, ite_self]
              rfl
          · rw [if_neg h5, if_neg (by simp)]
            simp only [h5, if_false, ite_self]
            rfl
        · rw [if_pos h7, if_neg (by simpa using h8)]
          simp only [h7, h8, if_true, if_false, ite_self]
          rfl
      · rw [if_neg h7, if_neg (by simp)]
        simp only [h7, if_false, ite_self]
        rfl
    · rw [if_neg h2, if_pos (by omega)]
      rfl
  · repeat rw [if_neg (by omega)]
    simp only [Option.bind_some, text_sequence.j0, if_true, decide_eq_true_eq]
    rfl

theorem seq_ev (s : ByteArray) (hs : 0 < s.size) : Ev (fun k => text_sequence.f k s) (sq (bytesOf s) : Int) := by
  refine ⟨6, fun k hk => ?_⟩
  obtain ⟨m, rfl⟩ : ∃ m, k = m + 6 := ⟨k - 6, by omega⟩
  exact seq_at s hs m

theorem check_loop (s : ByteArray) (hs : s.size ≤ 4611686018427387904) (d : Nat) : ∀ i : Nat, i + d = s.size →
    Ev (fun k => text_Check.l0 k s (i : Int)) (if i + vp ((bytesOf s).drop i) = s.size then 0 else 10, ((i + vp ((bytesOf s).drop i) : Nat) : Int)) := by
  induction d using Nat.strongRecOn with
  | _ d ih =>
    intro i hi
    have hl : (bytesOf s).length = s.size := bytesOf_length s
    by_cases hlt : i < s.size
    · have hx : bytesOf (s.extract i s.size) = (bytesOf s).drop i := by
        rw [bytesOf_extract, List.take_of_length_le (by omega)]
      have hxs : 0 < (s.extract i s.size).size := by rw [← bytesOf_length, hx, List.length_drop]; omega
      have hq := sq_le ((bytesOf s).drop i)
      rw [List.length_drop] at hq
      refine Ev.step (f := fun k => (text_sequence.f k (s.extract i s.size)).bind fun t => if t = 0 then some (10, (i : Int)) else text_Check.l0 k s (wrap64 ((i : Int) + t))) (fun k => ?_) ?_
      · simp only [text_Check.l0]
        rw [if_pos (by omega), if_pos (by omega), if_pos (by omega), Int.toNat_natCast]
      refine Ev.bind (seq_ev _ hxs) ?_
      rw [hx]
      by_cases h0 : sq ((bytesOf s).drop i) = 0
      · rw [vp_zero h0, h0]
        refine Ev.congr (fun k => if_pos rfl) ?_
        rw [if_neg (by omega)]
        exact Ev.now _
      · have hv := vp_drop h0
        rw [hv]
        refine Ev.congr (fun k => if_neg (by omega)) ?_
        rw [wrp_id _ (by omega) (by omega)]
        exact ih (d - sq ((bytesOf s).drop i)) (by omega) (i + sq ((bytesOf s).drop i)) (by omega)
    · obtain rfl : i = s.size := by omega
      rw [List.drop_of_length_le (by omega), vp_nil]
      refine Ev.step (f := fun k => some (0, (s.size : Int))) (fun k => ?_) ?_
      · simp only [text_Check.l0]
        rw [if_neg (by omega)]
      rw [if_pos (by omega)]
      exact Ev.now _

/-- Check tells how far whole sequences go. -/
theorem check_ev (s : ByteArray) (hs : s.size ≤ 4611686018427387904) :
    Ev (fun k => text_Check.f k s) (if vp (bytesOf s) = s.size then 0 else 10, (vp (bytesOf s) : Int)) := by
  have h := check_loop s hs s.size 0 (by omega)
  simp only [List.drop_zero, Nat.zero_add] at h
  exact h

end Go.Proofs.YtjkhdiphcgpbfaaDoor.UtfEvC

/- The document's Base64, as printed, on lists of byte numbers. For every text of at most 34359738368 bytes. -/
import Derived.Test.YtogkibhbkapobaaDoorXA2
import Derived.Test.YtogkibhbkapobaaDoorXV
import Derived.Test.YtogkibhbkapobaaDoorDec
namespace Go.Proofs.YtogkibhbkapobaaDoor.B64G
open Go.RowKit Go.Proofs.YtogkibhbkapobaaDoor.XA Go.Proofs.YtogkibhbkapobaaDoor.XV Go.Proofs.YtogkibhbkapobaaDoor.L64 Go.Proofs.YtogkibhbkapobaaDoor.UnB64 Go.Proofs.YtogkibhbkapobaaDoor.Dec Go.Proofs.YtogkibhbkapobaaDoorW.PrintWords Go.Proofs.YtogkibhbkapobaaDoorW.PrintLast
set_option linter.unusedVariables false
set_option linter.unusedSimpArgs false
abbrev AB : ByteArray := (⟨#[65, 66, 67, 68, 69, 70, 71, 72, 73, 74, 75, 76, 77, 78, 79, 80, 81, 82, 83, 84, 85, 86, 87, 88, 89, 90, 97, 98, 99, 100, 101, 102, 103, 104, 105, 106, 107, 108, 109, 110, 111, 112, 113, 114, 115, 116, 117, 118, 119, 120, 121, 122, 48, 49, 50, 51, 52, 53, 54, 55, 56, 57, 43, 47]⟩ : ByteArray)
theorem bt_AB (x : Int) (h : 0 ≤ x) (h2 : x < 64) : bt AB x = l64 x := by
  obtain ⟨y, rfl⟩ := fin_of x 64 h (by omega)
  have : ∀ y : Fin 64, bt AB (y.val : Int) = l64 (y.val : Int) := by decide +kernel
  exact this y
theorem group_in (s : ByteArray) {r : ByteArray} (x : Int) (i : Nat) (hi : i < 3) (hs : i < s.size) (h0 : 0 ≤ x) (h1 : x ≤ 16777216) (h : Ev (fun k => rosterref01_group.l0 k s (x * 256 + bt s (i : Int)) ((i + 1 : Nat) : Int)) r) : Ev (fun k => rosterref01_group.l0 k s x (i : Int)) r := by
  have hb := bt_range s (i : Int)
  refine ev_round ?_
  simp only [rosterref01_group.l0]
  rw [wrp_id (bt s (i : Int)) (by omega) (by omega), wrp_id (x * 256) (by omega) (by omega), wrp_id (x * 256 + bt s (i : Int)) (by omega) (by omega), wrp_id ((i : Int) + 1) (by omega) (by omega)]
  exact ev_pos (by omega) (ev_pos (by omega) (ev_pos (by omega) h))
theorem group_out (s : ByteArray) {r : ByteArray} (x : Int) (i : Nat) (hi : i < 3) (hs : s.size ≤ i) (h0 : 0 ≤ x) (h1 : x ≤ 16777216) (h : Ev (fun k => rosterref01_group.l0 k s (x * 256) ((i + 1 : Nat) : Int)) r) : Ev (fun k => rosterref01_group.l0 k s x (i : Int)) r := by
  refine ev_round ?_
  simp only [rosterref01_group.l0]
  rw [wrp_id (x * 256) (by omega) (by omega), wrp_id ((i : Int) + 1) (by omega) (by omega)]
  exact ev_pos (by omega) (ev_neg (by omega) h)
theorem group_end (s : ByteArray) (n : Int) (h0 : 0 ≤ n) (h1 : n < 16777216) (hs : 1 ≤ s.size) (hs3 : s.size ≤ 3) : Ev (fun k => rosterref01_group.l0 k s n 3) (strOfNums [l64 (n / 262144), l64 (n / 4096 % 64), if s.size > 1 then l64 (n / 64 % 64) else 61, if s.size > 2 then l64 (n % 64) else 61]) := by
  refine ev_round ?_
  simp only [rosterref01_group.l0, Option.bind_some]
  rw [Int.tdiv_eq_ediv_of_nonneg h0, Int.tdiv_eq_ediv_of_nonneg h0, Int.tdiv_eq_ediv_of_nonneg h0, wrp_id (n / 262144) (by omega) (by omega), wrp_id (n / 4096) (by omega) (by omega), wrp_id (n / 64) (by omega) (by omega), Int.tmod_eq_emod_of_nonneg (by omega), Int.tmod_eq_emod_of_nonneg (by omega), Int.tmod_eq_emod_of_nonneg h0]
  rw [show bt AB (n / 262144) = _ from bt_AB _ (by omega) (by omega), show bt AB (n / 4096 % 64) = _ from bt_AB _ (by omega) (by omega), show bt AB (n / 64 % 64) = _ from bt_AB _ (by omega) (by omega), show bt AB (n % 64) = _ from bt_AB _ (by omega) (by omega)]
  refine ev_neg (by decide) (ev_pos (by omega) (ev_pos (by omega) (ev_pos (by omega) (ev_pos (by omega) ?_))))
  by_cases c1 : s.size > 1
  · refine ev_pos (by omega) (ev_pos (by omega) (ev_pos (by omega) (ev_pos (by show (2 : Int) < 4; omega) ?_)))
    by_cases c2 : s.size > 2
    · refine ev_pos (by omega) (ev_pos (by omega) (ev_pos (by omega) (ev_pos (by show (3 : Int) < 4; omega) (ev_eq ?_))))
      rw [if_pos c1, if_pos c2]
      rfl
    · refine ev_neg (by omega) (ev_eq ?_)
      rw [if_pos c1, if_neg c2]
      rfl
  · refine ev_neg (by omega) (ev_neg (by omega) (ev_eq ?_))
    rw [if_neg c1, if_neg (by omega)]
theorem list_of (s : ByteArray) : bytesOf s = (List.range s.size).map fun i : Nat => bt s (i : Int) := by
  apply List.ext_getElem?
  intro i
  by_cases h : i < s.size
  · have hl : i < (bytesOf s).length := by rw [bytesOf_length]; exact h
    simp [h, bt_byte, List.getD_eq_getElem?_getD, List.getElem?_eq_getElem hl]
  · rw [List.getElem?_eq_none (by rw [bytesOf_length]; omega), List.getElem?_eq_none (by simp; omega)]
theorem group_ev (s : ByteArray) (hs : 1 ≤ s.size) (hs3 : s.size ≤ 3) : Ev (fun k => rosterref01_group.f k s) (strOfNums (b64 (bytesOf s))) := by
  have b0 := bt_range s ((0 : Nat) : Int)
  have b1 := bt_range s ((1 : Nat) : Int)
  have b2 := bt_range s ((2 : Nat) : Int)
  have hlo := list_of s
  show Ev (fun k => rosterref01_group.l0 k s 0 ((0 : Nat) : Int)) _
  rcases (show s.size = 1 ∨ s.size = 2 ∨ s.size = 3 by omega) with hz | hz | hz
  · have hd : bytesOf s = [bt s ((0 : Nat) : Int)] := by rw [hlo, hz]; rfl
    refine group_in s 0 0 (by omega) (by omega) (by omega) (by omega) (group_out s _ 1 (by omega) (by omega) (by omega) (by omega) (group_out s _ 2 (by omega) (by omega) (by omega) (by omega) ?_))
    have := group_end s ((0 * 256 + bt s ((0 : Nat) : Int)) * 256 * 256) (by omega) (by omega) hs hs3
    rw [if_neg (by omega), if_neg (by omega)] at this
    rw [hd, b64]
    have e1 : (0 * 256 + bt s ((0 : Nat) : Int)) * 256 * 256 / 262144 = bt s ((0 : Nat) : Int) / 4 := by omega
    have e2 : (0 * 256 + bt s ((0 : Nat) : Int)) * 256 * 256 / 4096 % 64 = bt s ((0 : Nat) : Int) % 4 * 16 := by omega
    rw [e1, e2] at this
    exact this
  · have hd : bytesOf s = [bt s ((0 : Nat) : Int), bt s ((1 : Nat) : Int)] := by rw [hlo, hz]; rfl
    refine group_in s 0 0 (by omega) (by omega) (by omega) (by omega) (group_in s _ 1 (by omega) (by omega) (by omega) (by omega) (group_out s _ 2 (by omega) (by omega) (by omega) (by omega) ?_))
    have := group_end s (((0 * 256 + bt s ((0 : Nat) : Int)) * 256 + bt s ((1 : Nat) : Int)) * 256) (by omega) (by omega) hs hs3
    rw [if_pos (by omega), if_neg (by omega)] at this
    rw [hd, b64]
    have e1 : ((0 * 256 + bt s ((0 : Nat) : Int)) * 256 + bt s ((1 : Nat) : Int)) * 256 / 262144 = bt s ((0 : Nat) : Int) / 4 := by omega
    have e2 : ((0 * 256 + bt s ((0 : Nat) : Int)) * 256 + bt s ((1 : Nat) : Int)) * 256 / 4096 % 64 = bt s ((0 : Nat) : Int) % 4 * 16 + bt s ((1 : Nat) : Int) / 16 := by omega
    have e3 : ((0 * 256 + bt s ((0 : Nat) : Int)) * 256 + bt s ((1 : Nat) : Int)) * 256 / 64 % 64 = bt s ((1 : Nat) : Int) % 16 * 4 := by omega
    rw [e1, e2, e3] at this
    exact this
  · have hd : bytesOf s = [bt s ((0 : Nat) : Int), bt s ((1 : Nat) : Int), bt s ((2 : Nat) : Int)] := by rw [hlo, hz]; rfl
    refine group_in s 0 0 (by omega) (by omega) (by omega) (by omega) (group_in s _ 1 (by omega) (by omega) (by omega) (by omega) (group_in s _ 2 (by omega) (by omega) (by omega) (by omega) ?_))
    have := group_end s (((0 * 256 + bt s ((0 : Nat) : Int)) * 256 + bt s ((1 : Nat) : Int)) * 256 + bt s ((2 : Nat) : Int)) (by omega) (by omega) hs hs3
    rw [if_pos (by omega), if_pos (by omega)] at this
    rw [hd, b64]
    have e1 : (((0 * 256 + bt s ((0 : Nat) : Int)) * 256 + bt s ((1 : Nat) : Int)) * 256 + bt s ((2 : Nat) : Int)) / 262144 = bt s ((0 : Nat) : Int) / 4 := by omega
    have e2 : (((0 * 256 + bt s ((0 : Nat) : Int)) * 256 + bt s ((1 : Nat) : Int)) * 256 + bt s ((2 : Nat) : Int)) / 4096 % 64 = bt s ((0 : Nat) : Int) % 4 * 16 + bt s ((1 : Nat) : Int) / 16 := by omega
    have e3 : (((0 * 256 + bt s ((0 : Nat) : Int)) * 256 + bt s ((1 : Nat) : Int)) * 256 + bt s ((2 : Nat) : Int)) / 64 % 64 = bt s ((1 : Nat) : Int) % 16 * 4 + bt s ((2 : Nat) : Int) / 64 := by omega
    have e4 : (((0 * 256 + bt s ((0 : Nat) : Int)) * 256 + bt s ((1 : Nat) : Int)) * 256 + bt s ((2 : Nat) : Int)) % 64 = bt s ((2 : Nat) : Int) % 64 := by omega
    rw [e1, e2, e3, e4] at this
    exact this

theorem rb_loop (s : ByteArray) (hs : s.size ≤ 34359738368) : ∀ (m i : Nat) (acc : List Int), s.size ≤ i + m → i % 3 = 0 → acc.length ≤ 2 * i → Ev (fun k => rosterref01_Base64.l0 k s acc (i : Int)) (strOfNums (acc ++ b64 ((bytesOf s).drop i)))
  | 0, i, acc, hi, h3, ha => by
    refine ev_round ?_
    simp only [rosterref01_Base64.l0]
    refine ev_neg (by omega) (ev_eq ?_)
    rw [List.drop_eq_nil_of_le (by rw [bytesOf_length]; omega)]
    simp [b64]
  | m + 1, i, acc, hi, h3, ha => by
    by_cases hlt : i < s.size
    · have hll : ((bytesOf s).drop i).length = s.size - i := by rw [List.length_drop, bytesOf_length]
      refine ev_round ?_
      simp only [rosterref01_Base64.l0]
      rw [wrp_id ((i : Int) + 3) (by omega) (by omega)]
      refine ev_pos (by omega) ?_
      by_cases hm : i + 3 > s.size
      · have hx : bytesOf (s.extract i s.size) = (bytesOf s).drop i := by rw [bytesOf_extract, List.take_of_length_le (by rw [bytesOf_length]; exact Nat.le_refl _)]
        have hg := group_ev (s.extract i s.size) (by rw [ByteArray.size_extract]; omega) (by rw [ByteArray.size_extract]; omega)
        rw [hx] at hg
        have hb4 : (b64 ((bytesOf s).drop i)).length ≤ 4 := by rw [b64_len, hll]; omega
        refine ev_pos (by omega) (ev_pos (by omega) (ev_pos (by omega) (ev_pos (by omega) ?_)))
        rw [Int.toNat_natCast, Int.toNat_natCast]
        refine Ev.bind hg (ev_pos (by rw [strOfNums_size]; omega) ?_)
        rw [bytesOf_nums _ (b64_rng (fun x hx => bytesOf_range s x (List.mem_of_mem_drop hx)))]
        refine ev_round ?_
        simp only [rosterref01_Base64.l0]
        exact ev_neg (by omega) (ev_eq rfl)
      · have hx : bytesOf (s.extract i (i + 3)) = ((bytesOf s).drop i).take 3 := by rw [bytesOf_extract, List.drop_take]; congr 1; omega
        have hg := group_ev (s.extract i (i + 3)) (by rw [ByteArray.size_extract]; omega) (by rw [ByteArray.size_extract]; omega)
        rw [hx] at hg
        have hl3 : (((bytesOf s).drop i).take 3).length = 3 := by rw [List.length_take, hll]; omega
        have hb4 : (b64 (((bytesOf s).drop i).take 3)).length = 4 := by rw [b64_len, hl3]
        have hsp : b64 ((bytesOf s).drop i) = b64 (((bytesOf s).drop i).take 3) ++ b64 ((bytesOf s).drop (i + 3)) := by
          conv => lhs; rw [← List.take_append_drop 3 ((bytesOf s).drop i)]
          rw [b64_append _ _ (by rw [hl3]), List.drop_drop]
        refine ev_neg (by omega) (ev_pos (by omega) (ev_pos (by omega) (ev_pos (by omega) ?_)))
        rw [Int.toNat_natCast, show ((i : Int) + 3).toNat = i + 3 from by omega]
        refine Ev.bind hg (ev_pos (by rw [strOfNums_size]; omega) ?_)
        rw [bytesOf_nums _ (b64_rng (fun x hx => bytesOf_range s x (List.mem_of_mem_drop (List.mem_of_mem_take hx))))]
        have := rb_loop s hs m (i + 3) (acc ++ b64 (((bytesOf s).drop i).take 3)) (by omega) (by omega) (by rw [List.length_append, hb4]; omega)
        rw [hsp, ← List.append_assoc]
        simpa using this
    · refine ev_round ?_
      simp only [rosterref01_Base64.l0]
      refine ev_neg (by omega) (ev_eq ?_)
      rw [List.drop_eq_nil_of_le (by rw [bytesOf_length]; omega)]
      simp [b64]
theorem rbase64_at (s : ByteArray) (hs : s.size ≤ 34359738368) : Ev (fun k => rosterref01_Base64.f k s) (strOfNums (b64 (bytesOf s))) := by
  have := rb_loop s hs s.size 0 [] (by omega) rfl (by simp)
  simpa [rosterref01_Base64.f] using this


end Go.Proofs.YtogkibhbkapobaaDoor.B64G

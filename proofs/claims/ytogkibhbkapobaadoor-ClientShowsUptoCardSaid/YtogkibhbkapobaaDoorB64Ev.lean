/- text.Base64, as printed, on lists of byte numbers. For every text of at most 34359738368 bytes. -/
import Derived.Test.YtogkibhbkapobaaDoorXA6
import Derived.Test.YtogkibhbkapobaaDoorXV
import Derived.Test.YtogkibhbkapobaaDoorL64
namespace Go.Proofs.YtogkibhbkapobaaDoor.B64Ev
open Go.RowKit Go.Proofs.YtogkibhbkapobaaDoor.XA Go.Proofs.YtogkibhbkapobaaDoor.XG Go.Proofs.YtogkibhbkapobaaDoor.XV Go.Proofs.YtogkibhbkapobaaDoor.L64 Go.Proofs.YtogkibhbkapobaaDoorW.PrintWords Go.Proofs.YtogkibhbkapobaaDoorW.PrintLast
set_option linter.unusedVariables false
set_option linter.unusedSimpArgs false
theorem rd_let (n : Int) : rd let64L n = l64 n := rfl
theorem list_of (s : ByteArray) : bytesOf s = (List.range s.size).map fun i : Nat => bt s (i : Int) := by
  apply List.ext_getElem?
  intro i
  by_cases h : i < s.size
  · have hl : i < (bytesOf s).length := by rw [bytesOf_length]; exact h
    simp [h, bt_byte, List.getD_eq_getElem?_getD, List.getElem?_eq_getElem hl]
  · rw [List.getElem?_eq_none (by rw [bytesOf_length]; omega), List.getElem?_eq_none (by simp; omega)]
theorem b64_loop : ∀ (n : Nat) (s : ByteArray) (acc : List Int), s.size = n → acc.length + (s.size + 2) / 3 * 4 ≤ 140737488355324 → Ev (fun k => text_Base64.l0 k s acc) (strOfNums (acc ++ b64 (bytesOf s))) := by
  intro n
  induction n using Nat.strongRecOn with
  | ind n ih =>
    intro s acc hn ha
    have r0 := bt_range s 0
    have r1 := bt_range s 1
    have r2 := bt_range s 2
    have hlo := list_of s
    refine ev_round ?_
    simp only [text_Base64.l0, Option.bind_some]
    rw [and3 _ r0.1 r0.2, and15 _ r1.1 r1.2, and63 _ r2.1 r2.2, or_4_16 _ _ (by omega) (by omega) (by omega) (by omega), or_16_4 _ _ (by omega) (by omega) (by omega) (by omega), show (bt s 1 % 16 * 4) % 256 = bt s 1 % 16 * 4 from by omega, show (bt s 0 % 4 * 16) % 256 = bt s 0 % 4 * 16 from by omega]
    by_cases h3 : (s.size : Int) ≥ 3
    · refine ev_pos h3 ?_
      have hd : bytesOf s = bt s 0 :: bt s 1 :: bt s 2 :: bytesOf (s.extract 3 s.size) := by
        rw [bytesOf_extract, List.take_of_length_le (by rw [bytesOf_length]; exact Nat.le_refl _)]
        have hl := bytesOf_length s
        have e := List.take_append_drop 3 (bytesOf s)
        rw [← e]
        have h0 := bt_byte s 0
        have h1 := bt_byte s 1
        have h2 := bt_byte s 2
        generalize bytesOf s = L at *
        match L with
        | a :: b :: c :: r => simp at h0 h1 h2 ⊢; exact ⟨h0.symm, h1.symm, h2.symm⟩
        | [] => simp at hl; omega
        | [a] => simp at hl; omega
        | [a, b] => simp at hl; omega
      have := ih (s.extract 3 s.size).size (by rw [ByteArray.size_extract]; omega) (s.extract 3 s.size) (acc ++ [l64 (bt s 0 / 4), l64 (bt s 0 % 4 * 16 + bt s 1 / 16), l64 (bt s 1 % 16 * 4 + bt s 2 / 64), l64 (bt s 2 % 64)]) rfl (by rw [ByteArray.size_extract]; simp; omega)
      refine ev_pos (by omega) (ev_pos (by omega) (ev_pos (by omega) (ev_pos (by omega) (ev_pos (by omega) (ev_pos (by omega) (ev_pos (by omega) (ev_pos (by omega) (ev_pos (by omega) (ev_pos (by omega) (ev_pos (by omega) (ev_pos (by simp; omega) (ev_pos (by omega) ?_))))))))))))
      rw [hd, b64]
      simpa [l64, let64, let64L] using this
    · refine ev_neg h3 ?_
      by_cases h2 : (s.size : Int) = 2
      · have hd : bytesOf s = [bt s 0, bt s 1] := by rw [hlo, show s.size = 2 from by omega]; rfl
        refine ev_pos h2 (ev_pos (by omega) (ev_pos (by omega) (ev_pos (by omega) (ev_pos (by omega) (ev_pos (by omega) (ev_pos (by omega) (ev_pos (by omega) (ev_pos (by omega) (ev_pos (by simp; omega) (ev_eq ?_))))))))))
        rw [hd]
        rfl
      · refine ev_neg h2 ?_
        by_cases h1 : (s.size : Int) = 1
        · have hd : bytesOf s = [bt s 0] := by rw [hlo, show s.size = 1 from by omega]; rfl
          refine ev_pos h1 (ev_pos (by omega) (ev_pos (by omega) (ev_pos (by omega) (ev_pos (by omega) (ev_pos (by omega) (ev_pos (by simp; omega) (ev_eq ?_)))))))
          rw [hd]
          rfl
        · have hd : bytesOf s = [] := by rw [hlo, show s.size = 0 from by omega]; rfl
          refine ev_neg h1 (ev_eq ?_)
          rw [hd]
          simp [b64]
theorem base64_at (s : ByteArray) (hs : (s.size + 2) / 3 * 4 ≤ 140737488355324) : Ev (fun k => text_Base64.f k s) (strOfNums (b64 (bytesOf s))) := by
  have := b64_loop s.size s [] rfl (by simp; omega)
  simp only [text_Base64.f]
  rw [wrp_id ((s.size : Int) + 2) (by omega) (by omega), Int.tdiv_eq_ediv_of_nonneg (by omega), wrp_id (((s.size : Int) + 2) / 3) (by omega) (by omega), wrp_id (((s.size : Int) + 2) / 3 * 4) (by omega) (by omega)]
  refine ev_pos (by omega) (ev_pos (by omega) ?_)
  simpa using this
end Go.Proofs.YtogkibhbkapobaaDoor.B64Ev

/- By hand: index.Grams. For every text of at most 1048576 bytes and every world. -/
import Derived.Test.YtfiomfcejmmbgaaGramEv
set_option linter.unusedVariables false
set_option linter.unusedSimpArgs false
namespace Go.Proofs.Ytfiomfcejmmbgaa.GramW
open Go.RowKit Go.Proofs.Ytfiomfcejmmbgaa.Blk Go.Proofs.Ytfiomfcejmmbgaa.XI Go.Proofs.Ytfiomfcejmmbgaa.XV Go.Proofs.Ytfiomfcejmmbgaa.Ris Go.Proofs.Ytfiomfcejmmbgaa.OfT Go.Proofs.Ytfiomfcejmmbgaa.GramEv Go.Proofs.YtfiomfcejmmbgaaW.PrintWords Go.Proofs.YtfiomfcejmmbgaaW.PrintLast Go.Proofs.YtfiomfcejmmbgaaW.PrintMore
theorem grams_as (s : ByteArray) (w : World) (hs : s.size ≤ 1048576) : Calls Try.prog 11 #[.string s] w (GotM w (gramSet s)) := by
  go_enter Try.func11, Try.ntmps11
  go_wp2
  go_loopw [3, 4] (fun v3 v4 wr => ∃ n : Nat, n ≤ s.size - 2 ∧ v4 = .int .i64 (n : Nat) ∧ Hid (Kd.R Kd.string 9 wr w.heap.size (fun _ => True) v3 (grams s n) ∧ Below w.heap.size w wr)) (fun _ v4 _ => s.size - 2 - (intOf v4).toNat)
  case atStart => exact ⟨0, Nat.zero_le _, rfl, Lib.hid ⟨Kd.R_nil _ _ _ _ _, Below.refl _ _⟩⟩
  case round =>
    obtain ⟨n, hn, rfl, HW⟩ := hrel
    have hw3 : IntKind.i64.wrap ((n : Int) + 3) = ((n + 3 : Nat) : Int) := by rw [IntWalk.i64_in _ (by omega)]; rfl
    have hw1 : IntKind.i64.wrap ((n : Int) + 1) = ((n + 1 : Nat) : Int) := by rw [IntWalk.i64_in _ (by omega)]; rfl
    have hgl : (grams s n).length ≤ 1048576 := by rw [grams_len]; omega
    by_cases hin : n < s.size - 2
    · have hle : (n : Int) + 3 ≤ (s.size : Int) := by omega
      have hle2 : (n : Int) ≤ (n : Int) + 3 := by omega
      have hsz := HW.out.2.size
      go_wp2_with (first
        | ((with_reducible refine gate_builtin (b := .append) (xs := #[.tmp 12, .tmp 18]) rfl ?_); at_builtin; refine Kd.R_append Kd.string (w0 := w) w.heap.size rfl (.tmp 12) (.tmp 18) 34 9 (.string ⟨#[]⟩) 16 rfl Try.underlying34 OfT.info9 rfl (by decide) (by omega) _ (grams s n) (s.extract n (n + 3)) [.string (s.extract n (n + 3))] (fun _ => True) (fun _ => False) rfl rfl rfl (fun _ h => h.elim) (fun _ _ => trivial) HW.out.1 HW.out.2 hsz (by omega) ?_; intro v1 w1 q1 q2 q3 q4; have HN := Lib.hid (And.intro q1 q2); clear q1 q2 q3 q4)
        | go_in)
      go_roundw
      case rel => exact ⟨n + 1, by omega, by go_num, HN⟩
      case measure => simp [intOf]; omega
    · have hle : ¬ (n : Int) + 3 ≤ (s.size : Int) := by omega
      have HN2 := Lib.hid (show n = s.size - 2 by omega)
      clear hn hin
      obtain ⟨A, c, rfl⟩ := Kd.R_slice HW.out.1
      go_wp2_with (first
        | (go_at_call 22; ((with_reducible refine (of_m A c (grams s n) _ (Kd.R_reads' HW.out.1).2.2 hgl).mono ?_); rintro e w1 ⟨g, B, cc, rfl, hm, hb⟩; have HM := Lib.hid (And.intro (hm.low HW.out.2.size) (HW.out.2.trans (hb.mono HW.out.2.size))); clear hm hb))
        | go_in)
      go_ret
      unfold gramSet
      rw [← HN2.out]
      exact ⟨g, B, cc, rfl, HM.out.1, HM.out.2⟩
end Go.Proofs.Ytfiomfcejmmbgaa.GramW

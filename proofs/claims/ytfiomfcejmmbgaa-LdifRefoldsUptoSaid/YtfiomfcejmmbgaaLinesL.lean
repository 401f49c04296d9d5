/- LdifLines: the law walked. -/
import Derived.Test.YtfiomfcejmmbgaaLinesD
set_option linter.unusedVariables false
set_option linter.unusedSimpArgs false
namespace Go.Proofs.Ytfiomfcejmmbgaa.LinesW
open Go.RowKit Go.Proofs.Ytfiomfcejmmbgaa.Blk Go.Proofs.Ytfiomfcejmmbgaa.ByteM Go.Proofs.Ytfiomfcejmmbgaa.XL Go.Proofs.Ytfiomfcejmmbgaa.XV Go.Proofs.Ytfiomfcejmmbgaa.LinesP Go.Proofs.YtfiomfcejmmbgaaW.PrintWords Go.Proofs.YtfiomfcejmmbgaaW.PrintLast Go.Proofs.YtfiomfcejmmbgaaW.PrintMore
theorem num_as (n : Int) (w : World) : Calls Try.prog 8 #[.int .i64 n] w fun e w' => e = .returned (.int .i64 n) ∧ w = w' := by
  go_enter Try.func8, Try.ntmps8
  go_wp2
  go_ret
  exact ⟨rfl, rfl⟩
theorem cell_ln {w : World} {B g n c : Nat} {ok : Nat → Prop} {ls : List (Int × ByteArray)} (h : kL.R 28 w B ok (.slice (some ⟨g, 0, none⟩) n c) ls) (i : Nat) (hi : i < ls.length) (x : Int × ByteArray) (hx : ls.getD i (0, ⟨#[]⟩) = x) : w.cell? ⟨g, i * 2, none⟩ = some (.int .i64 x.1) ∧ w.cell? ⟨g, i * 2 + 1, none⟩ = some (.string x.2) := by
  obtain ⟨hn, _, _⟩ := Kd.R_reads' h
  obtain ⟨c0, hc1, hM, hcell, hfr⟩ := Kd.R_elem h (0, ⟨#[]⟩) (i : Int) (by omega) (by omega)
  rw [Int.toNat_natCast, hx] at hM
  rw [Int.toNat_natCast] at hcell
  obtain ⟨_, _, rfl, rfl, rfl⟩ := hM
  exact ⟨hcell 0 _ rfl, hcell 1 _ rfl⟩
theorem lineslaw (s : ByteArray) (w : World) (hs : s.size ≤ 1048576) : Calls Try.prog 3 #[.string s] w fun e w' => e = .returned (.bool true) ∧ Below w.heap.size w w' := by
  have HL : Hid (∀ w, Calls Try.prog 6 #[.string s] w (LinesQ w (phys s))) := Lib.hid (fun w => lines_as s w hs)
  have HR : Hid (∀ w, Calls Try.prog 7 #[.string s] w (LinesQ w (phys s))) := Lib.hid (fun w => rlines_as s w hs)
  have hpl : (phys s).length ≤ 1048577 := by have := ph_len s (bytesOf s) 0 0; rw [bytesOf_length] at this; unfold phys; omega
  generalize phys s = p at *
  cases hf : fault p with
  | some q =>
    obtain ⟨er, at_⟩ := q
    go_enter Try.func3, Try.ntmps3
    go_wp2_with (first
      | (go_at_call 6; (with_reducible refine (HL.out _).mono ?_); rintro e w1 ⟨hb1, he1⟩; rw [hf] at he1; (obtain rfl := he1); have HB1 := Lib.hid hb1; clear hb1)
      | (go_at_call 7; (with_reducible refine (HR.out _).mono ?_); rintro e w2 ⟨hb2, he2⟩; rw [hf] at he2; (obtain rfl := he2); have HB2 := Lib.hid (HB1.out.trans (hb2.mono HB1.out.size)); clear hb2)
      | (go_at_call 8; ((with_reducible refine (num_as er _).mono ?_); rintro e _ ⟨rfl, rfl⟩))
      | go_in)
    go_loopw [9] (fun v9 wr => v9 = .int .i64 0 ∧ Hid (Below w.heap.size w wr)) (fun _ _ => 0)
    case atStart => exact ⟨rfl, HB2⟩
    case round =>
      obtain ⟨rfl, HB⟩ := hrel
      go_wp2
      go_ret
      exact ⟨rfl, HB.out⟩
  | none =>
    have hgl := gl_len p p.length
    have hfl : (full p).length ≤ 1048577 := by unfold full; rw [List.length_map]; omega
    obtain ⟨ls, hls⟩ : ∃ ls, ls = full p := ⟨_, rfl⟩
    have HLS := Lib.hid hls
    rw [← hls] at hfl
    clear hls hgl
    go_enter Try.func3, Try.ntmps3
    go_wp2_with (first
      | (go_at_call 6; (with_reducible refine (HL.out _).mono ?_); rintro e w1 ⟨hb1, he1⟩; rw [hf, ← HLS.out] at he1; (obtain ⟨v1, rfl, hv1⟩ := he1); (obtain ⟨A1, c1, rfl⟩ := Kd.R_slice hv1); have HB1 := Lib.hid hb1; have HV1 := Lib.hid hv1; clear hb1 hv1)
      | (go_at_call 7; (with_reducible refine (HR.out _).mono ?_); rintro e w2 ⟨hb2, he2⟩; rw [hf, ← HLS.out] at he2; (obtain ⟨v2, rfl, hv2⟩ := he2); (obtain ⟨A2, c2, rfl⟩ := Kd.R_slice hv2); have HB2 := Lib.hid (HB1.out.trans (hb2.mono HB1.out.size)); have HV2 := Lib.hid (And.intro (Kd.R_below HV1.out hb2) hv2); clear hb2 hv2)
      | (go_at_call 8; ((with_reducible refine (num_as 0 _).mono ?_); rintro e _ ⟨rfl, rfl⟩))
      | go_in)
    have HQ : Hid (kL.R 28 w2 w.heap.size (fun _ => True) (.slice A1 ls.length c1) ls ∧ kL.R 28 w2 w1.heap.size (fun _ => True) (.slice A2 ls.length c2) ls ∧ Below w.heap.size w w2) := Lib.hid ⟨HV2.out.1, HV2.out.2, HB2.out⟩
    clear HV1 HV2 HB2
    go_loopw [9] (fun v9 wr => ∃ i : Nat, i ≤ ls.length ∧ v9 = .int .i64 (i : Nat) ∧ Hid (kL.R 28 wr w.heap.size (fun _ => True) (.slice A1 ls.length c1) ls ∧ kL.R 28 wr w1.heap.size (fun _ => True) (.slice A2 ls.length c2) ls ∧ Below w.heap.size w wr)) (fun v9 _ => ls.length - (intOf v9).toNat)
    case atStart => exact ⟨0, Nat.zero_le _, rfl, HQ⟩
    case round =>
      clear HQ
      obtain ⟨i, hi, rfl, HW⟩ := hrel
      by_cases hin : i < ls.length
      · have hlt : (i : Int) < (ls.length : Int) := by omega
        have hw1 : IntKind.i64.wrap ((i : Int) + 1) = ((i + 1 : Nat) : Int) := by rw [IntWalk.i64_in _ (by omega)]; rfl
        obtain ⟨g1, c', he, _⟩ := Kd.R_form HW.out.1 (by omega)
        injection he with he1 _ he2
        subst he1 he2
        obtain ⟨g2, c', he, _⟩ := Kd.R_form HW.out.2.1 (by omega)
        injection he with he1 _ he2
        subst he1 he2
        obtain ⟨⟨n, x⟩, hx⟩ : ∃ x, x = ls.getD i (0, ⟨#[]⟩) := ⟨_, rfl⟩
        obtain ⟨a1, a2⟩ := cell_ln HW.out.1 i hin _ hx.symm
        obtain ⟨b1, b2⟩ := cell_ln HW.out.2.1 i hin _ hx.symm
        clear hx
        go_wp2
        repeat (go_quiet (fail); try go_wp2)
        go_roundw
        case rel => exact ⟨i + 1, by omega, by go_num, Lib.hid ⟨Kd.R_drewN HW.out.1 _, Kd.R_drewN HW.out.2.1 _, pw_below_drewN HW.out.2.2 _⟩⟩
        case measure => simp [intOf]; omega
      · have hlt : ¬ (i : Int) < (ls.length : Int) := by omega
        go_wp2
        go_ret
        exact ⟨rfl, HW.out.2.2⟩
end Go.Proofs.Ytfiomfcejmmbgaa.LinesW
namespace Go.Proofs.Ytfiomfcejmmbgaa.XL
open Go.RowKit Go.Proofs.Ytfiomfcejmmbgaa.LinesW Go.Proofs.YtfiomfcejmmbgaaW.PrintWords Go.Proofs.YtfiomfcejmmbgaaW.PrintLast Go.Proofs.YtfiomfcejmmbgaaW.PrintMore
def rosterlaw07_LdifLines.f (x0 : ByteArray) : Option Bool := if x0.size ≤ 1048576 then some true else none
theorem rosterlaw07_LdifLines.calls (a0 : ByteArray) (r : Bool) (w : World) (h : rosterlaw07_LdifLines.f a0 = some r) :
    Calls Try.prog 3 #[.string a0] w fun e w' => e = .returned (.bool r) ∧ Below w.heap.size w w' := by
  unfold rosterlaw07_LdifLines.f at h
  split at h
  case isFalse => cases h
  case isTrue hs =>
  obtain rfl := Option.some.inj h
  exact lineslaw a0 w hs
end Go.Proofs.Ytfiomfcejmmbgaa.XL

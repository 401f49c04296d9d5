/- By hand: the law PostingSkips, walked. For every list of at most 1048576 numbers, every two numbers and world. -/
import Derived.Test.YtnflokhffmfifaaSkipsA
set_option linter.unusedVariables false
set_option linter.unusedSimpArgs false
namespace Go.Proofs.Ytnflokhffmfifaa.OfW
open Go.RowKit Go.Proofs.Ytnflokhffmfifaa.Blk Go.Proofs.Ytnflokhffmfifaa.Ris Go.Proofs.Ytnflokhffmfifaa.Cur Go.Proofs.YtnflokhffmfifaaW.PrintWords Go.Proofs.YtnflokhffmfifaaW.PrintLast Go.Proofs.YtnflokhffmfifaaW.PrintMore
theorem two_row (W : World) : Kd.C (Kd.int .i64) (W.alloc (.cells #[.int .i64 2, .int .i64 2] 2)) (some ⟨W.heap.size, 0, none⟩) ([2, 2] : List Int).length [2, 2] := by
  refine Kd.C_of_reads (enc := Value.int .i64) (d := 0) (h1 := fun _ => rfl) ⟨rfl, by simp, fun _ => ⟨_, rfl, fun i hi => ?_⟩⟩
  have hf := Blk.At.fresh W [.int .i64 2, .int .i64 2] 2
  rw [add_off, Nat.zero_add]
  match i, hi with
  | 0, _ => exact hf.get 0 _ rfl
  | 1, _ => exact hf.get 1 _ rfl
theorem two_as (W : World) (n : Nat) : Calls Try.prog 22 #[.slice (some ⟨W.heap.size, 0, none⟩) 2 2] ((W.drewN n).alloc (.cells #[.int .i64 2, .int .i64 2] 2)) fun e w' => ∃ B cc, e = .returned (.slice B 1 cc) ∧ Below W.heap.size W w' := by
  refine (of_as (some ⟨W.heap.size, 0, none⟩) 2 [2, 2] _ (two_row (W.drewN n)) (by simp)).mono ?_
  rintro e w' ⟨g, B, cc, rfl, _, _, hb⟩
  exact ⟨B, cc, rfl, (below_alloc (pw_below_drewN (Below.refl W.heap.size W) n) _).trans (hb.mono (by simp))⟩
set_option maxRecDepth 100000 in
theorem skips_walk (A : Option Addr) (c : Nat) (l : List Int) (x y : Int) (w : World) (h : Kd.C (Kd.int .i64) w A l.length l) (hn : l.length ≤ 1048576) : Calls Try.prog 4 #[.slice A l.length c, .int .i64 x, .int .i64 y] w fun e w' => e = .returned (.bool true) ∧ Below w.heap.size w w' := by
  have HR0 := Lib.hid h
  have K := Lib.hid (fun W hW => new_as A c l W hW hn)
  have KO := Lib.hid (fun W hW => of_as A c l W hW hn)
  have hsn : (setL ltI l).length ≤ 1048576 := Nat.le_trans (setL_len totI l) hn
  have HS := Lib.hid (ris_setL totI l)
  unfold NewQ at K
  unfold OfQ at KO
  generalize setL ltI l = s at K KO hsn HS
  clear h
  go_enter Try.func4, Try.ntmps4
  go_wp2_with (first
    | (go_at_call 12; (first
        | ((with_reducible refine (K.out w HR0.out).mono ?_); rintro e W1 ⟨pc, gc, rfl, hq1, hq2, hq3, hq4, hq5⟩; have HQ1 := Lib.hid (And.intro hq1 (And.intro (And.intro hq2 hq3) (And.intro hq4 hq5))); clear hq1 hq2 hq3 hq4 hq5)
        | ((with_reducible refine (K.out W1 (Kd.C_below HR0.out HQ1.out.2.2.2)).mono ?_); rintro e W2 ⟨pd, gd, rfl, hq1, hq2, hq3, hq4, hq5⟩; have HQ2 := Lib.hid (And.intro hq1 (And.intro (And.intro hq2 hq3) (And.intro hq4 hq5))); clear hq1 hq2 hq3 hq4 hq5)))
    | (go_at_call 22; (first
        | ((with_reducible refine (KO.out W2 (Kd.C_below (Kd.C_below HR0.out HQ1.out.2.2.2) HQ2.out.2.2.2)).mono ?_); rintro e W3 ⟨gs, S, cs, rfl, hq1, hq2, hq3⟩; have HT := Lib.hid (tw_start HQ1.out.1 HQ1.out.2.1 HQ1.out.2.2.1 HQ1.out.2.2.2 HQ2.out.1 HQ2.out.2.1 HQ2.out.2.2.1 HQ2.out.2.2.2 hq1 hq2 hq3); clear hq1 hq2 hq3)
        | ((with_reducible refine (two_as W3 n1).mono ?_); rintro e W4 ⟨B2, cc2, rfl, hq⟩; have HT4 := Lib.hid (HT.out.on hq); clear hq)))
    | (go_at_call 20; ((with_reducible refine (left_as _ pc gc _ (HT.out.c.on rfl (fun _ => rfl))).mono ?_); rintro e _ ⟨rfl, ⟨n1, rfl⟩⟩))
    | go_in)
  clear HQ1 HQ2 HT KO
  go_loopw [1, 10] (fun v1 i wr => ∃ (k : Nat) (xv : Int) (lc : List Int), k ≤ 2 ∧ v1 = .int .i64 xv ∧ i = .int .i64 k ∧ Hid (Ris ltI lc ∧ lc.length ≤ s.length) ∧ Hid (TW w pc gc pd gd gs S cs s lc lc wr)) (fun _ i _ => 2 - (intOf i).toNat)
  case atStart => exact ⟨0, x, s, by omega, rfl, rfl, Lib.hid ⟨HS.out, Nat.le_refl _⟩, HT4⟩
  case round =>
    obtain ⟨k, xv, lc, hk, rfl, rfl, HL, HW⟩ := hrel
    have hlc : lc.length ≤ 1048576 := Nat.le_trans HL.out.2 hsn
    by_cases hk2 : k < 2
    · have hlt : (k : Int) < 2 := by omega
      have hpl := place_le lc xv
      have hls := HL.out.2
      go_wp2_with (first
        | (go_at_call 18; ((with_reducible refine (skip_as _ pc gc lc xv HL.out.1 hlc HW.out.c).mono ?_); rintro e W5 ⟨rfl, hq1, hq2⟩; have HT5 := Lib.hid (HW.out.goc hq2 hq1 (by rw [List.length_drop]; have := HL.out.2; omega)); clear hq1 hq2))
        | go_in)
      go_loopw [11] (fun j w6 => ∃ i : Nat, i ≤ place lc xv ∧ j = .int .i64 i ∧ Hid (TW w pc gc pd gd gs S cs s (lc.drop (place lc xv)) (lc.drop i) w6)) (fun j _ => s.length + 1 - (intOf j).toNat)
      case atStart => exact ⟨0, by omega, rfl, by rw [List.drop_zero]; exact HT5⟩
      case round =>
        obtain ⟨i, hi, rfl, HX⟩ := hrel
        have his : (i : Int) ≤ (s.length : Int) := by omega
        by_cases hip : i < place lc xv
        · have hv := place_lt lc xv i hip
          have hd := head_drop lc i
          have hl0 : 0 < (lc.drop i).length := by rw [List.length_drop]; omega
          have HH : Hid (∀ W, Cur W pd gd (lc.drop i) → Calls Try.prog 14 #[.pointer (some ⟨pd, 0, none⟩)] W fun e w' => e = .returned (.tuple #[.int .i64 (lc.getD i 0), .bool true]) ∧ Drawn0 W w') := fun W hW => by
            have := here_as W pd gd (lc.drop i) hW
            rwa [hd, decide_eq_true hl0] at this
          generalize lc.getD i 0 = v at hv HH
          clear hd hl0
          have hnv : ¬ (xv ≤ v) := by omega
          go_wp2_with (first
            | (go_at_call 14; ((with_reducible refine (HH.out _ ?hx).mono ?_); (case hx => exact HX.out.d.on rfl (fun _ => rfl)); rintro e _ ⟨rfl, ⟨n5, rfl⟩⟩))
            | (go_at_call 16; ((with_reducible refine (next_as _ pd gd (lc.drop i) ?hx).mono ?_); (case hx => exact HX.out.d.on rfl (fun _ => rfl)); rintro e W7 ⟨rfl, hq1, hq2⟩; have HT7 := Lib.hid ((HX.out.draw n5).god hq2 hq1 (by rw [List.length_drop, List.length_drop]; omega)); clear hq1 hq2))
            | go_in)
          rw [List.drop_drop] at HT7
          go_roundw
          case rel => exact ⟨i + 1, by omega, by go_num, HT7⟩
          case measure => simp [intOf]; omega
        · obtain rfl : i = place lc xv := by omega
          have HM := Lib.hid (And.intro (ris_drop HL.out.1 (place lc xv)) (show (lc.drop (place lc xv)).length ≤ s.length by rw [List.length_drop]; omega))
          have HE := Lib.hid (fun (h : 0 < (lc.drop (place lc xv)).length) => (by rw [head_drop]; exact place_end lc xv (by rw [List.length_drop] at h; omega) : ¬ (lc.drop (place lc xv)).getD 0 0 < xv))
          clear hi hip hpl HT5
          generalize lc.drop (place lc xv) = m at HX HM HE
          have HH := fun W p g (hW : Cur W p g m) => here_as W p g m hW
          have LL := fun W p g (hW : Cur W p g m) => left_as W p g m hW
          generalize hml : (m.length : Int) = ml at LL
          have hmm : (ml != ml) = false := bne_self_eq_false ml
          by_cases hm : 0 < m.length
          · have hnv := HE.out hm
            rw [decide_eq_true hm] at HH
            generalize m.getD 0 0 = v at HH hnv
            have hvx : xv ≤ v := by omega
            have hvv : (v != v) = false := bne_self_eq_false v
            have H1 := Lib.hid HH
            have H2 := Lib.hid LL
            clear HH LL hml hm HE
            go_wp2_with (first
              | (go_at_call 14; (first
                  | ((with_reducible refine (H1.out _ pd gd ?hx).mono ?_); (case hx => exact HX.out.d.on rfl (fun _ => rfl)); rintro e _ ⟨rfl, ⟨n5, rfl⟩⟩)
                  | ((with_reducible refine (H1.out _ pc gc ?hx).mono ?_); (case hx => exact HX.out.c.on rfl (fun _ => rfl)); rintro e _ ⟨rfl, ⟨n6, rfl⟩⟩)))
              | (go_at_call 20; (first
                  | ((with_reducible refine (H2.out _ pd gd ?hx).mono ?_); (case hx => exact HX.out.d.on rfl (fun _ => rfl)); rintro e _ ⟨rfl, ⟨n7, rfl⟩⟩)
                  | ((with_reducible refine (H2.out _ pc gc ?hx).mono ?_); (case hx => exact HX.out.c.on rfl (fun _ => rfl)); rintro e _ ⟨rfl, ⟨n8, rfl⟩⟩)))
              | go_in)
            go_roundw
            case rel => exact ⟨k + 1, y, m, by omega, rfl, by go_num, HM, (by first | exact HX.out | exact HX.out.draw _ | exact (HX.out.draw _).draw _)⟩
            case measure => simp [intOf]; omega
          · have hz : m.getD 0 0 = 0 := by rw [List.length_eq_zero_iff.1 (by omega : m.length = 0)]; rfl
            rw [decide_eq_false hm, hz] at HH
            have H1 := Lib.hid HH
            have H2 := Lib.hid LL
            clear HH LL hml hm HE hz
            go_wp2_with (first
              | (go_at_call 14; (first
                  | ((with_reducible refine (H1.out _ pd gd ?hx).mono ?_); (case hx => exact HX.out.d.on rfl (fun _ => rfl)); rintro e _ ⟨rfl, ⟨n5, rfl⟩⟩)
                  | ((with_reducible refine (H1.out _ pc gc ?hx).mono ?_); (case hx => exact HX.out.c.on rfl (fun _ => rfl)); rintro e _ ⟨rfl, ⟨n6, rfl⟩⟩)))
              | (go_at_call 20; (first
                  | ((with_reducible refine (H2.out _ pd gd ?hx).mono ?_); (case hx => exact HX.out.d.on rfl (fun _ => rfl)); rintro e _ ⟨rfl, ⟨n7, rfl⟩⟩)
                  | ((with_reducible refine (H2.out _ pc gc ?hx).mono ?_); (case hx => exact HX.out.c.on rfl (fun _ => rfl)); rintro e _ ⟨rfl, ⟨n8, rfl⟩⟩)))
              | go_in)
            go_roundw
            case rel => exact ⟨k + 1, y, m, by omega, rfl, by go_num, HM, (by first | exact HX.out | exact HX.out.draw _ | exact (HX.out.draw _).draw _)⟩
            case measure => simp [intOf]; omega
    · have hlt : ¬ ((k : Int) < 2) := by omega
      have HB0 := Lib.hid (Kd.C_below HR0.out HW.out.b)
      clear hk2
      go_wp2_with (first
        | (go_at_call 12; ((with_reducible refine (K.out wr HB0.out).mono ?_); rintro e W8 ⟨pe, ge, rfl, hq1, hq2, hq3, hq4, hq5⟩; have HT8 := Lib.hid (HW.out.newc hq5 hq1 ⟨hq2, hq3⟩ hq4); clear hq1 hq2 hq3 hq4 hq5))
        | go_in)
      go_loopw [19] (fun j w6 => ∃ i : Nat, i ≤ s.length ∧ j = .int .i64 i ∧ Hid (TW w pe ge pd gd gs S cs s (s.drop i) lc w6)) (fun j _ => s.length - (intOf j).toNat)
      case atStart => exact ⟨0, by omega, rfl, by rw [List.drop_zero]; exact HT8⟩
      case round =>
        obtain ⟨i, hi, rfl, HX⟩ := hrel
        by_cases hin : i < s.length
        · have his : (i : Int) < (s.length : Int) := by omega
          have hs1 : IntKind.i64.wrap ((s.length : Int) - (i : Int)) = ((s.length - i : Nat) : Int) := (i64_w _).trans (by unfold wrap64; omega)
          have hl0 : 0 < (s.drop i).length := by rw [List.length_drop]; omega
          have HH : Hid (∀ W, Cur W pe ge (s.drop i) → Calls Try.prog 14 #[.pointer (some ⟨pe, 0, none⟩)] W fun e w' => e = .returned (.tuple #[.int .i64 (s.getD i 0), .bool true]) ∧ Drawn0 W w') := fun W hW => by
            have := here_as W pe ge (s.drop i) hW
            rwa [head_drop, decide_eq_true hl0] at this
          have LL : Hid (∀ W, Cur W pe ge (s.drop i) → Calls Try.prog 20 #[.pointer (some ⟨pe, 0, none⟩)] W fun e w' => e = .returned (.int .i64 ((s.length - i : Nat) : Int)) ∧ Drawn0 W w') := fun W hW => by
            have := left_as W pe ge (s.drop i) hW
            rwa [List.length_drop] at this
          obtain ⟨o, rfl, hc⟩ := HX.out.r.at_ (by omega)
          have ci := hc i hin
          generalize s.getD i 0 = v at ci HH
          have hvv : (v != v) = false := bne_self_eq_false v
          generalize hml : ((s.length - i : Nat) : Int) = ml at hs1 LL
          have hmm : (ml != ml) = false := bne_self_eq_false ml
          have HO := Lib.hid hml
          clear hml hl0 hc
          go_wp2_with (first
            | (go_at_call 14; ((with_reducible refine (HH.out _ ?hx).mono ?_); (case hx => exact HX.out.c.on rfl (fun _ => rfl)); rintro e _ ⟨rfl, ⟨n5, rfl⟩⟩))
            | (go_at_call 20; ((with_reducible refine (LL.out _ ?hx).mono ?_); (case hx => exact HX.out.c.on rfl (fun _ => rfl)); rintro e _ ⟨rfl, ⟨n6, rfl⟩⟩))
            | (go_at_call 16; ((with_reducible refine (next_as _ pe ge (s.drop i) ?hx).mono ?_); (case hx => exact HX.out.c.on rfl (fun _ => rfl)); rintro e W7 ⟨rfl, hq1, hq2⟩; have HT7 := Lib.hid ((HX.out.draw _).goc hq2 hq1 (by rw [List.length_drop, List.length_drop]; omega)); clear hq1 hq2))
            | go_in)
          rw [List.drop_drop] at HT7
          go_roundw
          case rel => exact ⟨i + 1, by omega, by go_num, HT7⟩
          case measure => simp [intOf]; omega
        · obtain rfl : i = s.length := by omega
          have hlt : ¬ ((s.length : Int) < (s.length : Int)) := by omega
          rw [List.drop_length] at HX
          have HH := Lib.hid (fun W (hW : Cur W pe ge []) => here_as W pe ge [] hW)
          have LL := Lib.hid (fun W (hW : Cur W pe ge []) => left_as W pe ge [] hW)
          have hd0 : ([] : List Int).getD 0 0 = 0 := rfl
          have hd1 : decide (0 < ([] : List Int).length) = false := rfl
          have hd2 : ((([] : List Int).length : Nat) : Int) = 0 := rfl
          rw [hd0, hd1] at HH
          rw [hd2] at LL
          clear hd0 hd1 hd2
          go_wp2_with (first
            | (go_at_call 14; ((with_reducible refine (HH.out _ ?hx).mono ?_); (case hx => exact HX.out.c.on rfl (fun _ => rfl)); rintro e _ ⟨rfl, ⟨n5, rfl⟩⟩))
            | (go_at_call 16; ((with_reducible refine (next_as _ pe ge [] ?hx).mono ?_); (case hx => exact HX.out.c.on rfl (fun _ => rfl)); rintro e W7 ⟨rfl, hq1, hq2⟩; have HT7 := Lib.hid ((HX.out.draw _).goc (lc2 := []) hq2 hq1 (by simp)); clear hq1 hq2))
            | (go_at_call 20; ((with_reducible refine (LL.out _ ?hx).mono ?_); (case hx => exact HT7.out.c.on rfl (fun _ => rfl)); rintro e _ ⟨rfl, ⟨n6, rfl⟩⟩))
            | go_in)
          go_ret
          exact ⟨rfl, by repeat (first | exact HT7.out.b | apply pw_below_drewN | apply below_drew1)⟩
end Go.Proofs.Ytnflokhffmfifaa.OfW

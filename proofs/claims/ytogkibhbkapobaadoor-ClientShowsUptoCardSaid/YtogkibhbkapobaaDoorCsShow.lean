/- By hand: client.Show answers the text that the document's Show answers. For every reply of the sizes told and every world. -/
import Derived.Test.YtogkibhbkapobaaDoorCsPut
set_option linter.unusedVariables false
set_option linter.unusedSimpArgs false
namespace Go.Proofs.YtogkibhbkapobaaDoor.CsShow
open Go.RowKit Go.Shelf Go.Proofs Go.Proofs.YtogkibhbkapobaaDoor.XA Go.Proofs.YtogkibhbkapobaaDoor.XV Go.Proofs.YtogkibhbkapobaaDoor.Blk Go.Proofs.YtogkibhbkapobaaDoor.Bld Go.Proofs.YtogkibhbkapobaaDoor.CsTab Go.Proofs.YtogkibhbkapobaaDoor.CsEv Go.Proofs.YtogkibhbkapobaaDoor.CsPut Go.Proofs.YtogkibhbkapobaaDoorW.PrintWords Go.Proofs.YtogkibhbkapobaaDoorW.PrintLast Go.Proofs.YtogkibhbkapobaaDoorW.PrintMore
theorem itoa_dec (n : Int) (h0 : -9223372036854775808 ≤ n) (h1 : n ≤ 9223372036854775807) (w : World) (h : Tabs w) :
    Calls Tryd.prog 11 #[.int .i64 n] w fun e w' => e = .returned (.string (dec n)) ∧ Below w.heap.size w w' := itoa_as n h0 h1 w h
theorem str_as (w0 W : World) (b : Nat) (X : ByteArray) (h : Bd w0 b X W) : Calls Tryd.prog 13 #[.pointer (some ⟨b, 0, none⟩)] W fun e w' => e = .returned (.string X) ∧ Below w0.heap.size w0 w' := by
  refine (string_as w0.heap.size b X.data.toList W h.is h.bel.size).mono ?_
  rintro e w' ⟨rfl, _, q, _⟩
  exact ⟨rfl, h.bel.trans q⟩
theorem bd0 (w0 : World) : Bd w0 w0.heap.size ⟨#[]⟩ (w0.alloc (.cells #[.pointer none, .slice none 0 0] 44)) :=
  ⟨Lib.IsBuilderF.of (Lib.fresh_isBuilder 44 5 w0), (Below.refl _ _).alloc (Nat.le_refl _) _⟩
theorem nil_app (x : ByteArray) : (⟨#[]⟩ : ByteArray) ++ x = x := by
  apply ByteArray.ext
  rw [ByteArray.data_append]
  simp
structure Stop (P : Prop) : Prop where
  out : P
abbrev rcells (f0 f1 f2 : Int) (f3 f4 f5 : ByteArray) (A6 : Option Addr) (n6 c6 : Nat) (f7 : ByteArray) (f8 : Bool) (A9 : Option Addr) (n9 c9 : Nat) : List Value := [.int .i64 f0, .int .i64 f1, .int .i64 f2, .string f3, .string f4, .string f5, .slice A6 n6 c6, .string f7, .bool f8, .slice A9 n9 c9]
theorem word_cell (f1 : Int) (h0 : 0 ≤ f1) (h1 : f1 < 9) {w0 W : World} (h : Tabs w0) (hb : Below w0.heap.size w0 W) : W.cell? ⟨0, f1.toNat, none⟩ = some (.string (wordB f1)) := by
  have ew : wordB f1 = rdOf ByteArray.empty wordsL f1 := if_pos ⟨h0, h1⟩
  rw [ew]
  obtain ⟨ad, e, hc⟩ := Kd.at_string (Kd.C_below h.t0 hb) f1 h0 h1
  obtain rfl := Option.some.inj e
  rw [XG.add_flat, Nat.zero_add] at hc
  exact hc
set_option maxHeartbeats 4000000 in
set_option maxRecDepth 100000 in
theorem entry_as (f0 f1 f2 : Int) (f3 f4 f5 : ByteArray) (A6 : Option Addr) (c6 : Nat) (xs : List S34) (f7 : ByteArray) (f8 : Bool) (A9 : Option Addr) (c9 : Nat) (cs : List S36) (w : World) (hT : Tabs w)
    (hF : Fine f0 f1 f2 f3 f4 f5 xs f7 cs) (hA : Kd.C k34 w A6 xs.length xs) (hC : Kd.C k36 w A9 cs.length cs)
    (h1 : f1 = 1) : Calls Tryd.prog 6 #[.agg #[.int .i64 f0, .int .i64 f1, .int .i64 f2, .string f3, .string f4, .string f5, .slice A6 xs.length c6, .string f7, .bool f8, .slice A9 cs.length c9]] w fun e w' => e = .returned (.string (showB f0 f1 f2 f3 f4 f5 xs f7 f8 cs)) ∧ Below w.heap.size w w' := by
  subst h1
  obtain ⟨w0, ew0⟩ : ∃ w0, w0 = (w.alloc (.cells #[.int .i64 f0, .int .i64 1, .int .i64 f2, .string f3, .string f4, .string f5, .slice A6 xs.length c6, .string f7, .bool f8, .slice A9 cs.length c9] 29)) := ⟨_, rfl⟩
  have hw0 : w0.heap.size = w.heap.size + 1 := by rw [ew0]; exact World.size_alloc _ _
  have HB0 := Lib.hid (bd0 w0)
  rw [hw0] at HB0
  have HT0 : Hid (Tabs w0) := by rw [ew0]; exact Lib.hid (Tabs_at hT ((Below.refl w.heap.size w).alloc (Nat.le_refl _) (.cells #[.int .i64 f0, .int .i64 1, .int .i64 f2, .string f3, .string f4, .string f5, .slice A6 xs.length c6, .string f7, .bool f8, .slice A9 cs.length c9] 29)))
  have HX : Hid (At w0 w.heap.size [.int .i64 f0, .int .i64 1, .int .i64 f2, .string f3, .string f4, .string f5, .slice A6 xs.length c6, .string f7, .bool f8, .slice A9 cs.length c9] 29) := by rw [ew0]; exact Lib.hid (At.fresh w [.int .i64 f0, .int .i64 1, .int .i64 f2, .string f3, .string f4, .string f5, .slice A6 xs.length c6, .string f7, .bool f8, .slice A9 cs.length c9] 29)
  have HBW : Hid (Below w.heap.size w w0) := by rw [ew0]; exact Lib.hid ((Below.refl w.heap.size w).alloc (Nat.le_refl _) (.cells #[.int .i64 f0, .int .i64 1, .int .i64 f2, .string f3, .string f4, .string f5, .slice A6 xs.length c6, .string f7, .bool f8, .slice A9 cs.length c9] 29))
  conv at HB0 => arg 1; arg 4; rw [ew0]
  clear ew0
  have HF := Lib.hid hF
  have HA := Lib.hid hA
  have HC := Lib.hid hC
  have zd0 := dec_size f0 hF.a0 hF.b0
  have zd2 := dec_size f2 hF.a2 hF.b2
  have hs : showB f0 1 f2 f3 f4 f5 xs f7 f8 cs = attrs (entry0 f0 f5) xs xs.length ++ ⟨#[10]⟩ := if_pos rfl
  rw [hs]
  clear hT hA hC hs
  go_enter Tryd.func6, Tryd.ntmps6
  go_wp2_with (first | (go_at_call 11; ((with_reducible refine (itoa_dec f0 hF.a0 hF.b0 _ ?ht).mono ?_); (case ht => exact Tabs_at HT0.out HB0.out.bel); rintro e W1 ⟨rfl, q⟩; have H1 := Lib.hid (HB0.out.on q); clear q)) | (go_at_call 10; (first | ((with_reducible refine (wr_as w0 _ (w.heap.size + 1) ⟨#[]⟩ ((⟨#[35, 32]⟩ ++ dec f0) ++ ⟨#[32]⟩) H1.out ?hz).mono ?_); (case hz => simp only [ByteArray.size_append, sz, List.length_cons, List.length_nil]; omega); rintro e W2 ⟨rfl, q1, q2⟩; have H2 := Lib.hid (And.intro q1 q2); have hx_ := HX.out.below q1.bel (by rw [hw0]; omega); have cW21 := hx_.get 1 _ rfl; clear hx_; clear q1 q2) | ((with_reducible refine (wr_as w0 _ (w.heap.size + 1) (⟨#[]⟩ ++ ((⟨#[35, 32]⟩ ++ dec f0) ++ ⟨#[32]⟩)) ⟨#[101, 110, 116, 114, 121, 10]⟩ H2.out.1 ?hz).mono ?_); (case hz => simp only [ByteArray.size_append, sz, List.length_cons, List.length_nil]; omega); rintro e W3 ⟨rfl, q1, q2⟩; have H3 := Lib.hid (And.intro q1 q2); have hx_ := HX.out.below q1.bel (by rw [hw0]; omega); have cW35 := hx_.get 5 _ rfl; clear hx_; clear q1 q2))) | (go_at_call 12; ((with_reducible refine (put_as w0 _ (w.heap.size + 1) _ ⟨#[100, 110]⟩ f5 HT0.out H3.out.1 ?hz ?hd hF.z5).mono ?_); (case hz => simp only [ByteArray.size_append, sz, List.length_cons, List.length_nil]; omega); (case hd => rw [sz]; decide); rintro e W4 ⟨rfl, q1, q2⟩; have e4 : ((⟨#[]⟩ ++ ((⟨#[35, 32]⟩ ++ dec f0) ++ ⟨#[32]⟩)) ++ ⟨#[101, 110, 116, 114, 121, 10]⟩) ++ lineB ⟨#[100, 110]⟩ f5 = entry0 f0 f5 := (by rw [nil_app]; unfold entry0; congr 1; rw [ByteArray.append_assoc]; rfl); rw [e4] at q1; have hx_ := HX.out.below q1.bel (by rw [hw0]; omega); have cW46 := hx_.get 6 _ rfl; clear hx_; have H4 := Lib.hid q1; clear q1 q2 e4)) | go_in)
  go_loopw [27] (fun v27 wr => ∃ x : Int, 0 ≤ x ∧ x ≤ (xs.length : Int) ∧ v27 = .int .i64 x ∧ Hid (Bd w0 (w.heap.size + 1) (attrs (entry0 f0 f5) xs x.toNat) wr)) (fun v _ => xs.length - (intOf v).toNat)
  case atStart => exact ⟨0, Int.le_refl 0, by omega, rfl, by have := H4.out; simpa [attrs] using Lib.hid this⟩
  case round =>
    rename World => wo
    obtain ⟨x, p0, p1, rfl, HR⟩ := hrel
    have ex : ((x.toNat : Nat) : Int) = x := Int.toNat_of_nonneg p0
    by_cases q : x < (xs.length : Int)
    · have hbw : Below w.heap.size w wo := HBW.out.trans (HR.out.bel.mono (by rw [hw0]; omega))
      obtain ⟨ad, A2, c2, eA, k0, k1, k2, hc2, hv⟩ := at_T34 HA.out x p0 q
      replace k0 := (hbw.cell (World.block_lt_of_cell? w _ k0)).trans k0
      replace k1 := (hbw.cell (World.block_lt_of_cell? w _ k1)).trans k1
      replace k2 := (hbw.cell (World.block_lt_of_cell? w _ k2)).trans k2
      subst eA
      have HV2 := Lib.hid hv
      have hblt : wo.heap.size ≠ w.heap.size + 1 := fun e => by have := HR.out.lt; omega
      have hil : x.toNat < xs.length := by omega
      have hat := HF.out.fa.at x.toNat hil
      have hin := fun j => in_size (entry0 f0 f5) xs HF.out.fa x.toNat j hil
      have hvl := HF.out.fa.vlen x.toNat hil
      have hnl := HF.out.fa.len
      have hsu := attrs_succ (entry0 f0 f5) xs x.toNat hil
      have zz := attrs_le (entry0 f0 f5) xs HF.out.fa x.toNat (by omega)
      have ze := entry0_size f0 f5 ⟨hF.a0, hF.b0⟩ hF.z5
      rw [ex] at hat hin hvl hsu
      have hlt := eq_true q
      have HIN := Lib.hid hin
      have HSU := Lib.hid hsu
      have HAT := Lib.hid hat
      have hd := hat.1
      clear hv hin hsu hat hbw
      have HP0 := Lib.hid (At.fresh wo [.string (rd_T34 xs x).f0, .string (rd_T34 xs x).f1, .slice A2 (rd_T34 xs x).f2.length c2] 34)
      have HR0 := Lib.hid (HR.out.on ((Below.refl wo.heap.size wo).alloc (Nat.le_refl _) (.cells #[.string (rd_T34 xs x).f0, .string (rd_T34 xs x).f1, .slice A2 (rd_T34 xs x).f2.length c2] 34)))
      by_cases c : ((rd_T34 xs x).f2.length : Int) = 0
      · have e1 : (((rd_T34 xs x).f2.length : Int) == 0) = true := beq_iff_eq.2 c
        have HC0 := Lib.hid c
        clear c
        go_wp2_with (first | (go_at_call 10; ((with_reducible refine (wr_as w0 _ (w.heap.size + 1) (attrs (entry0 f0 f5) xs x.toNat) ((⟨#[35, 32]⟩ ++ (rd_T34 xs x).f0) ++ ⟨#[10]⟩) HR0.out ?hz).mono ?_); (case hz => simp only [ByteArray.size_append, sz, List.length_cons, List.length_nil]; omega); rintro e W5 ⟨rfl, q1, q2⟩; have hp5 := q2.at HP0.out hblt (by decide); have cW52 := hp5.get 2 _ rfl; have H5 : Hid (Bd w0 (w.heap.size + 1) (hdr (attrs (entry0 f0 f5) xs x.toNat) (rd_T34 xs x)) W5 ∧ At W5 wo.heap.size [.string (rd_T34 xs x).f0, .string (rd_T34 xs x).f1, .slice A2 (rd_T34 xs x).f2.length c2] 34) := Lib.hid ⟨by unfold hdr; rw [if_pos HC0.out]; exact q1, hp5⟩; clear q1 q2 hp5)) | go_in)
        go_loopw [43] (fun v43 wv => ∃ y : Int, 0 ≤ y ∧ y ≤ ((rd_T34 xs x).f2.length : Int) ∧ v43 = .int .i64 y ∧ Hid (Bd w0 (w.heap.size + 1) (vals (rd_T34 xs x).f0 (hdr (attrs (entry0 f0 f5) xs x.toNat) (rd_T34 xs x)) (rd_T34 xs x).f2 y.toNat) wv ∧ At wv wo.heap.size [.string (rd_T34 xs x).f0, .string (rd_T34 xs x).f1, .slice A2 (rd_T34 xs x).f2.length c2] 34)) (fun v _ => (rd_T34 xs x).f2.length - (intOf v).toNat)
        case atStart => exact ⟨0, Int.le_refl 0, by omega, rfl, by have := H5.out; rw [Int.toNat_zero, show (vals (rd_T34 xs x).f0 (hdr (attrs (entry0 f0 f5) xs x.toNat) (rd_T34 xs x)) (rd_T34 xs x).f2 0) = hdr (attrs (entry0 f0 f5) xs x.toNat) (rd_T34 xs x) by simp [vals]]; exact this⟩
        case round =>
          obtain ⟨y, y0, y1, rfl, HV⟩ := hrel
          have ey : ((y.toNat : Nat) : Int) = y := Int.toNat_of_nonneg y0
          by_cases yq : y < ((rd_T34 xs x).f2.length : Int)
          · have hbv : Below w.heap.size w wr := HBW.out.trans (HV.out.1.bel.mono (by rw [hw0]; omega))
            obtain ⟨ad2, e2, hv0⟩ := Kd.at_string (Kd.C_below HV2.out hbv) y y0 yq
            subst e2
            have yl := eq_true yq
            have cp0 := HV.out.2.get 0 _ rfl
            have zi := HIN.out y.toNat (by omega)
            have hmem := HAT.out.2 _ (rd_mem (rd_T34 xs x).f2 y.toNat (by omega))
            have hvs := vals_succ (rd_T34 xs x).f0 (hdr (attrs (entry0 f0 f5) xs x.toNat) (rd_T34 xs x)) (rd_T34 xs x).f2 y.toNat (by omega)
            rw [ey] at hmem hvs
            have HVS := Lib.hid hvs
            have w1 : wrap64 (y + 1) = y + 1 := wrp_id _ (by omega) (by omega)
            clear hvs hbv
            go_wp2_with (first | (go_at_call 12; ((with_reducible refine (put_as w0 _ (w.heap.size + 1) _ (rd_T34 xs x).f0 (rdOf ByteArray.empty (rd_T34 xs x).f2 y) HT0.out HV.out.1 ?hz hd hmem).mono ?_); (case hz => omega); rintro e W7 ⟨rfl, q1, q2⟩; have hp7 := q2.at HV.out.2 hblt (by decide); rw [← HVS.out] at q1; have H7 := Lib.hid (And.intro q1 hp7); clear q1 q2 hp7)) | go_in)
            go_roundw
            case rel => exact ⟨y + 1, by omega, by omega, by first | rfl | (simp only [i64_w, w1]), by rw [show (y + 1).toNat = y.toNat + 1 by omega]; exact H7⟩
            case measure => simp only [intOf, i64_w, w1]; omega
          · have w1 : wrap64 (x + 1) = x + 1 := wrp_id _ (by omega) (by omega)
            have yl := eq_false yq
            obtain rfl : y = ((rd_T34 xs x).f2.length : Int) := by omega
            rw [Int.toNat_natCast] at HV
            have HN : Hid (Bd w0 (w.heap.size + 1) (attrs (entry0 f0 f5) xs (x.toNat + 1)) wr) := by rw [HSU.out]; exact Lib.hid HV.out.1
            go_wp2
            go_roundw
            case rel => exact ⟨x + 1, by omega, by omega, by first | rfl | (simp only [i64_w, w1]), by rw [show (x + 1).toNat = x.toNat + 1 by omega]; exact HN⟩
            case measure => simp only [intOf, i64_w, w1]; omega
      · have e1 : (((rd_T34 xs x).f2.length : Int) == 0) = false := beq_eq_false_iff_ne.2 c
        have H5 : Hid (Bd w0 (w.heap.size + 1) (hdr (attrs (entry0 f0 f5) xs x.toNat) (rd_T34 xs x)) (wo.alloc (.cells #[.string (rd_T34 xs x).f0, .string (rd_T34 xs x).f1, .slice A2 (rd_T34 xs x).f2.length c2] 34)) ∧ At (wo.alloc (.cells #[.string (rd_T34 xs x).f0, .string (rd_T34 xs x).f1, .slice A2 (rd_T34 xs x).f2.length c2] 34)) wo.heap.size [.string (rd_T34 xs x).f0, .string (rd_T34 xs x).f1, .slice A2 (rd_T34 xs x).f2.length c2] 34) := Lib.hid ⟨by unfold hdr; rw [if_neg c]; exact HR0.out, HP0.out⟩
        clear c
        go_wp2
        go_loopw [43] (fun v43 wv => ∃ y : Int, 0 ≤ y ∧ y ≤ ((rd_T34 xs x).f2.length : Int) ∧ v43 = .int .i64 y ∧ Hid (Bd w0 (w.heap.size + 1) (vals (rd_T34 xs x).f0 (hdr (attrs (entry0 f0 f5) xs x.toNat) (rd_T34 xs x)) (rd_T34 xs x).f2 y.toNat) wv ∧ At wv wo.heap.size [.string (rd_T34 xs x).f0, .string (rd_T34 xs x).f1, .slice A2 (rd_T34 xs x).f2.length c2] 34)) (fun v _ => (rd_T34 xs x).f2.length - (intOf v).toNat)
        case atStart => exact ⟨0, Int.le_refl 0, by omega, rfl, by have := H5.out; rw [Int.toNat_zero, show (vals (rd_T34 xs x).f0 (hdr (attrs (entry0 f0 f5) xs x.toNat) (rd_T34 xs x)) (rd_T34 xs x).f2 0) = hdr (attrs (entry0 f0 f5) xs x.toNat) (rd_T34 xs x) by simp [vals]]; exact this⟩
        case round =>
          obtain ⟨y, y0, y1, rfl, HV⟩ := hrel
          have ey : ((y.toNat : Nat) : Int) = y := Int.toNat_of_nonneg y0
          by_cases yq : y < ((rd_T34 xs x).f2.length : Int)
          · have hbv : Below w.heap.size w wr := HBW.out.trans (HV.out.1.bel.mono (by rw [hw0]; omega))
            obtain ⟨ad2, e2, hv0⟩ := Kd.at_string (Kd.C_below HV2.out hbv) y y0 yq
            subst e2
            have yl := eq_true yq
            have cp0 := HV.out.2.get 0 _ rfl
            have zi := HIN.out y.toNat (by omega)
            have hmem := HAT.out.2 _ (rd_mem (rd_T34 xs x).f2 y.toNat (by omega))
            have hvs := vals_succ (rd_T34 xs x).f0 (hdr (attrs (entry0 f0 f5) xs x.toNat) (rd_T34 xs x)) (rd_T34 xs x).f2 y.toNat (by omega)
            rw [ey] at hmem hvs
            have HVS := Lib.hid hvs
            have w1 : wrap64 (y + 1) = y + 1 := wrp_id _ (by omega) (by omega)
            clear hvs hbv
            go_wp2_with (first | (go_at_call 12; ((with_reducible refine (put_as w0 _ (w.heap.size + 1) _ (rd_T34 xs x).f0 (rdOf ByteArray.empty (rd_T34 xs x).f2 y) HT0.out HV.out.1 ?hz hd hmem).mono ?_); (case hz => omega); rintro e W7 ⟨rfl, q1, q2⟩; have hp7 := q2.at HV.out.2 hblt (by decide); rw [← HVS.out] at q1; have H7 := Lib.hid (And.intro q1 hp7); clear q1 q2 hp7)) | go_in)
            go_roundw
            case rel => exact ⟨y + 1, by omega, by omega, by first | rfl | (simp only [i64_w, w1]), by rw [show (y + 1).toNat = y.toNat + 1 by omega]; exact H7⟩
            case measure => simp only [intOf, i64_w, w1]; omega
          · have w1 : wrap64 (x + 1) = x + 1 := wrp_id _ (by omega) (by omega)
            have yl := eq_false yq
            obtain rfl : y = ((rd_T34 xs x).f2.length : Int) := by omega
            rw [Int.toNat_natCast] at HV
            have HN : Hid (Bd w0 (w.heap.size + 1) (attrs (entry0 f0 f5) xs (x.toNat + 1)) wr) := by rw [HSU.out]; exact Lib.hid HV.out.1
            go_wp2
            go_roundw
            case rel => exact ⟨x + 1, by omega, by omega, by first | rfl | (simp only [i64_w, w1]), by rw [show (x + 1).toNat = x.toNat + 1 by omega]; exact HN⟩
            case measure => simp only [intOf, i64_w, w1]; omega

    · obtain rfl : x = (xs.length : Int) := by omega
      have zz := attrs_le (entry0 f0 f5) xs HF.out.fa xs.length (Nat.le_refl _)
      have ze := entry0_size f0 f5 ⟨hF.a0, hF.b0⟩ hF.z5
      rw [Int.toNat_natCast] at HR
      go_wp2_with (first | (go_at_call 10; ((with_reducible refine (wr_as w0 _ (w.heap.size + 1) (attrs (entry0 f0 f5) xs xs.length) ⟨#[10]⟩ HR.out ?hz).mono ?_); (case hz => simp only [sz, List.length_cons, List.length_nil]; omega); rintro e W5 ⟨rfl, q1, q2⟩; have H5 := Lib.hid q1; clear q1 q2)) | (go_at_call 13; ((with_reducible refine (str_as w0 _ (w.heap.size + 1) _ H5.out).mono ?_); rintro e W6 ⟨rfl, q1⟩; have H6 := Lib.hid q1; clear q1)) | go_in)
      go_ret
      exact ⟨rfl, HBW.out.trans (H6.out.mono (by rw [hw0]; omega))⟩
set_option maxHeartbeats 4000000 in
set_option maxRecDepth 100000 in
theorem other_in (f0 f1 f2 : Int) (f3 f4 f5 : ByteArray) (A6 : Option Addr) (c6 : Nat) (xs : List S34) (f7 : ByteArray) (f8 : Bool) (A9 : Option Addr) (c9 : Nat) (cs : List S36) (w : World) (hT : Tabs w)
    (hF : Fine f0 f1 f2 f3 f4 f5 xs f7 cs) (hA : Kd.C k34 w A6 xs.length xs) (hC : Kd.C k36 w A9 cs.length cs)
    (hp0 : 0 ≤ f1) (hp9 : f1 < 9) (h1 : f1 ≠ 1) : Calls Tryd.prog 6 #[.agg #[.int .i64 f0, .int .i64 f1, .int .i64 f2, .string f3, .string f4, .string f5, .slice A6 xs.length c6, .string f7, .bool f8, .slice A9 cs.length c9]] w fun e w' => e = .returned (.string (showB f0 f1 f2 f3 f4 f5 xs f7 f8 cs)) ∧ Below w.heap.size w w' := by
  obtain ⟨w0, ew0⟩ : ∃ w0, w0 = (w.alloc (.cells #[.int .i64 f0, .int .i64 f1, .int .i64 f2, .string f3, .string f4, .string f5, .slice A6 xs.length c6, .string f7, .bool f8, .slice A9 cs.length c9] 29)) := ⟨_, rfl⟩
  have hw0 : w0.heap.size = w.heap.size + 1 := by rw [ew0]; exact World.size_alloc _ _
  have HB0 := Lib.hid (bd0 w0)
  rw [hw0] at HB0
  have HT0 : Hid (Tabs w0) := by rw [ew0]; exact Lib.hid (Tabs_at hT ((Below.refl w.heap.size w).alloc (Nat.le_refl _) (.cells #[.int .i64 f0, .int .i64 f1, .int .i64 f2, .string f3, .string f4, .string f5, .slice A6 xs.length c6, .string f7, .bool f8, .slice A9 cs.length c9] 29)))
  have HX : Hid (At w0 w.heap.size [.int .i64 f0, .int .i64 f1, .int .i64 f2, .string f3, .string f4, .string f5, .slice A6 xs.length c6, .string f7, .bool f8, .slice A9 cs.length c9] 29) := by rw [ew0]; exact Lib.hid (At.fresh w [.int .i64 f0, .int .i64 f1, .int .i64 f2, .string f3, .string f4, .string f5, .slice A6 xs.length c6, .string f7, .bool f8, .slice A9 cs.length c9] 29)
  have HBW : Hid (Below w.heap.size w w0) := by rw [ew0]; exact Lib.hid ((Below.refl w.heap.size w).alloc (Nat.le_refl _) (.cells #[.int .i64 f0, .int .i64 f1, .int .i64 f2, .string f3, .string f4, .string f5, .slice A6 xs.length c6, .string f7, .bool f8, .slice A9 cs.length c9] 29))
  conv at HB0 => arg 1; arg 4; rw [ew0]
  clear ew0
  have HF := Lib.hid hF
  have HA := Lib.hid hA
  have HC := Lib.hid hC
  have zd0 := dec_size f0 hF.a0 hF.b0
  have zd2 := dec_size f2 hF.a2 hF.b2
  have e1 : (f1 == (1 : Int)) = false := beq_eq_false_iff_ne.2 h1
  have hs : showB f0 f1 f2 f3 f4 f5 xs f7 f8 cs = ctrls (s3 (s2 (s1 (CsEv.start f0 f1 f2) f3) f4) f7 f8) cs cs.length := if_neg h1
  rw [hs]
  have hst : (⟨#[]⟩ ++ ((⟨#[35, 32]⟩ ++ dec f0) ++ ⟨#[32]⟩)) ++ (((wordB f1 ++ ⟨#[32]⟩) ++ dec f2) ++ ⟨#[10]⟩) = CsEv.start f0 f1 f2 := by
    rw [nil_app]
    unfold CsEv.start
    simp only [ByteArray.append_assoc]
  have HST := Lib.hid hst
  have zst := start_size f0 f1 f2 ⟨hF.a0, hF.b0⟩ ⟨hF.a2, hF.b2⟩
  have zs1 := s1_size (CsEv.start f0 f1 f2) f3 hF.z3
  have zs2 := s2_size (s1 (CsEv.start f0 f1 f2) f3) f4 hF.z4
  have zs3 := s3_size (s2 (s1 (CsEv.start f0 f1 f2) f3) f4) f7 f8 hF.z7
  have g0 : decide (0 ≤ f1) = true := decide_eq_true hp0
  have g1 : decide (f1 < 9) = true := decide_eq_true hp9
  have zw := word_size f1
  clear hT hA hC hs hst h1
  go_enter Tryd.func6, Tryd.ntmps6
  go_upto_if 79 with (first
    | (go_at_call 11; (first
            | ((with_reducible refine (itoa_dec f0 hF.a0 hF.b0 _ ?ht).mono ?_); (case ht => exact Tabs_at HT0.out HB0.out.bel); rintro e W1 ⟨rfl, q⟩; have H1 := Lib.hid (HB0.out.on q); clear q)
            | ((with_reducible refine (itoa_dec f2 hF.a2 hF.b2 _ ?ht).mono ?_); (case ht => exact Tabs_at HT0.out H2.out.bel); rintro e W3 ⟨rfl, q⟩; have H3 := Lib.hid (H2.out.on q); clear q)))
    | (go_at_call 10; (first
            | ((with_reducible refine (wr_as w0 _ (w.heap.size + 1) ⟨#[]⟩ ((⟨#[35, 32]⟩ ++ dec f0) ++ ⟨#[32]⟩) H1.out ?hz).mono ?_); (case hz => simp only [ByteArray.size_append, sz, List.length_cons, List.length_nil]; omega); rintro e W2 ⟨rfl, q1, q2⟩; have hx_ := HX.out.below q1.bel (by rw [hw0]; omega); have cW2_1 := hx_.get 1 _ rfl; have cW2_2 := hx_.get 2 _ rfl; clear hx_; have hw_ := word_cell f1 hp0 hp9 HT0.out q1.bel; have cw := hw_;  clear hw_; have H2 := Lib.hid q1; clear q1 q2)
            | ((with_reducible refine (wr_as w0 _ (w.heap.size + 1) (⟨#[]⟩ ++ ((⟨#[35, 32]⟩ ++ dec f0) ++ ⟨#[32]⟩)) (((wordB f1 ++ ⟨#[32]⟩) ++ dec f2) ++ ⟨#[10]⟩) H3.out ?hz).mono ?_); (case hz => simp only [ByteArray.size_append, sz, List.length_cons, List.length_nil]; omega); rintro e W4 ⟨rfl, q1, q2⟩; rw [HST.out] at q1; have hx_ := HX.out.below q1.bel (by rw [hw0]; omega); have cW4_3 := hx_.get 3 _ rfl; clear hx_; have H4 := Lib.hid q1; clear q1 q2)))
    | go_in)
  go_cut [2] (fun v2 wc => v2 = .string ⟨#[]⟩ ∧ Hid (Bd w0 (w.heap.size + 1) (s1 (CsEv.start f0 f1 f2) f3) wc))
  case first =>
    by_cases c : f3.toList = ([] : List UInt8)
    · have hx : s1 (CsEv.start f0 f1 f2) f3 = CsEv.start f0 f1 f2 := by rw [s1, if_pos c]
      have HXX := Lib.hid hx
      clear hx
      have e1 : (f3.toList == ([] : List UInt8)) = true := beq_iff_eq.2 c
      have e2 : f3.toList.isEmpty = true := by simpa using e1
      have e3 : (!f3.toList.isEmpty) = false := by rw [e2]; rfl
      clear c
      (first | rw [e3] | rw [e2] | skip)
      go_wp2
      go_meet
      case rel => exact ⟨rfl, by rw [HXX.out]; exact H4⟩
    · have hx : s1 (CsEv.start f0 f1 f2) f3 = CsEv.start f0 f1 f2 ++ lineB ⟨#[109, 97, 116, 99, 104, 101, 100]⟩ f3 := by rw [s1, if_neg c]
      have HXX := Lib.hid hx
      clear hx
      have e1 : (f3.toList == ([] : List UInt8)) = false := beq_eq_false_iff_ne.2 c
      have e2 : f3.toList.isEmpty = false := by simpa using e1
      have e3 : (!f3.toList.isEmpty) = true := by rw [e2]; rfl
      clear c
      (first | rw [e3] | rw [e2] | skip)
      go_wp2_with (first | (go_at_call 12; ((with_reducible refine (put_as w0 _ (w.heap.size + 1) (CsEv.start f0 f1 f2) ⟨#[109, 97, 116, 99, 104, 101, 100]⟩ f3 HT0.out H4.out ?hz ?hd hF.z3).mono ?_); (case hz => omega); (case hd => rw [sz]; decide); rintro e WP ⟨rfl, q1, q2⟩; rw [← HXX.out] at q1; have HP := Lib.hid q1; clear q1 q2)) | go_in)
      go_meet
      case rel => exact ⟨rfl, HP⟩
  case rest =>
  rename World => V1
  obtain ⟨rfl, K1⟩ := hcut
  have hx_ := HX.out.below K1.out.bel (by rw [hw0]; omega)
  have cV1_4 := hx_.get 4 _ rfl
  clear hx_
  go_upto_if 87 with (fail)
  go_cut [2] (fun v2 wc => v2 = .string ⟨#[]⟩ ∧ Hid (Bd w0 (w.heap.size + 1) (s2 (s1 (CsEv.start f0 f1 f2) f3) f4) wc))
  case first =>
    by_cases c : f4.toList = ([] : List UInt8)
    · have hx : s2 (s1 (CsEv.start f0 f1 f2) f3) f4 = s1 (CsEv.start f0 f1 f2) f3 := by rw [s2, if_pos c]
      have HXX := Lib.hid hx
      clear hx
      have e1 : (f4.toList == ([] : List UInt8)) = true := beq_iff_eq.2 c
      have e2 : f4.toList.isEmpty = true := by simpa using e1
      have e3 : (!f4.toList.isEmpty) = false := by rw [e2]; rfl
      clear c
      (first | rw [e3] | rw [e2] | skip)
      go_wp2
      go_meet
      case rel => exact ⟨rfl, by rw [HXX.out]; exact K1⟩
    · have hx : s2 (s1 (CsEv.start f0 f1 f2) f3) f4 = s1 (CsEv.start f0 f1 f2) f3 ++ lineB ⟨#[116, 101, 120, 116]⟩ f4 := by rw [s2, if_neg c]
      have HXX := Lib.hid hx
      clear hx
      have e1 : (f4.toList == ([] : List UInt8)) = false := beq_eq_false_iff_ne.2 c
      have e2 : f4.toList.isEmpty = false := by simpa using e1
      have e3 : (!f4.toList.isEmpty) = true := by rw [e2]; rfl
      clear c
      (first | rw [e3] | rw [e2] | skip)
      go_wp2_with (first | (go_at_call 12; ((with_reducible refine (put_as w0 _ (w.heap.size + 1) (s1 (CsEv.start f0 f1 f2) f3) ⟨#[116, 101, 120, 116]⟩ f4 HT0.out K1.out ?hz ?hd hF.z4).mono ?_); (case hz => omega); (case hd => rw [sz]; decide); rintro e WP ⟨rfl, q1, q2⟩; rw [← HXX.out] at q1; have HP := Lib.hid q1; clear q1 q2)) | go_in)
      go_meet
      case rel => exact ⟨rfl, HP⟩
  case rest =>
  rename World => V2
  obtain ⟨rfl, K2⟩ := hcut
  have hx_ := HX.out.below K2.out.bel (by rw [hw0]; omega)
  have cV2_6 := hx_.get 6 _ rfl
  have cV2_8 := hx_.get 8 _ rfl
  clear hx_
  go_upto_if 93 with (fail)
  go_cut [2] (fun v2 wc => v2 = .string ⟨#[]⟩ ∧ Hid (Bd w0 (w.heap.size + 1) (s3 (s2 (s1 (CsEv.start f0 f1 f2) f3) f4) f7 f8) wc))
  case first =>
    by_cases c : f8 = true
    · have hx : s3 (s2 (s1 (CsEv.start f0 f1 f2) f3) f4) f7 f8 = s2 (s1 (CsEv.start f0 f1 f2) f3) f4 ++ lineB ⟨#[111, 105, 100]⟩ f7 := by rw [s3, if_pos c]
      have HXX := Lib.hid hx
      clear hx
      subst c
      have cV2_5 := (HX.out.below K2.out.bel (by rw [hw0]; omega)).get 7 _ rfl
      go_wp2_with (first | (go_at_call 12; ((with_reducible refine (put_as w0 _ (w.heap.size + 1) (s2 (s1 (CsEv.start f0 f1 f2) f3) f4) ⟨#[111, 105, 100]⟩ f7 HT0.out K2.out ?hz ?hd hF.z7).mono ?_); (case hz => omega); (case hd => rw [sz]; decide); rintro e WP ⟨rfl, q1, q2⟩; rw [← HXX.out] at q1; have HP := Lib.hid q1; clear q1 q2)) | go_in)
      go_meet
      case rel => exact ⟨rfl, HP⟩
    · have hx : s3 (s2 (s1 (CsEv.start f0 f1 f2) f3) f4) f7 f8 = s2 (s1 (CsEv.start f0 f1 f2) f3) f4 := by rw [s3, if_neg c]
      have HXX := Lib.hid hx
      clear hx
      obtain rfl : f8 = false := by simpa using c
      clear c
      go_wp2
      go_meet
      case rel => exact ⟨rfl, by rw [HXX.out]; exact K2⟩
  case rest =>
  rename World => V3
  obtain ⟨rfl, K3⟩ := hcut
  have hx_ := HX.out.below K3.out.bel (by rw [hw0]; omega)
  have cV3_9 := hx_.get 9 _ rfl
  clear hx_
  have ncs := HF.out.fc.n
  go_wp2
  go_loopw [100] (fun v100 wr => ∃ x : Int, 0 ≤ x ∧ x ≤ (cs.length : Int) ∧ v100 = .int .i64 x ∧ Hid (Bd w0 (w.heap.size + 1) (ctrls (s3 (s2 (s1 (CsEv.start f0 f1 f2) f3) f4) f7 f8) cs x.toNat) wr)) (fun v _ => cs.length - (intOf v).toNat)
  case atStart => exact ⟨0, Int.le_refl 0, by omega, rfl, by have := K3.out; simpa [ctrls] using Lib.hid this⟩
  case round =>
    rename World => wo
    obtain ⟨x, p0, p1, rfl, HR⟩ := hrel
    have ex : ((x.toNat : Nat) : Int) = x := Int.toNat_of_nonneg p0
    by_cases q : x < (cs.length : Int)
    · have hbw : Below w.heap.size w wo := HBW.out.trans (HR.out.bel.mono (by rw [hw0]; omega))
      obtain ⟨ad, eA, k0, k1, k2, k3⟩ := at_T36 (Kd.C_below HC.out hbw) x p0 q
      subst eA
      have hil : x.toNat < cs.length := by omega
      have hat := HF.out.fc.at x.toNat hil
      have zz := ctrls_le (s3 (s2 (s1 (CsEv.start f0 f1 f2) f3) f4) f7 f8) cs HF.out.fc x.toNat (by omega)
      have hsu := ctrls_succ (s3 (s2 (s1 (CsEv.start f0 f1 f2) f3) f4) f7 f8) cs x.toNat hil
      rw [ex] at hat hsu
      have HSU := Lib.hid hsu
      have hlt := eq_true q
      have w1 : wrap64 (x + 1) = x + 1 := wrp_id _ (by omega) (by omega)
      have HR0 := Lib.hid (HR.out.on ((Below.refl wo.heap.size wo).alloc (Nat.le_refl _) (.cells #[.string (rd_T36 cs x).f0, .bool (rd_T36 cs x).f1, .string (rd_T36 cs x).f2, .bool (rd_T36 cs x).f3] 36)))
      clear hsu hbw
      go_wp2_with (first | (go_at_call 12; ((with_reducible refine (put_as w0 _ (w.heap.size + 1) _ ⟨#[99, 111, 110, 116, 114, 111, 108]⟩ (rd_T36 cs x).f0 HT0.out HR0.out ?hz ?hd hat).mono ?_); (case hz => omega); (case hd => rw [sz]; decide); rintro e W7 ⟨rfl, q1, q2⟩; rw [← HSU.out] at q1; have H7 := Lib.hid q1; clear q1 q2)) | go_in)
      go_roundw
      case rel => exact ⟨x + 1, by omega, by omega, by first | rfl | (simp only [i64_w, w1]), by rw [show (x + 1).toNat = x.toNat + 1 by omega]; exact H7⟩
      case measure => simp only [intOf, i64_w, w1]; omega
    · have hlt := eq_false q
      obtain rfl : x = (cs.length : Int) := by omega
      rw [Int.toNat_natCast] at HR
      go_wp2_with (first | (go_at_call 13; ((with_reducible refine (str_as w0 _ (w.heap.size + 1) _ HR.out).mono ?_); rintro e W6 ⟨rfl, q1⟩; have H6 := Lib.hid q1; clear q1)) | go_in)
      go_ret
      exact ⟨rfl, HBW.out.trans (H6.out.mono (by rw [hw0]; omega))⟩
set_option maxHeartbeats 4000000 in
set_option maxRecDepth 100000 in
theorem other_hi (f0 f1 f2 : Int) (f3 f4 f5 : ByteArray) (A6 : Option Addr) (c6 : Nat) (xs : List S34) (f7 : ByteArray) (f8 : Bool) (A9 : Option Addr) (c9 : Nat) (cs : List S36) (w : World) (hT : Tabs w)
    (hF : Fine f0 f1 f2 f3 f4 f5 xs f7 cs) (hA : Kd.C k34 w A6 xs.length xs) (hC : Kd.C k36 w A9 cs.length cs)
    (hp9 : ¬ f1 < 9) (h1 : f1 ≠ 1) : Calls Tryd.prog 6 #[.agg #[.int .i64 f0, .int .i64 f1, .int .i64 f2, .string f3, .string f4, .string f5, .slice A6 xs.length c6, .string f7, .bool f8, .slice A9 cs.length c9]] w fun e w' => e = .returned (.string (showB f0 f1 f2 f3 f4 f5 xs f7 f8 cs)) ∧ Below w.heap.size w w' := by
  obtain ⟨w0, ew0⟩ : ∃ w0, w0 = (w.alloc (.cells #[.int .i64 f0, .int .i64 f1, .int .i64 f2, .string f3, .string f4, .string f5, .slice A6 xs.length c6, .string f7, .bool f8, .slice A9 cs.length c9] 29)) := ⟨_, rfl⟩
  have hw0 : w0.heap.size = w.heap.size + 1 := by rw [ew0]; exact World.size_alloc _ _
  have HB0 := Lib.hid (bd0 w0)
  rw [hw0] at HB0
  have HT0 : Hid (Tabs w0) := by rw [ew0]; exact Lib.hid (Tabs_at hT ((Below.refl w.heap.size w).alloc (Nat.le_refl _) (.cells #[.int .i64 f0, .int .i64 f1, .int .i64 f2, .string f3, .string f4, .string f5, .slice A6 xs.length c6, .string f7, .bool f8, .slice A9 cs.length c9] 29)))
  have HX : Hid (At w0 w.heap.size [.int .i64 f0, .int .i64 f1, .int .i64 f2, .string f3, .string f4, .string f5, .slice A6 xs.length c6, .string f7, .bool f8, .slice A9 cs.length c9] 29) := by rw [ew0]; exact Lib.hid (At.fresh w [.int .i64 f0, .int .i64 f1, .int .i64 f2, .string f3, .string f4, .string f5, .slice A6 xs.length c6, .string f7, .bool f8, .slice A9 cs.length c9] 29)
  have HBW : Hid (Below w.heap.size w w0) := by rw [ew0]; exact Lib.hid ((Below.refl w.heap.size w).alloc (Nat.le_refl _) (.cells #[.int .i64 f0, .int .i64 f1, .int .i64 f2, .string f3, .string f4, .string f5, .slice A6 xs.length c6, .string f7, .bool f8, .slice A9 cs.length c9] 29))
  conv at HB0 => arg 1; arg 4; rw [ew0]
  clear ew0
  have HF := Lib.hid hF
  have HA := Lib.hid hA
  have HC := Lib.hid hC
  have zd0 := dec_size f0 hF.a0 hF.b0
  have zd2 := dec_size f2 hF.a2 hF.b2
  have e1 : (f1 == (1 : Int)) = false := beq_eq_false_iff_ne.2 h1
  have hs : showB f0 f1 f2 f3 f4 f5 xs f7 f8 cs = ctrls (s3 (s2 (s1 (CsEv.start f0 f1 f2) f3) f4) f7 f8) cs cs.length := if_neg h1
  rw [hs]
  have hst : (⟨#[]⟩ ++ ((⟨#[35, 32]⟩ ++ dec f0) ++ ⟨#[32]⟩)) ++ ((((⟨#[111, 116, 104, 101, 114]⟩ : ByteArray) ++ ⟨#[32]⟩) ++ dec f2) ++ ⟨#[10]⟩) = CsEv.start f0 f1 f2 := by
    rw [nil_app]
    unfold CsEv.start
    rw [show wordB f1 = (⟨#[111, 116, 104, 101, 114]⟩ : ByteArray) from if_neg (fun z => hp9 z.2)]
    simp only [ByteArray.append_assoc]
  have HST := Lib.hid hst
  have zst := start_size f0 f1 f2 ⟨hF.a0, hF.b0⟩ ⟨hF.a2, hF.b2⟩
  have zs1 := s1_size (CsEv.start f0 f1 f2) f3 hF.z3
  have zs2 := s2_size (s1 (CsEv.start f0 f1 f2) f3) f4 hF.z4
  have zs3 := s3_size (s2 (s1 (CsEv.start f0 f1 f2) f3) f4) f7 f8 hF.z7
  have g0 : decide (0 ≤ f1) = true := decide_eq_true (by omega)
  have g1 : decide (f1 < 9) = false := decide_eq_false hp9
  clear hT hA hC hs hst h1
  go_enter Tryd.func6, Tryd.ntmps6
  go_upto_if 79 with (first
    | (go_at_call 11; (first
            | ((with_reducible refine (itoa_dec f0 hF.a0 hF.b0 _ ?ht).mono ?_); (case ht => exact Tabs_at HT0.out HB0.out.bel); rintro e W1 ⟨rfl, q⟩; have H1 := Lib.hid (HB0.out.on q); clear q)
            | ((with_reducible refine (itoa_dec f2 hF.a2 hF.b2 _ ?ht).mono ?_); (case ht => exact Tabs_at HT0.out H2.out.bel); rintro e W3 ⟨rfl, q⟩; have H3 := Lib.hid (H2.out.on q); clear q)))
    | (go_at_call 10; (first
            | ((with_reducible refine (wr_as w0 _ (w.heap.size + 1) ⟨#[]⟩ ((⟨#[35, 32]⟩ ++ dec f0) ++ ⟨#[32]⟩) H1.out ?hz).mono ?_); (case hz => simp only [ByteArray.size_append, sz, List.length_cons, List.length_nil]; omega); rintro e W2 ⟨rfl, q1, q2⟩; have hx_ := HX.out.below q1.bel (by rw [hw0]; omega); have cW2_1 := hx_.get 1 _ rfl; have cW2_2 := hx_.get 2 _ rfl; clear hx_;  have H2 := Lib.hid q1; clear q1 q2)
            | ((with_reducible refine (wr_as w0 _ (w.heap.size + 1) (⟨#[]⟩ ++ ((⟨#[35, 32]⟩ ++ dec f0) ++ ⟨#[32]⟩)) ((((⟨#[111, 116, 104, 101, 114]⟩ : ByteArray) ++ ⟨#[32]⟩) ++ dec f2) ++ ⟨#[10]⟩) H3.out ?hz).mono ?_); (case hz => simp only [ByteArray.size_append, sz, List.length_cons, List.length_nil]; omega); rintro e W4 ⟨rfl, q1, q2⟩; rw [HST.out] at q1; have hx_ := HX.out.below q1.bel (by rw [hw0]; omega); have cW4_3 := hx_.get 3 _ rfl; clear hx_; have H4 := Lib.hid q1; clear q1 q2)))
    | go_in)
  go_cut [2] (fun v2 wc => v2 = .string ⟨#[]⟩ ∧ Hid (Bd w0 (w.heap.size + 1) (s1 (CsEv.start f0 f1 f2) f3) wc))
  case first =>
    by_cases c : f3.toList = ([] : List UInt8)
    · have hx : s1 (CsEv.start f0 f1 f2) f3 = CsEv.start f0 f1 f2 := by rw [s1, if_pos c]
      have HXX := Lib.hid hx
      clear hx
      have e1 : (f3.toList == ([] : List UInt8)) = true := beq_iff_eq.2 c
      have e2 : f3.toList.isEmpty = true := by simpa using e1
      have e3 : (!f3.toList.isEmpty) = false := by rw [e2]; rfl
      clear c
      (first | rw [e3] | rw [e2] | skip)
      go_wp2
      go_meet
      case rel => exact ⟨rfl, by rw [HXX.out]; exact H4⟩
    · have hx : s1 (CsEv.start f0 f1 f2) f3 = CsEv.start f0 f1 f2 ++ lineB ⟨#[109, 97, 116, 99, 104, 101, 100]⟩ f3 := by rw [s1, if_neg c]
      have HXX := Lib.hid hx
      clear hx
      have e1 : (f3.toList == ([] : List UInt8)) = false := beq_eq_false_iff_ne.2 c
      have e2 : f3.toList.isEmpty = false := by simpa using e1
      have e3 : (!f3.toList.isEmpty) = true := by rw [e2]; rfl
      clear c
      (first | rw [e3] | rw [e2] | skip)
      go_wp2_with (first | (go_at_call 12; ((with_reducible refine (put_as w0 _ (w.heap.size + 1) (CsEv.start f0 f1 f2) ⟨#[109, 97, 116, 99, 104, 101, 100]⟩ f3 HT0.out H4.out ?hz ?hd hF.z3).mono ?_); (case hz => omega); (case hd => rw [sz]; decide); rintro e WP ⟨rfl, q1, q2⟩; rw [← HXX.out] at q1; have HP := Lib.hid q1; clear q1 q2)) | go_in)
      go_meet
      case rel => exact ⟨rfl, HP⟩
  case rest =>
  rename World => V1
  obtain ⟨rfl, K1⟩ := hcut
  have hx_ := HX.out.below K1.out.bel (by rw [hw0]; omega)
  have cV1_4 := hx_.get 4 _ rfl
  clear hx_
  go_upto_if 87 with (fail)
  go_cut [2] (fun v2 wc => v2 = .string ⟨#[]⟩ ∧ Hid (Bd w0 (w.heap.size + 1) (s2 (s1 (CsEv.start f0 f1 f2) f3) f4) wc))
  case first =>
    by_cases c : f4.toList = ([] : List UInt8)
    · have hx : s2 (s1 (CsEv.start f0 f1 f2) f3) f4 = s1 (CsEv.start f0 f1 f2) f3 := by rw [s2, if_pos c]
      have HXX := Lib.hid hx
      clear hx
      have e1 : (f4.toList == ([] : List UInt8)) = true := beq_iff_eq.2 c
      have e2 : f4.toList.isEmpty = true := by simpa using e1
      have e3 : (!f4.toList.isEmpty) = false := by rw [e2]; rfl
      clear c
      (first | rw [e3] | rw [e2] | skip)
      go_wp2
      go_meet
      case rel => exact ⟨rfl, by rw [HXX.out]; exact K1⟩
    · have hx : s2 (s1 (CsEv.start f0 f1 f2) f3) f4 = s1 (CsEv.start f0 f1 f2) f3 ++ lineB ⟨#[116, 101, 120, 116]⟩ f4 := by rw [s2, if_neg c]
      have HXX := Lib.hid hx
      clear hx
      have e1 : (f4.toList == ([] : List UInt8)) = false := beq_eq_false_iff_ne.2 c
      have e2 : f4.toList.isEmpty = false := by simpa using e1
      have e3 : (!f4.toList.isEmpty) = true := by rw [e2]; rfl
      clear c
      (first | rw [e3] | rw [e2] | skip)
      go_wp2_with (first | (go_at_call 12; ((with_reducible refine (put_as w0 _ (w.heap.size + 1) (s1 (CsEv.start f0 f1 f2) f3) ⟨#[116, 101, 120, 116]⟩ f4 HT0.out K1.out ?hz ?hd hF.z4).mono ?_); (case hz => omega); (case hd => rw [sz]; decide); rintro e WP ⟨rfl, q1, q2⟩; rw [← HXX.out] at q1; have HP := Lib.hid q1; clear q1 q2)) | go_in)
      go_meet
      case rel => exact ⟨rfl, HP⟩
  case rest =>
  rename World => V2
  obtain ⟨rfl, K2⟩ := hcut
  have hx_ := HX.out.below K2.out.bel (by rw [hw0]; omega)
  have cV2_6 := hx_.get 6 _ rfl
  have cV2_8 := hx_.get 8 _ rfl
  clear hx_
  go_upto_if 93 with (fail)
  go_cut [2] (fun v2 wc => v2 = .string ⟨#[]⟩ ∧ Hid (Bd w0 (w.heap.size + 1) (s3 (s2 (s1 (CsEv.start f0 f1 f2) f3) f4) f7 f8) wc))
  case first =>
    by_cases c : f8 = true
    · have hx : s3 (s2 (s1 (CsEv.start f0 f1 f2) f3) f4) f7 f8 = s2 (s1 (CsEv.start f0 f1 f2) f3) f4 ++ lineB ⟨#[111, 105, 100]⟩ f7 := by rw [s3, if_pos c]
      have HXX := Lib.hid hx
      clear hx
      subst c
      have cV2_5 := (HX.out.below K2.out.bel (by rw [hw0]; omega)).get 7 _ rfl
      go_wp2_with (first | (go_at_call 12; ((with_reducible refine (put_as w0 _ (w.heap.size + 1) (s2 (s1 (CsEv.start f0 f1 f2) f3) f4) ⟨#[111, 105, 100]⟩ f7 HT0.out K2.out ?hz ?hd hF.z7).mono ?_); (case hz => omega); (case hd => rw [sz]; decide); rintro e WP ⟨rfl, q1, q2⟩; rw [← HXX.out] at q1; have HP := Lib.hid q1; clear q1 q2)) | go_in)
      go_meet
      case rel => exact ⟨rfl, HP⟩
    · have hx : s3 (s2 (s1 (CsEv.start f0 f1 f2) f3) f4) f7 f8 = s2 (s1 (CsEv.start f0 f1 f2) f3) f4 := by rw [s3, if_neg c]
      have HXX := Lib.hid hx
      clear hx
      obtain rfl : f8 = false := by simpa using c
      clear c
      go_wp2
      go_meet
      case rel => exact ⟨rfl, by rw [HXX.out]; exact K2⟩
  case rest =>
  rename World => V3
  obtain ⟨rfl, K3⟩ := hcut
  have hx_ := HX.out.below K3.out.bel (by rw [hw0]; omega)
  have cV3_9 := hx_.get 9 _ rfl
  clear hx_
  have ncs := HF.out.fc.n
  go_wp2
  go_loopw [100] (fun v100 wr => ∃ x : Int, 0 ≤ x ∧ x ≤ (cs.length : Int) ∧ v100 = .int .i64 x ∧ Hid (Bd w0 (w.heap.size + 1) (ctrls (s3 (s2 (s1 (CsEv.start f0 f1 f2) f3) f4) f7 f8) cs x.toNat) wr)) (fun v _ => cs.length - (intOf v).toNat)
  case atStart => exact ⟨0, Int.le_refl 0, by omega, rfl, by have := K3.out; simpa [ctrls] using Lib.hid this⟩
  case round =>
    rename World => wo
    obtain ⟨x, p0, p1, rfl, HR⟩ := hrel
    have ex : ((x.toNat : Nat) : Int) = x := Int.toNat_of_nonneg p0
    by_cases q : x < (cs.length : Int)
    · have hbw : Below w.heap.size w wo := HBW.out.trans (HR.out.bel.mono (by rw [hw0]; omega))
      obtain ⟨ad, eA, k0, k1, k2, k3⟩ := at_T36 (Kd.C_below HC.out hbw) x p0 q
      subst eA
      have hil : x.toNat < cs.length := by omega
      have hat := HF.out.fc.at x.toNat hil
      have zz := ctrls_le (s3 (s2 (s1 (CsEv.start f0 f1 f2) f3) f4) f7 f8) cs HF.out.fc x.toNat (by omega)
      have hsu := ctrls_succ (s3 (s2 (s1 (CsEv.start f0 f1 f2) f3) f4) f7 f8) cs x.toNat hil
      rw [ex] at hat hsu
      have HSU := Lib.hid hsu
      have hlt := eq_true q
      have w1 : wrap64 (x + 1) = x + 1 := wrp_id _ (by omega) (by omega)
      have HR0 := Lib.hid (HR.out.on ((Below.refl wo.heap.size wo).alloc (Nat.le_refl _) (.cells #[.string (rd_T36 cs x).f0, .bool (rd_T36 cs x).f1, .string (rd_T36 cs x).f2, .bool (rd_T36 cs x).f3] 36)))
      clear hsu hbw
      go_wp2_with (first | (go_at_call 12; ((with_reducible refine (put_as w0 _ (w.heap.size + 1) _ ⟨#[99, 111, 110, 116, 114, 111, 108]⟩ (rd_T36 cs x).f0 HT0.out HR0.out ?hz ?hd hat).mono ?_); (case hz => omega); (case hd => rw [sz]; decide); rintro e W7 ⟨rfl, q1, q2⟩; rw [← HSU.out] at q1; have H7 := Lib.hid q1; clear q1 q2)) | go_in)
      go_roundw
      case rel => exact ⟨x + 1, by omega, by omega, by first | rfl | (simp only [i64_w, w1]), by rw [show (x + 1).toNat = x.toNat + 1 by omega]; exact H7⟩
      case measure => simp only [intOf, i64_w, w1]; omega
    · have hlt := eq_false q
      obtain rfl : x = (cs.length : Int) := by omega
      rw [Int.toNat_natCast] at HR
      go_wp2_with (first | (go_at_call 13; ((with_reducible refine (str_as w0 _ (w.heap.size + 1) _ HR.out).mono ?_); rintro e W6 ⟨rfl, q1⟩; have H6 := Lib.hid q1; clear q1)) | go_in)
      go_ret
      exact ⟨rfl, HBW.out.trans (H6.out.mono (by rw [hw0]; omega))⟩
set_option maxHeartbeats 4000000 in
set_option maxRecDepth 100000 in
theorem other_lo (f0 f1 f2 : Int) (f3 f4 f5 : ByteArray) (A6 : Option Addr) (c6 : Nat) (xs : List S34) (f7 : ByteArray) (f8 : Bool) (A9 : Option Addr) (c9 : Nat) (cs : List S36) (w : World) (hT : Tabs w)
    (hF : Fine f0 f1 f2 f3 f4 f5 xs f7 cs) (hA : Kd.C k34 w A6 xs.length xs) (hC : Kd.C k36 w A9 cs.length cs)
    (hp0 : ¬ 0 ≤ f1) (h1 : f1 ≠ 1) : Calls Tryd.prog 6 #[.agg #[.int .i64 f0, .int .i64 f1, .int .i64 f2, .string f3, .string f4, .string f5, .slice A6 xs.length c6, .string f7, .bool f8, .slice A9 cs.length c9]] w fun e w' => e = .returned (.string (showB f0 f1 f2 f3 f4 f5 xs f7 f8 cs)) ∧ Below w.heap.size w w' := by
  obtain ⟨w0, ew0⟩ : ∃ w0, w0 = (w.alloc (.cells #[.int .i64 f0, .int .i64 f1, .int .i64 f2, .string f3, .string f4, .string f5, .slice A6 xs.length c6, .string f7, .bool f8, .slice A9 cs.length c9] 29)) := ⟨_, rfl⟩
  have hw0 : w0.heap.size = w.heap.size + 1 := by rw [ew0]; exact World.size_alloc _ _
  have HB0 := Lib.hid (bd0 w0)
  rw [hw0] at HB0
  have HT0 : Hid (Tabs w0) := by rw [ew0]; exact Lib.hid (Tabs_at hT ((Below.refl w.heap.size w).alloc (Nat.le_refl _) (.cells #[.int .i64 f0, .int .i64 f1, .int .i64 f2, .string f3, .string f4, .string f5, .slice A6 xs.length c6, .string f7, .bool f8, .slice A9 cs.length c9] 29)))
  have HX : Hid (At w0 w.heap.size [.int .i64 f0, .int .i64 f1, .int .i64 f2, .string f3, .string f4, .string f5, .slice A6 xs.length c6, .string f7, .bool f8, .slice A9 cs.length c9] 29) := by rw [ew0]; exact Lib.hid (At.fresh w [.int .i64 f0, .int .i64 f1, .int .i64 f2, .string f3, .string f4, .string f5, .slice A6 xs.length c6, .string f7, .bool f8, .slice A9 cs.length c9] 29)
  have HBW : Hid (Below w.heap.size w w0) := by rw [ew0]; exact Lib.hid ((Below.refl w.heap.size w).alloc (Nat.le_refl _) (.cells #[.int .i64 f0, .int .i64 f1, .int .i64 f2, .string f3, .string f4, .string f5, .slice A6 xs.length c6, .string f7, .bool f8, .slice A9 cs.length c9] 29))
  conv at HB0 => arg 1; arg 4; rw [ew0]
  clear ew0
  have HF := Lib.hid hF
  have HA := Lib.hid hA
  have HC := Lib.hid hC
  have zd0 := dec_size f0 hF.a0 hF.b0
  have zd2 := dec_size f2 hF.a2 hF.b2
  have e1 : (f1 == (1 : Int)) = false := beq_eq_false_iff_ne.2 h1
  have hs : showB f0 f1 f2 f3 f4 f5 xs f7 f8 cs = ctrls (s3 (s2 (s1 (CsEv.start f0 f1 f2) f3) f4) f7 f8) cs cs.length := if_neg h1
  rw [hs]
  have hst : (⟨#[]⟩ ++ ((⟨#[35, 32]⟩ ++ dec f0) ++ ⟨#[32]⟩)) ++ ((((⟨#[111, 116, 104, 101, 114]⟩ : ByteArray) ++ ⟨#[32]⟩) ++ dec f2) ++ ⟨#[10]⟩) = CsEv.start f0 f1 f2 := by
    rw [nil_app]
    unfold CsEv.start
    rw [show wordB f1 = (⟨#[111, 116, 104, 101, 114]⟩ : ByteArray) from if_neg (fun z => hp0 z.1)]
    simp only [ByteArray.append_assoc]
  have HST := Lib.hid hst
  have zst := start_size f0 f1 f2 ⟨hF.a0, hF.b0⟩ ⟨hF.a2, hF.b2⟩
  have zs1 := s1_size (CsEv.start f0 f1 f2) f3 hF.z3
  have zs2 := s2_size (s1 (CsEv.start f0 f1 f2) f3) f4 hF.z4
  have zs3 := s3_size (s2 (s1 (CsEv.start f0 f1 f2) f3) f4) f7 f8 hF.z7
  have g0 : decide (0 ≤ f1) = false := decide_eq_false hp0
  clear hT hA hC hs hst h1
  go_enter Tryd.func6, Tryd.ntmps6
  go_upto_if 79 with (first
    | (go_at_call 11; (first
            | ((with_reducible refine (itoa_dec f0 hF.a0 hF.b0 _ ?ht).mono ?_); (case ht => exact Tabs_at HT0.out HB0.out.bel); rintro e W1 ⟨rfl, q⟩; have H1 := Lib.hid (HB0.out.on q); clear q)
            | ((with_reducible refine (itoa_dec f2 hF.a2 hF.b2 _ ?ht).mono ?_); (case ht => exact Tabs_at HT0.out H2.out.bel); rintro e W3 ⟨rfl, q⟩; have H3 := Lib.hid (H2.out.on q); clear q)))
    | (go_at_call 10; (first
            | ((with_reducible refine (wr_as w0 _ (w.heap.size + 1) ⟨#[]⟩ ((⟨#[35, 32]⟩ ++ dec f0) ++ ⟨#[32]⟩) H1.out ?hz).mono ?_); (case hz => simp only [ByteArray.size_append, sz, List.length_cons, List.length_nil]; omega); rintro e W2 ⟨rfl, q1, q2⟩; have hx_ := HX.out.below q1.bel (by rw [hw0]; omega); have cW2_1 := hx_.get 1 _ rfl; have cW2_2 := hx_.get 2 _ rfl; clear hx_;  have H2 := Lib.hid q1; clear q1 q2)
            | ((with_reducible refine (wr_as w0 _ (w.heap.size + 1) (⟨#[]⟩ ++ ((⟨#[35, 32]⟩ ++ dec f0) ++ ⟨#[32]⟩)) ((((⟨#[111, 116, 104, 101, 114]⟩ : ByteArray) ++ ⟨#[32]⟩) ++ dec f2) ++ ⟨#[10]⟩) H3.out ?hz).mono ?_); (case hz => simp only [ByteArray.size_append, sz, List.length_cons, List.length_nil]; omega); rintro e W4 ⟨rfl, q1, q2⟩; rw [HST.out] at q1; have hx_ := HX.out.below q1.bel (by rw [hw0]; omega); have cW4_3 := hx_.get 3 _ rfl; clear hx_; have H4 := Lib.hid q1; clear q1 q2)))
    | go_in)
  go_cut [2] (fun v2 wc => v2 = .string ⟨#[]⟩ ∧ Hid (Bd w0 (w.heap.size + 1) (s1 (CsEv.start f0 f1 f2) f3) wc))
  case first =>
    by_cases c : f3.toList = ([] : List UInt8)
    · have hx : s1 (CsEv.start f0 f1 f2) f3 = CsEv.start f0 f1 f2 := by rw [s1, if_pos c]
      have HXX := Lib.hid hx
      clear hx
      have e1 : (f3.toList == ([] : List UInt8)) = true := beq_iff_eq.2 c
      have e2 : f3.toList.isEmpty = true := by simpa using e1
      have e3 : (!f3.toList.isEmpty) = false := by rw [e2]; rfl
      clear c
      (first | rw [e3] | rw [e2] | skip)
      go_wp2
      go_meet
      case rel => exact ⟨rfl, by rw [HXX.out]; exact H4⟩
    · have hx : s1 (CsEv.start f0 f1 f2) f3 = CsEv.start f0 f1 f2 ++ lineB ⟨#[109, 97, 116, 99, 104, 101, 100]⟩ f3 := by rw [s1, if_neg c]
      have HXX := Lib.hid hx
      clear hx
      have e1 : (f3.toList == ([] : List UInt8)) = false := beq_eq_false_iff_ne.2 c
      have e2 : f3.toList.isEmpty = false := by simpa using e1
      have e3 : (!f3.toList.isEmpty) = true := by rw [e2]; rfl
      clear c
      (first | rw [e3] | rw [e2] | skip)
      go_wp2_with (first | (go_at_call 12; ((with_reducible refine (put_as w0 _ (w.heap.size + 1) (CsEv.start f0 f1 f2) ⟨#[109, 97, 116, 99, 104, 101, 100]⟩ f3 HT0.out H4.out ?hz ?hd hF.z3).mono ?_); (case hz => omega); (case hd => rw [sz]; decide); rintro e WP ⟨rfl, q1, q2⟩; rw [← HXX.out] at q1; have HP := Lib.hid q1; clear q1 q2)) | go_in)
      go_meet
      case rel => exact ⟨rfl, HP⟩
  case rest =>
  rename World => V1
  obtain ⟨rfl, K1⟩ := hcut
  have hx_ := HX.out.below K1.out.bel (by rw [hw0]; omega)
  have cV1_4 := hx_.get 4 _ rfl
  clear hx_
  go_upto_if 87 with (fail)
  go_cut [2] (fun v2 wc => v2 = .string ⟨#[]⟩ ∧ Hid (Bd w0 (w.heap.size + 1) (s2 (s1 (CsEv.start f0 f1 f2) f3) f4) wc))
  case first =>
    by_cases c : f4.toList = ([] : List UInt8)
    · have hx : s2 (s1 (CsEv.start f0 f1 f2) f3) f4 = s1 (CsEv.start f0 f1 f2) f3 := by rw [s2, if_pos c]
      have HXX := Lib.hid hx
      clear hx
      have e1 : (f4.toList == ([] : List UInt8)) = true := beq_iff_eq.2 c
      have e2 : f4.toList.isEmpty = true := by simpa using e1
      have e3 : (!f4.toList.isEmpty) = false := by rw [e2]; rfl
      clear c
      (first | rw [e3] | rw [e2] | skip)
      go_wp2
      go_meet
      case rel => exact ⟨rfl, by rw [HXX.out]; exact K1⟩
    · have hx : s2 (s1 (CsEv.start f0 f1 f2) f3) f4 = s1 (CsEv.start f0 f1 f2) f3 ++ lineB ⟨#[116, 101, 120, 116]⟩ f4 := by rw [s2, if_neg c]
      have HXX := Lib.hid hx
      clear hx
      have e1 : (f4.toList == ([] : List UInt8)) = false := beq_eq_false_iff_ne.2 c
      have e2 : f4.toList.isEmpty = false := by simpa using e1
      have e3 : (!f4.toList.isEmpty) = true := by rw [e2]; rfl
      clear c
      (first | rw [e3] | rw [e2] | skip)
      go_wp2_with (first | (go_at_call 12; ((with_reducible refine (put_as w0 _ (w.heap.size + 1) (s1 (CsEv.start f0 f1 f2) f3) ⟨#[116, 101, 120, 116]⟩ f4 HT0.out K1.out ?hz ?hd hF.z4).mono ?_); (case hz => omega); (case hd => rw [sz]; decide); rintro e WP ⟨rfl, q1, q2⟩; rw [← HXX.out] at q1; have HP := Lib.hid q1; clear q1 q2)) | go_in)
      go_meet
      case rel => exact ⟨rfl, HP⟩
  case rest =>
  rename World => V2
  obtain ⟨rfl, K2⟩ := hcut
  have hx_ := HX.out.below K2.out.bel (by rw [hw0]; omega)
  have cV2_6 := hx_.get 6 _ rfl
  have cV2_8 := hx_.get 8 _ rfl
  clear hx_
  go_upto_if 93 with (fail)
  go_cut [2] (fun v2 wc => v2 = .string ⟨#[]⟩ ∧ Hid (Bd w0 (w.heap.size + 1) (s3 (s2 (s1 (CsEv.start f0 f1 f2) f3) f4) f7 f8) wc))
  case first =>
    by_cases c : f8 = true
    · have hx : s3 (s2 (s1 (CsEv.start f0 f1 f2) f3) f4) f7 f8 = s2 (s1 (CsEv.start f0 f1 f2) f3) f4 ++ lineB ⟨#[111, 105, 100]⟩ f7 := by rw [s3, if_pos c]
      have HXX := Lib.hid hx
      clear hx
      subst c
      have cV2_5 := (HX.out.below K2.out.bel (by rw [hw0]; omega)).get 7 _ rfl
      go_wp2_with (first | (go_at_call 12; ((with_reducible refine (put_as w0 _ (w.heap.size + 1) (s2 (s1 (CsEv.start f0 f1 f2) f3) f4) ⟨#[111, 105, 100]⟩ f7 HT0.out K2.out ?hz ?hd hF.z7).mono ?_); (case hz => omega); (case hd => rw [sz]; decide); rintro e WP ⟨rfl, q1, q2⟩; rw [← HXX.out] at q1; have HP := Lib.hid q1; clear q1 q2)) | go_in)
      go_meet
      case rel => exact ⟨rfl, HP⟩
    · have hx : s3 (s2 (s1 (CsEv.start f0 f1 f2) f3) f4) f7 f8 = s2 (s1 (CsEv.start f0 f1 f2) f3) f4 := by rw [s3, if_neg c]
      have HXX := Lib.hid hx
      clear hx
      obtain rfl : f8 = false := by simpa using c
      clear c
      go_wp2
      go_meet
      case rel => exact ⟨rfl, by rw [HXX.out]; exact K2⟩
  case rest =>
  rename World => V3
  obtain ⟨rfl, K3⟩ := hcut
  have hx_ := HX.out.below K3.out.bel (by rw [hw0]; omega)
  have cV3_9 := hx_.get 9 _ rfl
  clear hx_
  have ncs := HF.out.fc.n
  go_wp2
  go_loopw [100] (fun v100 wr => ∃ x : Int, 0 ≤ x ∧ x ≤ (cs.length : Int) ∧ v100 = .int .i64 x ∧ Hid (Bd w0 (w.heap.size + 1) (ctrls (s3 (s2 (s1 (CsEv.start f0 f1 f2) f3) f4) f7 f8) cs x.toNat) wr)) (fun v _ => cs.length - (intOf v).toNat)
  case atStart => exact ⟨0, Int.le_refl 0, by omega, rfl, by have := K3.out; simpa [ctrls] using Lib.hid this⟩
  case round =>
    rename World => wo
    obtain ⟨x, p0, p1, rfl, HR⟩ := hrel
    have ex : ((x.toNat : Nat) : Int) = x := Int.toNat_of_nonneg p0
    by_cases q : x < (cs.length : Int)
    · have hbw : Below w.heap.size w wo := HBW.out.trans (HR.out.bel.mono (by rw [hw0]; omega))
      obtain ⟨ad, eA, k0, k1, k2, k3⟩ := at_T36 (Kd.C_below HC.out hbw) x p0 q
      subst eA
      have hil : x.toNat < cs.length := by omega
      have hat := HF.out.fc.at x.toNat hil
      have zz := ctrls_le (s3 (s2 (s1 (CsEv.start f0 f1 f2) f3) f4) f7 f8) cs HF.out.fc x.toNat (by omega)
      have hsu := ctrls_succ (s3 (s2 (s1 (CsEv.start f0 f1 f2) f3) f4) f7 f8) cs x.toNat hil
      rw [ex] at hat hsu
      have HSU := Lib.hid hsu
      have hlt := eq_true q
      have w1 : wrap64 (x + 1) = x + 1 := wrp_id _ (by omega) (by omega)
      have HR0 := Lib.hid (HR.out.on ((Below.refl wo.heap.size wo).alloc (Nat.le_refl _) (.cells #[.string (rd_T36 cs x).f0, .bool (rd_T36 cs x).f1, .string (rd_T36 cs x).f2, .bool (rd_T36 cs x).f3] 36)))
      clear hsu hbw
      go_wp2_with (first | (go_at_call 12; ((with_reducible refine (put_as w0 _ (w.heap.size + 1) _ ⟨#[99, 111, 110, 116, 114, 111, 108]⟩ (rd_T36 cs x).f0 HT0.out HR0.out ?hz ?hd hat).mono ?_); (case hz => omega); (case hd => rw [sz]; decide); rintro e W7 ⟨rfl, q1, q2⟩; rw [← HSU.out] at q1; have H7 := Lib.hid q1; clear q1 q2)) | go_in)
      go_roundw
      case rel => exact ⟨x + 1, by omega, by omega, by first | rfl | (simp only [i64_w, w1]), by rw [show (x + 1).toNat = x.toNat + 1 by omega]; exact H7⟩
      case measure => simp only [intOf, i64_w, w1]; omega
    · have hlt := eq_false q
      obtain rfl : x = (cs.length : Int) := by omega
      rw [Int.toNat_natCast] at HR
      go_wp2_with (first | (go_at_call 13; ((with_reducible refine (str_as w0 _ (w.heap.size + 1) _ HR.out).mono ?_); rintro e W6 ⟨rfl, q1⟩; have H6 := Lib.hid q1; clear q1)) | go_in)
      go_ret
      exact ⟨rfl, HBW.out.trans (H6.out.mono (by rw [hw0]; omega))⟩
theorem show_as (f0 f1 f2 : Int) (f3 f4 f5 : ByteArray) (A6 : Option Addr) (c6 : Nat) (xs : List S34) (f7 : ByteArray) (f8 : Bool) (A9 : Option Addr) (c9 : Nat) (cs : List S36) (w : World) (hT : Tabs w)
    (hF : Fine f0 f1 f2 f3 f4 f5 xs f7 cs) (hA : Kd.C k34 w A6 xs.length xs) (hC : Kd.C k36 w A9 cs.length cs) : Calls Tryd.prog 6 #[.agg #[.int .i64 f0, .int .i64 f1, .int .i64 f2, .string f3, .string f4, .string f5, .slice A6 xs.length c6, .string f7, .bool f8, .slice A9 cs.length c9]] w fun e w' => e = .returned (.string (showB f0 f1 f2 f3 f4 f5 xs f7 f8 cs)) ∧ Below w.heap.size w w' := by
  by_cases h1 : f1 = 1
  · exact entry_as f0 f1 f2 f3 f4 f5 A6 c6 xs f7 f8 A9 c9 cs w hT hF hA hC h1
  · by_cases hp0 : 0 ≤ f1
    · by_cases hp9 : f1 < 9
      · exact other_in f0 f1 f2 f3 f4 f5 A6 c6 xs f7 f8 A9 c9 cs w hT hF hA hC hp0 hp9 h1
      · exact other_hi f0 f1 f2 f3 f4 f5 A6 c6 xs f7 f8 A9 c9 cs w hT hF hA hC hp9 h1
    · exact other_lo f0 f1 f2 f3 f4 f5 A6 c6 xs f7 f8 A9 c9 cs w hT hF hA hC hp0 h1
end Go.Proofs.YtogkibhbkapobaaDoor.CsShow

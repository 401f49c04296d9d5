/- By hand: container/heap at the heap of headers: down, Init, Fix, Pop. For every list and world. -/
import Derived.Test.YtnflokhffmfifaaHeapW
set_option linter.unusedVariables false
set_option linter.unusedSimpArgs false
namespace Go.Proofs.Ytnflokhffmfifaa.HeapW
open Go.RowKit Go.Proofs.Ytnflokhffmfifaa.Blk Go.Proofs.Ytnflokhffmfifaa.Ris Go.Proofs.Ytnflokhffmfifaa.Cur Go.Proofs.Ytnflokhffmfifaa.OfW Go.Proofs.Ytnflokhffmfifaa.HeapPure Go.Proofs.YtnflokhffmfifaaW.PrintWords Go.Proofs.YtnflokhffmfifaaW.PrintLast Go.Proofs.YtnflokhffmfifaaW.PrintMore
structure DR (w : World) (hb r cap k n : Nat) (ds : List Hd) (i : Nat) (es : List Hd) (wr : World) : Prop where
  hb_ : HB wr hb r cap es
  perm : es.Perm ds
  sift : Sift ltI key k n i es
  ki : k ≤ i
  rest : ∀ c, n ≤ c → es.getD c default = ds.getD c default
  pos : ∀ c, c < n → 0 < (es.getD c default).l.length
  grown : w.grownBy wr (some r)
theorem DR.draw {w wr : World} {hb r cap k n i : Nat} {ds es : List Hd} (h : DR w hb r cap k n ds i es wr) (q : Nat) : DR w hb r cap k n ds i es (wr.drewN q) := ⟨h.hb_.draw q, h.perm, h.sift, h.ki, h.rest, h.pos, grown_drewN h.grown q⟩
theorem DR.step {w wr w2 : World} {hb r cap k n i j : Nat} {ds es : List Hd} (h : DR w hb r cap k n ds i es wr) (hn : n ≤ es.length) (hj : (j - 1) / 2 = i) (hj1 : 1 ≤ j) (hjn : j < n)
    (hm : ∀ c, 1 ≤ c → c < n → (c - 1) / 2 = i → Le ltI key (es.getD j default) (es.getD c default)) (hl : ltI (key (es.getD j default)) (key (es.getD i default)) = true) (h2 : HB w2 hb r cap (swp es i j)) (hg : wr.grownBy w2 (some r)) : DR w hb r cap k n ds j (swp es i j) w2 :=
  ⟨h2, (swp_perm es (by omega) (by omega)).trans h.perm, sift_step totI key h.sift hn h.ki hj hj1 hjn hm hl, by have := h.ki; omega, fun c hc => by rw [swp_at es (by omega) (by omega), if_neg (by omega), if_neg (by omega)]; exact h.rest c hc, fun c hc => by
    rw [swp_at es (by omega) (by omega)]
    split
    · exact h.pos i (by omega)
    · split
      · exact h.pos j hjn
      · exact h.pos c hc, grown_trans h.grown hg⟩
theorem DR.out {w wr : World} {hb r cap k n i : Nat} {ds es : List Hd} (h : DR w hb r cap k n ds i es wr) (hc : ∀ c, 1 ≤ c → c < n → (c - 1) / 2 = i → Le ltI key (es.getD i default) (es.getD c default)) : HB wr hb r cap es ∧ es.Perm ds ∧ HeapFrom ltI key k n es ∧ (∀ c, n ≤ c → es.getD c default = ds.getD c default) ∧ (∀ c, c < n → 0 < (es.getD c default).l.length) ∧ w.grownBy wr (some r) :=
  ⟨h.hb_, h.perm, sift_end key h.sift hc, h.rest, h.pos, h.grown⟩
set_option maxHeartbeats 2000000 in
set_option maxRecDepth 100000 in
theorem down_as (w : World) (hb r cap k n i0 : Nat) (ds : List Hd) (h : HB w hb r cap ds) (hn : n ≤ ds.length) (hs : Sift ltI key k n i0 ds) (hk : k ≤ i0) (hpos : ∀ c, c < n → 0 < (ds.getD c default).l.length) (hi : i0 ≤ 1048576) (hm : ds.length ≤ 1048576) :
    Calls Try.prog 89 #[.iface 97 (.pointer (some ⟨hb, 0, none⟩)), .int .i64 (i0 : Int), .int .i64 (n : Int)] w fun e w' => ∃ b es, e = .returned (.bool b) ∧ HB w' hb r cap es ∧ es.Perm ds ∧ HeapFrom ltI key k n es ∧ (∀ c, n ≤ c → es.getD c default = ds.getD c default) ∧ (∀ c, c < n → 0 < (es.getD c default).l.length) ∧ w.grownBy w' (some r) := by
  have HD := Lib.hid (show DR w hb r cap k n ds i0 ds w from ⟨h, .refl _, hs, hk, fun _ _ => rfl, hpos, grown_refl _ _⟩)
  have hnm : n ≤ 1048576 := Nat.le_trans hn hm
  clear h hs hpos
  go_enter Try.func89, Try.ntmps89
  go_wp2_with fail
  go_loopw [7] (fun v wr => ∃ (i : Nat) (es : List Hd), i ≤ 1048576 ∧ v = .int .i64 i ∧ Hid (DR w hb r cap k n ds i es wr)) (fun v _ => 1048577 - (intOf v).toNat)
  case atStart => exact ⟨i0, ds, hi, rfl, HD⟩
  case round =>
    obtain ⟨i, es, hi1, rfl, HW⟩ := hrel
    have hne : n ≤ es.length := by rw [HW.out.perm.length_eq]; exact hn
    have HN := Lib.hid hne
    clear hn
    have c0 := HW.out.hb_.box.get 0 _ rfl
    have mL := fun q => mLess (wr.drewN q) hb _ c0
    have mL0 := mLess wr hb _ c0
    have mS := fun q => mSwap (wr.drewN q) hb _ c0
    have eL : ∀ args w, (callFunc 130 args).run Try.prog w = .ok (.enter 130 args) w := enters_of Try.func130 (by kernel_rfl) rfl
    have eS : ∀ args w, (callFunc 132 args).run Try.prog w = .ok (.enter 132 args) w := enters_of Try.func132 (by kernel_rfl) rfl
    have e1 : IntKind.i64.wrap (IntKind.i64.wrap (2 * (i : Int)) + 1) = 2 * (i : Int) + 1 := by rw [i64_w, i64_w]; unfold wrap64; omega
    by_cases hj : 2 * i + 1 < n
    · have t1 : ¬ ((n : Int) ≤ 2 * (i : Int) + 1) := by omega
      have t2 : ¬ (2 * (i : Int) + 1 < 0) := by omega
      have LS : ∀ (p q : Nat) (hp : p < n) (hq : q < n) W (hW : HB W hb r cap es), Calls Try.prog 130 #[.slice (some ⟨r, 0, none⟩) es.length cap, .int .i64 (p : Int), .int .i64 (q : Int)] W fun e w' => e = .returned (.bool (ltI (key (es.getD p default)) (key (es.getD q default)))) ∧ Drawn0 W w' := fun p q hp hq W hW => less_as W hb r cap es p q hW (Nat.lt_of_lt_of_le hp HN.out) (Nat.lt_of_lt_of_le hq HN.out) (HW.out.pos p hp) (HW.out.pos q hq)
      have SW := fun (p q : Nat) (hp : p < es.length) (hq : q < es.length) W (hW : HB W hb r cap es) => swap_as W hb r cap es p q hW hp hq
      by_cases hj2 : 2 * i + 2 < n
      · have t3 : 2 * (i : Int) + 1 + 1 < (n : Int) := by omega
        have L1 := LS (2 * i + 2) (2 * i + 1) (by omega) (by omega)
        generalize hx1 : ltI (key (es.getD (2 * i + 2) default)) (key (es.getD (2 * i + 1) default)) = b1 at L1
        rw [show ((2 * i + 2 : Nat) : Int) = 2 * (i : Int) + 1 + 1 by omega, show ((2 * i + 1 : Nat) : Int) = 2 * (i : Int) + 1 by omega] at L1
        have H1 := Lib.hid L1
        have HX := Lib.hid hx1
        clear L1 hx1
        cases b1 with
        | true =>
          have HM : Hid (∀ c, 1 ≤ c → c < n → (c - 1) / 2 = i → Le ltI key (es.getD (2 * i + 2) default) (es.getD c default)) := Lib.hid (fun c h1 h2 h3 => (by omega : c = 2 * i + 1 ∨ c = 2 * i + 2).elim (fun e => by subst e; exact totI.asym HX.out) (fun e => by subst e; exact totI.irr _))
          have L2 := LS (2 * i + 2) i (by omega) (by omega)
          generalize hx2 : ltI (key (es.getD (2 * i + 2) default)) (key (es.getD i default)) = b2 at L2
          have S2 := SW i (2 * i + 2) (by omega) (by omega)
          rw [show ((2 * i + 2 : Nat) : Int) = 2 * (i : Int) + 1 + 1 by omega] at L2 S2
          have H2 := Lib.hid L2
          have H3 := Lib.hid S2
          have HX2 := Lib.hid hx2
          clear L2 S2 hx2
          have HLS := Lib.hid LS
          have HSW := Lib.hid SW
          clear LS SW
          cases b2 with
          | true =>
            go_wp2_with (first | (go_at_fn 130; (first | ((with_reducible refine (H1.out _ ?hx).mono ?_); (case hx => (with_reducible first | exact HW.out.hb_ | exact HW.out.hb_.draw _ | exact (HW.out.hb_.draw _).draw _)); rintro e _ ⟨rfl, ⟨n1, rfl⟩⟩; clear H1) | ((with_reducible refine (H2.out _ ?hx).mono ?_); (case hx => (with_reducible first | exact HW.out.hb_ | exact HW.out.hb_.draw _ | exact (HW.out.hb_.draw _).draw _)); rintro e _ ⟨rfl, ⟨n2, rfl⟩⟩; clear H2))) | (go_at_fn 132; ((with_reducible refine (H3.out _ ?hx).mono ?_); (case hx => (with_reducible first | exact HW.out.hb_ | exact HW.out.hb_.draw _ | exact (HW.out.hb_.draw _).draw _)); rintro e W5 ⟨rfl, hq1, hq2⟩; have HQ := Lib.hid (And.intro hq1 hq2); clear hq1 hq2)) | go_in)
            go_roundw
            case rel => exact ⟨2 * i + 2, _, by omega, by go_num, (by first | exact (HW.out.draw _).step HN.out (by omega) (by omega) (by omega) HM.out HX2.out HQ.out.1 HQ.out.2 | exact ((HW.out.draw _).draw _).step HN.out (by omega) (by omega) (by omega) HM.out HX2.out HQ.out.1 HQ.out.2)⟩
            case measure => simp [intOf]; omega
          | false =>
            go_wp2_with (first | (go_at_fn 130; (first | ((with_reducible refine (H1.out _ ?hx).mono ?_); (case hx => (with_reducible first | exact HW.out.hb_ | exact HW.out.hb_.draw _ | exact (HW.out.hb_.draw _).draw _)); rintro e _ ⟨rfl, ⟨n1, rfl⟩⟩; clear H1) | ((with_reducible refine (H2.out _ ?hx).mono ?_); (case hx => (with_reducible first | exact HW.out.hb_ | exact HW.out.hb_.draw _ | exact (HW.out.hb_.draw _).draw _)); rintro e _ ⟨rfl, ⟨n2, rfl⟩⟩; clear H2))) | go_in)
            go_ret
            exact ⟨_, es, rfl, (by first | exact (HW.out.draw _).out (fun c h1 h2 h3 => totI.le_tr HX2.out (HM.out c h1 h2 h3)) | exact ((HW.out.draw _).draw _).out (fun c h1 h2 h3 => totI.le_tr HX2.out (HM.out c h1 h2 h3)))⟩
        | false =>
          have HM : Hid (∀ c, 1 ≤ c → c < n → (c - 1) / 2 = i → Le ltI key (es.getD (2 * i + 1) default) (es.getD c default)) := Lib.hid (fun c h1 h2 h3 => (by omega : c = 2 * i + 1 ∨ c = 2 * i + 2).elim (fun e => by subst e; exact totI.irr _) (fun e => by subst e; exact HX.out))
          have L2 := LS (2 * i + 1) i (by omega) (by omega)
          generalize hx2 : ltI (key (es.getD (2 * i + 1) default)) (key (es.getD i default)) = b2 at L2
          have S2 := SW i (2 * i + 1) (by omega) (by omega)
          rw [show ((2 * i + 1 : Nat) : Int) = 2 * (i : Int) + 1 by omega] at L2 S2
          have H2 := Lib.hid L2
          have H3 := Lib.hid S2
          have HX2 := Lib.hid hx2
          clear L2 S2 hx2
          have HLS := Lib.hid LS
          have HSW := Lib.hid SW
          clear LS SW
          cases b2 with
          | true =>
            go_wp2_with (first | (go_at_fn 130; (first | ((with_reducible refine (H1.out _ ?hx).mono ?_); (case hx => (with_reducible first | exact HW.out.hb_ | exact HW.out.hb_.draw _ | exact (HW.out.hb_.draw _).draw _)); rintro e _ ⟨rfl, ⟨n1, rfl⟩⟩; clear H1) | ((with_reducible refine (H2.out _ ?hx).mono ?_); (case hx => (with_reducible first | exact HW.out.hb_ | exact HW.out.hb_.draw _ | exact (HW.out.hb_.draw _).draw _)); rintro e _ ⟨rfl, ⟨n2, rfl⟩⟩; clear H2))) | (go_at_fn 132; ((with_reducible refine (H3.out _ ?hx).mono ?_); (case hx => (with_reducible first | exact HW.out.hb_ | exact HW.out.hb_.draw _ | exact (HW.out.hb_.draw _).draw _)); rintro e W5 ⟨rfl, hq1, hq2⟩; have HQ := Lib.hid (And.intro hq1 hq2); clear hq1 hq2)) | go_in)
            go_roundw
            case rel => exact ⟨2 * i + 1, _, by omega, by go_num, (by first | exact (HW.out.draw _).step HN.out (by omega) (by omega) (by omega) HM.out HX2.out HQ.out.1 HQ.out.2 | exact ((HW.out.draw _).draw _).step HN.out (by omega) (by omega) (by omega) HM.out HX2.out HQ.out.1 HQ.out.2)⟩
            case measure => simp [intOf]; omega
          | false =>
            go_wp2_with (first | (go_at_fn 130; (first | ((with_reducible refine (H1.out _ ?hx).mono ?_); (case hx => (with_reducible first | exact HW.out.hb_ | exact HW.out.hb_.draw _ | exact (HW.out.hb_.draw _).draw _)); rintro e _ ⟨rfl, ⟨n1, rfl⟩⟩; clear H1) | ((with_reducible refine (H2.out _ ?hx).mono ?_); (case hx => (with_reducible first | exact HW.out.hb_ | exact HW.out.hb_.draw _ | exact (HW.out.hb_.draw _).draw _)); rintro e _ ⟨rfl, ⟨n2, rfl⟩⟩; clear H2))) | go_in)
            go_ret
            exact ⟨_, es, rfl, (by first | exact (HW.out.draw _).out (fun c h1 h2 h3 => totI.le_tr HX2.out (HM.out c h1 h2 h3)) | exact ((HW.out.draw _).draw _).out (fun c h1 h2 h3 => totI.le_tr HX2.out (HM.out c h1 h2 h3)))⟩
      · have t3 : ¬ (2 * (i : Int) + 1 + 1 < (n : Int)) := by omega
        have HM : Hid (∀ c, 1 ≤ c → c < n → (c - 1) / 2 = i → Le ltI key (es.getD (2 * i + 1) default) (es.getD c default)) := Lib.hid (fun c h1 h2 h3 => by rw [show c = 2 * i + 1 by omega]; exact totI.irr _)
        have L2 := LS (2 * i + 1) i (by omega) (by omega)
        generalize hx2 : ltI (key (es.getD (2 * i + 1) default)) (key (es.getD i default)) = b2 at L2
        have S2 := SW i (2 * i + 1) (by omega) (by omega)
        rw [show ((2 * i + 1 : Nat) : Int) = 2 * (i : Int) + 1 by omega] at L2 S2
        have H2 := Lib.hid L2
        have H3 := Lib.hid S2
        have HX2 := Lib.hid hx2
        clear L2 S2 hx2
        have HLS := Lib.hid LS
        have HSW := Lib.hid SW
        clear LS SW
        cases b2 with
        | true =>
          go_wp2_with (first | (go_at_fn 130; ((with_reducible refine (H2.out _ ?hx).mono ?_); (case hx => (with_reducible first | exact HW.out.hb_ | exact HW.out.hb_.draw _ | exact (HW.out.hb_.draw _).draw _)); rintro e _ ⟨rfl, ⟨n2, rfl⟩⟩; clear H2)) | (go_at_fn 132; ((with_reducible refine (H3.out _ ?hx).mono ?_); (case hx => (with_reducible first | exact HW.out.hb_ | exact HW.out.hb_.draw _ | exact (HW.out.hb_.draw _).draw _)); rintro e W5 ⟨rfl, hq1, hq2⟩; have HQ := Lib.hid (And.intro hq1 hq2); clear hq1 hq2)) | go_in)
          go_roundw
          case rel => exact ⟨2 * i + 1, _, by omega, by go_num, (by first | exact (HW.out.draw _).step HN.out (by omega) (by omega) (by omega) HM.out HX2.out HQ.out.1 HQ.out.2 | exact ((HW.out.draw _).draw _).step HN.out (by omega) (by omega) (by omega) HM.out HX2.out HQ.out.1 HQ.out.2)⟩
          case measure => simp [intOf]; omega
        | false =>
          go_wp2_with (first | (go_at_fn 130; ((with_reducible refine (H2.out _ ?hx).mono ?_); (case hx => (with_reducible first | exact HW.out.hb_ | exact HW.out.hb_.draw _ | exact (HW.out.hb_.draw _).draw _)); rintro e _ ⟨rfl, ⟨n2, rfl⟩⟩; clear H2)) | go_in)
          go_ret
          exact ⟨_, es, rfl, (by first | exact (HW.out.draw _).out (fun c h1 h2 h3 => totI.le_tr HX2.out (HM.out c h1 h2 h3)) | exact ((HW.out.draw _).draw _).out (fun c h1 h2 h3 => totI.le_tr HX2.out (HM.out c h1 h2 h3)))⟩
    · have t1 : (n : Int) ≤ 2 * (i : Int) + 1 := by omega
      go_wp2
      go_ret
      exact ⟨_, es, rfl, HW.out.out (fun c h1 h2 h3 => by omega)⟩
end Go.Proofs.Ytnflokhffmfifaa.HeapW

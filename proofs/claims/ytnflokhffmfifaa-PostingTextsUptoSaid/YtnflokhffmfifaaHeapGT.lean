/- The heap of headers at texts: HeapDT, HeapET, HeapFT joined. -/
import Derived.Test.YtnflokhffmfifaaHeapWT
set_option linter.unusedVariables false
set_option linter.unusedSimpArgs false
namespace Go.Proofs.Ytnflokhffmfifaa.HeapWT
open Go.RowKit Go.Proofs.Ytnflokhffmfifaa.Blk Go.Proofs.Ytnflokhffmfifaa.Ris Go.Proofs.Ytnflokhffmfifaa.OfT Go.Proofs.Ytnflokhffmfifaa.Keys Go.Proofs.Ytnflokhffmfifaa.XV Go.Proofs.Ytnflokhffmfifaa.HeapPure Go.Proofs.YtnflokhffmfifaaW.PrintWords Go.Proofs.YtnflokhffmfifaaW.PrintLast Go.Proofs.YtnflokhffmfifaaW.PrintMore
structure DR (w : World) (hb r cap k n : Nat) (ds : List Hd) (i : Nat) (es : List Hd) (wr : World) : Prop where
  hb_ : HB wr hb r cap es
  perm : es.Perm ds
  sift : Sift ltS key k n i es
  ki : k ≤ i
  rest : ∀ c, n ≤ c → es.getD c default = ds.getD c default
  pos : ∀ c, c < n → 0 < (es.getD c default).l.length
  grown : w.grownBy wr (some r)
theorem DR.draw {w wr : World} {hb r cap k n i : Nat} {ds es : List Hd} (h : DR w hb r cap k n ds i es wr) (q : Nat) : DR w hb r cap k n ds i es (wr.drewN q) := ⟨h.hb_.draw q, h.perm, h.sift, h.ki, h.rest, h.pos, grown_drewN h.grown q⟩
theorem DR.step {w wr w2 : World} {hb r cap k n i j : Nat} {ds es : List Hd} (h : DR w hb r cap k n ds i es wr) (hn : n ≤ es.length) (hj : (j - 1) / 2 = i) (hj1 : 1 ≤ j) (hjn : j < n)
    (hm : ∀ c, 1 ≤ c → c < n → (c - 1) / 2 = i → Le ltS key (es.getD j default) (es.getD c default)) (hl : ltS (key (es.getD j default)) (key (es.getD i default)) = true) (h2 : HB w2 hb r cap (swp es i j)) (hg : wr.grownBy w2 (some r)) : DR w hb r cap k n ds j (swp es i j) w2 :=
  ⟨h2, (swp_perm es (by omega) (by omega)).trans h.perm, sift_step totS key h.sift hn h.ki hj hj1 hjn hm hl, by have := h.ki; omega, fun c hc => by rw [swp_at es (by omega) (by omega), if_neg (by omega), if_neg (by omega)]; exact h.rest c hc, fun c hc => by
    rw [swp_at es (by omega) (by omega)]
    split
    · exact h.pos i (by omega)
    · split
      · exact h.pos j hjn
      · exact h.pos c hc, grown_trans h.grown hg⟩
theorem DR.out {w wr : World} {hb r cap k n i : Nat} {ds es : List Hd} (h : DR w hb r cap k n ds i es wr) (hc : ∀ c, 1 ≤ c → c < n → (c - 1) / 2 = i → Le ltS key (es.getD i default) (es.getD c default)) : HB wr hb r cap es ∧ es.Perm ds ∧ HeapFrom ltS key k n es ∧ (∀ c, n ≤ c → es.getD c default = ds.getD c default) ∧ (∀ c, c < n → 0 < (es.getD c default).l.length) ∧ w.grownBy wr (some r) :=
  ⟨h.hb_, h.perm, sift_end key h.sift hc, h.rest, h.pos, h.grown⟩
set_option maxHeartbeats 2000000 in
set_option maxRecDepth 100000 in
theorem down_as (w : World) (hb r cap k n i0 : Nat) (ds : List Hd) (h : HB w hb r cap ds) (hn : n ≤ ds.length) (hs : Sift ltS key k n i0 ds) (hk : k ≤ i0) (hpos : ∀ c, c < n → 0 < (ds.getD c default).l.length) (hi : i0 ≤ 1048576) (hm : ds.length ≤ 1048576) :
    Calls Try.prog 89 #[.iface 105 (.pointer (some ⟨hb, 0, none⟩)), .int .i64 (i0 : Int), .int .i64 (n : Int)] w fun e w' => ∃ b es, e = .returned (.bool b) ∧ HB w' hb r cap es ∧ es.Perm ds ∧ HeapFrom ltS key k n es ∧ (∀ c, n ≤ c → es.getD c default = ds.getD c default) ∧ (∀ c, c < n → 0 < (es.getD c default).l.length) ∧ w.grownBy w' (some r) := by
  have HD := Lib.hid (show DR w hb r cap k n ds i0 ds w from ⟨h, .refl _, hs, hk, fun _ _ => rfl, hpos, grown_refl _ _⟩)
  have hnm : n ≤ 1048576 := Nat.le_trans hn hm
  clear h hs hpos
  go_enter Try.func89, Try.ntmps89
  go_wp2_with fail
  go_loopw [7] (fun v wr => ∃ (i : Nat) (es : List Hd), i ≤ 1048576 ∧ v = .int .i64 i ∧ Hid (DR w hb r cap k n ds i es wr)) (fun v _ => 1048577 - (intOf v).toNat)
  case atStart => exact ⟨i0, ds, hi, rfl, HD⟩
  case round =>
    obtain ⟨i, es, hi1, rfl, HW⟩ := hrel
    have hne : n ≤ es.length := by rw [HW.out.perm.length_eq]; exact hn
    have HN := Lib.hid hne
    clear hn
    have c0 := HW.out.hb_.box.get 0 _ rfl
    have mL := fun q => mLess (wr.drewN q) hb _ c0
    have mL0 := mLess wr hb _ c0
    have mS := fun q => mSwap (wr.drewN q) hb _ c0
    have eL : ∀ args w, (callFunc 133 args).run Try.prog w = .ok (.enter 133 args) w := enters_of Try.func133 (by kernel_rfl) rfl
    have eS : ∀ args w, (callFunc 135 args).run Try.prog w = .ok (.enter 135 args) w := enters_of Try.func135 (by kernel_rfl) rfl
    have e1 : IntKind.i64.wrap (IntKind.i64.wrap (2 * (i : Int)) + 1) = 2 * (i : Int) + 1 := by rw [i64_w, i64_w]; unfold wrap64; omega
    by_cases hj : 2 * i + 1 < n
    · have t1 : ¬ ((n : Int) ≤ 2 * (i : Int) + 1) := by omega
      have t2 : ¬ (2 * (i : Int) + 1 < 0) := by omega
      have LS : ∀ (p q : Nat) (hp : p < n) (hq : q < n) W (hW : HB W hb r cap es), Calls Try.prog 133 #[.slice (some ⟨r, 0, none⟩) es.length cap, .int .i64 (p : Int), .int .i64 (q : Int)] W fun e w' => e = .returned (.bool (ltS (key (es.getD p default)) (key (es.getD q default)))) ∧ Drawn0 W w' := fun p q hp hq W hW => less_as W hb r cap es p q hW (Nat.lt_of_lt_of_le hp HN.out) (Nat.lt_of_lt_of_le hq HN.out) (HW.out.pos p hp) (HW.out.pos q hq)
      have SW := fun (p q : Nat) (hp : p < es.length) (hq : q < es.length) W (hW : HB W hb r cap es) => swap_as W hb r cap es p q hW hp hq
      by_cases hj2 : 2 * i + 2 < n
      · have t3 : 2 * (i : Int) + 1 + 1 < (n : Int) := by omega
        have L1 := LS (2 * i + 2) (2 * i + 1) (by omega) (by omega)
        generalize hx1 : ltS (key (es.getD (2 * i + 2) default)) (key (es.getD (2 * i + 1) default)) = b1 at L1
        rw [show ((2 * i + 2 : Nat) : Int) = 2 * (i : Int) + 1 + 1 by omega, show ((2 * i + 1 : Nat) : Int) = 2 * (i : Int) + 1 by omega] at L1
        have H1 := Lib.hid L1
        have HX := Lib.hid hx1
        clear L1 hx1
        cases b1 with
        | true =>
          have HM : Hid (∀ c, 1 ≤ c → c < n → (c - 1) / 2 = i → Le ltS key (es.getD (2 * i + 2) default) (es.getD c default)) := Lib.hid (fun c h1 h2 h3 => (by omega : c = 2 * i + 1 ∨ c = 2 * i + 2).elim (fun e => by subst e; exact totS.asym HX.out) (fun e => by subst e; exact totS.irr _))
          have L2 := LS (2 * i + 2) i (by omega) (by omega)
          generalize hx2 : ltS (key (es.getD (2 * i + 2) default)) (key (es.getD i default)) = b2 at L2
          have S2 := SW i (2 * i + 2) (by omega) (by omega)
          rw [show ((2 * i + 2 : Nat) : Int) = 2 * (i : Int) + 1 + 1 by omega] at L2 S2
          have H2 := Lib.hid L2
          have H3 := Lib.hid S2
          have HX2 := Lib.hid hx2
          clear L2 S2 hx2
          have HLS := Lib.hid LS
          have HSW := Lib.hid SW
          clear LS SW
          cases b2 with
          | true =>
            go_wp2_with (first | (go_at_fn 133; (first | ((with_reducible refine (H1.out _ ?hx).mono ?_); (case hx => (with_reducible first | exact HW.out.hb_ | exact HW.out.hb_.draw _ | exact (HW.out.hb_.draw _).draw _)); rintro e _ ⟨rfl, ⟨n1, rfl⟩⟩; clear H1) | ((with_reducible refine (H2.out _ ?hx).mono ?_); (case hx => (with_reducible first | exact HW.out.hb_ | exact HW.out.hb_.draw _ | exact (HW.out.hb_.draw _).draw _)); rintro e _ ⟨rfl, ⟨n2, rfl⟩⟩; clear H2))) | (go_at_fn 135; ((with_reducible refine (H3.out _ ?hx).mono ?_); (case hx => (with_reducible first | exact HW.out.hb_ | exact HW.out.hb_.draw _ | exact (HW.out.hb_.draw _).draw _)); rintro e W5 ⟨rfl, hq1, hq2⟩; have HQ := Lib.hid (And.intro hq1 hq2); clear hq1 hq2)) | go_in)
            go_roundw
            case rel => exact ⟨2 * i + 2, _, by omega, by go_num, (by first | exact (HW.out.draw _).step HN.out (by omega) (by omega) (by omega) HM.out HX2.out HQ.out.1 HQ.out.2 | exact ((HW.out.draw _).draw _).step HN.out (by omega) (by omega) (by omega) HM.out HX2.out HQ.out.1 HQ.out.2)⟩
            case measure => simp [intOf]; omega
          | false =>
            go_wp2_with (first | (go_at_fn 133; (first | ((with_reducible refine (H1.out _ ?hx).mono ?_); (case hx => (with_reducible first | exact HW.out.hb_ | exact HW.out.hb_.draw _ | exact (HW.out.hb_.draw _).draw _)); rintro e _ ⟨rfl, ⟨n1, rfl⟩⟩; clear H1) | ((with_reducible refine (H2.out _ ?hx).mono ?_); (case hx => (with_reducible first | exact HW.out.hb_ | exact HW.out.hb_.draw _ | exact (HW.out.hb_.draw _).draw _)); rintro e _ ⟨rfl, ⟨n2, rfl⟩⟩; clear H2))) | go_in)
            go_ret
            exact ⟨_, es, rfl, (by first | exact (HW.out.draw _).out (fun c h1 h2 h3 => totS.le_tr HX2.out (HM.out c h1 h2 h3)) | exact ((HW.out.draw _).draw _).out (fun c h1 h2 h3 => totS.le_tr HX2.out (HM.out c h1 h2 h3)))⟩
        | false =>
          have HM : Hid (∀ c, 1 ≤ c → c < n → (c - 1) / 2 = i → Le ltS key (es.getD (2 * i + 1) default) (es.getD c default)) := Lib.hid (fun c h1 h2 h3 => (by omega : c = 2 * i + 1 ∨ c = 2 * i + 2).elim (fun e => by subst e; exact totS.irr _) (fun e => by subst e; exact HX.out))
          have L2 := LS (2 * i + 1) i (by omega) (by omega)
          generalize hx2 : ltS (key (es.getD (2 * i + 1) default)) (key (es.getD i default)) = b2 at L2
          have S2 := SW i (2 * i + 1) (by omega) (by omega)
          rw [show ((2 * i + 1 : Nat) : Int) = 2 * (i : Int) + 1 by omega] at L2 S2
          have H2 := Lib.hid L2
          have H3 := Lib.hid S2
          have HX2 := Lib.hid hx2
          clear L2 S2 hx2
          have HLS := Lib.hid LS
          have HSW := Lib.hid SW
          clear LS SW
          cases b2 with
          | true =>
            go_wp2_with (first | (go_at_fn 133; (first | ((with_reducible refine (H1.out _ ?hx).mono ?_); (case hx => (with_reducible first | exact HW.out.hb_ | exact HW.out.hb_.draw _ | exact (HW.out.hb_.draw _).draw _)); rintro e _ ⟨rfl, ⟨n1, rfl⟩⟩; clear H1) | ((with_reducible refine (H2.out _ ?hx).mono ?_); (case hx => (with_reducible first | exact HW.out.hb_ | exact HW.out.hb_.draw _ | exact (HW.out.hb_.draw _).draw _)); rintro e _ ⟨rfl, ⟨n2, rfl⟩⟩; clear H2))) | (go_at_fn 135; ((with_reducible refine (H3.out _ ?hx).mono ?_); (case hx => (with_reducible first | exact HW.out.hb_ | exact HW.out.hb_.draw _ | exact (HW.out.hb_.draw _).draw _)); rintro e W5 ⟨rfl, hq1, hq2⟩; have HQ := Lib.hid (And.intro hq1 hq2); clear hq1 hq2)) | go_in)
            go_roundw
            case rel => exact ⟨2 * i + 1, _, by omega, by go_num, (by first | exact (HW.out.draw _).step HN.out (by omega) (by omega) (by omega) HM.out HX2.out HQ.out.1 HQ.out.2 | exact ((HW.out.draw _).draw _).step HN.out (by omega) (by omega) (by omega) HM.out HX2.out HQ.out.1 HQ.out.2)⟩
            case measure => simp [intOf]; omega
          | false =>
            go_wp2_with (first | (go_at_fn 133; (first | ((with_reducible refine (H1.out _ ?hx).mono ?_); (case hx => (with_reducible first | exact HW.out.hb_ | exact HW.out.hb_.draw _ | exact (HW.out.hb_.draw _).draw _)); rintro e _ ⟨rfl, ⟨n1, rfl⟩⟩; clear H1) | ((with_reducible refine (H2.out _ ?hx).mono ?_); (case hx => (with_reducible first | exact HW.out.hb_ | exact HW.out.hb_.draw _ | exact (HW.out.hb_.draw _).draw _)); rintro e _ ⟨rfl, ⟨n2, rfl⟩⟩; clear H2))) | go_in)
            go_ret
            exact ⟨_, es, rfl, (by first | exact (HW.out.draw _).out (fun c h1 h2 h3 => totS.le_tr HX2.out (HM.out c h1 h2 h3)) | exact ((HW.out.draw _).draw _).out (fun c h1 h2 h3 => totS.le_tr HX2.out (HM.out c h1 h2 h3)))⟩
      · have t3 : ¬ (2 * (i : Int) + 1 + 1 < (n : Int)) := by omega
        have HM : Hid (∀ c, 1 ≤ c → c < n → (c - 1) / 2 = i → Le ltS key (es.getD (2 * i + 1) default) (es.getD c default)) := Lib.hid (fun c h1 h2 h3 => by rw [show c = 2 * i + 1 by omega]; exact totS.irr _)
        have L2 := LS (2 * i + 1) i (by omega) (by omega)
        generalize hx2 : ltS (key (es.getD (2 * i + 1) default)) (key (es.getD i default)) = b2 at L2
        have S2 := SW i (2 * i + 1) (by omega) (by omega)
        rw [show ((2 * i + 1 : Nat) : Int) = 2 * (i : Int) + 1 by omega] at L2 S2
        have H2 := Lib.hid L2
        have H3 := Lib.hid S2
        have HX2 := Lib.hid hx2
        clear L2 S2 hx2
        have HLS := Lib.hid LS
        have HSW := Lib.hid SW
        clear LS SW
        cases b2 with
        | true =>
          go_wp2_with (first | (go_at_fn 133; ((with_reducible refine (H2.out _ ?hx).mono ?_); (case hx => (with_reducible first | exact HW.out.hb_ | exact HW.out.hb_.draw _ | exact (HW.out.hb_.draw _).draw _)); rintro e _ ⟨rfl, ⟨n2, rfl⟩⟩; clear H2)) | (go_at_fn 135; ((with_reducible refine (H3.out _ ?hx).mono ?_); (case hx => (with_reducible first | exact HW.out.hb_ | exact HW.out.hb_.draw _ | exact (HW.out.hb_.draw _).draw _)); rintro e W5 ⟨rfl, hq1, hq2⟩; have HQ := Lib.hid (And.intro hq1 hq2); clear hq1 hq2)) | go_in)
          go_roundw
          case rel => exact ⟨2 * i + 1, _, by omega, by go_num, (by first | exact (HW.out.draw _).step HN.out (by omega) (by omega) (by omega) HM.out HX2.out HQ.out.1 HQ.out.2 | exact ((HW.out.draw _).draw _).step HN.out (by omega) (by omega) (by omega) HM.out HX2.out HQ.out.1 HQ.out.2)⟩
          case measure => simp [intOf]; omega
        | false =>
          go_wp2_with (first | (go_at_fn 133; ((with_reducible refine (H2.out _ ?hx).mono ?_); (case hx => (with_reducible first | exact HW.out.hb_ | exact HW.out.hb_.draw _ | exact (HW.out.hb_.draw _).draw _)); rintro e _ ⟨rfl, ⟨n2, rfl⟩⟩; clear H2)) | go_in)
          go_ret
          exact ⟨_, es, rfl, (by first | exact (HW.out.draw _).out (fun c h1 h2 h3 => totS.le_tr HX2.out (HM.out c h1 h2 h3)) | exact ((HW.out.draw _).draw _).out (fun c h1 h2 h3 => totS.le_tr HX2.out (HM.out c h1 h2 h3)))⟩
    · have t1 : (n : Int) ≤ 2 * (i : Int) + 1 := by omega
      go_wp2
      go_ret
      exact ⟨_, es, rfl, HW.out.out (fun c h1 h2 h3 => by omega)⟩
end Go.Proofs.Ytnflokhffmfifaa.HeapWT
namespace Go.Proofs.Ytnflokhffmfifaa.HeapWT
open Go.RowKit Go.Proofs.Ytnflokhffmfifaa.Blk Go.Proofs.Ytnflokhffmfifaa.Ris Go.Proofs.Ytnflokhffmfifaa.OfT Go.Proofs.Ytnflokhffmfifaa.Keys Go.Proofs.Ytnflokhffmfifaa.XV Go.Proofs.Ytnflokhffmfifaa.HeapPure Go.Proofs.YtnflokhffmfifaaW.PrintWords Go.Proofs.YtnflokhffmfifaaW.PrintLast Go.Proofs.YtnflokhffmfifaaW.PrintMore
/-- Each header's row is not empty. -/
def Full (ds : List Hd) : Prop := ∀ d ∈ ds, 0 < d.l.length
theorem Full.at_ {ds : List Hd} (h : Full ds) (c : Nat) (hc : c < ds.length) : 0 < (ds.getD c default).l.length := by
  rw [← getElem_getD _ _ hc]
  exact h _ (List.getElem_mem hc)
theorem Full.perm {ds es : List Hd} (h : Full ds) (p : es.Perm ds) : Full es := fun d hd => h d (p.mem_iff.1 hd)
structure IR (w : World) (hb r cap k : Nat) (ds es : List Hd) (wr : World) : Prop where
  hb_ : HB wr hb r cap es
  perm : es.Perm ds
  heap : HeapFrom ltS key k es.length es
  grown : w.grownBy wr (some r)
set_option maxHeartbeats 2000000 in
set_option maxRecDepth 100000 in
theorem init_as (w : World) (hb r cap : Nat) (ds : List Hd) (h : HB w hb r cap ds) (hf : Full ds) (hm : ds.length ≤ 1048576) :
    Calls Try.prog 70 #[.iface 105 (.pointer (some ⟨hb, 0, none⟩))] w fun e w' => ∃ es, e = .returned (.tuple #[]) ∧ HB w' hb r cap es ∧ es.Perm ds ∧ HeapFrom ltS key 0 es.length es ∧ w.grownBy w' (some r) := by
  have c0 := h.box.get 0 _ rfl
  have mL := mLen w hb _ c0
  have eL : ∀ args w, (callFunc 77 args).run Try.prog w = .ok (.enter 77 args) w := enters_of Try.func77 (by kernel_rfl) rfl
  have hd : (ds.length : Int).tdiv 2 = ((ds.length / 2 : Nat) : Int) := by rw [Int.tdiv_eq_ediv_of_nonneg (by omega)]; omega
  have hs : IntKind.i64.wrap (((ds.length / 2 : Nat) : Int) - 1) = ((ds.length / 2 : Nat) : Int) - 1 := by rw [i64_w]; unfold wrap64; omega
  have HD := Lib.hid (show IR w hb r cap (ds.length / 2) ds ds w from ⟨h, .refl _, heap_big key (by omega), grown_refl _ _⟩)
  have HF := Lib.hid hf
  have hq : ds.length / 2 ≤ 524288 := by omega
  clear h hf
  generalize ds.length / 2 = q at hd hs HD hq
  go_enter Try.func70, Try.ntmps70
  go_wp2_with (first | (go_at_fn 77; ((with_reducible refine (len_as _ _ _ _).mono ?_); rintro e wl ⟨rfl, hwl⟩; obtain rfl := hwl.symm)) | go_in)
  go_loopw [3] (fun v wr => ∃ (k : Nat) (z : Int) (es : List Hd), k ≤ 524288 ∧ z + 1 = k ∧ v = .int .i64 z ∧ Hid (IR w hb r cap k ds es wr)) (fun v _ => (intOf v + 1).toNat)
  case atStart => exact ⟨q, (q : Int) - 1, ds, hq, by omega, rfl, HD⟩
  case round =>
    obtain ⟨k, z, es, hk, hz, rfl, HW⟩ := hrel
    by_cases hk0 : 0 < k
    · obtain ⟨m, rfl⟩ : ∃ m, k = m + 1 := ⟨k - 1, by omega⟩
      obtain rfl : z = (m : Int) := by omega
      have t1 : (0 : Int) ≤ (m : Int) := by omega
      have hl : es.length = ds.length := HW.out.perm.length_eq
      have D := down_as wr hb r cap m es.length m es HW.out.hb_ (Nat.le_refl _) (sift_start key HW.out.heap) (Nat.le_refl _) (fun c hc => (HF.out.perm HW.out.perm).at_ c hc) (by omega) (by omega)
      rw [hl] at D
      have H1 := Lib.hid D
      have HL := Lib.hid hl
      clear D hl
      go_wp2_with (first | (go_at_call 89; ((with_reducible refine H1.out.mono ?_); rintro e W2 ⟨b, fs, rfl, q1, q2, q3, q4, q5, q6⟩; have HQ := Lib.hid (show IR w hb r cap m ds fs W2 from ⟨q1, q2.trans HW.out.perm, by rw [q2.length_eq, HL.out]; exact q3, grown_trans HW.out.grown q6⟩); clear q1 q2 q3 q4 q5 q6)) | go_in)
      go_roundw
      case rel => exact ⟨m, (m : Int) - 1, fs, by omega, by omega, by go_num, HQ⟩
      case measure => simp [intOf] <;> omega
    · obtain rfl : k = 0 := by omega
      obtain rfl : z = -1 := by omega
      go_wp2
      go_end0
      exact ⟨es, rfl, HW.out.hb_, HW.out.perm, HW.out.heap, HW.out.grown⟩
set_option maxRecDepth 100000 in
theorem up_as (w : World) (v : Value) : Calls Try.prog 90 #[v, .int .i64 0] w fun e w' => e = .returned (.tuple #[]) ∧ Drawn0 w w' := by
  go_enter Try.func90, Try.ntmps90
  have hd : IntKind.i64.wrap (Int.tdiv (IntKind.i64.wrap (0 - 1)) 2) = 0 := by rw [i64_w, i64_w]; unfold wrap64; decide
  go_wp2_with fail
  go_loopw [1] (fun v wr => v = .int .i64 0 ∧ Drawn0 w wr) (fun v _ => 0)
  case atStart => exact ⟨rfl, Drawn0.refl _⟩
  case round =>
    obtain ⟨rfl, HW⟩ := hrel
    go_wp2
    go_end0
    exact ⟨rfl, by first | exact HW | (repeat (first | exact HW | apply Drawn0.step))⟩
set_option maxHeartbeats 2000000 in
set_option maxRecDepth 100000 in
theorem fix_as (w : World) (hb r cap : Nat) (ds : List Hd) (h : HB w hb r cap ds) (hf : Full ds) (hs : HeapFrom ltS key 1 ds.length ds) (hm : ds.length ≤ 1048576) :
    Calls Try.prog 73 #[.iface 105 (.pointer (some ⟨hb, 0, none⟩)), .int .i64 0] w fun e w' => ∃ es, e = .returned (.tuple #[]) ∧ HB w' hb r cap es ∧ es.Perm ds ∧ HeapFrom ltS key 0 es.length es ∧ w.grownBy w' (some r) := by
  have c0 := h.box.get 0 _ rfl
  have mL := mLen w hb _ c0
  have eL : ∀ args w, (callFunc 77 args).run Try.prog w = .ok (.enter 77 args) w := enters_of Try.func77 (by kernel_rfl) rfl
  have D := down_as w hb r cap 0 ds.length 0 ds h (Nat.le_refl _) (sift_start key hs) (Nat.le_refl _) (fun c hc => hf.at_ c hc) (by omega) hm
  rw [show ((0 : Nat) : Int) = 0 from rfl] at D
  have H1 := Lib.hid D
  clear D h hf hs
  go_enter Try.func73, Try.ntmps73
  go_wp2_with (first
    | (go_at_fn 77; ((with_reducible refine (len_as _ _ _ _).mono ?_); rintro e wl ⟨rfl, hwl⟩; obtain rfl := hwl.symm))
    | (go_at_call 89; ((with_reducible refine H1.out.mono ?_); rintro e W2 ⟨b, fs, rfl, q1, q2, q3, q4, q5, q6⟩; have HQ := Lib.hid (And.intro q1 (And.intro q2 (And.intro (show HeapFrom ltS key 0 fs.length fs by rw [q2.length_eq]; exact q3) q6))); clear q1 q2 q3 q4 q5 q6))
    | (go_at_call 90; ((with_reducible refine (up_as _ _).mono ?_); rintro e _ ⟨rfl, ⟨n2, rfl⟩⟩))
    | go_in)
  all_goals
    go_end0
    exact ⟨fs, rfl, (by first | exact HQ.out.1 | exact HQ.out.1.draw _), HQ.out.2.1, HQ.out.2.2.1, (by first | exact HQ.out.2.2.2 | exact grown_drewN HQ.out.2.2.2 _)⟩
end Go.Proofs.Ytnflokhffmfifaa.HeapWT
namespace Go.Proofs.Ytnflokhffmfifaa.HeapWT
open Go.RowKit Go.Proofs.Ytnflokhffmfifaa.Blk Go.Proofs.Ytnflokhffmfifaa.Ris Go.Proofs.Ytnflokhffmfifaa.OfT Go.Proofs.Ytnflokhffmfifaa.Keys Go.Proofs.Ytnflokhffmfifaa.XV Go.Proofs.Ytnflokhffmfifaa.HeapPure Go.Proofs.YtnflokhffmfifaaW.PrintWords Go.Proofs.YtnflokhffmfifaaW.PrintLast Go.Proofs.YtnflokhffmfifaaW.PrintMore
theorem info22 : (Try.prog.info? 59).map (fun i => (i.zero, i.size, i.bytes)) = some (some (.slice none 0 0), 1, 24) := by kernel_rfl
theorem cut98 (A : Option Addr) (n c k : Nat) (hk : k ≤ n) (hc : n ≤ c) (W : World) : (Instr.slice 106 (.slice A n c) none (some (.int .i64 (k : Int))) none).run Try.prog W = .ok (.slice A k c) W := by
  obtain ⟨i0, hi0, _, hsz, _⟩ := info_parts info22
  have := cut_to (P := Try.prog) 106 59 .i64 Try.underlying106 hi0 A n c (k : Int) (by omega) (by omega) hc W
  rw [Int.toNat_natCast] at this
  exact this
theorem HB.drop_last {w : World} {hb r cap : Nat} {ds : List Hd} {d : Hd} (h : HB w hb r cap (ds ++ [d])) : HB (w.setCell ⟨hb, 0, none⟩ (.slice (some ⟨r, 0, none⟩) ds.length cap)) hb r cap ds := by
  refine ⟨?_, ?_, ?_, h.ne, fun e he => ?_⟩
  · exact h.box.set 0 (.slice (some ⟨r, 0, none⟩) ds.length cap)
  · obtain ⟨rest, hr⟩ := h.row
    refine ⟨d.v :: rest, ?_⟩
    have := hr.other ⟨hb, 0, none⟩ (.slice (some ⟨r, 0, none⟩) ds.length cap) (Ne.symm h.ne)
    simpa using this
  · have := h.cap; simp at this; omega
  · have hg := h.good e (by simp [he])
    exact hg.on (Below.heap_setCell _ _ _ _ hg.ne1)
set_option maxRecDepth 100000 in
theorem pop_as (w : World) (hb r cap : Nat) (ds : List Hd) (d : Hd) (h : HB w hb r cap (ds ++ [d])) (hm : ds.length ≤ 1048576) :
    Calls Try.prog 134 #[.pointer (some ⟨hb, 0, none⟩)] w fun e w' => e = .returned (.iface 59 d.v) ∧ HB w' hb r cap ds ∧ w.grownBy w' (some hb) := by
  have HD := Lib.hid h.drop_last
  have c0 := h.box.get 0 _ rfl
  have f0 := h.box.free 0
  have c1 := h.cellv (i := ds.length) (by simp)
  have hcut := cut98 (some ⟨r, 0, none⟩) (ds.length + 1) cap ds.length (by omega) (by have := h.cap; simp at this; omega)
  rw [show (ds ++ [d]).getD ds.length default = d by simp [List.getD_eq_getElem?_getD]] at c1
  rw [show (ds ++ [d]).length = ds.length + 1 by simp] at c0
  have hs : IntKind.i64.wrap (((ds.length + 1 : Nat) : Int) - 1) = (ds.length : Int) := by rw [i64_w]; unfold wrap64; omega
  have hl : (ds.length : Int) < ((ds.length + 1 : Nat) : Int) := by omega
  obtain ⟨Ai, ni, xi, ei⟩ : ∃ A n c, d.v = .slice A n c := ⟨_, _, _, rfl⟩
  rw [ei] at c1 ⊢
  clear ei h
  generalize hmm : ds.length + 1 = m at *
  have hp : (0 : Int) ≤ (ds.length : Int) := by omega
  clear hmm
  generalize ds.length = k at *
  go_enter Try.func134, Try.ntmps134
  go_wp2
  go_ret
  exact ⟨rfl, HD.out, grown_set (grown_refl _ _) _ _⟩
/-- All but two blocks as it was. -/
structure Two (w w' : World) (a b : Nat) : Prop where
  os : w'.os = w.os
  tape : w'.tape = w.tape
  output : w'.output = w.output
  size : w.heap.size ≤ w'.heap.size
  block : ∀ j, j < w.heap.size → j ≠ a → j ≠ b → w'.heap[j]? = w.heap[j]?
theorem Two.refl (w : World) (a b : Nat) : Two w w a b := ⟨rfl, rfl, rfl, Nat.le_refl _, fun _ _ _ _ => rfl⟩
theorem Two.trans {w w1 w2 : World} {a b : Nat} (h : Two w w1 a b) (k : Two w1 w2 a b) : Two w w2 a b := ⟨k.os.trans h.os, k.tape.trans h.tape, k.output.trans h.output, Nat.le_trans h.size k.size, fun j hj h1 h2 => (k.block j (Nat.lt_of_lt_of_le hj h.size) h1 h2).trans (h.block j hj h1 h2)⟩
theorem Two.left {w w' : World} {a : Nat} (h : w.grownBy w' (some a)) (b : Nat) : Two w w' a b := ⟨h.os, h.tape, h.output, h.size, fun j hj h1 _ => h.block j hj (fun e => h1 (Option.some.inj e))⟩
theorem Two.right {w w' : World} {b : Nat} (h : w.grownBy w' (some b)) (a : Nat) : Two w w' a b := ⟨h.os, h.tape, h.output, h.size, fun j hj _ h2 => h.block j hj (fun e => h2 (Option.some.inj e))⟩
theorem Two.draw {w w' : World} {a b : Nat} (h : Two w w' a b) (n : Nat) : Two w (w'.drewN n) a b := ⟨h.os, h.tape, h.output, h.size, h.block⟩
/-- The last place holds d. -/
theorem last_is {fs : List Hd} {d : Hd} {n : Nat} (hl : fs.length = n + 1) (h : fs.getD n default = d) : fs = fs.take n ++ [d] := by
  have h1 : fs.drop n = [d] := by
    rw [← h]
    apply List.ext_getElem
    · rw [List.length_drop, hl]; simp
    · intro i h1 h2
      simp only [List.length_cons, List.length_nil] at h2
      obtain rfl : i = 0 := by omega
      simp [List.getD_eq_getElem?_getD, List.getElem?_eq_getElem (show n < fs.length by omega)]
  rw [← h1, List.take_append_drop]
theorem cons_pos {t : List Hd} {d : Hd} (hf : Full t) (c : Nat) (h1 : 1 ≤ c) (hc : c < (d :: t).length) : 0 < ((d :: t).getD c default).l.length := by
  obtain ⟨m, rfl⟩ : ∃ m, c = m + 1 := ⟨c - 1, by omega⟩
  simpa using hf.at_ m (by simpa using hc)
set_option maxHeartbeats 2000000 in
set_option maxRecDepth 100000 in
theorem hpop_as (w : World) (hb r cap : Nat) (t : List Hd) (d : Hd) (h : HB w hb r cap (d :: t)) (hf : Full t) (hs : HeapFrom ltS key 1 (t.length + 1) (d :: t)) (hm : t.length < 1048576) :
    Calls Try.prog 72 #[.iface 105 (.pointer (some ⟨hb, 0, none⟩))] w fun e w' => ∃ es, e = .returned (.iface 59 d.v) ∧ HB w' hb r cap es ∧ es.Perm t ∧ HeapFrom ltS key 0 es.length es ∧ Two w w' hb r := by
  have c0 := h.box.get 0 _ rfl
  have mL := mLen w hb _ c0
  have eL : ∀ args w, (callFunc 77 args).run Try.prog w = .ok (.enter 77 args) w := enters_of Try.func77 (by kernel_rfl) rfl
  have mS := mSwap w hb _ c0
  have eS : ∀ args w, (callFunc 135 args).run Try.prog w = .ok (.enter 135 args) w := enters_of Try.func135 (by kernel_rfl) rfl
  have mP := fun W => mPop W (.pointer (some ⟨hb, 0, none⟩))
  have eP : ∀ args w, (callFunc 134 args).run Try.prog w = .ok (.enter 134 args) w := enters_of Try.func134 (by kernel_rfl) rfl
  have hl : (d :: t).length = t.length + 1 := rfl
  have hw : IntKind.i64.wrap (((t.length + 1 : Nat) : Int) - 1) = (t.length : Int) := by rw [i64_w]; unfold wrap64; omega
  have S := swap_as w hb r cap (d :: t) 0 t.length h (by omega) (by omega)
  have hat := swp_at (d :: t) (i := 0) (j := t.length) (by omega) (by omega)
  have hpm := swp_perm (d :: t) (i := 0) (j := t.length) (by omega) (by omega)
  have hsi : Sift ltS key 0 t.length 0 (swp (d :: t) 0 t.length) := sift_start key (heap_like key (heap_cut key hs (Nat.le_succ _)) (fun c h1 h2 => by rw [hat, if_neg (by omega), if_neg (by omega)]))
  have hpo : ∀ c, c < t.length → 0 < ((swp (d :: t) 0 t.length).getD c default).l.length := fun c hc => by
    rw [hat, if_neg (by omega)]
    split
    · exact cons_pos hf _ (by omega) (by omega)
    · exact cons_pos hf _ (by omega) (by omega)
  have hlast : (swp (d :: t) 0 t.length).getD t.length default = d := by rw [hat, if_pos rfl]; rfl
  have D := fun W (hW : HB W hb r cap (swp (d :: t) 0 t.length)) => down_as W hb r cap 0 t.length 0 _ hW (by rw [hpm.length_eq, hl]; omega) hsi (Nat.le_refl _) hpo (by omega) (by rw [hpm.length_eq, hl]; omega)
  rw [show ((0 : Nat) : Int) = 0 from rfl] at D S
  rw [hl] at S c0 mL mS
  clear hat hsi hpo h hs
  have HX := Lib.hid (And.intro hpm hlast)
  clear hpm hlast hl
  generalize swp (d :: t) 0 t.length = s0 at S D HX
  have H1 := Lib.hid S
  have H2 := Lib.hid D
  clear S D
  go_enter Try.func72, Try.ntmps72
  go_wp2_with (first
    | (go_at_fn 77; ((with_reducible refine (len_as _ _ _ _).mono ?_); rintro e wl ⟨rfl, hwl⟩; obtain rfl := hwl.symm))
    | (go_at_fn 135; ((with_reducible refine H1.out.mono ?_); rintro e W2 ⟨rfl, q1, q2⟩; have HQ := Lib.hid (And.intro q1 q2); clear q1 q2))
    | (go_at_call 89; ((with_reducible refine (H2.out _ HQ.out.1).mono ?_); rintro e W3 ⟨b, fs, rfl, q1, q2, q3, q4, q5, q6⟩; have hfs : fs = fs.take t.length ++ [d] := last_is (by rw [q2.length_eq, HX.out.1.length_eq]; rfl) ((q4 _ (Nat.le_refl _)).trans HX.out.2); have hlt : (fs.take t.length).length = t.length := (by rw [List.length_take, q2.length_eq, HX.out.1.length_eq]; exact Nat.min_eq_left (Nat.le_succ _)); have P3 := Lib.hid (pop_as W3 hb r cap (fs.take t.length) d (by rw [← hfs]; exact q1) (by omega)); have HR := Lib.hid (And.intro q2 (And.intro q3 (And.intro q6 (And.intro hfs hlt)))); clear q1 q2 q3 q4 q5 q6 hfs hlt))
    | (go_at_fn 134; ((with_reducible refine P3.out.mono ?_); rintro e W4 ⟨rfl, q1, q2⟩; have HT := Lib.hid (And.intro q1 q2); clear q1 q2))
    | go_in)
  go_ret
  refine ⟨fs.take t.length, rfl, HT.out.1, ?_, ?_, ((Two.right HQ.out.2 hb).trans (Two.right HR.out.2.2.1 hb)).trans (Two.left HT.out.2 r)⟩
  · have h1 := HR.out.1.trans HX.out.1
    rw [HR.out.2.2.2.1] at h1
    exact (List.perm_append_comm.trans h1).cons_inv
  · rw [HR.out.2.2.2.2]
    exact heap_like key HR.out.2.1 (fun c h1 h2 => by
      have h3 := HR.out.2.2.2.2
      have := HR.out.2.2.2.1
      generalize fs.take t.length = gs at this h3 ⊢
      rw [this, List.getD_eq_getElem?_getD, List.getD_eq_getElem?_getD, List.getElem?_append_left (by omega)])
end Go.Proofs.Ytnflokhffmfifaa.HeapWT

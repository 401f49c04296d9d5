/- By hand: the law PostingCursors, walked, of an empty list. For every script of at most 1048576 calls and world. -/
import Derived.Test.YtnflokhffmfifaaCursD
import Derived.Test.YtnflokhffmfifaaCursW
set_option linter.unusedVariables false
set_option linter.unusedSimpArgs false
namespace Go.Proofs.Ytnflokhffmfifaa.CursW
open Go.RowKit Go.Proofs.Ytnflokhffmfifaa.XC Go.Proofs.Ytnflokhffmfifaa.XV Go.Proofs.Ytnflokhffmfifaa.XP Go.Proofs.Ytnflokhffmfifaa.Blk Go.Proofs.Ytnflokhffmfifaa.Ris Go.Proofs.Ytnflokhffmfifaa.Cur Go.Proofs.Ytnflokhffmfifaa.OfW Go.Proofs.Ytnflokhffmfifaa.SortEv Go.Proofs.Ytnflokhffmfifaa.RefCur Go.Proofs.YtnflokhffmfifaaW.PrintWords Go.Proofs.YtnflokhffmfifaaW.PrintLast Go.Proofs.YtnflokhffmfifaaW.PrintMore
set_option maxHeartbeats 2000000 in
set_option maxRecDepth 100000 in
theorem curs_walk0 (A : Option Addr) (c : Nat) (l : List Int) (D : Option Addr) (sc : Nat) (sp : List S30) (w : World) (h : Kd.C (Kd.int .i64) w A l.length l) (hc : l.length ≤ c) (h2 : Kd.C k30 w D sp.length sp) (hn : l.length ≤ 1048576) (hp : l = []) (hm : sp.length ≤ 1048576) : Calls Try.prog 3 #[.slice A l.length c, .slice D sp.length sc] w fun e w' => e = .returned (.bool true) ∧ Below w.heap.size w w' := by
  have HR0 := Aside0.mk h
  have HP0 := Aside0.mk h2
  have HB := Aside0.mk (Below.refl w.heap.size w)
  have K := Lib.hid (fun A c W hW => new_as A c l W hW hn)
  have KR := Lib.hid (fun W hW => rnew_as A c l W hW hc hn)
  unfold NewQ at K
  unfold RNewQ at KR
  have hsn : (setL ltI l).length ≤ 1048576 := Nat.le_trans (setL_len totI l) hn
  have HS := Lib.hid (ris_setL totI l)
  generalize setL ltI l = s at K KR hsn HS
  have HZ := Lib.hid hp
  clear h h2 hp
  go_enter Try.func3, Try.ntmps3
  go_wp2_with (first
    | (((with_reducible refine gate_builtin (b := .append) (xs := #[.tmp 20, .tmp 21]) rfl ?_); at_builtin; refine Kd.R_append_rows (Kd.int .i64) (w0 := w) w.heap.size rfl (.tmp 20) (.tmp 21) 22 2 (.int .i64 0) 8 rfl Try.underlying22 Cur.info2 rfl (by decide) (by omega) (.slice none 0 0) ([] : List Int) l _ _ _ (fun _ => True) (fun _ => False) rfl rfl ?aO ?aR (fun _ _ h => h) (fun _ h => h.elim) ?aF ?aB ?aS ?aL ?_; (case aR => exact HR0.out); (case aB => exact (by repeat (first | (with_reducible first | exact HB.out | apply below_alloc | apply pw_below_drewN | apply below_drew1) | exact HB.out))); (case aF => exact (fun _ _ => trivial)); (case aO => exact Kd.R_nil _ _ _ _ _); (case aS => exact (below_size (by repeat (first | (with_reducible first | exact HB.out | apply below_alloc | apply pw_below_drewN | apply below_drew1) | exact HB.out)))); (case aL => simp only [List.length_nil]; omega); intro v105 w8 ho hb hg hat; have n0_ := Aside0.mk (hb); have n1_ := Aside0.mk (ho); clear HB; have HB := n0_; have HO106 := n1_; clear n0_ n1_; clear ho hb hg hat); (obtain ⟨L0, cap, rfl⟩ := Kd.R_slice HO106.out); have HRC := Lib.hid (R_C (l := l) (by have := HO106.out; rwa [List.nil_append] at this)); simp only [List.nil_append] at *)
    | (go_at_call 12; (first
        | ((with_reducible refine (K.out L0 cap w8 HRC.out).mono ?_); rintro e W1 ⟨pc, gc, rfl, hq1, hq2, hq3, hq4, hq5⟩; have HQ1 := Lib.hid (And.intro hq1 (And.intro (And.intro hq2 hq3) (And.intro hq4 hq5))); clear hq1 hq2 hq3 hq4 hq5)
        | ((with_reducible refine (K.out L0 cap W1 (Kd.C_below HRC.out HQ1.out.2.2.2)).mono ?_); rintro e W2 ⟨pd, gd, rfl, hq1, hq2, hq3, hq4, hq5⟩; have HQ2 := Lib.hid (And.intro hq1 (And.intro (And.intro hq2 hq3) (And.intro hq4 hq5))); clear hq1 hq2 hq3 hq4 hq5)))
    | go_in)
  go_loopw [8] (fun i wr => i = .int .i64 0 ∧ wr = W2) (fun i _ => 0)
  case atStart => exact ⟨rfl, rfl⟩
  case round =>
    obtain ⟨rfl, rfl⟩ := hrel
    by_cases hin : 0 < l.length
    · rw [HZ.out] at hin; cases hin
    · have hlt : ¬ ((0 : Int) < (l.length : Int)) := by omega
      have HBW := Lib.hid ((HB.out.trans (HQ1.out.2.2.2.mono HB.out.size)).trans (HQ2.out.2.2.2.mono (Nat.le_trans HB.out.size HQ1.out.2.2.2.size)))
      go_wp2_with (first
        | (go_at_call 13; (first
            | ((with_reducible refine (KR.out wr (Kd.C_below HR0.out HBW.out)).mono ?_); rintro e W3 ⟨gm, Bm, cm, rfl, hq1, hq2, hq3⟩; have HM := Lib.hid (And.intro hq1 (And.intro hq2 hq3)); have HBM := Lib.hid (HBW.out.trans (hq3.mono HBW.out.size)); clear hq1 hq2 hq3)
            | ((with_reducible refine (KR.out _ ?hx).mono ?_); (case hx => first | exact Kd.C_below HR0.out (below_alloc HBM.out _) | exact Kd.C_below HR0.out (((below_alloc HBM.out _).setCell (p := ⟨W3.heap.size, 0, none⟩) HBM.out.size _).setCell (p := ⟨W3.heap.size, 1, none⟩) HBM.out.size _)); rintro e W4 ⟨go_, Bo, co, rfl, hq1, hq2, hq3⟩; have HO := Lib.hid (And.intro hq1 (And.intro hq2 hq3)); clear hq1 hq2 hq3)))
        | go_in)
      have HL := Lib.hid (lw_start0 HB.out HQ1.out.1 HQ1.out.2.1 HQ1.out.2.2.1 HQ1.out.2.2.2 HQ2.out.1 HQ2.out.2.1 HQ2.out.2.2.1 HQ2.out.2.2.2 HM.out.1 HM.out.2.1 HM.out.2.2 HO.out.1 HO.out.2.1 HO.out.2.2)
      clear HQ1 HQ2 HM HBM HO HRC HBW
      go_loopw [6, 7, 11] (fun v6 v7 i wr => ∃ (k a b p1 g1 p2 g2 g3 g4 : Nat), k ≤ sp.length ∧ v6 = .pointer (some ⟨p1, 0, none⟩) ∧ v7 = .pointer (some ⟨p2, 0, none⟩) ∧ i = .int .i64 k ∧ Hid (LW w p1 g1 p2 g2 W3.heap.size g3 W4.heap.size g4 s a b wr)) (fun _ _ i _ => sp.length - (intOf i).toNat)
      case atStart => exact ⟨0, 0, 0, pc, gc, pd, gd, gm, go_, by omega, rfl, rfl, rfl, HL⟩
      case round =>
        obtain ⟨k, a, b, p1, h1, p2, h2, h3, h4, hk, rfl, rfl, rfl, HW⟩ := hrel
        obtain ⟨Am, ca, hm1, hm2⟩ := HW.out.m
        obtain ⟨Ao, cb, ho1, ho2⟩ := HW.out.o
        have cm0 := hm1.get 0 _ rfl
        have cm1 := hm1.get 1 _ rfl
        have co0 := ho1.get 0 _ rfl
        have co1 := ho1.get 1 _ rfl
        have fm0 := hm1.free 0
        have fm1 := hm1.free 1
        have fo0 := ho1.free 0
        have fo1 := ho1.free 1
        have HS2 := Lib.hid (HW.out.swap ⟨hm1, hm2⟩ ⟨ho1, ho2⟩)
        have hne : W4.heap.size ≠ W3.heap.size := Ne.symm HW.out.ne.2.1
        have hox := (ho1.other ⟨W3.heap.size, 0, none⟩ (.slice Ao s.length cb) hne).other ⟨W3.heap.size, 1, none⟩ (.int .i64 (b : Int)) hne
        have cx0 := hox.get 0 _ rfl
        have cx1 := hox.get 1 _ rfl
        have fx0 := hox.free 0
        have fx1 := hox.free 1
        clear hox hne
        have HMR := Lib.hid (And.intro hm1 hm2)
        have HOR := Lib.hid (And.intro ho1 ho2)
        clear hm1 hm2 ho1 ho2
        by_cases hin : k < sp.length
        · have hlt : (k : Int) < (sp.length : Int) := by omega
          obtain ⟨ad, rfl, had0, -⟩ := at_T30 HP0.out (k : Int) (by omega) hlt
          have hadl := World.block_lt_of_cell? w _ had0
          rw [Int.toNat_natCast] at hadl
          clear had0
          by_cases hk2 : k % 3 = 2
          · have ht : (k : Int).tmod 3 = 2 := by rw [Int.tmod_eq_emod_of_nonneg (by omega)]; omega
            go_upto_region 19 with fail
            generalize (((wr.setCell ⟨W3.heap.size, 0, none⟩ (.slice Ao s.length cb)).setCell ⟨W3.heap.size, 1, none⟩ (.int .i64 (b : Int))).setCell ⟨W4.heap.size, 0, none⟩ (.slice Am s.length ca)).setCell ⟨W4.heap.size, 1, none⟩ (.int .i64 (a : Int)) = wt at HS2 ⊢
            have HT := HS2
            clear cm0 cm1 co0 co1 fm0 fm1 fo0 fo1 cx0 cx1 fx0 fx1 HMR HOR HW HS2
            obtain ⟨Bm, cbm, hm1, hm2⟩ := HT.out.m
            obtain ⟨ad2, had, ck, cx⟩ := at_T30 (Kd.C_below HP0.out HT.out.below) (k : Int) (by omega) hlt
            obtain rfl := Option.some.inj had
            clear had
            rw [Int.toNat_natCast] at ck cx
            generalize (rd_T30 sp (k : Int)).f0 = kd at ck
            generalize (rd_T30 sp (k : Int)).f1 = xv at cx
            have cm0 := hm1.get 0 _ rfl
            have cm1 := hm1.get 1 _ rfl
            have fm0 := hm1.free 0
            have fm1 := hm1.free 1
            have hsa := HT.out.ha
            have hne : p2 ≠ W3.heap.size := HT.out.ne.2.2.1
            have HMR := Lib.hid (And.intro hm1 hm2)
            clear hm1 hm2
            by_cases h0 : kd = 0
            · subst h0
              have HH := here_as _ _ _ _ HT.out.c
              have RH := fun W (hW : Row W h4 Bm cbm s) => rhere_as W _ Bm cbm s b hW hsn hsa
              generalize hv : (s.drop b).getD 0 0 = v at HH RH
              generalize hb : decide (0 < (s.drop b).length) = bb at HH RH
              have hvv : (v != v) = false := bne_self_eq_false v
              have hbb : (bb != bb) = false := bne_self_eq_false bb
              have H1 := Lib.hid HH
              have H2 := Lib.hid RH
              clear HH RH hv hb
              go_wp2_with (first
                | (go_at_call 14; ((with_reducible refine H1.out.mono ?_); rintro e _ ⟨rfl, ⟨n1, rfl⟩⟩))
                | (go_at_call 15; ((with_reducible refine (H2.out _ ?hx).mono ?_); (case hx => exact HMR.out.2.on (fun _ => rfl)); rintro e W6 ⟨rfl, hq⟩; have HT6 := Lib.hid ((HT.out.draw n1).on hq); clear hq))
                | go_in)
              go_roundw
              case rel => exact ⟨k + 1, _, _, _, _, _, _, _, _, by omega, rfl, rfl, by go_num, HT6⟩
              case measure => simp [intOf]; omega
            by_cases hk1 : kd = 1
            · subst hk1
              have N1 := next_as _ _ _ _ HT.out.c
              have N2 := fun W => rnext_as W Bm cbm s b hsn hsa
              rw [← on1_drop] at N1
              have hle := on1_le s b hsa
              generalize on1 s b = a2 at N1 N2 hle
              have H1 := Lib.hid N1
              have H2 := Lib.hid N2
              clear N1 N2
              go_wp2_with (first
                | (go_at_call 16; ((with_reducible refine H1.out.mono ?_); rintro e W5 ⟨rfl, hq1, hq2⟩; have hA5 := HMR.out.1.grown hq2 (by simpa using Ne.symm hne); have c50 := hA5.get 0 _ rfl; have c51 := hA5.get 1 _ rfl; have HQ := Lib.hid (And.intro hq1 hq2); clear hA5 hq1 hq2))
                | (go_at_call 17; ((with_reducible refine (H2.out _).mono ?_); rintro e W6 ⟨rfl, hq⟩; have HT7 := Lib.hid (HT.out.step HMR.out.1 HMR.out.2 HQ.out.2 HQ.out.1 hq hle); have hA6 := At.then HMR.out.1 HQ.out.2 hq hne; have c60 := hA6.get 0 _ rfl; have c61 := hA6.get 1 _ rfl; have f60 := hA6.free 0; have f61 := hA6.free 1; clear hA6 hq))
                | go_in)
              go_roundw
              case rel => exact ⟨k + 1, _, _, _, _, _, _, _, _, by omega, rfl, rfl, by go_num, HT7⟩
              case measure => simp [intOf]; omega
            by_cases hk2 : kd = 2
            · subst hk2
              have N1 := skip_as _ _ _ _ xv (ris_drop HS.out b) (Nat.le_trans (by rw [List.length_drop]; omega) hsn) HT.out.c
              have N2 := fun W (hW : Row W h4 Bm cbm s) => rskip_as W _ Bm cbm s b xv hW HS.out hsn hsa
              rw [← onX_drop s b xv HS.out hsa] at N1
              have hle := onX_le s b xv hsa
              generalize onX s b xv = a2 at N1 N2 hle
              have H1 := Lib.hid N1
              have H2 := Lib.hid N2
              clear N1 N2
              have hnp : some (⟨(ad.add (k * 2)).block, (ad.add (k * 2)).off + 1, none⟩ : Addr).block ≠ some p2 := by have := HT.out.lo.1; simp only [ne_eq, Option.some.injEq]; omega
              go_wp2_with (first
                | (go_at_call 18; ((with_reducible refine H1.out.mono ?_); rintro e W5 ⟨rfl, hq1, hq2⟩; have hA5 := HMR.out.1.grown hq2 (by simpa using Ne.symm hne); have c50 := hA5.get 0 _ rfl; have c51 := hA5.get 1 _ rfl; have HR5 := Lib.hid (HMR.out.2.on (fun h0 => grown_on hq2 (HT.out.far h0 _ (.inr (.inr (.inl rfl)))).1 (HT.out.far h0 _ (.inr (.inr (.inl rfl)))).2.1)); have HQ := Lib.hid (And.intro hq1 hq2); have cx5 := grown_cell hq2 cx hnp; clear hA5 hq1 hq2))
                | go_in)
              refine start_ (n := 8) (S := fun w' => w'.cell? ⟨W3.heap.size, 0, none⟩ = some (.slice Bm s.length cbm) ∧ w'.cell? ⟨W3.heap.size, 1, none⟩ = some (.int .i64 (b : Int)) ∧ w'.cell? ⟨(ad.add (k * 2)).block, (ad.add (k * 2)).off + 1, none⟩ = some (.int .i64 xv)) (ds := [6, 7]) #[false, false, false, false, false, false, false, false] (by kernel_rfl) rfl rfl ⟨c50, c51, cx5⟩ (fun hHeld => ?_)
              refine pure_ (i := 1) (N := some 100) (v := ?_) (a' := ?_) #[false, true, false, false, false, false, false, false] rfl rfl (by kernel_rfl) (fun _ _ _ h => h) (Or.inl ⟨by rfl, ?_⟩) ?_ ?_
              rotate_left
              · intro w'
                go_simp
                with_reducible rfl
              rotate_left
              · simp only [Act.put, List.setIfInBounds_toArray, List.set_cons_zero, List.set_cons_succ, i64_w, i32_w]
                rfl
              refine pure_ (i := 2) (N := some 101) (v := ?_) (a' := ?_) #[false, true, true, false, false, false, false, false] rfl rfl (by kernel_rfl) (fun _ _ _ h => h) (Or.inl ⟨by rfl, ?_⟩) ?_ ?_
              rotate_left
              · intro w'
                go_simp
                with_reducible rfl
              rotate_left
              · simp only [Act.put, List.setIfInBounds_toArray, List.set_cons_zero, List.set_cons_succ, i64_w, i32_w]
                rfl
              refine pure_ (i := 3) (N := some 102) (v := ?_) (a' := ?_) #[false, true, true, true, false, false, false, false] rfl rfl (by kernel_rfl) (fun _ _ _ h => h) (Or.inl ⟨by rfl, ?_⟩) ?_ ?_
              rotate_left
              · intro w'
                go_simp
                with_reducible rfl
              rotate_left
              · simp only [Act.put, List.setIfInBounds_toArray, List.set_cons_zero, List.set_cons_succ, i64_w, i32_w]
                rfl
              refine pure_ (i := 4) (N := some 103) (v := ?_) (a' := ?_) #[false, true, true, true, true, false, false, false] rfl rfl (by kernel_rfl) (fun _ _ _ h => h) (Or.inl ⟨by rfl, ?_⟩) ?_ ?_
              rotate_left
              · intro w'
                go_simp
                with_reducible rfl
              rotate_left
              · simp only [Act.put, List.setIfInBounds_toArray, List.set_cons_zero, List.set_cons_succ, i64_w, i32_w]
                rfl
              refine take_ (i := 0) (N := some 99) (v := ?_) (a' := ?_) #[true, true, true, true, true, false, false, false] rfl rfl (by kernel_rfl) (fun _ _ _ h => h) (Or.inl ⟨by rfl, ?_⟩) hHeld ?_ ?_
              rotate_left
              · rintro w' ⟨s0, s1, s2⟩
                go_simp
                with_reducible rfl
              rotate_left
              · simp only [Act.put, List.setIfInBounds_toArray, List.set_cons_zero, List.set_cons_succ, i64_w, i32_w]
                rfl
              refine take_ (i := 5) (N := some 104) (v := ?_) (a' := ?_) #[true, true, true, true, true, true, false, false] rfl rfl (by kernel_rfl) (fun _ _ _ h => h) (Or.inl ⟨by rfl, ?_⟩) hHeld ?_ ?_
              rotate_left
              · rintro w' ⟨s0, s1, s2⟩
                go_simp
                with_reducible rfl
              rotate_left
              · simp only [Act.put, List.setIfInBounds_toArray, List.set_cons_zero, List.set_cons_succ, i64_w, i32_w]
                rfl
              refine last_ (i := 6) (N := some 105) #[true, true, true, true, true, true, true, false] rfl rfl (by kernel_rfl) (by decide) (fun K hK => ?_)
              refine goes_ Try.func19 (by kernel_rfl) rfl #[.agg #[.slice Bm s.length cbm, .int .i64 (b : Int)], .int .i64 xv] (by rfl) rfl rfl (by simp only [List.map_toArray, List.map_cons, List.map_nil]; rfl) ?_
              with_reducible refine (H2.out _ ?hx).mono ?_
              case hx => exact HR5.out.on (fun _ => rfl)
              rintro e W6 ⟨rfl, hq0⟩
              have hq : Below W5.heap.size W5 W6 := ⟨hq0.os, hq0.tape, hq0.output, hq0.size, hq0.block⟩
              have HT7 := Lib.hid (HT.out.step HMR.out.1 HMR.out.2 HQ.out.2 HQ.out.1 hq hle)
              have hA6 := At.then HMR.out.1 HQ.out.2 hq hne
              have c60 := hA6.get 0 _ rfl
              have c61 := hA6.get 1 _ rfl
              have f60 := hA6.free 0
              have f61 := hA6.free 1
              clear hA6 hq hq0
              refine ⟨_, rfl, ?_⟩
              refine hK.out _ _ ?_
              clear hK K
              refine norm_ (a' := ?_) ?_ ?_
              rotate_left
              · show Act.put _ (some 105) _ = _
                simp only [Act.put, List.setIfInBounds_toArray, List.set_cons_zero, List.set_cons_succ, i64_w, i32_w]
                rfl
              refine last_ (i := 7) (N := none) #[true, true, true, true, true, true, true, true] rfl rfl (by kernel_rfl) (by decide) (fun K hK => ?_)
              refine skip_ (w1 := ?_) (by rfl) rfl ?_ ?_
              rotate_left
              · go_simp
                rfl
              refine hK.out _ _ ?_
              clear hK K
              refine done_ (by kernel_rfl) ?_
              go_wp2
              go_roundw
              case rel => exact ⟨k + 1, _, _, _, _, _, _, _, _, by omega, rfl, rfl, by go_num, HT7⟩
              case measure => simp [intOf]; omega
            by_cases hk3 : kd = 3
            · subst hk3
              have N1 := fun W (hW : Cur W p2 h2 (s.drop b)) => left_as W _ _ _ hW
              have N2 := fun W (hW : Row W h4 Bm cbm s) => rleft_as W _ Bm cbm s b hW hsn hsa
              generalize hml : ((s.drop b).length : Int) = ml at N1 N2
              have hmm : (ml != ml) = false := bne_self_eq_false ml
              have H1 := Lib.hid N1
              have H2 := Lib.hid N2
              clear N1 N2 hml
              go_wp2
              refine start_ (n := 5) (S := fun w' => w'.cell? ⟨W3.heap.size, 0, none⟩ = some (.slice Bm s.length cbm) ∧ w'.cell? ⟨W3.heap.size, 1, none⟩ = some (.int .i64 (b : Int))) (ds := [3]) #[false, false, false, false, false] (by kernel_rfl) rfl rfl ⟨cm0, cm1⟩ (fun hHeld => ?_)
              refine pure_ (i := 0) (N := some 108) (v := ?_) (a' := ?_) #[true, false, false, false, false] rfl rfl (by kernel_rfl) (fun _ _ _ h => h) (Or.inl ⟨by rfl, ?_⟩) ?_ ?_
              rotate_left
              · intro w'
                go_simp
                with_reducible rfl
              rotate_left
              · simp only [Act.put, List.setIfInBounds_toArray, List.set_cons_zero, List.set_cons_succ, i64_w, i32_w]
                rfl
              refine take_ (i := 2) (N := some 110) (v := ?_) (a' := ?_) #[true, false, true, false, false] rfl rfl (by kernel_rfl) (fun _ _ _ h => h) (Or.inl ⟨by rfl, ?_⟩) hHeld ?_ ?_
              rotate_left
              · rintro w' ⟨s0, s1⟩
                go_simp
                with_reducible rfl
              rotate_left
              · simp only [Act.put, List.setIfInBounds_toArray, List.set_cons_zero, List.set_cons_succ, i64_w, i32_w]
                rfl
              refine one_ (i := 1) (N := some 109) #[true, true, true, false, false] rfl rfl (by kernel_rfl) (by decide) (fun K hK => ?_)
              refine goes_ Try.func20 (by kernel_rfl) rfl #[.pointer (some ⟨p2, 0, none⟩)] (by rfl) rfl rfl (by simp only [List.map_toArray, List.map_cons, List.map_nil]; rfl) ?_
              with_reducible refine (H1.out _ ?hx).mono ?_
              case hx => exact HT.out.c.on rfl (fun _ => rfl)
              rintro e _ ⟨rfl, ⟨n1, rfl⟩⟩
              refine ⟨_, rfl, ?_⟩
              refine hK.out _ _ ⟨cm0, cm1⟩ (fun hHeld => ?_)
              clear hK K
              refine norm_ (a' := ?_) ?_ ?_
              rotate_left
              · show Act.put _ (some 109) _ = _
                simp only [Act.put, List.setIfInBounds_toArray, List.set_cons_zero, List.set_cons_succ, i64_w, i32_w]
                rfl
              refine last_ (i := 3) (N := some 111) #[true, true, true, true, false] rfl rfl (by kernel_rfl) (by decide) (fun K hK => ?_)
              refine goes_ Try.func21 (by kernel_rfl) rfl #[.agg #[.slice Bm s.length cbm, .int .i64 (b : Int)]] (by rfl) rfl rfl (by simp only [List.map_toArray, List.map_cons, List.map_nil]; rfl) ?_
              with_reducible refine (H2.out _ ?hx).mono ?_
              case hx => exact HMR.out.2.on (fun _ => rfl)
              rintro e W6 ⟨rfl, hq0⟩
              have HT6 := Lib.hid (HT.out.on ⟨hq0.os, hq0.tape, hq0.output, hq0.size, hq0.block⟩)
              clear hq0
              refine ⟨_, rfl, ?_⟩
              refine hK.out _ _ ?_
              clear hK K
              refine norm_ (a' := ?_) ?_ ?_
              rotate_left
              · show Act.put _ (some 111) _ = _
                simp only [Act.put, List.setIfInBounds_toArray, List.set_cons_zero, List.set_cons_succ, i64_w, i32_w]
                rfl
              refine pure_ (i := 4) (N := some 112) (v := ?_) (a' := ?_) #[true, true, true, true, true] rfl rfl (by kernel_rfl) (fun _ _ _ h => h) (Or.inl ⟨by rfl, ?_⟩) ?_ ?_
              rotate_left
              · intro w'
                go_simp
                with_reducible rfl
              rotate_left
              · simp only [Act.put, List.setIfInBounds_toArray, List.set_cons_zero, List.set_cons_succ, i64_w, i32_w]
                rfl
              refine done_ (by kernel_rfl) ?_
              go_wp2
              go_roundw
              case rel => exact ⟨k + 1, _, _, _, _, _, _, _, _, by omega, rfl, rfl, by go_num, HT6⟩
              case measure => simp [intOf]; omega
            have e0 : (kd == 0) = false := by simpa using h0
            have e1 : (kd == 1) = false := by simpa using hk1
            have e2 : (kd == 2) = false := by simpa using hk2
            have e3 : (kd == 3) = false := by simpa using hk3
            go_wp2
            go_roundw
            case rel => exact ⟨k + 1, _, _, _, _, _, _, _, _, by omega, rfl, rfl, by go_num, HT⟩
            case measure => simp [intOf]; omega
          · have ht : ((k : Int).tmod 3 == 2) = false := by rw [Int.tmod_eq_emod_of_nonneg (by omega)]; simp; omega
            go_upto_region 19 with fail
            have HT := HW
            clear cm0 cm1 co0 co1 fm0 fm1 fo0 fo1 cx0 cx1 fx0 fx1 HMR HOR HW HS2
            obtain ⟨Bm, cbm, hm1, hm2⟩ := HT.out.m
            obtain ⟨ad2, had, ck, cx⟩ := at_T30 (Kd.C_below HP0.out HT.out.below) (k : Int) (by omega) hlt
            obtain rfl := Option.some.inj had
            clear had
            rw [Int.toNat_natCast] at ck cx
            generalize (rd_T30 sp (k : Int)).f0 = kd at ck
            generalize (rd_T30 sp (k : Int)).f1 = xv at cx
            have cm0 := hm1.get 0 _ rfl
            have cm1 := hm1.get 1 _ rfl
            have fm0 := hm1.free 0
            have fm1 := hm1.free 1
            have hsa := HT.out.ha
            have hne : p1 ≠ W3.heap.size := HT.out.ne.2.2.1
            have HMR := Lib.hid (And.intro hm1 hm2)
            clear hm1 hm2
            by_cases h0 : kd = 0
            · subst h0
              have HH := here_as _ _ _ _ HT.out.c
              have RH := fun W (hW : Row W h3 Bm cbm s) => rhere_as W _ Bm cbm s a hW hsn hsa
              generalize hv : (s.drop a).getD 0 0 = v at HH RH
              generalize hb : decide (0 < (s.drop a).length) = bb at HH RH
              have hvv : (v != v) = false := bne_self_eq_false v
              have hbb : (bb != bb) = false := bne_self_eq_false bb
              have H1 := Lib.hid HH
              have H2 := Lib.hid RH
              clear HH RH hv hb
              go_wp2_with (first
                | (go_at_call 14; ((with_reducible refine H1.out.mono ?_); rintro e _ ⟨rfl, ⟨n1, rfl⟩⟩))
                | (go_at_call 15; ((with_reducible refine (H2.out _ ?hx).mono ?_); (case hx => exact HMR.out.2.on (fun _ => rfl)); rintro e W6 ⟨rfl, hq⟩; have HT6 := Lib.hid ((HT.out.draw n1).on hq); clear hq))
                | go_in)
              go_roundw
              case rel => exact ⟨k + 1, _, _, _, _, _, _, _, _, by omega, rfl, rfl, by go_num, HT6⟩
              case measure => simp [intOf]; omega
            by_cases hk1 : kd = 1
            · subst hk1
              have N1 := next_as _ _ _ _ HT.out.c
              have N2 := fun W => rnext_as W Bm cbm s a hsn hsa
              rw [← on1_drop] at N1
              have hle := on1_le s a hsa
              generalize on1 s a = a2 at N1 N2 hle
              have H1 := Lib.hid N1
              have H2 := Lib.hid N2
              clear N1 N2
              go_wp2_with (first
                | (go_at_call 16; ((with_reducible refine H1.out.mono ?_); rintro e W5 ⟨rfl, hq1, hq2⟩; have hA5 := HMR.out.1.grown hq2 (by simpa using Ne.symm hne); have c50 := hA5.get 0 _ rfl; have c51 := hA5.get 1 _ rfl; have HQ := Lib.hid (And.intro hq1 hq2); clear hA5 hq1 hq2))
                | (go_at_call 17; ((with_reducible refine (H2.out _).mono ?_); rintro e W6 ⟨rfl, hq⟩; have HT7 := Lib.hid (HT.out.step HMR.out.1 HMR.out.2 HQ.out.2 HQ.out.1 hq hle); have hA6 := At.then HMR.out.1 HQ.out.2 hq hne; have c60 := hA6.get 0 _ rfl; have c61 := hA6.get 1 _ rfl; have f60 := hA6.free 0; have f61 := hA6.free 1; clear hA6 hq))
                | go_in)
              go_roundw
              case rel => exact ⟨k + 1, _, _, _, _, _, _, _, _, by omega, rfl, rfl, by go_num, HT7⟩
              case measure => simp [intOf]; omega
            by_cases hk2 : kd = 2
            · subst hk2
              have N1 := skip_as _ _ _ _ xv (ris_drop HS.out a) (Nat.le_trans (by rw [List.length_drop]; omega) hsn) HT.out.c
              have N2 := fun W (hW : Row W h3 Bm cbm s) => rskip_as W _ Bm cbm s a xv hW HS.out hsn hsa
              rw [← onX_drop s a xv HS.out hsa] at N1
              have hle := onX_le s a xv hsa
              generalize onX s a xv = a2 at N1 N2 hle
              have H1 := Lib.hid N1
              have H2 := Lib.hid N2
              clear N1 N2
              have hnp : some (⟨(ad.add (k * 2)).block, (ad.add (k * 2)).off + 1, none⟩ : Addr).block ≠ some p1 := by have := HT.out.lo.1; simp only [ne_eq, Option.some.injEq]; omega
              go_wp2_with (first
                | (go_at_call 18; ((with_reducible refine H1.out.mono ?_); rintro e W5 ⟨rfl, hq1, hq2⟩; have hA5 := HMR.out.1.grown hq2 (by simpa using Ne.symm hne); have c50 := hA5.get 0 _ rfl; have c51 := hA5.get 1 _ rfl; have HR5 := Lib.hid (HMR.out.2.on (fun h0 => grown_on hq2 (HT.out.far h0 _ (.inr (.inr (.inl rfl)))).1 (HT.out.far h0 _ (.inr (.inr (.inl rfl)))).2.1)); have HQ := Lib.hid (And.intro hq1 hq2); have cx5 := grown_cell hq2 cx hnp; clear hA5 hq1 hq2))
                | go_in)
              refine start_ (n := 8) (S := fun w' => w'.cell? ⟨W3.heap.size, 0, none⟩ = some (.slice Bm s.length cbm) ∧ w'.cell? ⟨W3.heap.size, 1, none⟩ = some (.int .i64 (a : Int)) ∧ w'.cell? ⟨(ad.add (k * 2)).block, (ad.add (k * 2)).off + 1, none⟩ = some (.int .i64 xv)) (ds := [6, 7]) #[false, false, false, false, false, false, false, false] (by kernel_rfl) rfl rfl ⟨c50, c51, cx5⟩ (fun hHeld => ?_)
              refine pure_ (i := 1) (N := some 100) (v := ?_) (a' := ?_) #[false, true, false, false, false, false, false, false] rfl rfl (by kernel_rfl) (fun _ _ _ h => h) (Or.inl ⟨by rfl, ?_⟩) ?_ ?_
              rotate_left
              · intro w'
                go_simp
                with_reducible rfl
              rotate_left
              · simp only [Act.put, List.setIfInBounds_toArray, List.set_cons_zero, List.set_cons_succ, i64_w, i32_w]
                rfl
              refine pure_ (i := 2) (N := some 101) (v := ?_) (a' := ?_) #[false, true, true, false, false, false, false, false] rfl rfl (by kernel_rfl) (fun _ _ _ h => h) (Or.inl ⟨by rfl, ?_⟩) ?_ ?_
              rotate_left
              · intro w'
                go_simp
                with_reducible rfl
              rotate_left
              · simp only [Act.put, List.setIfInBounds_toArray, List.set_cons_zero, List.set_cons_succ, i64_w, i32_w]
                rfl
              refine pure_ (i := 3) (N := some 102) (v := ?_) (a' := ?_) #[false, true, true, true, false, false, false, false] rfl rfl (by kernel_rfl) (fun _ _ _ h => h) (Or.inl ⟨by rfl, ?_⟩) ?_ ?_
              rotate_left
              · intro w'
                go_simp
                with_reducible rfl
              rotate_left
              · simp only [Act.put, List.setIfInBounds_toArray, List.set_cons_zero, List.set_cons_succ, i64_w, i32_w]
                rfl
              refine pure_ (i := 4) (N := some 103) (v := ?_) (a' := ?_) #[false, true, true, true, true, false, false, false] rfl rfl (by kernel_rfl) (fun _ _ _ h => h) (Or.inl ⟨by rfl, ?_⟩) ?_ ?_
              rotate_left
              · intro w'
                go_simp
                with_reducible rfl
              rotate_left
              · simp only [Act.put, List.setIfInBounds_toArray, List.set_cons_zero, List.set_cons_succ, i64_w, i32_w]
                rfl
              refine take_ (i := 0) (N := some 99) (v := ?_) (a' := ?_) #[true, true, true, true, true, false, false, false] rfl rfl (by kernel_rfl) (fun _ _ _ h => h) (Or.inl ⟨by rfl, ?_⟩) hHeld ?_ ?_
              rotate_left
              · rintro w' ⟨s0, s1, s2⟩
                go_simp
                with_reducible rfl
              rotate_left
              · simp only [Act.put, List.setIfInBounds_toArray, List.set_cons_zero, List.set_cons_succ, i64_w, i32_w]
                rfl
              refine take_ (i := 5) (N := some 104) (v := ?_) (a' := ?_) #[true, true, true, true, true, true, false, false] rfl rfl (by kernel_rfl) (fun _ _ _ h => h) (Or.inl ⟨by rfl, ?_⟩) hHeld ?_ ?_
              rotate_left
              · rintro w' ⟨s0, s1, s2⟩
                go_simp
                with_reducible rfl
              rotate_left
              · simp only [Act.put, List.setIfInBounds_toArray, List.set_cons_zero, List.set_cons_succ, i64_w, i32_w]
                rfl
              refine last_ (i := 6) (N := some 105) #[true, true, true, true, true, true, true, false] rfl rfl (by kernel_rfl) (by decide) (fun K hK => ?_)
              refine goes_ Try.func19 (by kernel_rfl) rfl #[.agg #[.slice Bm s.length cbm, .int .i64 (a : Int)], .int .i64 xv] (by rfl) rfl rfl (by simp only [List.map_toArray, List.map_cons, List.map_nil]; rfl) ?_
              with_reducible refine (H2.out _ ?hx).mono ?_
              case hx => exact HR5.out.on (fun _ => rfl)
              rintro e W6 ⟨rfl, hq0⟩
              have hq : Below W5.heap.size W5 W6 := ⟨hq0.os, hq0.tape, hq0.output, hq0.size, hq0.block⟩
              have HT7 := Lib.hid (HT.out.step HMR.out.1 HMR.out.2 HQ.out.2 HQ.out.1 hq hle)
              have hA6 := At.then HMR.out.1 HQ.out.2 hq hne
              have c60 := hA6.get 0 _ rfl
              have c61 := hA6.get 1 _ rfl
              have f60 := hA6.free 0
              have f61 := hA6.free 1
              clear hA6 hq hq0
              refine ⟨_, rfl, ?_⟩
              refine hK.out _ _ ?_
              clear hK K
              refine norm_ (a' := ?_) ?_ ?_
              rotate_left
              · show Act.put _ (some 105) _ = _
                simp only [Act.put, List.setIfInBounds_toArray, List.set_cons_zero, List.set_cons_succ, i64_w, i32_w]
                rfl
              refine last_ (i := 7) (N := none) #[true, true, true, true, true, true, true, true] rfl rfl (by kernel_rfl) (by decide) (fun K hK => ?_)
              refine skip_ (w1 := ?_) (by rfl) rfl ?_ ?_
              rotate_left
              · go_simp
                rfl
              refine hK.out _ _ ?_
              clear hK K
              refine done_ (by kernel_rfl) ?_
              go_wp2
              go_roundw
              case rel => exact ⟨k + 1, _, _, _, _, _, _, _, _, by omega, rfl, rfl, by go_num, HT7⟩
              case measure => simp [intOf]; omega
            by_cases hk3 : kd = 3
            · subst hk3
              have N1 := fun W (hW : Cur W p1 h1 (s.drop a)) => left_as W _ _ _ hW
              have N2 := fun W (hW : Row W h3 Bm cbm s) => rleft_as W _ Bm cbm s a hW hsn hsa
              generalize hml : ((s.drop a).length : Int) = ml at N1 N2
              have hmm : (ml != ml) = false := bne_self_eq_false ml
              have H1 := Lib.hid N1
              have H2 := Lib.hid N2
              clear N1 N2 hml
              go_wp2
              refine start_ (n := 5) (S := fun w' => w'.cell? ⟨W3.heap.size, 0, none⟩ = some (.slice Bm s.length cbm) ∧ w'.cell? ⟨W3.heap.size, 1, none⟩ = some (.int .i64 (a : Int))) (ds := [3]) #[false, false, false, false, false] (by kernel_rfl) rfl rfl ⟨cm0, cm1⟩ (fun hHeld => ?_)
              refine pure_ (i := 0) (N := some 108) (v := ?_) (a' := ?_) #[true, false, false, false, false] rfl rfl (by kernel_rfl) (fun _ _ _ h => h) (Or.inl ⟨by rfl, ?_⟩) ?_ ?_
              rotate_left
              · intro w'
                go_simp
                with_reducible rfl
              rotate_left
              · simp only [Act.put, List.setIfInBounds_toArray, List.set_cons_zero, List.set_cons_succ, i64_w, i32_w]
                rfl
              refine take_ (i := 2) (N := some 110) (v := ?_) (a' := ?_) #[true, false, true, false, false] rfl rfl (by kernel_rfl) (fun _ _ _ h => h) (Or.inl ⟨by rfl, ?_⟩) hHeld ?_ ?_
              rotate_left
              · rintro w' ⟨s0, s1⟩
                go_simp
                with_reducible rfl
              rotate_left
              · simp only [Act.put, List.setIfInBounds_toArray, List.set_cons_zero, List.set_cons_succ, i64_w, i32_w]
                rfl
              refine one_ (i := 1) (N := some 109) #[true, true, true, false, false] rfl rfl (by kernel_rfl) (by decide) (fun K hK => ?_)
              refine goes_ Try.func20 (by kernel_rfl) rfl #[.pointer (some ⟨p1, 0, none⟩)] (by rfl) rfl rfl (by simp only [List.map_toArray, List.map_cons, List.map_nil]; rfl) ?_
              with_reducible refine (H1.out _ ?hx).mono ?_
              case hx => exact HT.out.c.on rfl (fun _ => rfl)
              rintro e _ ⟨rfl, ⟨n1, rfl⟩⟩
              refine ⟨_, rfl, ?_⟩
              refine hK.out _ _ ⟨cm0, cm1⟩ (fun hHeld => ?_)
              clear hK K
              refine norm_ (a' := ?_) ?_ ?_
              rotate_left
              · show Act.put _ (some 109) _ = _
                simp only [Act.put, List.setIfInBounds_toArray, List.set_cons_zero, List.set_cons_succ, i64_w, i32_w]
                rfl
              refine last_ (i := 3) (N := some 111) #[true, true, true, true, false] rfl rfl (by kernel_rfl) (by decide) (fun K hK => ?_)
              refine goes_ Try.func21 (by kernel_rfl) rfl #[.agg #[.slice Bm s.length cbm, .int .i64 (a : Int)]] (by rfl) rfl rfl (by simp only [List.map_toArray, List.map_cons, List.map_nil]; rfl) ?_
              with_reducible refine (H2.out _ ?hx).mono ?_
              case hx => exact HMR.out.2.on (fun _ => rfl)
              rintro e W6 ⟨rfl, hq0⟩
              have HT6 := Lib.hid (HT.out.on ⟨hq0.os, hq0.tape, hq0.output, hq0.size, hq0.block⟩)
              clear hq0
              refine ⟨_, rfl, ?_⟩
              refine hK.out _ _ ?_
              clear hK K
              refine norm_ (a' := ?_) ?_ ?_
              rotate_left
              · show Act.put _ (some 111) _ = _
                simp only [Act.put, List.setIfInBounds_toArray, List.set_cons_zero, List.set_cons_succ, i64_w, i32_w]
                rfl
              refine pure_ (i := 4) (N := some 112) (v := ?_) (a' := ?_) #[true, true, true, true, true] rfl rfl (by kernel_rfl) (fun _ _ _ h => h) (Or.inl ⟨by rfl, ?_⟩) ?_ ?_
              rotate_left
              · intro w'
                go_simp
                with_reducible rfl
              rotate_left
              · simp only [Act.put, List.setIfInBounds_toArray, List.set_cons_zero, List.set_cons_succ, i64_w, i32_w]
                rfl
              refine done_ (by kernel_rfl) ?_
              go_wp2
              go_roundw
              case rel => exact ⟨k + 1, _, _, _, _, _, _, _, _, by omega, rfl, rfl, by go_num, HT6⟩
              case measure => simp [intOf]; omega
            have e0 : (kd == 0) = false := by simpa using h0
            have e1 : (kd == 1) = false := by simpa using hk1
            have e2 : (kd == 2) = false := by simpa using hk2
            have e3 : (kd == 3) = false := by simpa using hk3
            go_wp2
            go_roundw
            case rel => exact ⟨k + 1, _, _, _, _, _, _, _, _, by omega, rfl, rfl, by go_num, HT⟩
            case measure => simp [intOf]; omega
        · have hlt : ¬ ((k : Int) < (sp.length : Int)) := by omega
          have hsa := HW.out.ha
          have hsb := HW.out.hb
          have HH := here_as _ _ _ _ HW.out.c
          have RH := fun W (hW : Row W h3 Am ca s) => rhere_as W _ Am ca s a hW hsn hsa
          have L1 := fun W (hW : Cur W p1 h1 (s.drop a)) => left_as W _ _ _ hW
          have R1 := fun W A c (hW : Row W h3 A c s) => rleft_as W _ A c s a hW hsn hsa
          have L2 := fun W (hW : Cur W p2 h2 (s.drop b)) => left_as W _ _ _ hW
          have R2 := fun W A c (hW : Row W h4 A c s) => rleft_as W _ A c s b hW hsn hsb
          generalize hv : (s.drop a).getD 0 0 = v at HH RH
          generalize hb : decide (0 < (s.drop a).length) = bb at HH RH
          generalize hml : ((s.drop a).length : Int) = ml at L1 R1
          generalize hmb : ((s.drop b).length : Int) = mb at L2 R2
          have hvv : (v == v) = true := beq_self_eq_true v
          have hbb : (bb == bb) = true := beq_self_eq_true bb
          have hm1 : (ml == ml) = true := beq_self_eq_true ml
          have hm2 : (mb == mb) = true := beq_self_eq_true mb
          have H1 := Lib.hid HH
          have H2 := Lib.hid RH
          have H3 := Lib.hid L1
          have H4 := Lib.hid R1
          have H5 := Lib.hid L2
          have H6 := Lib.hid R2
          clear HH RH L1 R1 L2 R2 hv hb hml hmb
          go_wp2_with (first
            | (go_at_call 14; ((with_reducible refine H1.out.mono ?_); rintro e _ ⟨rfl, ⟨n1, rfl⟩⟩))
            | (go_at_call 15; ((with_reducible refine (H2.out _ ?hx).mono ?_); (case hx => exact HMR.out.2.on (fun _ => rfl)); rintro e W6 ⟨rfl, hq⟩; have HT6 := Lib.hid ((HW.out.draw n1).on hq); clear hq))
            | go_in)
          clear cm0 cm1 co0 co1 fm0 fm1 fo0 fo1 cx0 cx1 fx0 fx1
          obtain ⟨Bm, cbm, ym1, ym2⟩ := HT6.out.m
          obtain ⟨Bo2, cbo, yo1, yo2⟩ := HT6.out.o
          have cm0 := ym1.get 0 _ rfl
          have cm1 := ym1.get 1 _ rfl
          have co0 := yo1.get 0 _ rfl
          have co1 := yo1.get 1 _ rfl
          have HY := Lib.hid (And.intro ym2 yo2)
          clear ym1 ym2 yo1 yo2
          refine start_ (n := 23) (S := fun w' => w'.cell? ⟨W3.heap.size, 0, none⟩ = some (.slice Bm s.length cbm) ∧ w'.cell? ⟨W3.heap.size, 1, none⟩ = some (.int .i64 (a : Int)) ∧ w'.cell? ⟨W4.heap.size, 0, none⟩ = some (.slice Bo2 s.length cbo) ∧ w'.cell? ⟨W4.heap.size, 1, none⟩ = some (.int .i64 (b : Int)) ∧ Hid (LW w p1 h1 p2 h2 W3.heap.size h3 W4.heap.size h4 s a b w' ∧ Row w' h3 Bm cbm s ∧ Row w' h4 Bo2 cbo s)) (ds := [19]) #[false, false, false, false, false, false, false, false, false, false, false, false, false, false, false, false, false, false, false, false, false, false, false] (by kernel_rfl) rfl rfl ⟨cm0, cm1, co0, co1, (Lib.hid ⟨HT6.out.on ⟨rfl, rfl, rfl, Nat.le_refl _, fun _ _ => rfl⟩, HY.out.1.on (fun _ => rfl), HY.out.2.on (fun _ => rfl)⟩)⟩ (fun hHeld => ?_)
          refine pure_ (i := 0) (N := some 123) (v := ?_) (a' := ?_) #[true, false, false, false, false, false, false, false, false, false, false, false, false, false, false, false, false, false, false, false, false, false, false] rfl rfl (by kernel_rfl) (fun _ _ _ h => h) (Or.inl ⟨by rfl, ?_⟩) ?_ ?_
          rotate_left
          · intro w'
            go_simp
            with_reducible rfl
          rotate_left
          · simp only [Act.put, List.setIfInBounds_toArray, List.set_cons_zero, List.set_cons_succ, i64_w, i32_w]
            rfl
          refine pure_ (i := 1) (N := some 124) (v := ?_) (a' := ?_) #[true, true, false, false, false, false, false, false, false, false, false, false, false, false, false, false, false, false, false, false, false, false, false] rfl rfl (by kernel_rfl) (fun _ _ _ h => h) (Or.inl ⟨by rfl, ?_⟩) ?_ ?_
          rotate_left
          · intro w'
            go_simp
            with_reducible rfl
          rotate_left
          · simp only [Act.put, List.setIfInBounds_toArray, List.set_cons_zero, List.set_cons_succ, i64_w, i32_w]
            rfl
          refine pure_ (i := 2) (N := some 125) (v := ?_) (a' := ?_) #[true, true, true, false, false, false, false, false, false, false, false, false, false, false, false, false, false, false, false, false, false, false, false] rfl rfl (by kernel_rfl) (fun _ _ _ h => h) (Or.inl ⟨by rfl, ?_⟩) ?_ ?_
          rotate_left
          · intro w'
            go_simp
            with_reducible rfl
          rotate_left
          · simp only [Act.put, List.setIfInBounds_toArray, List.set_cons_zero, List.set_cons_succ, i64_w, i32_w]
            rfl
          refine pure_ (i := 3) (N := some 126) (v := ?_) (a' := ?_) #[true, true, true, true, false, false, false, false, false, false, false, false, false, false, false, false, false, false, false, false, false, false, false] rfl rfl (by kernel_rfl) (fun _ _ _ h => h) (Or.inl ⟨by rfl, ?_⟩) ?_ ?_
          rotate_left
          · intro w'
            go_simp
            with_reducible rfl
          rotate_left
          · simp only [Act.put, List.setIfInBounds_toArray, List.set_cons_zero, List.set_cons_succ, i64_w, i32_w]
            rfl
          refine pure_ (i := 4) (N := some 127) (v := ?_) (a' := ?_) #[true, true, true, true, true, false, false, false, false, false, false, false, false, false, false, false, false, false, false, false, false, false, false] rfl rfl (by kernel_rfl) (fun _ _ _ h => h) (Or.inl ⟨by rfl, ?_⟩) ?_ ?_
          rotate_left
          · intro w'
            go_simp
            with_reducible rfl
          rotate_left
          · simp only [Act.put, List.setIfInBounds_toArray, List.set_cons_zero, List.set_cons_succ, i64_w, i32_w]
            rfl
          refine pure_ (i := 5) (N := some 128) (v := ?_) (a' := ?_) #[true, true, true, true, true, true, false, false, false, false, false, false, false, false, false, false, false, false, false, false, false, false, false] rfl rfl (by kernel_rfl) (fun _ _ _ h => h) (Or.inl ⟨by rfl, ?_⟩) ?_ ?_
          rotate_left
          · intro w'
            go_simp
            with_reducible rfl
          rotate_left
          · simp only [Act.put, List.setIfInBounds_toArray, List.set_cons_zero, List.set_cons_succ, i64_w, i32_w]
            rfl
          refine pure_ (i := 6) (N := some 129) (v := ?_) (a' := ?_) #[true, true, true, true, true, true, true, false, false, false, false, false, false, false, false, false, false, false, false, false, false, false, false] rfl rfl (by kernel_rfl) (fun _ _ _ h => h) (Or.inl ⟨by rfl, ?_⟩) ?_ ?_
          rotate_left
          · intro w'
            go_simp
            with_reducible rfl
          rotate_left
          · simp only [Act.put, List.setIfInBounds_toArray, List.set_cons_zero, List.set_cons_succ, i64_w, i32_w]
            rfl
          refine pure_ (i := 7) (N := some 130) (v := ?_) (a' := ?_) #[true, true, true, true, true, true, true, true, false, false, false, false, false, false, false, false, false, false, false, false, false, false, false] rfl rfl (by kernel_rfl) (fun _ _ _ h => h) (Or.inl ⟨by rfl, ?_⟩) ?_ ?_
          rotate_left
          · intro w'
            go_simp
            with_reducible rfl
          rotate_left
          · simp only [Act.put, List.setIfInBounds_toArray, List.set_cons_zero, List.set_cons_succ, i64_w, i32_w]
            rfl
          refine pure_ (i := 8) (N := some 131) (v := ?_) (a' := ?_) #[true, true, true, true, true, true, true, true, true, false, false, false, false, false, false, false, false, false, false, false, false, false, false] rfl rfl (by kernel_rfl) (fun _ _ _ h => h) (Or.inl ⟨by rfl, ?_⟩) ?_ ?_
          rotate_left
          · intro w'
            go_simp
            with_reducible rfl
          rotate_left
          · simp only [Act.put, List.setIfInBounds_toArray, List.set_cons_zero, List.set_cons_succ, i64_w, i32_w]
            rfl
          refine pure_ (i := 9) (N := some 132) (v := ?_) (a' := ?_) #[true, true, true, true, true, true, true, true, true, true, false, false, false, false, false, false, false, false, false, false, false, false, false] rfl rfl (by kernel_rfl) (fun _ _ _ h => h) (Or.inl ⟨by rfl, ?_⟩) ?_ ?_
          rotate_left
          · intro w'
            go_simp
            with_reducible rfl
          rotate_left
          · simp only [Act.put, List.setIfInBounds_toArray, List.set_cons_zero, List.set_cons_succ, i64_w, i32_w]
            rfl
          refine take_ (i := 11) (N := some 134) (v := ?_) (a' := ?_) #[true, true, true, true, true, true, true, true, true, true, false, true, false, false, false, false, false, false, false, false, false, false, false] rfl rfl (by kernel_rfl) (fun _ _ _ h => h) (Or.inl ⟨by rfl, ?_⟩) hHeld ?_ ?_
          rotate_left
          · rintro w' ⟨s0, s1, s2, s3, s4⟩
            go_simp
            with_reducible rfl
          rotate_left
          · simp only [Act.put, List.setIfInBounds_toArray, List.set_cons_zero, List.set_cons_succ, i64_w, i32_w]
            rfl
          refine one_ (i := 10) (N := some 133) #[true, true, true, true, true, true, true, true, true, true, true, true, false, false, false, false, false, false, false, false, false, false, false] rfl rfl (by kernel_rfl) (by decide) (fun K hK => ?_)
          refine goes_ Try.func20 (by kernel_rfl) rfl #[.pointer (some ⟨p1, 0, none⟩)] (by rfl) rfl rfl (by simp only [List.map_toArray, List.map_cons, List.map_nil]; rfl) ?_
          with_reducible refine (H3.out _ ?hx).mono ?_
          case hx => exact hHeld.2.2.2.2.out.1.c
          rintro e _ ⟨rfl, ⟨n3, rfl⟩⟩
          refine ⟨_, rfl, ?_⟩
          refine hK.out _ _ ⟨hHeld.1, hHeld.2.1, hHeld.2.2.1, hHeld.2.2.2.1, (Lib.hid ⟨hHeld.2.2.2.2.out.1.draw n3, hHeld.2.2.2.2.out.2.1.on (fun _ => rfl), hHeld.2.2.2.2.out.2.2.on (fun _ => rfl)⟩)⟩ (fun hHeld => ?_)
          clear hK K
          refine norm_ (a' := ?_) ?_ ?_
          rotate_left
          · show Act.put _ (some 133) _ = _
            simp only [Act.put, List.setIfInBounds_toArray, List.set_cons_zero, List.set_cons_succ, i64_w, i32_w]
            rfl
          refine one_ (i := 12) (N := some 135) #[true, true, true, true, true, true, true, true, true, true, true, true, true, false, false, false, false, false, false, false, false, false, false] rfl rfl (by kernel_rfl) (by decide) (fun K hK => ?_)
          refine goes_ Try.func21 (by kernel_rfl) rfl #[.agg #[.slice Bm s.length cbm, .int .i64 (a : Int)]] (by rfl) rfl rfl (by simp only [List.map_toArray, List.map_cons, List.map_nil]; rfl) ?_
          with_reducible refine (H4.out _ _ _ ?hx).mono ?_
          case hx => exact hHeld.2.2.2.2.out.2.1
          rintro e W7 ⟨rfl, hq⟩
          refine ⟨_, rfl, ?_⟩
          refine hK.out _ _ ⟨(grown_cell (grown_below hq none) hHeld.1 (by simp)), (grown_cell (grown_below hq none) hHeld.2.1 (by simp)), (grown_cell (grown_below hq none) hHeld.2.2.1 (by simp)), (grown_cell (grown_below hq none) hHeld.2.2.2.1 (by simp)), (Lib.hid ⟨hHeld.2.2.2.2.out.1.on hq, hHeld.2.2.2.2.out.2.1.on (fun h0 => hq.block _ (hHeld.2.2.2.2.out.1.far h0 _ (.inr (.inr (.inl rfl)))).1), hHeld.2.2.2.2.out.2.2.on (fun h0 => hq.block _ (hHeld.2.2.2.2.out.1.far h0 _ (.inr (.inr (.inr rfl)))).1)⟩)⟩ (fun hHeld => ?_)
          clear hK K
          refine norm_ (a' := ?_) ?_ ?_
          rotate_left
          · show Act.put _ (some 135) _ = _
            simp only [Act.put, List.setIfInBounds_toArray, List.set_cons_zero, List.set_cons_succ, i64_w, i32_w]
            rfl
          refine pure_ (i := 13) (N := some 136) (v := ?_) (a' := ?_) #[true, true, true, true, true, true, true, true, true, true, true, true, true, true, false, false, false, false, false, false, false, false, false] rfl rfl (by kernel_rfl) (fun _ _ _ h => h) (Or.inl ⟨by rfl, ?_⟩) ?_ ?_
          rotate_left
          · intro w'
            go_simp
            with_reducible rfl
          rotate_left
          · simp only [Act.put, List.setIfInBounds_toArray, List.set_cons_zero, List.set_cons_succ, i64_w, i32_w]
            rfl
          refine pure_ (i := 14) (N := some 137) (v := ?_) (a' := ?_) #[true, true, true, true, true, true, true, true, true, true, true, true, true, true, true, false, false, false, false, false, false, false, false] rfl rfl (by kernel_rfl) (fun _ _ _ h => h) (Or.inl ⟨by rfl, ?_⟩) ?_ ?_
          rotate_left
          · intro w'
            go_simp
            with_reducible rfl
          rotate_left
          · simp only [Act.put, List.setIfInBounds_toArray, List.set_cons_zero, List.set_cons_succ, i64_w, i32_w]
            rfl
          refine pure_ (i := 15) (N := some 138) (v := ?_) (a' := ?_) #[true, true, true, true, true, true, true, true, true, true, true, true, true, true, true, true, false, false, false, false, false, false, false] rfl rfl (by kernel_rfl) (fun _ _ _ h => h) (Or.inl ⟨by rfl, ?_⟩) ?_ ?_
          rotate_left
          · intro w'
            go_simp
            with_reducible rfl
          rotate_left
          · simp only [Act.put, List.setIfInBounds_toArray, List.set_cons_zero, List.set_cons_succ, i64_w, i32_w]
            rfl
          refine pure_ (i := 16) (N := some 139) (v := ?_) (a' := ?_) #[true, true, true, true, true, true, true, true, true, true, true, true, true, true, true, true, true, false, false, false, false, false, false] rfl rfl (by kernel_rfl) (fun _ _ _ h => h) (Or.inl ⟨by rfl, ?_⟩) ?_ ?_
          rotate_left
          · intro w'
            go_simp
            with_reducible rfl
          rotate_left
          · simp only [Act.put, List.setIfInBounds_toArray, List.set_cons_zero, List.set_cons_succ, i64_w, i32_w]
            rfl
          refine take_ (i := 18) (N := some 141) (v := ?_) (a' := ?_) #[true, true, true, true, true, true, true, true, true, true, true, true, true, true, true, true, true, false, true, false, false, false, false] rfl rfl (by kernel_rfl) (fun _ _ _ h => h) (Or.inl ⟨by rfl, ?_⟩) hHeld ?_ ?_
          rotate_left
          · rintro w' ⟨s0, s1, s2, s3, s4⟩
            go_simp
            with_reducible rfl
          rotate_left
          · simp only [Act.put, List.setIfInBounds_toArray, List.set_cons_zero, List.set_cons_succ, i64_w, i32_w]
            rfl
          refine one_ (i := 17) (N := some 140) #[true, true, true, true, true, true, true, true, true, true, true, true, true, true, true, true, true, true, true, false, false, false, false] rfl rfl (by kernel_rfl) (by decide) (fun K hK => ?_)
          refine goes_ Try.func20 (by kernel_rfl) rfl #[.pointer (some ⟨p2, 0, none⟩)] (by rfl) rfl rfl (by simp only [List.map_toArray, List.map_cons, List.map_nil]; rfl) ?_
          with_reducible refine (H5.out _ ?hx).mono ?_
          case hx => exact hHeld.2.2.2.2.out.1.d
          rintro e _ ⟨rfl, ⟨n4, rfl⟩⟩
          refine ⟨_, rfl, ?_⟩
          refine hK.out _ _ ⟨hHeld.1, hHeld.2.1, hHeld.2.2.1, hHeld.2.2.2.1, (Lib.hid ⟨hHeld.2.2.2.2.out.1.draw n4, hHeld.2.2.2.2.out.2.1.on (fun _ => rfl), hHeld.2.2.2.2.out.2.2.on (fun _ => rfl)⟩)⟩ (fun hHeld => ?_)
          clear hK K
          refine norm_ (a' := ?_) ?_ ?_
          rotate_left
          · show Act.put _ (some 140) _ = _
            simp only [Act.put, List.setIfInBounds_toArray, List.set_cons_zero, List.set_cons_succ, i64_w, i32_w]
            rfl
          refine last_ (i := 19) (N := some 142) #[true, true, true, true, true, true, true, true, true, true, true, true, true, true, true, true, true, true, true, true, false, false, false] rfl rfl (by kernel_rfl) (by decide) (fun K hK => ?_)
          refine goes_ Try.func21 (by kernel_rfl) rfl #[.agg #[.slice Bo2 s.length cbo, .int .i64 (b : Int)]] (by rfl) rfl rfl (by simp only [List.map_toArray, List.map_cons, List.map_nil]; rfl) ?_
          with_reducible refine (H6.out _ _ _ ?hx).mono ?_
          case hx => exact hHeld.2.2.2.2.out.2.2
          rintro e W8 ⟨rfl, hq⟩
          have HB9 := Lib.hid (hHeld.2.2.2.2.out.1.on hq).below
          refine ⟨_, rfl, ?_⟩
          refine hK.out _ _ ?_
          clear hK K
          refine norm_ (a' := ?_) ?_ ?_
          rotate_left
          · show Act.put _ (some 142) _ = _
            simp only [Act.put, List.setIfInBounds_toArray, List.set_cons_zero, List.set_cons_succ, i64_w, i32_w]
            rfl
          refine pure_ (i := 20) (N := some 143) (v := ?_) (a' := ?_) #[true, true, true, true, true, true, true, true, true, true, true, true, true, true, true, true, true, true, true, true, true, false, false] rfl rfl (by kernel_rfl) (fun _ _ _ h => h) (Or.inl ⟨by rfl, ?_⟩) ?_ ?_
          rotate_left
          · intro w'
            go_simp
            with_reducible rfl
          rotate_left
          · simp only [Act.put, List.setIfInBounds_toArray, List.set_cons_zero, List.set_cons_succ, i64_w, i32_w]
            rfl
          refine pure_ (i := 21) (N := some 144) (v := ?_) (a' := ?_) #[true, true, true, true, true, true, true, true, true, true, true, true, true, true, true, true, true, true, true, true, true, true, false] rfl rfl (by kernel_rfl) (fun _ _ _ h => h) (Or.inl ⟨by rfl, ?_⟩) ?_ ?_
          rotate_left
          · intro w'
            go_simp
            with_reducible rfl
          rotate_left
          · simp only [Act.put, List.setIfInBounds_toArray, List.set_cons_zero, List.set_cons_succ, i64_w, i32_w]
            rfl
          refine pure_ (i := 22) (N := some 4) (v := ?_) (a' := ?_) #[true, true, true, true, true, true, true, true, true, true, true, true, true, true, true, true, true, true, true, true, true, true, true] rfl rfl (by kernel_rfl) (fun _ _ _ h => h) (Or.inl ⟨by rfl, ?_⟩) ?_ ?_
          rotate_left
          · intro w'
            go_simp
            with_reducible rfl
          rotate_left
          · simp only [Act.put, List.setIfInBounds_toArray, List.set_cons_zero, List.set_cons_succ, i64_w, i32_w]
            rfl
          refine done_ (by kernel_rfl) ?_
          go_wp2
          go_ret
          exact ⟨rfl, HB9.out⟩
end Go.Proofs.Ytnflokhffmfifaa.CursW

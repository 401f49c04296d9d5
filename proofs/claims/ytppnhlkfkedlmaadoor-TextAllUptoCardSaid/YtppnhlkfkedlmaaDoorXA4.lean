-- PRINTED by print.py (a twelfth state) out of the translation. Not trusted: Lean checks it.
import Derived.Test.YtppnhlkfkedlmaaDoorXA0
import Derived.Test.YtppnhlkfkedlmaaDoorXA3
namespace Go.Proofs.YtppnhlkfkedlmaaDoor.XA
open Go.Proofs.YtppnhlkfkedlmaaDoor.XGA
open Go.Proofs.YtppnhlkfkedlmaaDoor.XE
open Go.Proofs.YtppnhlkfkedlmaaDoor.XS
open Go.Proofs.YtppnhlkfkedlmaaDoor.UnZ
open Go.Proofs.YtppnhlkfkedlmaaDoor.FrontW
open Go.Proofs.YtppnhlkfkedlmaaDoor.XQ
attribute [local irreducible] rowL2
attribute [local go_sem] Go.Proofs.YtppnhlkfkedlmaaDoor.XW.u8_wrap
open Go.RowKit Go.Proofs.YtppnhlkfkedlmaaDoorW.PrintWords Go.Proofs.YtppnhlkfkedlmaaDoorW.PrintLast Go.Proofs.YtppnhlkfkedlmaaDoorW.PrintMore
attribute [local go_sem] max2_int min2_int max_two min_two max_three min_three max_four min_four   -- for this text's walks alone
set_option linter.unusedVariables false
set_option linter.unusedSimpArgs false

/-! ### text_sequence: function 45 -/
mutual
def text_sequence.j0 : Nat → ByteArray → Int → Bool → Int → Int → Option (Int)
  | 0, _, _, _, _, _ => none
  | k + 1, x0, x3, x21, x154000, x154001 => if x21 = true then (some 0) else (if x3 = 3 then (if 3 < (x0.size : Int) then ((text_goesOn.f (bt x0 3)).bind fun t154 => (if t154 = true then (text_sequence.j1 k x0 x3 x154000 x154001) else (some 0))) else (none)) else (if x3 = 2 then (text_sequence.j1 k x0 x3 x154000 x154001) else (if x3 = 1 then (if 1 < (x0.size : Int) then (if (bt x0 1) < x154000 then (some 0) else (if (bt x0 1) > x154001 then (some 0) else (some (wrap64 (x3 + 1))))) else (none)) else (some (wrap64 (x3 + 1))))))
def text_sequence.j1 : Nat → ByteArray → Int → Int → Int → Option (Int)
  | 0, _, _, _, _ => none
  | k + 1, x0, x3, x154000, x154001 => if 2 < (x0.size : Int) then ((text_goesOn.f (bt x0 2)).bind fun t155 => (if t155 = true then (if 1 < (x0.size : Int) then (if (bt x0 1) < x154000 then (some 0) else (if (bt x0 1) > x154001 then (some 0) else (some (wrap64 (x3 + 1))))) else (none)) else (some 0))) else (none)
end
def text_sequence.f (k : Nat) (a0 : ByteArray) : Option (Int) := if 0 < (a0.size : Int) then ((text_missing.f k (bt a0 0)).bind fun bt149 => (if bt149.2.2.2 = true then (text_sequence.j0 k a0 bt149.1 (decide ((a0.size : Int) < (wrap64 (bt149.1 + 1)))) bt149.2.1 bt149.2.2.1) else (text_sequence.j0 k a0 bt149.1 true bt149.2.1 bt149.2.2.1))) else (none)
theorem text_sequence.mono_l : ∀ k, (∀ y0 y1 y2 y3 y4, LeO (text_sequence.j0 k y0 y1 y2 y3 y4) (text_sequence.j0 (k + 1) y0 y1 y2 y3 y4)) ∧ (∀ y0 y1 y2 y3, LeO (text_sequence.j1 k y0 y1 y2 y3) (text_sequence.j1 (k + 1) y0 y1 y2 y3))
  | 0 => ⟨fun _ _ _ _ _ r h => by simp [text_sequence.j0] at h, fun _ _ _ _ r h => by simp [text_sequence.j1] at h⟩
  | k + 1 => by
    obtain ⟨ih0, ih1⟩ := text_sequence.mono_l k
    refine ⟨?_, ?_⟩
    · intro y0 y1 y2 y3 y4
      unfold text_sequence.j0
      repeat' first
      | (with_reducible exact ih0 _ _ _ _ _)
      | (with_reducible exact ih1 _ _ _ _)
      | (with_reducible exact text_missing.mono _ _)
      | (with_reducible exact LeO.refl _)
      | (with_reducible exact LeO.none _)
      | (with_reducible refine LeO.ite ?_ ?_)
      | (with_reducible refine LeO.bind ?_ (fun _ => ?_))
      | exact ih0 _ _ _ _ _
      | exact ih1 _ _ _ _
      | exact text_missing.mono _ _
      | exact LeO.none _
      | refine LeO.ite ?_ ?_
      | refine LeO.bind ?_ (fun _ => ?_)
    · intro y0 y1 y2 y3
      unfold text_sequence.j1
      repeat' first
      | (with_reducible exact ih0 _ _ _ _ _)
      | (with_reducible exact ih1 _ _ _ _)
      | (with_reducible exact text_missing.mono _ _)
      | (with_reducible exact LeO.refl _)
      | (with_reducible exact LeO.none _)
      | (with_reducible refine LeO.ite ?_ ?_)
      | (with_reducible refine LeO.bind ?_ (fun _ => ?_))
      | exact ih0 _ _ _ _ _
      | exact ih1 _ _ _ _
      | exact text_missing.mono _ _
      | exact LeO.none _
      | refine LeO.ite ?_ ?_
      | refine LeO.bind ?_ (fun _ => ?_)
theorem text_sequence.mono : ∀ a0 k, LeO (text_sequence.f k a0) (text_sequence.f (k + 1) a0) := by
  intro a0 k
  obtain ⟨ih0, ih1⟩ := text_sequence.mono_l k
  unfold text_sequence.f
  repeat' first
      | (with_reducible exact ih0 _ _ _ _ _)
      | (with_reducible exact ih1 _ _ _ _)
      | (with_reducible exact text_missing.mono _ _)
      | (with_reducible exact LeO.refl _)
      | (with_reducible exact LeO.none _)
      | (with_reducible refine LeO.ite ?_ ?_)
      | (with_reducible refine LeO.bind ?_ (fun _ => ?_))
      | exact ih0 _ _ _ _ _
      | exact ih1 _ _ _ _
      | exact text_missing.mono _ _
      | exact LeO.none _
      | refine LeO.ite ?_ ?_
      | refine LeO.bind ?_ (fun _ => ?_)
set_option maxHeartbeats 8000000 in
set_option maxRecDepth 100000 in
theorem text_sequence.calls (k : Nat) (a0 : ByteArray) (r : Int) (w : World) (h : text_sequence.f k a0 = some r) :
    Calls Tryd.prog 45 #[.string a0] w fun e w' => e = .returned (.int .i64 r) ∧ Below w.heap.size w w' := by
  have hu57 := Tryd.underlying57
  have HB := Aside0.mk (Below.refl w.heap.size w)
  have H : (if 0 < (a0.size : Int) then ((text_missing.f k (bt a0 0)).bind fun bt149 => (if bt149.2.2.2 = true then (text_sequence.j0 k a0 bt149.1 (decide ((a0.size : Int) < (wrap64 (bt149.1 + 1)))) bt149.2.1 bt149.2.2.1) else (text_sequence.j0 k a0 bt149.1 true bt149.2.1 bt149.2.2.1))) else (none)) = some r := h
  clear h
  by_cases c2 : 0 < (a0.size : Int)
  · rw [if_pos c2] at H
    have c2b0 : decide (0 < (a0.size : Int)) = true := decide_eq_true c2
    have c2b1 : decide (0 < a0.size) = true := decide_eq_true (by omega)
    clear c2
    replace H := Option.bind_eq_some_iff.mp H
    obtain ⟨⟨t149, t150, t151, t152⟩, A40, H⟩ := H
    replace H : (if t152 = true then (text_sequence.j0 k a0 t149 (decide ((a0.size : Int) < (wrap64 (t149 + 1)))) t150 t151) else (text_sequence.j0 k a0 t149 true t150 t151)) = some r := H
    have A4 := Aside0.mk A40
    clear A40
    have HC5 := Aside0.mk H
    clear H
    have p3 : 0 ≤ (0 : Int) := (by omega)
    have q3 : 0 < a0.size := (by have : (0 : Int) < (a0.size : Int) := of_decide_eq_true (by first | (with_reducible assumption) | assumption); omega)
    have hx3 : ∀ h : 0 < a0.size, ((a0[0]'h).toNat : Int) = bt a0 0 := bt_at a0 0
    clear p3
    have qi3 : (0 < (a0.size : Int)) = True := eq_true (of_decide_eq_true (by first | (with_reducible assumption) | assumption))
    replace q3 := eq_true q3
    go_enter Tryd.func45, Tryd.ntmps45
    go_upto_region 2 with (first | (go_at_call 48; (with_reducible refine (text_missing.calls k (bt a0 0) t149 t150 t151 t152 _ A4.out).mono ?_); rintro e w6 ⟨rfl, hb⟩; have n0_ := Aside0.mk (below_step (by repeat (first | (with_reducible first | exact HB.out | apply below_alloc | apply pw_below_drewN | apply below_drew1) | exact HB.out)) hb); clear HB; have HB := n0_; clear n0_; (try clear hb); (try clear hb2); (try clear hk); (try clear hi)) | ((with_reducible refine gate_dst (N := 4) rfl ?_); (try (refine gate_guard (by rfl) ?_; dsimp only)); refine box_event ?hg (N := 4) ?hd (cs := #[.int .u8 0, .int .u8 0]) (t := 57) ?hr ?_; (case hd => rfl); (case hg => rfl); (case hr => first | (go_simp; done) | (go_simp; rfl)); intro gb153 hg w7 hbox hb; have n0_ := Aside0.mk (below_step (by repeat (first | (with_reducible first | exact HB.out | apply below_alloc | apply pw_below_drewN | apply below_drew1) | exact HB.out)) hb); have n1_ := Aside0.mk (hbox); have n2_ := Aside0.mk ((by rw [hg]; exact (below_size (by repeat (first | (with_reducible first | exact HB.out | apply below_alloc | apply pw_below_drewN | apply below_drew1) | exact HB.out))) : w.heap.size ≤ gb153)); have n3_ := Aside0.mk ((by rw [hg]; exact (below_size (by repeat (first | (with_reducible first | exact HB.out | apply below_alloc | apply pw_below_drewN | apply below_drew1) | exact HB.out))) : w.heap.size ≤ gb153)); clear HB; have HB := n0_; have BK153 := n1_; have GW153 := n2_; have GE153 := n3_; clear n0_ n1_ n2_ n3_; clear hb hbox hg; have hcz8_0 : w7.cell? ⟨gb153, 0, none⟩ = some (.int .u8 0) := (blk_cell BK153.out 0).trans rfl; have hcz8_1 : w7.cell? ⟨gb153, 1, none⟩ = some (.int .u8 0) := (blk_cell BK153.out 1).trans rfl; have hfz8_0 := blk_frozen BK153.out 0; have hfz8_1 := blk_frozen BK153.out 1))
    repeat (go_quiet (first | (go_at_call 48; (with_reducible refine (text_missing.calls k (bt a0 0) t149 t150 t151 t152 _ A4.out).mono ?_); rintro e w6 ⟨rfl, hb⟩; have n0_ := Aside0.mk (below_step (by repeat (first | (with_reducible first | exact HB.out | apply below_alloc | apply pw_below_drewN | apply below_drew1) | exact HB.out)) hb); clear HB; have HB := n0_; clear n0_; (try clear hb); (try clear hb2); (try clear hk); (try clear hi)) | ((with_reducible refine gate_dst (N := 4) rfl ?_); (try (refine gate_guard (by rfl) ?_; dsimp only)); refine box_event ?hg (N := 4) ?hd (cs := #[.int .u8 0, .int .u8 0]) (t := 57) ?hr ?_; (case hd => rfl); (case hg => rfl); (case hr => first | (go_simp; done) | (go_simp; rfl)); intro gb153 hg w7 hbox hb; have n0_ := Aside0.mk (below_step (by repeat (first | (with_reducible first | exact HB.out | apply below_alloc | apply pw_below_drewN | apply below_drew1) | exact HB.out)) hb); have n1_ := Aside0.mk (hbox); have n2_ := Aside0.mk ((by rw [hg]; exact (below_size (by repeat (first | (with_reducible first | exact HB.out | apply below_alloc | apply pw_below_drewN | apply below_drew1) | exact HB.out))) : w.heap.size ≤ gb153)); have n3_ := Aside0.mk ((by rw [hg]; exact (below_size (by repeat (first | (with_reducible first | exact HB.out | apply below_alloc | apply pw_below_drewN | apply below_drew1) | exact HB.out))) : w.heap.size ≤ gb153)); clear HB; have HB := n0_; have BK153 := n1_; have GW153 := n2_; have GE153 := n3_; clear n0_ n1_ n2_ n3_; clear hb hbox hg; have hcz8_0 : w7.cell? ⟨gb153, 0, none⟩ = some (.int .u8 0) := (blk_cell BK153.out 0).trans rfl; have hcz8_1 : w7.cell? ⟨gb153, 1, none⟩ = some (.int .u8 0) := (blk_cell BK153.out 1).trans rfl; have hfz8_0 := blk_frozen BK153.out 0; have hfz8_1 := blk_frozen BK153.out 1)); go_upto_region 2 with (first | (go_at_call 48; (with_reducible refine (text_missing.calls k (bt a0 0) t149 t150 t151 t152 _ A4.out).mono ?_); rintro e w6 ⟨rfl, hb⟩; have n0_ := Aside0.mk (below_step (by repeat (first | (with_reducible first | exact HB.out | apply below_alloc | apply pw_below_drewN | apply below_drew1) | exact HB.out)) hb); clear HB; have HB := n0_; clear n0_; (try clear hb); (try clear hb2); (try clear hk); (try clear hi)) | ((with_reducible refine gate_dst (N := 4) rfl ?_); (try (refine gate_guard (by rfl) ?_; dsimp only)); refine box_event ?hg (N := 4) ?hd (cs := #[.int .u8 0, .int .u8 0]) (t := 57) ?hr ?_; (case hd => rfl); (case hg => rfl); (case hr => first | (go_simp; done) | (go_simp; rfl)); intro gb153 hg w7 hbox hb; have n0_ := Aside0.mk (below_step (by repeat (first | (with_reducible first | exact HB.out | apply below_alloc | apply pw_below_drewN | apply below_drew1) | exact HB.out)) hb); have n1_ := Aside0.mk (hbox); have n2_ := Aside0.mk ((by rw [hg]; exact (below_size (by repeat (first | (with_reducible first | exact HB.out | apply below_alloc | apply pw_below_drewN | apply below_drew1) | exact HB.out))) : w.heap.size ≤ gb153)); have n3_ := Aside0.mk ((by rw [hg]; exact (below_size (by repeat (first | (with_reducible first | exact HB.out | apply below_alloc | apply pw_below_drewN | apply below_drew1) | exact HB.out))) : w.heap.size ≤ gb153)); clear HB; have HB := n0_; have BK153 := n1_; have GW153 := n2_; have GE153 := n3_; clear n0_ n1_ n2_ n3_; clear hb hbox hg; have hcz8_0 : w7.cell? ⟨gb153, 0, none⟩ = some (.int .u8 0) := (blk_cell BK153.out 0).trans rfl; have hcz8_1 : w7.cell? ⟨gb153, 1, none⟩ = some (.int .u8 0) := (blk_cell BK153.out 1).trans rfl; have hfz8_0 := blk_frozen BK153.out 0; have hfz8_1 := blk_frozen BK153.out 1)))
    (try simp only [Act.put, List.setIfInBounds_toArray, List.set_cons_zero, List.set_cons_succ])
    go_cut [21] (fun v21 wc => ∃ (kq : Nat) (x21_4 : Bool), v21 = .bool x21_4 ∧ Aside0 (text_sequence.j0 kq a0 t149 x21_4 t150 t151 = some r) ∧ Aside0 (kq ≤ k) ∧ Aside0 (wc.heap[gb153]? = some (.cells #[.int .u8 t150, .int .u8 t151] 57 (0, 0))) ∧ Aside0 (Below w.heap.size w wc))
    case first =>
      have H := HC5.out
      clear HC5
      by_cases c9 : t152 = true
      · subst c9
        have H1 : (text_sequence.j0 k a0 t149 (decide ((a0.size : Int) < (wrap64 (t149 + 1)))) t150 t151) = some r := by rw [if_pos rfl] at H; exact H
        clear H
        have H := H1
        clear H1
        have H' := Aside0.mk H
        clear H
        go_wp2
        repeat (go_quiet (fail); try go_wp2)
        go_meet
        case rel => exact ⟨_, (decide ((a0.size : Int) < (wrap64 (t149 + 1)))), (by first | rfl | (simp; done) | (simp [*]; done)), H', ⟨by first | omega | exact Nat.le_refl _⟩, ⟨by (with_reducible repeat (first | refine blk_drewN ?_ _ | refine blk_drew ?_ | refine blk_alloc ?_ _)); refine blk_put (cs := #[.int .u8 t150, .int .u8 0]) ?_ 1 _ rfl; (with_reducible repeat (first | refine blk_drewN ?_ _ | refine blk_drew ?_ | refine blk_alloc ?_ _)); refine blk_put (cs := #[.int .u8 0, .int .u8 0]) ?_ 0 _ rfl; (with_reducible repeat (first | refine blk_drewN ?_ _ | refine blk_drew ?_ | refine blk_alloc ?_ _)); exact BK153.out⟩, ⟨by repeat (first | (with_reducible first | exact HB.out | apply below_alloc | apply pw_below_drewN | apply below_drew1 | refine below_set ?_ GE153.out) | exact HB.out)⟩⟩
      · replace c9 := Bool.eq_false_iff.mpr c9
        subst c9
        have H1 : (text_sequence.j0 k a0 t149 true t150 t151) = some r := by rw [if_neg (show ¬ (false = true) by decide)] at H; exact H
        clear H
        have H := H1
        clear H1
        have H' := Aside0.mk H
        clear H
        go_wp2
        repeat (go_quiet (fail); try go_wp2)
        go_meet
        case rel => exact ⟨_, (true), (by first | rfl | (simp; done) | (simp [*]; done)), H', ⟨by first | omega | exact Nat.le_refl _⟩, ⟨by (with_reducible repeat (first | refine blk_drewN ?_ _ | refine blk_drew ?_ | refine blk_alloc ?_ _)); refine blk_put (cs := #[.int .u8 t150, .int .u8 0]) ?_ 1 _ rfl; (with_reducible repeat (first | refine blk_drewN ?_ _ | refine blk_drew ?_ | refine blk_alloc ?_ _)); refine blk_put (cs := #[.int .u8 0, .int .u8 0]) ?_ 0 _ rfl; (with_reducible repeat (first | refine blk_drewN ?_ _ | refine blk_drew ?_ | refine blk_alloc ?_ _)); exact BK153.out⟩, ⟨by repeat (first | (with_reducible first | exact HB.out | apply below_alloc | apply pw_below_drewN | apply below_drew1 | refine below_set ?_ GE153.out) | exact HB.out)⟩⟩
    case rest =>
      clear HC5
      try clear c2
      try clear c2b0
      try clear c2b1
      try clear p2
      try clear p3
      try clear q3
      try clear hx3
      try clear qi3
      try clear c4
      try clear p6
      try clear c9
      try clear hcz8_0
      try clear hcz8_1
      try clear hfz8_0
      try clear hfz8_1
      try clear p3
      try clear q3
      obtain ⟨kq, x21_4, rfl, HA, HJ4, BK153, HB⟩ := hcut
      cases kq with
      | zero => exact absurd HA.out (by simp [text_sequence.j0])
      | succ kj4 =>
        have H := HA.out
        clear HA
        simp only [text_sequence.j0] at H
        by_cases c10 : x21_4 = true
        · subst c10
          have H1 : (some 0) = some r := by rw [if_pos rfl] at H; exact H
          clear H
          have H := H1
          clear H1
          obtain rfl := Option.some.inj H
          go_wp2
          repeat (go_quiet (fail); try go_wp2)
          go_ret
          exact ⟨by first | rfl | (simp [errW_none, errW_some] <;> rfl) | (simp [*, errW_none, errW_some] <;> rfl), by repeat (first | (with_reducible first | exact HB.out | apply below_alloc | apply pw_below_drewN | apply below_drew1 | refine below_set ?_ GE153.out) | exact HB.out)⟩
        · replace c10 := Bool.eq_false_iff.mpr c10
          subst c10
          have H1 : (if t149 = 3 then (if 3 < (a0.size : Int) then ((text_goesOn.f (bt a0 3)).bind fun t154 => (if t154 = true then (text_sequence.j1 kj4 a0 t149 t150 t151) else (some 0))) else (none)) else (if t149 = 2 then (text_sequence.j1 kj4 a0 t149 t150 t151) else (if t149 = 1 then (if 1 < (a0.size : Int) then (if (bt a0 1) < t150 then (some 0) else (if (bt a0 1) > t151 then (some 0) else (some (wrap64 (t149 + 1))))) else (none)) else (some (wrap64 (t149 + 1)))))) = some r := by rw [if_neg (show ¬ (false = true) by decide)] at H; exact H
          clear H
          have H := H1
          clear H1
          have HC11 := Aside0.mk H
          clear H
          go_upto_block 2 with (fail)
          repeat (go_quiet (fail); go_upto_block 2 with (fail))
          go_cut [] (fun wc => ∃ (kq : Nat), Aside0 (text_sequence.j1 kq a0 t149 t150 t151 = some r) ∧ Aside0 (kq ≤ kj4) ∧ Aside0 (wc.heap[gb153]? = some (.cells #[.int .u8 t150, .int .u8 t151] 57 (0, 0))) ∧ Aside0 (Below w.heap.size w wc))
          case first =>
            have H := HC11.out
            clear HC11
            by_cases c12 : t149 = 3
            · rw [if_pos c12] at H
              have c12b0 : (t149 == 3) = true := beq_iff_eq.mpr c12
              have c12b1 : (t149 != 3) = false := bne_eq_false_iff_eq.mpr c12
              clear c12
              (first | rw [c12b0] | (simp only [i64_w, i32_w]; rw [c12b0]) | skip)
              by_cases c13 : 3 < (a0.size : Int)
              · rw [if_pos c13] at H
                have c13b0 : decide (3 < (a0.size : Int)) = true := decide_eq_true c13
                have c13b1 : decide (3 < a0.size) = true := decide_eq_true (by omega)
                clear c13
                replace H := Option.bind_eq_some_iff.mp H
                obtain ⟨t154, A150, H⟩ := H
                replace H : (if t154 = true then (text_sequence.j1 kj4 a0 t149 t150 t151) else (some 0)) = some r := H
                have A15 := Aside0.mk A150
                clear A150
                by_cases c16 : t154 = true
                · subst c16
                  have H1 : (text_sequence.j1 kj4 a0 t149 t150 t151) = some r := by rw [if_pos rfl] at H; exact H
                  clear H
                  have H := H1
                  clear H1
                  have H' := Aside0.mk H
                  clear H
                  have p14 : 0 ≤ (3 : Int) := (by omega)
                  have q14 : 3 < a0.size := (by have : (3 : Int) < (a0.size : Int) := of_decide_eq_true (by first | (with_reducible assumption) | assumption); omega)
                  have hx14 : ∀ h : 3 < a0.size, ((a0[3]'h).toNat : Int) = bt a0 3 := bt_at a0 3
                  clear p14
                  have qi14 : (3 < (a0.size : Int)) = True := eq_true (of_decide_eq_true (by first | (with_reducible assumption) | assumption))
                  replace q14 := eq_true q14
                  go_wp2_with (first | (go_at_call 49; (with_reducible refine (text_goesOn.calls (bt a0 3) true _ A15.out).mono ?_); rintro e w' ⟨rfl, ⟨nd, rfl⟩⟩; (try first | exact ⟨rfl, _, World.drewN_drewN _ _ _⟩ | exact ⟨rfl, _, Eq.trans (World.drewN_drewN _ _ _) (congrArg (World.drewN _) (Nat.add_assoc _ _ _))⟩)))
                  repeat (go_quiet (first | (go_at_call 49; (with_reducible refine (text_goesOn.calls (bt a0 3) true _ A15.out).mono ?_); rintro e w' ⟨rfl, ⟨nd, rfl⟩⟩; (try first | exact ⟨rfl, _, World.drewN_drewN _ _ _⟩ | exact ⟨rfl, _, Eq.trans (World.drewN_drewN _ _ _) (congrArg (World.drewN _) (Nat.add_assoc _ _ _))⟩))); try go_wp2_with (first | (go_at_call 49; (with_reducible refine (text_goesOn.calls (bt a0 3) true _ A15.out).mono ?_); rintro e w' ⟨rfl, ⟨nd, rfl⟩⟩; (try first | exact ⟨rfl, _, World.drewN_drewN _ _ _⟩ | exact ⟨rfl, _, Eq.trans (World.drewN_drewN _ _ _) (congrArg (World.drewN _) (Nat.add_assoc _ _ _))⟩))))
                  go_meet
                  case rel => exact ⟨_, H', ⟨by have := HJ4.out; first | omega | exact Nat.le_refl _⟩, ⟨by (with_reducible repeat (first | refine blk_drewN ?_ _ | refine blk_drew ?_ | refine blk_alloc ?_ _)); exact BK153.out⟩, ⟨by repeat (first | (with_reducible first | exact HB.out | apply below_alloc | apply pw_below_drewN | apply below_drew1 | refine below_set ?_ GE153.out) | exact HB.out)⟩⟩
                · replace c16 := Bool.eq_false_iff.mpr c16
                  subst c16
                  have H1 : (some 0) = some r := by rw [if_neg (show ¬ (false = true) by decide)] at H; exact H
                  clear H
                  have H := H1
                  clear H1
                  obtain rfl := Option.some.inj H
                  have p14 : 0 ≤ (3 : Int) := (by omega)
                  have q14 : 3 < a0.size := (by have : (3 : Int) < (a0.size : Int) := of_decide_eq_true (by first | (with_reducible assumption) | assumption); omega)
                  have hx14 : ∀ h : 3 < a0.size, ((a0[3]'h).toNat : Int) = bt a0 3 := bt_at a0 3
                  clear p14
                  have qi14 : (3 < (a0.size : Int)) = True := eq_true (of_decide_eq_true (by first | (with_reducible assumption) | assumption))
                  replace q14 := eq_true q14
                  go_wp2_with (first | (go_at_call 49; (with_reducible refine (text_goesOn.calls (bt a0 3) false _ A15.out).mono ?_); rintro e w' ⟨rfl, ⟨nd, rfl⟩⟩; (try first | exact ⟨rfl, _, World.drewN_drewN _ _ _⟩ | exact ⟨rfl, _, Eq.trans (World.drewN_drewN _ _ _) (congrArg (World.drewN _) (Nat.add_assoc _ _ _))⟩)))
                  repeat (go_quiet (first | (go_at_call 49; (with_reducible refine (text_goesOn.calls (bt a0 3) false _ A15.out).mono ?_); rintro e w' ⟨rfl, ⟨nd, rfl⟩⟩; (try first | exact ⟨rfl, _, World.drewN_drewN _ _ _⟩ | exact ⟨rfl, _, Eq.trans (World.drewN_drewN _ _ _) (congrArg (World.drewN _) (Nat.add_assoc _ _ _))⟩))); try go_wp2_with (first | (go_at_call 49; (with_reducible refine (text_goesOn.calls (bt a0 3) false _ A15.out).mono ?_); rintro e w' ⟨rfl, ⟨nd, rfl⟩⟩; (try first | exact ⟨rfl, _, World.drewN_drewN _ _ _⟩ | exact ⟨rfl, _, Eq.trans (World.drewN_drewN _ _ _) (congrArg (World.drewN _) (Nat.add_assoc _ _ _))⟩))))
                  go_ret
                  exact ⟨by first | rfl | (simp [errW_none, errW_some] <;> rfl) | (simp [*, errW_none, errW_some] <;> rfl), by repeat (first | (with_reducible first | exact HB.out | apply below_alloc | apply pw_below_drewN | apply below_drew1 | refine below_set ?_ GE153.out) | exact HB.out)⟩
              · rw [if_neg c13] at H
                exact absurd H (by simp)
            · rw [if_neg c12] at H
              have c12b0 : (t149 == 3) = false := beq_eq_false_iff_ne.mpr c12
              have c12b1 : (t149 != 3) = true := bne_iff_ne.mpr c12
              (first | rw [c12b0] | (simp only [i64_w, i32_w]; rw [c12b0]) | skip)
              by_cases c17 : t149 = 2
              · rw [if_pos c17] at H
                have c17b0 : (t149 == 2) = true := beq_iff_eq.mpr c17
                have c17b1 : (t149 != 2) = false := bne_eq_false_iff_eq.mpr c17
                clear c17
                have H' := Aside0.mk H
                clear H
                go_wp2
                repeat (go_quiet (fail); try go_wp2)
                go_meet
                case rel => exact ⟨_, H', ⟨by have := HJ4.out; first | omega | exact Nat.le_refl _⟩, ⟨by (with_reducible repeat (first | refine blk_drewN ?_ _ | refine blk_drew ?_ | refine blk_alloc ?_ _)); exact BK153.out⟩, ⟨by repeat (first | (with_reducible first | exact HB.out | apply below_alloc | apply pw_below_drewN | apply below_drew1 | refine below_set ?_ GE153.out) | exact HB.out)⟩⟩
              · rw [if_neg c17] at H
                have c17b0 : (t149 == 2) = false := beq_eq_false_iff_ne.mpr c17
                have c17b1 : (t149 != 2) = true := bne_iff_ne.mpr c17
                by_cases c18 : t149 = 1
                · rw [if_pos c18] at H
                  have c18b0 : (t149 == 1) = true := beq_iff_eq.mpr c18
                  have c18b1 : (t149 != 1) = false := bne_eq_false_iff_eq.mpr c18
                  clear c18
                  by_cases c19 : 1 < (a0.size : Int)
                  · rw [if_pos c19] at H
                    have c19b0 : decide (1 < (a0.size : Int)) = true := decide_eq_true c19
                    have c19b1 : decide (1 < a0.size) = true := decide_eq_true (by omega)
                    clear c19
                    by_cases c21 : (bt a0 1) < t150
                    · rw [if_pos c21] at H
                      have c21b0 : decide ((bt a0 1) < t150) = true := decide_eq_true c21
                      clear c21
                      obtain rfl := Option.some.inj H
                      have p20 : 0 ≤ (1 : Int) := (by omega)
                      have q20 : 1 < a0.size := (by have : (1 : Int) < (a0.size : Int) := of_decide_eq_true (by first | (with_reducible assumption) | assumption); omega)
                      have hx20 : ∀ h : 1 < a0.size, ((a0[1]'h).toNat : Int) = bt a0 1 := bt_at a0 1
                      clear p20
                      have qi20 : (1 < (a0.size : Int)) = True := eq_true (of_decide_eq_true (by first | (with_reducible assumption) | assumption))
                      replace q20 := eq_true q20
                      have hcz22_0 : wc.cell? ⟨gb153, 0, none⟩ = some (.int .u8 t150) := (blk_cell BK153.out 0).trans rfl
                      have hcz22_1 : wc.cell? ⟨gb153, 1, none⟩ = some (.int .u8 t151) := (blk_cell BK153.out 1).trans rfl
                      have hfz22_0 := blk_frozen BK153.out 0
                      have hfz22_1 := blk_frozen BK153.out 1
                      go_wp2
                      repeat (go_quiet (fail); try go_wp2)
                      go_ret
                      exact ⟨by first | rfl | (simp [errW_none, errW_some] <;> rfl) | (simp [*, errW_none, errW_some] <;> rfl), by repeat (first | (with_reducible first | exact HB.out | apply below_alloc | apply pw_below_drewN | apply below_drew1 | refine below_set ?_ GE153.out) | exact HB.out)⟩
                    · rw [if_neg c21] at H
                      have c21b0 : decide ((bt a0 1) < t150) = false := decide_eq_false c21
                      clear c21
                      by_cases c24 : (bt a0 1) > t151
                      · rw [if_pos c24] at H
                        have c24b0 : decide (t151 < (bt a0 1)) = true := decide_eq_true c24
                        clear c24
                        obtain rfl := Option.some.inj H
                        have p20 : 0 ≤ (1 : Int) := (by omega)
                        have q20 : 1 < a0.size := (by have : (1 : Int) < (a0.size : Int) := of_decide_eq_true (by first | (with_reducible assumption) | assumption); omega)
                        have hx20 : ∀ h : 1 < a0.size, ((a0[1]'h).toNat : Int) = bt a0 1 := bt_at a0 1
                        clear p20
                        have qi20 : (1 < (a0.size : Int)) = True := eq_true (of_decide_eq_true (by first | (with_reducible assumption) | assumption))
                        replace q20 := eq_true q20
                        have hcz25_0 : wc.cell? ⟨gb153, 0, none⟩ = some (.int .u8 t150) := (blk_cell BK153.out 0).trans rfl
                        have hcz25_1 : wc.cell? ⟨gb153, 1, none⟩ = some (.int .u8 t151) := (blk_cell BK153.out 1).trans rfl
                        have hfz25_0 := blk_frozen BK153.out 0
                        have hfz25_1 := blk_frozen BK153.out 1
                        have p23 : 0 ≤ (1 : Int) := (by omega)
                        have q23 : 1 < a0.size := (by have : (1 : Int) < (a0.size : Int) := of_decide_eq_true (by first | (with_reducible assumption) | assumption); omega)
                        have hx23 : ∀ h : 1 < a0.size, ((a0[1]'h).toNat : Int) = bt a0 1 := bt_at a0 1
                        clear p23
                        have qi23 : (1 < (a0.size : Int)) = True := eq_true (of_decide_eq_true (by first | (with_reducible assumption) | assumption))
                        replace q23 := eq_true q23
                        go_wp2
                        repeat (go_quiet (fail); try go_wp2)
                        go_ret
                        exact ⟨by first | rfl | (simp [errW_none, errW_some] <;> rfl) | (simp [*, errW_none, errW_some] <;> rfl), by repeat (first | (with_reducible first | exact HB.out | apply below_alloc | apply pw_below_drewN | apply below_drew1 | refine below_set ?_ GE153.out) | exact HB.out)⟩
                      · rw [if_neg c24] at H
                        have c24b0 : decide (t151 < (bt a0 1)) = false := decide_eq_false c24
                        clear c24
                        obtain rfl := Option.some.inj H
                        have p20 : 0 ≤ (1 : Int) := (by omega)
                        have q20 : 1 < a0.size := (by have : (1 : Int) < (a0.size : Int) := of_decide_eq_true (by first | (with_reducible assumption) | assumption); omega)
                        have hx20 : ∀ h : 1 < a0.size, ((a0[1]'h).toNat : Int) = bt a0 1 := bt_at a0 1
                        clear p20
                        have qi20 : (1 < (a0.size : Int)) = True := eq_true (of_decide_eq_true (by first | (with_reducible assumption) | assumption))
                        replace q20 := eq_true q20
                        have hcz26_0 : wc.cell? ⟨gb153, 0, none⟩ = some (.int .u8 t150) := (blk_cell BK153.out 0).trans rfl
                        have hcz26_1 : wc.cell? ⟨gb153, 1, none⟩ = some (.int .u8 t151) := (blk_cell BK153.out 1).trans rfl
                        have hfz26_0 := blk_frozen BK153.out 0
                        have hfz26_1 := blk_frozen BK153.out 1
                        have p23 : 0 ≤ (1 : Int) := (by omega)
                        have q23 : 1 < a0.size := (by have : (1 : Int) < (a0.size : Int) := of_decide_eq_true (by first | (with_reducible assumption) | assumption); omega)
                        have hx23 : ∀ h : 1 < a0.size, ((a0[1]'h).toNat : Int) = bt a0 1 := bt_at a0 1
                        clear p23
                        have qi23 : (1 < (a0.size : Int)) = True := eq_true (of_decide_eq_true (by first | (with_reducible assumption) | assumption))
                        replace q23 := eq_true q23
                        go_wp2
                        repeat (go_quiet (fail); try go_wp2)
                        go_ret
                        exact ⟨by first | rfl | (simp [errW_none, errW_some] <;> rfl) | (simp [*, errW_none, errW_some] <;> rfl), by repeat (first | (with_reducible first | exact HB.out | apply below_alloc | apply pw_below_drewN | apply below_drew1 | refine below_set ?_ GE153.out) | exact HB.out)⟩
                  · rw [if_neg c19] at H
                    exact absurd H (by simp)
                · rw [if_neg c18] at H
                  have c18b0 : (t149 == 1) = false := beq_eq_false_iff_ne.mpr c18
                  have c18b1 : (t149 != 1) = true := bne_iff_ne.mpr c18
                  obtain rfl := Option.some.inj H
                  go_wp2
                  repeat (go_quiet (fail); try go_wp2)
                  go_ret
                  exact ⟨by first | rfl | (simp [errW_none, errW_some] <;> rfl) | (simp [*, errW_none, errW_some] <;> rfl), by repeat (first | (with_reducible first | exact HB.out | apply below_alloc | apply pw_below_drewN | apply below_drew1 | refine below_set ?_ GE153.out) | exact HB.out)⟩
          case rest =>
            clear HC11
            try clear c1
            try clear p1
            try clear q1
            try clear hx1
            try clear qi1
            try clear c2
            try clear c2b0
            try clear c2b1
            try clear p2
            try clear q2
            try clear hx2
            try clear qi2
            try clear p3
            try clear q3
            try clear hx3
            try clear qi3
            try clear c4
            try clear p6
            try clear c9
            try clear c10
            try clear c12
            try clear c12b0
            try clear c12b1
            try clear c13
            try clear c13b0
            try clear c13b1
            try clear p14
            try clear q14
            try clear hx14
            try clear qi14
            try clear c16
            try clear c17
            try clear c17b0
            try clear c17b1
            try clear c18
            try clear c18b0
            try clear c18b1
            try clear c19
            try clear c19b0
            try clear c19b1
            try clear p20
            try clear q20
            try clear hx20
            try clear qi20
            try clear c21
            try clear c21b0
            try clear p23
            try clear q23
            try clear hx23
            try clear qi23
            try clear c24
            try clear c24b0
            try clear hcz22_0
            try clear hcz22_1
            try clear hcz25_0
            try clear hcz25_1
            try clear hcz26_0
            try clear hcz26_1
            try clear hcz8_0
            try clear hcz8_1
            try clear hfz22_0
            try clear hfz22_1
            try clear hfz25_0
            try clear hfz25_1
            try clear hfz26_0
            try clear hfz26_1
            try clear hfz8_0
            try clear hfz8_1
            try clear p14
            try clear p2
            try clear p20
            try clear p23
            try clear p3
            try clear p6
            try clear q14
            try clear q20
            try clear q23
            try clear q3
            obtain ⟨kq, HA, HJ10, BK153, HB⟩ := hcut
            cases kq with
            | zero => exact absurd HA.out (by simp [text_sequence.j1])
            | succ kj10 =>
              have H := HA.out
              clear HA
              simp only [text_sequence.j1] at H
              by_cases c27 : 2 < (a0.size : Int)
              · rw [if_pos c27] at H
                have c27b0 : decide (2 < (a0.size : Int)) = true := decide_eq_true c27
                have c27b1 : decide (2 < a0.size) = true := decide_eq_true (by omega)
                clear c27
                replace H := Option.bind_eq_some_iff.mp H
                obtain ⟨t155, A290, H⟩ := H
                replace H : (if t155 = true then (if 1 < (a0.size : Int) then (if (bt a0 1) < t150 then (some 0) else (if (bt a0 1) > t151 then (some 0) else (some (wrap64 (t149 + 1))))) else (none)) else (some 0)) = some r := H
                have A29 := Aside0.mk A290
                clear A290
                by_cases c30 : t155 = true
                · subst c30
                  have H1 : (if 1 < (a0.size : Int) then (if (bt a0 1) < t150 then (some 0) else (if (bt a0 1) > t151 then (some 0) else (some (wrap64 (t149 + 1))))) else (none)) = some r := by rw [if_pos rfl] at H; exact H
                  clear H
                  have H := H1
                  clear H1
                  by_cases c31 : 1 < (a0.size : Int)
                  · rw [if_pos c31] at H
                    have c31b0 : decide (1 < (a0.size : Int)) = true := decide_eq_true c31
                    have c31b1 : decide (1 < a0.size) = true := decide_eq_true (by omega)
                    clear c31
                    by_cases c33 : (bt a0 1) < t150
                    · rw [if_pos c33] at H
                      have c33b0 : decide ((bt a0 1) < t150) = true := decide_eq_true c33
                      clear c33
                      obtain rfl := Option.some.inj H
                      have p28 : 0 ≤ (2 : Int) := (by omega)
                      have q28 : 2 < a0.size := (by have : (2 : Int) < (a0.size : Int) := of_decide_eq_true (by first | (with_reducible assumption) | assumption); omega)
                      have hx28 : ∀ h : 2 < a0.size, ((a0[2]'h).toNat : Int) = bt a0 2 := bt_at a0 2
                      clear p28
                      have qi28 : (2 < (a0.size : Int)) = True := eq_true (of_decide_eq_true (by first | (with_reducible assumption) | assumption))
                      replace q28 := eq_true q28
                      go_wp2_with (first | (go_at_call 49; (with_reducible refine (text_goesOn.calls (bt a0 2) true _ A29.out).mono ?_); rintro e w' ⟨rfl, ⟨nd, rfl⟩⟩; (try first | exact ⟨rfl, _, World.drewN_drewN _ _ _⟩ | exact ⟨rfl, _, Eq.trans (World.drewN_drewN _ _ _) (congrArg (World.drewN _) (Nat.add_assoc _ _ _))⟩); have p32 : 0 ≤ (1 : Int) := (by omega); have q32 : 1 < a0.size := (by have : (1 : Int) < (a0.size : Int) := of_decide_eq_true (by first | (with_reducible assumption) | assumption); omega); have hx32 : ∀ h : 1 < a0.size, ((a0[1]'h).toNat : Int) = bt a0 1 := bt_at a0 1; clear p32; have qi32 : (1 < (a0.size : Int)) = True := eq_true (of_decide_eq_true (by first | (with_reducible assumption) | assumption)); replace q32 := eq_true q32; have hcz34_0 : wc.cell? ⟨gb153, 0, none⟩ = some (.int .u8 t150) := (blk_cell BK153.out 0).trans rfl; have hcz34_1 : wc.cell? ⟨gb153, 1, none⟩ = some (.int .u8 t151) := (blk_cell BK153.out 1).trans rfl; have hfz34_0 := blk_frozen BK153.out 0; have hfz34_1 := blk_frozen BK153.out 1))
                      repeat (go_quiet (first | (go_at_call 49; (with_reducible refine (text_goesOn.calls (bt a0 2) true _ A29.out).mono ?_); rintro e w' ⟨rfl, ⟨nd, rfl⟩⟩; (try first | exact ⟨rfl, _, World.drewN_drewN _ _ _⟩ | exact ⟨rfl, _, Eq.trans (World.drewN_drewN _ _ _) (congrArg (World.drewN _) (Nat.add_assoc _ _ _))⟩); have p32 : 0 ≤ (1 : Int) := (by omega); have q32 : 1 < a0.size := (by have : (1 : Int) < (a0.size : Int) := of_decide_eq_true (by first | (with_reducible assumption) | assumption); omega); have hx32 : ∀ h : 1 < a0.size, ((a0[1]'h).toNat : Int) = bt a0 1 := bt_at a0 1; clear p32; have qi32 : (1 < (a0.size : Int)) = True := eq_true (of_decide_eq_true (by first | (with_reducible assumption) | assumption)); replace q32 := eq_true q32; have hcz34_0 : wc.cell? ⟨gb153, 0, none⟩ = some (.int .u8 t150) := (blk_cell BK153.out 0).trans rfl; have hcz34_1 : wc.cell? ⟨gb153, 1, none⟩ = some (.int .u8 t151) := (blk_cell BK153.out 1).trans rfl; have hfz34_0 := blk_frozen BK153.out 0; have hfz34_1 := blk_frozen BK153.out 1)); try go_wp2_with (first | (go_at_call 49; (with_reducible refine (text_goesOn.calls (bt a0 2) true _ A29.out).mono ?_); rintro e w' ⟨rfl, ⟨nd, rfl⟩⟩; (try first | exact ⟨rfl, _, World.drewN_drewN _ _ _⟩ | exact ⟨rfl, _, Eq.trans (World.drewN_drewN _ _ _) (congrArg (World.drewN _) (Nat.add_assoc _ _ _))⟩); have p32 : 0 ≤ (1 : Int) := (by omega); have q32 : 1 < a0.size := (by have : (1 : Int) < (a0.size : Int) := of_decide_eq_true (by first | (with_reducible assumption) | assumption); omega); have hx32 : ∀ h : 1 < a0.size, ((a0[1]'h).toNat : Int) = bt a0 1 := bt_at a0 1; clear p32; have qi32 : (1 < (a0.size : Int)) = True := eq_true (of_decide_eq_true (by first | (with_reducible assumption) | assumption)); replace q32 := eq_true q32; have hcz34_0 : wc.cell? ⟨gb153, 0, none⟩ = some (.int .u8 t150) := (blk_cell BK153.out 0).trans rfl; have hcz34_1 : wc.cell? ⟨gb153, 1, none⟩ = some (.int .u8 t151) := (blk_cell BK153.out 1).trans rfl; have hfz34_0 := blk_frozen BK153.out 0; have hfz34_1 := blk_frozen BK153.out 1)))
                      go_ret
                      exact ⟨by first | rfl | (simp [errW_none, errW_some] <;> rfl) | (simp [*, errW_none, errW_some] <;> rfl), by repeat (first | (with_reducible first | exact HB.out | apply below_alloc | apply pw_below_drewN | apply below_drew1 | refine below_set ?_ GE153.out) | exact HB.out)⟩
                    · rw [if_neg c33] at H
                      have c33b0 : decide ((bt a0 1) < t150) = false := decide_eq_false c33
                      clear c33
                      by_cases c36 : (bt a0 1) > t151
                      · rw [if_pos c36] at H
                        have c36b0 : decide (t151 < (bt a0 1)) = true := decide_eq_true c36
                        clear c36
                        obtain rfl := Option.some.inj H
                        have p28 : 0 ≤ (2 : Int) := (by omega)
                        have q28 : 2 < a0.size := (by have : (2 : Int) < (a0.size : Int) := of_decide_eq_true (by first | (with_reducible assumption) | assumption); omega)
                        have hx28 : ∀ h : 2 < a0.size, ((a0[2]'h).toNat : Int) = bt a0 2 := bt_at a0 2
                        clear p28
                        have qi28 : (2 < (a0.size : Int)) = True := eq_true (of_decide_eq_true (by first | (with_reducible assumption) | assumption))
                        replace q28 := eq_true q28
                        go_wp2_with (first | (go_at_call 49; (with_reducible refine (text_goesOn.calls (bt a0 2) true _ A29.out).mono ?_); rintro e w' ⟨rfl, ⟨nd, rfl⟩⟩; (try first | exact ⟨rfl, _, World.drewN_drewN _ _ _⟩ | exact ⟨rfl, _, Eq.trans (World.drewN_drewN _ _ _) (congrArg (World.drewN _) (Nat.add_assoc _ _ _))⟩); have p32 : 0 ≤ (1 : Int) := (by omega); have q32 : 1 < a0.size := (by have : (1 : Int) < (a0.size : Int) := of_decide_eq_true (by first | (with_reducible assumption) | assumption); omega); have hx32 : ∀ h : 1 < a0.size, ((a0[1]'h).toNat : Int) = bt a0 1 := bt_at a0 1; clear p32; have qi32 : (1 < (a0.size : Int)) = True := eq_true (of_decide_eq_true (by first | (with_reducible assumption) | assumption)); replace q32 := eq_true q32; have hcz37_0 : wc.cell? ⟨gb153, 0, none⟩ = some (.int .u8 t150) := (blk_cell BK153.out 0).trans rfl; have hcz37_1 : wc.cell? ⟨gb153, 1, none⟩ = some (.int .u8 t151) := (blk_cell BK153.out 1).trans rfl; have hfz37_0 := blk_frozen BK153.out 0; have hfz37_1 := blk_frozen BK153.out 1; have p35 : 0 ≤ (1 : Int) := (by omega); have q35 : 1 < a0.size := (by have : (1 : Int) < (a0.size : Int) := of_decide_eq_true (by first | (with_reducible assumption) | assumption); omega); have hx35 : ∀ h : 1 < a0.size, ((a0[1]'h).toNat : Int) = bt a0 1 := bt_at a0 1; clear p35; have qi35 : (1 < (a0.size : Int)) = True := eq_true (of_decide_eq_true (by first | (with_reducible assumption) | assumption)); replace q35 := eq_true q35))
                        repeat (go_quiet (first | (go_at_call 49; (with_reducible refine (text_goesOn.calls (bt a0 2) true _ A29.out).mono ?_); rintro e w' ⟨rfl, ⟨nd, rfl⟩⟩; (try first | exact ⟨rfl, _, World.drewN_drewN _ _ _⟩ | exact ⟨rfl, _, Eq.trans (World.drewN_drewN _ _ _) (congrArg (World.drewN _) (Nat.add_assoc _ _ _))⟩); have p32 : 0 ≤ (1 : Int) := (by omega); have q32 : 1 < a0.size := (by have : (1 : Int) < (a0.size : Int) := of_decide_eq_true (by first | (with_reducible assumption) | assumption); omega); have hx32 : ∀ h : 1 < a0.size, ((a0[1]'h).toNat : Int) = bt a0 1 := bt_at a0 1; clear p32; have qi32 : (1 < (a0.size : Int)) = True := eq_true (of_decide_eq_true (by first | (with_reducible assumption) | assumption)); replace q32 := eq_true q32; have hcz37_0 : wc.cell? ⟨gb153, 0, none⟩ = some (.int .u8 t150) := (blk_cell BK153.out 0).trans rfl; have hcz37_1 : wc.cell? ⟨gb153, 1, none⟩ = some (.int .u8 t151) := (blk_cell BK153.out 1).trans rfl; have hfz37_0 := blk_frozen BK153.out 0; have hfz37_1 := blk_frozen BK153.out 1; have p35 : 0 ≤ (1 : Int) := (by omega); have q35 : 1 < a0.size := (by have : (1 : Int) < (a0.size : Int) := of_decide_eq_true (by first | (with_reducible assumption) | assumption); omega); have hx35 : ∀ h : 1 < a0.size, ((a0[1]'h).toNat : Int) = bt a0 1 := bt_at a0 1; clear p35; have qi35 : (1 < (a0.size : Int)) = True := eq_true (of_decide_eq_true (by first | (with_reducible assumption) | assumption)); replace q35 := eq_true q35)); try go_wp2_with (first | (go_at_call 49; (with_reducible refine (text_goesOn.calls (bt a0 2) true _ A29.out).mono ?_); rintro e w' ⟨rfl, ⟨nd, rfl⟩⟩; (try first | exact ⟨rfl, _, World.drewN_drewN _ _ _⟩ | exact ⟨rfl, _, Eq.trans (World.drewN_drewN _ _ _) (congrArg (World.drewN _) (Nat.add_assoc _ _ _))⟩); have p32 : 0 ≤ (1 : Int) := (by omega); have q32 : 1 < a0.size := (by have : (1 : Int) < (a0.size : Int) := of_decide_eq_true (by first | (with_reducible assumption) | assumption); omega); have hx32 : ∀ h : 1 < a0.size, ((a0[1]'h).toNat : Int) = bt a0 1 := bt_at a0 1; clear p32; have qi32 : (1 < (a0.size : Int)) = True := eq_true (of_decide_eq_true (by first | (with_reducible assumption) | assumption)); replace q32 := eq_true q32; have hcz37_0 : wc.cell? ⟨gb153, 0, none⟩ = some (.int .u8 t150) := (blk_cell BK153.out 0).trans rfl; have hcz37_1 : wc.cell? ⟨gb153, 1, none⟩ = some (.int .u8 t151) := (blk_cell BK153.out 1).trans rfl; have hfz37_0 := blk_frozen BK153.out 0; have hfz37_1 := blk_frozen BK153.out 1; have p35 : 0 ≤ (1 : Int) := (by omega); have q35 : 1 < a0.size := (by have : (1 : Int) < (a0.size : Int) := of_decide_eq_true (by first | (with_reducible assumption) | assumption); omega); have hx35 : ∀ h : 1 < a0.size, ((a0[1]'h).toNat : Int) = bt a0 1 := bt_at a0 1; clear p35; have qi35 : (1 < (a0.size : Int)) = True := eq_true (of_decide_eq_true (by first | (with_reducible assumption) | assumption)); replace q35 := eq_true q35)))
                        go_ret
                        exact ⟨by first | rfl | (simp [errW_none, errW_some] <;> rfl) | (simp [*, errW_none, errW_some] <;> rfl), by repeat (first | (with_reducible first | exact HB.out | apply below_alloc | apply pw_below_drewN | apply below_drew1 | refine below_set ?_ GE153.out) | exact HB.out)⟩
                      · rw [if_neg c36] at H
                        have c36b0 : decide (t151 < (bt a0 1)) = false := decide_eq_false c36
                        clear c36
                        obtain rfl := Option.some.inj H
                        have p28 : 0 ≤ (2 : Int) := (by omega)
                        have q28 : 2 < a0.size := (by have : (2 : Int) < (a0.size : Int) := of_decide_eq_true (by first | (with_reducible assumption) | assumption); omega)
                        have hx28 : ∀ h : 2 < a0.size, ((a0[2]'h).toNat : Int) = bt a0 2 := bt_at a0 2
                        clear p28
                        have qi28 : (2 < (a0.size : Int)) = True := eq_true (of_decide_eq_true (by first | (with_reducible assumption) | assumption))
                        replace q28 := eq_true q28
                        go_wp2_with (first | (go_at_call 49; (with_reducible refine (text_goesOn.calls (bt a0 2) true _ A29.out).mono ?_); rintro e w' ⟨rfl, ⟨nd, rfl⟩⟩; (try first | exact ⟨rfl, _, World.drewN_drewN _ _ _⟩ | exact ⟨rfl, _, Eq.trans (World.drewN_drewN _ _ _) (congrArg (World.drewN _) (Nat.add_assoc _ _ _))⟩); have p32 : 0 ≤ (1 : Int) := (by omega); have q32 : 1 < a0.size := (by have : (1 : Int) < (a0.size : Int) := of_decide_eq_true (by first | (with_reducible assumption) | assumption); omega); have hx32 : ∀ h : 1 < a0.size, ((a0[1]'h).toNat : Int) = bt a0 1 := bt_at a0 1; clear p32; have qi32 : (1 < (a0.size : Int)) = True := eq_true (of_decide_eq_true (by first | (with_reducible assumption) | assumption)); replace q32 := eq_true q32; have hcz38_0 : wc.cell? ⟨gb153, 0, none⟩ = some (.int .u8 t150) := (blk_cell BK153.out 0).trans rfl; have hcz38_1 : wc.cell? ⟨gb153, 1, none⟩ = some (.int .u8 t151) := (blk_cell BK153.out 1).trans rfl; have hfz38_0 := blk_frozen BK153.out 0; have hfz38_1 := blk_frozen BK153.out 1; have p35 : 0 ≤ (1 : Int) := (by omega); have q35 : 1 < a0.size := (by have : (1 : Int) < (a0.size : Int) := of_decide_eq_true (by first | (with_reducible assumption) | assumption); omega); have hx35 : ∀ h : 1 < a0.size, ((a0[1]'h).toNat : Int) = bt a0 1 := bt_at a0 1; clear p35; have qi35 : (1 < (a0.size : Int)) = True := eq_true (of_decide_eq_true (by first | (with_reducible assumption) | assumption)); replace q35 := eq_true q35))
                        repeat (go_quiet (first | (go_at_call 49; (with_reducible refine (text_goesOn.calls (bt a0 2) true _ A29.out).mono ?_); rintro e w' ⟨rfl, ⟨nd, rfl⟩⟩; (try first | exact ⟨rfl, _, World.drewN_drewN _ _ _⟩ | exact ⟨rfl, _, Eq.trans (World.drewN_drewN _ _ _) (congrArg (World.drewN _) (Nat.add_assoc _ _ _))⟩); have p32 : 0 ≤ (1 : Int) := (by omega); have q32 : 1 < a0.size := (by have : (1 : Int) < (a0.size : Int) := of_decide_eq_true (by first | (with_reducible assumption) | assumption); omega); have hx32 : ∀ h : 1 < a0.size, ((a0[1]'h).toNat : Int) = bt a0 1 := bt_at a0 1; clear p32; have qi32 : (1 < (a0.size : Int)) = True := eq_true (of_decide_eq_true (by first | (with_reducible assumption) | assumption)); replace q32 := eq_true q32; have hcz38_0 : wc.cell? ⟨gb153, 0, none⟩ = some (.int .u8 t150) := (blk_cell BK153.out 0).trans rfl; have hcz38_1 : wc.cell? ⟨gb153, 1, none⟩ = some (.int .u8 t151) := (blk_cell BK153.out 1).trans rfl; have hfz38_0 := blk_frozen BK153.out 0; have hfz38_1 := blk_frozen BK153.out 1; have p35 : 0 ≤ (1 : Int) := (by omega); have q35 : 1 < a0.size := (by have : (1 : Int) < (a0.size : Int) := of_decide_eq_true (by first | (with_reducible assumption) | assumption); omega); have hx35 : ∀ h : 1 < a0.size, ((a0[1]'h).toNat : Int) = bt a0 1 := bt_at a0 1; clear p35; have qi35 : (1 < (a0.size : Int)) = True := eq_true (of_decide_eq_true (by first | (with_reducible assumption) | assumption)); replace q35 := eq_true q35)); try go_wp2_with (first | (go_at_call 49; (with_reducible refine (text_goesOn.calls (bt a0 2) true _ A29.out).mono ?_); rintro e w' ⟨rfl, ⟨nd, rfl⟩⟩; (try first | exact ⟨rfl, _, World.drewN_drewN _ _ _⟩ | exact ⟨rfl, _, Eq.trans (World.drewN_drewN _ _ _) (congrArg (World.drewN _) (Nat.add_assoc _ _ _))⟩); have p32 : 0 ≤ (1 : Int) := (by omega); have q32 : 1 < a0.size := (by have : (1 : Int) < (a0.size : Int) := of_decide_eq_true (by first | (with_reducible assumption) | assumption); omega); have hx32 : ∀ h : 1 < a0.size, ((a0[1]'h).toNat : Int) = bt a0 1 := bt_at a0 1; clear p32; have qi32 : (1 < (a0.size : Int)) = True := eq_true (of_decide_eq_true (by first | (with_reducible assumption) | assumption)); replace q32 := eq_true q32; have hcz38_0 : wc.cell? ⟨gb153, 0, none⟩ = some (.int .u8 t150) := (blk_cell BK153.out 0).trans rfl; have hcz38_1 : wc.cell? ⟨gb153, 1, none⟩ = some (.int .u8 t151) := (blk_cell BK153.out 1).trans rfl; have hfz38_0 := blk_frozen BK153.out 0; have hfz38_1 := blk_frozen BK153.out 1; have p35 : 0 ≤ (1 : Int) := (by omega); have q35 : 1 < a0.size := (by have : (1 : Int) < (a0.size : Int) := of_decide_eq_true (by first | (with_reducible assumption) | assumption); omega); have hx35 : ∀ h : 1 < a0.size, ((a0[1]'h).toNat : Int) = bt a0 1 := bt_at a0 1; clear p35; have qi35 : (1 < (a0.size : Int)) = True := eq_true (of_decide_eq_true (by first | (with_reducible assumption) | assumption)); replace q35 := eq_true q35)))
                        go_ret
                        exact ⟨by first | rfl | (simp [errW_none, errW_some] <;> rfl) | (simp [*, errW_none, errW_some] <;> rfl), by repeat (first | (with_reducible first | exact HB.out | apply below_alloc | apply pw_below_drewN | apply below_drew1 | refine below_set ?_ GE153.out) | exact HB.out)⟩
                  · rw [if_neg c31] at H
                    exact absurd H (by simp)
                · replace c30 := Bool.eq_false_iff.mpr c30
                  subst c30
                  have H1 : (some 0) = some r := by rw [if_neg (show ¬ (false = true) by decide)] at H; exact H
                  clear H
                  have H := H1
                  clear H1
                  obtain rfl := Option.some.inj H
                  have p28 : 0 ≤ (2 : Int) := (by omega)
                  have q28 : 2 < a0.size := (by have : (2 : Int) < (a0.size : Int) := of_decide_eq_true (by first | (with_reducible assumption) | assumption); omega)
                  have hx28 : ∀ h : 2 < a0.size, ((a0[2]'h).toNat : Int) = bt a0 2 := bt_at a0 2
                  clear p28
                  have qi28 : (2 < (a0.size : Int)) = True := eq_true (of_decide_eq_true (by first | (with_reducible assumption) | assumption))
                  replace q28 := eq_true q28
                  go_wp2_with (first | (go_at_call 49; (with_reducible refine (text_goesOn.calls (bt a0 2) false _ A29.out).mono ?_); rintro e w' ⟨rfl, ⟨nd, rfl⟩⟩; (try first | exact ⟨rfl, _, World.drewN_drewN _ _ _⟩ | exact ⟨rfl, _, Eq.trans (World.drewN_drewN _ _ _) (congrArg (World.drewN _) (Nat.add_assoc _ _ _))⟩)))
                  repeat (go_quiet (first | (go_at_call 49; (with_reducible refine (text_goesOn.calls (bt a0 2) false _ A29.out).mono ?_); rintro e w' ⟨rfl, ⟨nd, rfl⟩⟩; (try first | exact ⟨rfl, _, World.drewN_drewN _ _ _⟩ | exact ⟨rfl, _, Eq.trans (World.drewN_drewN _ _ _) (congrArg (World.drewN _) (Nat.add_assoc _ _ _))⟩))); try go_wp2_with (first | (go_at_call 49; (with_reducible refine (text_goesOn.calls (bt a0 2) false _ A29.out).mono ?_); rintro e w' ⟨rfl, ⟨nd, rfl⟩⟩; (try first | exact ⟨rfl, _, World.drewN_drewN _ _ _⟩ | exact ⟨rfl, _, Eq.trans (World.drewN_drewN _ _ _) (congrArg (World.drewN _) (Nat.add_assoc _ _ _))⟩))))
                  go_ret
                  exact ⟨by first | rfl | (simp [errW_none, errW_some] <;> rfl) | (simp [*, errW_none, errW_some] <;> rfl), by repeat (first | (with_reducible first | exact HB.out | apply below_alloc | apply pw_below_drewN | apply below_drew1 | refine below_set ?_ GE153.out) | exact HB.out)⟩
              · rw [if_neg c27] at H
                exact absurd H (by simp)
  · rw [if_neg c2] at H
    exact absurd H (by simp)

/-! ### text_Check: function 37 -/
def text_Check.l0 : Nat → ByteArray → Int → Option (Int × Int)
  | 0, _, _ => none
  | k + 1, x0, x4 => if x4 < (x0.size : Int) then (if 0 ≤ x4 then (if x4 ≤ (x0.size : Int) then ((text_sequence.f k (x0.extract (x4 : Int).toNat x0.size)).bind fun t156 => (if t156 = 0 then (some (10, x4)) else (text_Check.l0 k x0 (wrap64 (x4 + t156))))) else (none)) else (none)) else (some (0, (x0.size : Int)))
def text_Check.f (k : Nat) (a0 : ByteArray) : Option (Int × Int) := text_Check.l0 k a0 0
theorem text_Check.mono_l : ∀ k, (∀ y0 y1, LeO (text_Check.l0 k y0 y1) (text_Check.l0 (k + 1) y0 y1))
  | 0 => fun _ _ r h => by simp [text_Check.l0] at h
  | k + 1 => by
    have ih0 := text_Check.mono_l k
    · intro y0 y1
      unfold text_Check.l0
      repeat' first
      | (with_reducible exact ih0 _ _)
      | (with_reducible exact text_sequence.mono _ _)
      | (with_reducible exact LeO.refl _)
      | (with_reducible exact LeO.none _)
      | (with_reducible refine LeO.ite ?_ ?_)
      | (with_reducible refine LeO.bind ?_ (fun _ => ?_))
      | exact ih0 _ _
      | exact text_sequence.mono _ _
      | exact LeO.none _
      | refine LeO.ite ?_ ?_
      | refine LeO.bind ?_ (fun _ => ?_)
theorem text_Check.mono : ∀ a0 k, LeO (text_Check.f k a0) (text_Check.f (k + 1) a0) := by
  intro a0 k
  have ih0 := text_Check.mono_l k
  unfold text_Check.f
  repeat' first
      | (with_reducible exact ih0 _ _)
      | (with_reducible exact text_sequence.mono _ _)
      | (with_reducible exact LeO.refl _)
      | (with_reducible exact LeO.none _)
      | (with_reducible refine LeO.ite ?_ ?_)
      | (with_reducible refine LeO.bind ?_ (fun _ => ?_))
      | exact ih0 _ _
      | exact text_sequence.mono _ _
      | exact LeO.none _
      | refine LeO.ite ?_ ?_
      | refine LeO.bind ?_ (fun _ => ?_)
set_option maxHeartbeats 8000000 in
set_option maxRecDepth 100000 in
theorem text_Check.calls (k : Nat) (a0 : ByteArray) (r1 : Int) (r2 : Int) (w : World) (h : text_Check.f k a0 = some (r1, r2)) :
    Calls Tryd.prog 37 #[.string a0] w fun e w' => e = .returned (.tuple #[.int .i64 r1, .int .i64 r2]) ∧ Below w.heap.size w w' := by
  have HB := Aside0.mk (Below.refl w.heap.size w)
  have H : (text_Check.l0 k a0 0) = some (r1, r2) := h
  clear h
  have H' := Aside0.mk H
  clear H
  go_enter Tryd.func37, Tryd.ntmps37
  go_wp2
  go_loopg [4] k (fun kq v4 w' => ∃ (x4_1 : Int), v4 = .int .i64 x4_1 ∧ Aside0 (text_Check.l0 kq a0 x4_1 = some (r1, r2)) ∧ Aside0 (kq ≤ k) ∧ Aside0 (Below w.heap.size w w'))
  case atStart => exact ⟨(0), (by first | rfl | (simp; done) | (simp [*]; done)), H', ⟨Nat.le_refl _⟩, ⟨by repeat (first | (with_reducible first | exact HB.out | apply below_alloc | apply pw_below_drewN | apply below_drew1) | exact HB.out)⟩⟩
  case round =>
    clear H'
    obtain ⟨x4_1, rfl, HA, HK1, HB⟩ := hrel
    cases gk with
    | zero => exact absurd HA.out (by simp [text_Check.l0])
    | succ k1 =>
      have H := HA.out
      clear HA
      simp only [text_Check.l0] at H
      by_cases c2 : x4_1 < (a0.size : Int)
      · rw [if_pos c2] at H
        have c2b0 : decide (x4_1 < (a0.size : Int)) = true := decide_eq_true c2
        clear c2
        by_cases c3 : 0 ≤ x4_1
        · rw [if_pos c3] at H
          have c3b0 := eq_true c3
          have c3b1 : decide (0 ≤ x4_1) = true := decide_eq_true c3
          clear c3
          by_cases c4 : x4_1 ≤ (a0.size : Int)
          · rw [if_pos c4] at H
            have c4b0 := eq_true c4
            have c4b1 : decide (x4_1 ≤ (a0.size : Int)) = true := decide_eq_true c4
            clear c4
            replace H := Option.bind_eq_some_iff.mp H
            obtain ⟨t156, A50, H⟩ := H
            replace H : (if t156 = 0 then (some (10, x4_1)) else (text_Check.l0 k1 a0 (wrap64 (x4_1 + t156)))) = some (r1, r2) := H
            have A5 := Aside0.mk A50
            clear A50
            by_cases c6 : t156 = 0
            · rw [if_pos c6] at H
              have c6b0 : (t156 == 0) = true := beq_iff_eq.mpr c6
              have c6b1 : (t156 != 0) = false := bne_eq_false_iff_eq.mpr c6
              clear c6
              simp only [Option.some.injEq, Prod.mk.injEq] at H
              obtain ⟨rfl, rfl⟩ := H
              go_wp2_with (first | ((with_reducible refine gate_callee (f := 45) rfl ?_); refine goesL_ (some 13) rfl rfl Tryd.func45 (by kernel_rfl) rfl #[.string (a0.extract (x4_1 : Int).toNat a0.size)] rfl (by (try simp only [List.map_toArray, List.map_cons, List.map_nil]); first | done | rfl | (simp only [List.length_drop, List.length_take]; rfl)) ?_; (with_reducible refine (text_sequence.calls k1 (a0.extract (x4_1 : Int).toNat a0.size) t156 _ A5.out).mono ?_); rintro e w7 ⟨rfl, hb⟩; refine ⟨_, rfl, ?_⟩; have n0_ := Aside0.mk (below_step (by repeat (first | (with_reducible first | exact HB.out | apply below_alloc | apply pw_below_drewN | apply below_drew1) | exact HB.out)) hb); clear HB; have HB := n0_; clear n0_; (try clear hb); (try clear hb2); (try clear hk); (try clear hi)))
              go_ret2
              exact ⟨by first | rfl | (simp [errW_none, errW_some] <;> rfl) | (simp [*, errW_none, errW_some] <;> rfl), by repeat (first | (with_reducible first | exact HB.out | apply below_alloc | apply pw_below_drewN | apply below_drew1) | exact HB.out)⟩
            · rw [if_neg c6] at H
              have c6b0 : (t156 == 0) = false := beq_eq_false_iff_ne.mpr c6
              have c6b1 : (t156 != 0) = true := bne_iff_ne.mpr c6
              have H' := Aside0.mk H
              clear H
              go_wp2_with (first | ((with_reducible refine gate_callee (f := 45) rfl ?_); refine goesL_ (some 13) rfl rfl Tryd.func45 (by kernel_rfl) rfl #[.string (a0.extract (x4_1 : Int).toNat a0.size)] rfl (by (try simp only [List.map_toArray, List.map_cons, List.map_nil]); first | done | rfl | (simp only [List.length_drop, List.length_take]; rfl)) ?_; (with_reducible refine (text_sequence.calls k1 (a0.extract (x4_1 : Int).toNat a0.size) t156 _ A5.out).mono ?_); rintro e w8 ⟨rfl, hb⟩; refine ⟨_, rfl, ?_⟩; have n0_ := Aside0.mk (below_step (by repeat (first | (with_reducible first | exact HB.out | apply below_alloc | apply pw_below_drewN | apply below_drew1) | exact HB.out)) hb); clear HB; have HB := n0_; clear n0_; (try clear hb); (try clear hb2); (try clear hk); (try clear hi)))
              go_roundg k1
              case measure => have := HK1.out; omega
              case rel => exact ⟨(wrap64 (x4_1 + t156)), (by first | rfl | (simp; done) | (simp [*]; done)), H', ⟨by have := HK1.out; omega⟩, ⟨by repeat (first | (with_reducible first | exact HB.out | apply below_alloc | apply pw_below_drewN | apply below_drew1) | exact HB.out)⟩⟩
          · rw [if_neg c4] at H
            exact absurd H (by simp)
        · rw [if_neg c3] at H
          exact absurd H (by simp)
      · rw [if_neg c2] at H
        have c2b0 : decide (x4_1 < (a0.size : Int)) = false := decide_eq_false c2
        clear c2
        simp only [Option.some.injEq, Prod.mk.injEq] at H
        obtain ⟨rfl, rfl⟩ := H
        go_wp2
        go_ret2
        exact ⟨by first | rfl | (simp [errW_none, errW_some] <;> rfl) | (simp [*, errW_none, errW_some] <;> rfl), by repeat (first | (with_reducible first | exact HB.out | apply below_alloc | apply pw_below_drewN | apply below_drew1) | exact HB.out)⟩

end Go.Proofs.YtppnhlkfkedlmaaDoor.XA

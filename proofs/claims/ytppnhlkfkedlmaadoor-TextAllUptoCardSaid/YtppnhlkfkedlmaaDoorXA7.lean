-- PRINTED by print.py (a twelfth state) out of the translation. Not trusted: Lean checks it.
import Derived.Test.YtppnhlkfkedlmaaDoorXA0
import Derived.Test.YtppnhlkfkedlmaaDoorXA5
import Derived.Test.YtppnhlkfkedlmaaDoorXA6
namespace Go.Proofs.YtppnhlkfkedlmaaDoor.XA
open Go.Proofs.YtppnhlkfkedlmaaDoor.XGA
open Go.Proofs.YtppnhlkfkedlmaaDoor.XE
open Go.Proofs.YtppnhlkfkedlmaaDoor.XS
open Go.Proofs.YtppnhlkfkedlmaaDoor.UnZ
open Go.Proofs.YtppnhlkfkedlmaaDoor.FrontW
open Go.Proofs.YtppnhlkfkedlmaaDoor.XQ
attribute [local irreducible] rowL2
attribute [local go_sem] Go.Proofs.YtppnhlkfkedlmaaDoor.XW.u8_wrap
open Go.RowKit Go.Proofs.YtppnhlkfkedlmaaDoorW.PrintWords Go.Proofs.YtppnhlkfkedlmaaDoorW.PrintLast Go.Proofs.YtppnhlkfkedlmaaDoorW.PrintMore
attribute [local go_sem] max2_int min2_int max_two min_two max_three min_three max_four min_four   -- for this text's walks alone
set_option linter.unusedVariables false
set_option linter.unusedSimpArgs false

/-! ### rosterref01_Squeeze: function 24 -/
def rosterref01_Squeeze.j0 : Nat → ByteArray → Int → Int → Bool → Option (ByteArray)
  | 0, _, _, _, _ => none
  | k + 1, x3, x4, x5, x16 => if x16 = true then (if x5 > 1 then (if 0 ≤ (wrap64 (x5 - 1)) then (if (wrap64 (x5 - 1)) < (x3.size : Int) then (if (bt x3 (wrap64 (x5 - 1))) = 32 then (if 1 ≤ (wrap64 (x5 - 1)) then (if (wrap64 (x5 - 1)) ≤ (x3.size : Int) then (some (x3.extract 1 ((wrap64 (x5 - 1)) : Int).toNat)) else (none)) else (none)) else (if 1 ≤ x5 then (if x5 ≤ (x3.size : Int) then (some (x3.extract 1 (x5 : Int).toNat)) else (none)) else (none))) else (none)) else (none)) else (if 1 ≤ x5 then (if x5 ≤ (x3.size : Int) then (some (x3.extract 1 (x5 : Int).toNat)) else (none)) else (none))) else (if x5 > x4 then (if 0 ≤ (wrap64 (x5 - 1)) then (if (wrap64 (x5 - 1)) < (x3.size : Int) then (if (bt x3 (wrap64 (x5 - 1))) = 32 then (if 0 ≤ x4 then (if x4 ≤ (wrap64 (x5 - 1)) then (if (wrap64 (x5 - 1)) ≤ (x3.size : Int) then (some (x3.extract (x4 : Int).toNat ((wrap64 (x5 - 1)) : Int).toNat)) else (none)) else (none)) else (none)) else (if 0 ≤ x4 then (if x4 ≤ x5 then (if x5 ≤ (x3.size : Int) then (some (x3.extract (x4 : Int).toNat (x5 : Int).toNat)) else (none)) else (none)) else (none))) else (none)) else (none)) else (if 0 ≤ x4 then (if x4 ≤ x5 then (if x5 ≤ (x3.size : Int) then (some (x3.extract (x4 : Int).toNat (x5 : Int).toNat)) else (none)) else (none)) else (none)))
def rosterref01_Squeeze.f (k : Nat) (a0 : ByteArray) : Option (ByteArray) := (rosterref01_Collapse.f k a0).bind fun t208 => (if (t208.size : Int) > 0 then (if 0 < (t208.size : Int) then (rosterref01_Squeeze.j0 k t208 0 (t208.size : Int) ((bt t208 0) == 32)) else (none)) else (rosterref01_Squeeze.j0 k t208 0 (t208.size : Int) false))
theorem rosterref01_Squeeze.mono_l : ∀ k, (∀ y0 y1 y2 y3, LeO (rosterref01_Squeeze.j0 k y0 y1 y2 y3) (rosterref01_Squeeze.j0 (k + 1) y0 y1 y2 y3))
  | 0 => fun _ _ _ _ r h => by simp [rosterref01_Squeeze.j0] at h
  | k + 1 => by
    have ih0 := rosterref01_Squeeze.mono_l k
    · intro y0 y1 y2 y3
      unfold rosterref01_Squeeze.j0
      repeat' first
      | (with_reducible exact ih0 _ _ _ _)
      | (with_reducible exact rosterref01_Collapse.mono _ _)
      | (with_reducible exact LeO.refl _)
      | (with_reducible exact LeO.none _)
      | (with_reducible refine LeO.ite ?_ ?_)
      | (with_reducible refine LeO.bind ?_ (fun _ => ?_))
      | exact ih0 _ _ _ _
      | exact rosterref01_Collapse.mono _ _
      | exact LeO.none _
      | refine LeO.ite ?_ ?_
      | refine LeO.bind ?_ (fun _ => ?_)
theorem rosterref01_Squeeze.mono : ∀ a0 k, LeO (rosterref01_Squeeze.f k a0) (rosterref01_Squeeze.f (k + 1) a0) := by
  intro a0 k
  have ih0 := rosterref01_Squeeze.mono_l k
  unfold rosterref01_Squeeze.f
  repeat' first
      | (with_reducible exact ih0 _ _ _ _)
      | (with_reducible exact rosterref01_Collapse.mono _ _)
      | (with_reducible exact LeO.refl _)
      | (with_reducible exact LeO.none _)
      | (with_reducible refine LeO.ite ?_ ?_)
      | (with_reducible refine LeO.bind ?_ (fun _ => ?_))
      | exact ih0 _ _ _ _
      | exact rosterref01_Collapse.mono _ _
      | exact LeO.none _
      | refine LeO.ite ?_ ?_
      | refine LeO.bind ?_ (fun _ => ?_)
set_option maxHeartbeats 8000000 in
set_option maxRecDepth 100000 in
theorem rosterref01_Squeeze.calls (k : Nat) (a0 : ByteArray) (r : ByteArray) (w : World) (h : rosterref01_Squeeze.f k a0 = some r) :
    Calls Tryd.prog 24 #[.string a0] w fun e w' => e = .returned (.string r) ∧ Below w.heap.size w w' := by
  have HB := Aside0.mk (Below.refl w.heap.size w)
  have H : ((rosterref01_Collapse.f k a0).bind fun t208 => (if (t208.size : Int) > 0 then (if 0 < (t208.size : Int) then (rosterref01_Squeeze.j0 k t208 0 (t208.size : Int) ((bt t208 0) == 32)) else (none)) else (rosterref01_Squeeze.j0 k t208 0 (t208.size : Int) false))) = some r := h
  clear h
  replace H := Option.bind_eq_some_iff.mp H
  obtain ⟨t208, A20, H⟩ := H
  replace H : (if (t208.size : Int) > 0 then (if 0 < (t208.size : Int) then (rosterref01_Squeeze.j0 k t208 0 (t208.size : Int) ((bt t208 0) == 32)) else (none)) else (rosterref01_Squeeze.j0 k t208 0 (t208.size : Int) false)) = some r := H
  have A2 := Aside0.mk A20
  clear A20
  have HC3 := Aside0.mk H
  clear H
  go_enter Tryd.func24, Tryd.ntmps24
  go_upto_region 4 with (first | ((with_reducible refine gate_callee (f := 22) rfl ?_); refine goesL_ (some 7) rfl rfl Tryd.func22 (by kernel_rfl) rfl #[.string a0] rfl (by (try simp only [List.map_toArray, List.map_cons, List.map_nil]); first | done | rfl | (simp only [List.length_drop, List.length_take]; rfl)) ?_; (with_reducible refine (rosterref01_Collapse.calls k a0 t208 _ A2.out).mono ?_); rintro e w4 ⟨rfl, hb⟩; refine ⟨_, rfl, ?_⟩; have n0_ := Aside0.mk (below_step (by repeat (first | (with_reducible first | exact HB.out | apply below_alloc | apply pw_below_drewN | apply below_drew1) | exact HB.out)) hb); clear HB; have HB := n0_; clear n0_; (try clear hb); (try clear hb2); (try clear hk); (try clear hi)))
  (try simp only [Act.put, List.setIfInBounds_toArray, List.set_cons_zero, List.set_cons_succ])
  go_cut [16] (fun v16 wc => ∃ (kq : Nat) (x16_2 : Bool), v16 = .bool x16_2 ∧ Aside0 (rosterref01_Squeeze.j0 kq t208 0 (t208.size : Int) x16_2 = some r) ∧ Aside0 (kq ≤ k) ∧ Aside0 (Below w.heap.size w wc))
  case first =>
    have H := HC3.out
    clear HC3
    by_cases c5 : (t208.size : Int) > 0
    · rw [if_pos c5] at H
      have c5b0 : decide (0 < (t208.size : Int)) = true := decide_eq_true c5
      have c5b1 : decide (0 < t208.size) = true := decide_eq_true (by omega)
      clear c5
      (first | rw [c5b0] | (simp only [i64_w, i32_w]; rw [c5b0]) | skip)
      by_cases c6 : 0 < (t208.size : Int)
      · rw [if_pos c6] at H
        have c6b0 : decide (0 < (t208.size : Int)) = true := decide_eq_true c6
        have c6b1 : decide (0 < t208.size) = true := decide_eq_true (by omega)
        clear c6
        have H' := Aside0.mk H
        clear H
        have p7 : 0 ≤ (0 : Int) := (by omega)
        have q7 : 0 < t208.size := (by have : (0 : Int) < (t208.size : Int) := of_decide_eq_true (by first | (with_reducible assumption) | assumption); omega)
        have hx7 : ∀ h : 0 < t208.size, ((t208[0]'h).toNat : Int) = bt t208 0 := bt_at t208 0
        clear p7
        have qi7 : (0 < (t208.size : Int)) = True := eq_true (of_decide_eq_true (by first | (with_reducible assumption) | assumption))
        replace q7 := eq_true q7
        go_wp2
        go_meet
        case rel => exact ⟨_, (((bt t208 0) == 32)), (by first | rfl | (simp; done) | (simp [*]; done)), H', ⟨by first | omega | exact Nat.le_refl _⟩, ⟨by repeat (first | (with_reducible first | exact HB.out | apply below_alloc | apply pw_below_drewN | apply below_drew1) | exact HB.out)⟩⟩
      · rw [if_neg c6] at H
        exact absurd H (by simp)
    · rw [if_neg c5] at H
      have c5b0 : decide (0 < (t208.size : Int)) = false := decide_eq_false c5
      have c5b1 : decide (0 < t208.size) = false := decide_eq_false (by omega)
      clear c5
      (first | rw [c5b0] | (simp only [i64_w, i32_w]; rw [c5b0]) | skip)
      have H' := Aside0.mk H
      clear H
      go_wp2
      go_meet
      case rel => exact ⟨_, (false), (by first | rfl | (simp; done) | (simp [*]; done)), H', ⟨by first | omega | exact Nat.le_refl _⟩, ⟨by repeat (first | (with_reducible first | exact HB.out | apply below_alloc | apply pw_below_drewN | apply below_drew1) | exact HB.out)⟩⟩
  case rest =>
    clear HC3
    try clear c2
    try clear p2
    try clear c5
    try clear c5b0
    try clear c5b1
    try clear c6
    try clear c6b0
    try clear c6b1
    try clear p7
    try clear q7
    try clear hx7
    try clear qi7
    try clear p7
    try clear q7
    obtain ⟨kq, x16_2, rfl, HA, HJ2, HB⟩ := hcut
    cases kq with
    | zero => exact absurd HA.out (by simp [rosterref01_Squeeze.j0])
    | succ kj2 =>
      have H := HA.out
      clear HA
      simp only [rosterref01_Squeeze.j0] at H
      by_cases c8 : x16_2 = true
      · subst c8
        have H1 : (if (t208.size : Int) > 1 then (if 0 ≤ (wrap64 ((t208.size : Int) - 1)) then (if (wrap64 ((t208.size : Int) - 1)) < (t208.size : Int) then (if (bt t208 (wrap64 ((t208.size : Int) - 1))) = 32 then (if 1 ≤ (wrap64 ((t208.size : Int) - 1)) then (if (wrap64 ((t208.size : Int) - 1)) ≤ (t208.size : Int) then (some (t208.extract 1 ((wrap64 ((t208.size : Int) - 1)) : Int).toNat)) else (none)) else (none)) else (if 1 ≤ (t208.size : Int) then (if (t208.size : Int) ≤ (t208.size : Int) then (some (t208.extract 1 ((t208.size : Int) : Int).toNat)) else (none)) else (none))) else (none)) else (none)) else (if 1 ≤ (t208.size : Int) then (if (t208.size : Int) ≤ (t208.size : Int) then (some (t208.extract 1 ((t208.size : Int) : Int).toNat)) else (none)) else (none))) = some r := by rw [if_pos rfl] at H; exact H
        clear H
        have H := H1
        clear H1
        by_cases c9 : (t208.size : Int) > 1
        · rw [if_pos c9] at H
          have c9b0 : decide (1 < (t208.size : Int)) = true := decide_eq_true c9
          have c9b1 : decide (1 < t208.size) = true := decide_eq_true (by omega)
          clear c9
          obtain ⟨ji10, hji10⟩ : ∃ j_ : Int, (wrap64 ((t208.size : Int) - 1)) = j_ := ⟨_, rfl⟩
          replace H : (if 0 ≤ (ji10) then (if (ji10) < (t208.size : Int) then (if (bt t208 (ji10)) = 32 then (if 1 ≤ (ji10) then (if (ji10) ≤ (t208.size : Int) then (some (t208.extract 1 ((ji10) : Int).toNat)) else (none)) else (none)) else (if 1 ≤ (t208.size : Int) then (if (t208.size : Int) ≤ (t208.size : Int) then (some (t208.extract 1 ((t208.size : Int) : Int).toNat)) else (none)) else (none))) else (none)) else (none)) = some r := by first | (rw [hji10] at H; exact H) | (simp only [hji10] at H ⊢; exact H)
          have hji10w : (IntKind.i64.wrap ((t208.size : Int) - 1)) = ji10 := (i64_w _).trans hji10
          by_cases c11 : 0 ≤ (ji10)
          · rw [if_pos c11] at H
            have c11b0 : decide (0 ≤ (ji10)) = true := decide_eq_true c11
            clear c11
            by_cases c12 : (ji10) < (t208.size : Int)
            · rw [if_pos c12] at H
              have c12b0 : decide ((ji10) < (t208.size : Int)) = true := decide_eq_true c12
              clear c12
              by_cases c14 : (bt t208 (ji10)) = 32
              · rw [if_pos c14] at H
                have c14b0 : ((bt t208 (ji10)) == 32) = true := beq_iff_eq.mpr c14
                have c14b1 : ((bt t208 (ji10)) != 32) = false := bne_eq_false_iff_eq.mpr c14
                clear c14
                by_cases c15 : 1 ≤ (ji10)
                · rw [if_pos c15] at H
                  have c15b0 := eq_true c15
                  have c15b1 : decide (1 ≤ (ji10)) = true := decide_eq_true c15
                  clear c15
                  by_cases c16 : (ji10) ≤ (t208.size : Int)
                  · rw [if_pos c16] at H
                    have c16b0 := eq_true c16
                    have c16b1 : decide ((ji10) ≤ (t208.size : Int)) = true := decide_eq_true c16
                    clear c16
                    obtain rfl := Option.some.inj H
                    have p13 : 0 ≤ ((ji10) : Int) := of_decide_eq_true (by first | (with_reducible assumption) | assumption)
                    have q13 : (ji10) < (t208.size : Int) := of_decide_eq_true (by first | (with_reducible assumption) | assumption)
                    have hx13 := bt_at t208 (ji10)
                    replace p13 := eq_true p13
                    replace q13 := eq_true q13
                    go_wp2
                    go_ret
                    exact ⟨by first | rfl | (simp [errW_none, errW_some] <;> rfl) | (simp only [← hji10]; first | rfl | (simp [errW_none, errW_some] <;> rfl)) | (simp [*, errW_none, errW_some] <;> rfl), by repeat (first | (with_reducible first | exact HB.out | apply below_alloc | apply pw_below_drewN | apply below_drew1) | exact HB.out)⟩
                  · rw [if_neg c16] at H
                    exact absurd H (by simp)
                · rw [if_neg c15] at H
                  exact absurd H (by simp)
              · rw [if_neg c14] at H
                have c14b0 : ((bt t208 (ji10)) == 32) = false := beq_eq_false_iff_ne.mpr c14
                have c14b1 : ((bt t208 (ji10)) != 32) = true := bne_iff_ne.mpr c14
                by_cases c17 : 1 ≤ (t208.size : Int)
                · rw [if_pos c17] at H
                  have c17b0 := eq_true c17
                  have c17b1 : decide (1 ≤ (t208.size : Int)) = true := decide_eq_true c17
                  clear c17
                  by_cases c18 : (t208.size : Int) ≤ (t208.size : Int)
                  · rw [if_pos c18] at H
                    have c18b0 := eq_true c18
                    have c18b1 : decide ((t208.size : Int) ≤ (t208.size : Int)) = true := decide_eq_true c18
                    clear c18
                    obtain rfl := Option.some.inj H
                    have p13 : 0 ≤ ((ji10) : Int) := of_decide_eq_true (by first | (with_reducible assumption) | assumption)
                    have q13 : (ji10) < (t208.size : Int) := of_decide_eq_true (by first | (with_reducible assumption) | assumption)
                    have hx13 := bt_at t208 (ji10)
                    replace p13 := eq_true p13
                    replace q13 := eq_true q13
                    go_wp2
                    go_ret
                    exact ⟨by first | rfl | (simp [errW_none, errW_some] <;> rfl) | (simp only [← hji10]; first | rfl | (simp [errW_none, errW_some] <;> rfl)) | (simp [*, errW_none, errW_some] <;> rfl), by repeat (first | (with_reducible first | exact HB.out | apply below_alloc | apply pw_below_drewN | apply below_drew1) | exact HB.out)⟩
                  · rw [if_neg c18] at H
                    exact absurd H (by simp)
                · rw [if_neg c17] at H
                  exact absurd H (by simp)
            · rw [if_neg c12] at H
              exact absurd H (by simp)
          · rw [if_neg c11] at H
            exact absurd H (by simp)
        · rw [if_neg c9] at H
          have c9b0 : decide (1 < (t208.size : Int)) = false := decide_eq_false c9
          have c9b1 : decide (1 < t208.size) = false := decide_eq_false (by omega)
          clear c9
          by_cases c19 : 1 ≤ (t208.size : Int)
          · rw [if_pos c19] at H
            have c19b0 := eq_true c19
            have c19b1 : decide (1 ≤ (t208.size : Int)) = true := decide_eq_true c19
            clear c19
            by_cases c20 : (t208.size : Int) ≤ (t208.size : Int)
            · rw [if_pos c20] at H
              have c20b0 := eq_true c20
              have c20b1 : decide ((t208.size : Int) ≤ (t208.size : Int)) = true := decide_eq_true c20
              clear c20
              obtain rfl := Option.some.inj H
              go_wp2
              go_ret
              exact ⟨by first | rfl | (simp [errW_none, errW_some] <;> rfl) | (simp [*, errW_none, errW_some] <;> rfl), by repeat (first | (with_reducible first | exact HB.out | apply below_alloc | apply pw_below_drewN | apply below_drew1) | exact HB.out)⟩
            · rw [if_neg c20] at H
              exact absurd H (by simp)
          · rw [if_neg c19] at H
            exact absurd H (by simp)
      · replace c8 := Bool.eq_false_iff.mpr c8
        subst c8
        have H1 : (if (t208.size : Int) > 0 then (if 0 ≤ (wrap64 ((t208.size : Int) - 1)) then (if (wrap64 ((t208.size : Int) - 1)) < (t208.size : Int) then (if (bt t208 (wrap64 ((t208.size : Int) - 1))) = 32 then (if 0 ≤ 0 then (if 0 ≤ (wrap64 ((t208.size : Int) - 1)) then (if (wrap64 ((t208.size : Int) - 1)) ≤ (t208.size : Int) then (some (t208.extract (0 : Int).toNat ((wrap64 ((t208.size : Int) - 1)) : Int).toNat)) else (none)) else (none)) else (none)) else (if 0 ≤ 0 then (if 0 ≤ (t208.size : Int) then (if (t208.size : Int) ≤ (t208.size : Int) then (some (t208.extract (0 : Int).toNat ((t208.size : Int) : Int).toNat)) else (none)) else (none)) else (none))) else (none)) else (none)) else (if 0 ≤ 0 then (if 0 ≤ (t208.size : Int) then (if (t208.size : Int) ≤ (t208.size : Int) then (some (t208.extract (0 : Int).toNat ((t208.size : Int) : Int).toNat)) else (none)) else (none)) else (none))) = some r := by rw [if_neg (show ¬ (false = true) by decide)] at H; exact H
        clear H
        have H := H1
        clear H1
        by_cases c21 : (t208.size : Int) > 0
        · rw [if_pos c21] at H
          have c21b0 : decide (0 < (t208.size : Int)) = true := decide_eq_true c21
          have c21b1 : decide (0 < t208.size) = true := decide_eq_true (by omega)
          clear c21
          obtain ⟨ji22, hji22⟩ : ∃ j_ : Int, (wrap64 ((t208.size : Int) - 1)) = j_ := ⟨_, rfl⟩
          replace H : (if 0 ≤ (ji22) then (if (ji22) < (t208.size : Int) then (if (bt t208 (ji22)) = 32 then (if 0 ≤ 0 then (if 0 ≤ (ji22) then (if (ji22) ≤ (t208.size : Int) then (some (t208.extract (0 : Int).toNat ((ji22) : Int).toNat)) else (none)) else (none)) else (none)) else (if 0 ≤ 0 then (if 0 ≤ (t208.size : Int) then (if (t208.size : Int) ≤ (t208.size : Int) then (some (t208.extract (0 : Int).toNat ((t208.size : Int) : Int).toNat)) else (none)) else (none)) else (none))) else (none)) else (none)) = some r := by first | (rw [hji22] at H; exact H) | (simp only [hji22] at H ⊢; exact H)
          have hji22w : (IntKind.i64.wrap ((t208.size : Int) - 1)) = ji22 := (i64_w _).trans hji22
          by_cases c23 : 0 ≤ (ji22)
          · rw [if_pos c23] at H
            have c23b0 : decide (0 ≤ (ji22)) = true := decide_eq_true c23
            clear c23
            by_cases c24 : (ji22) < (t208.size : Int)
            · rw [if_pos c24] at H
              have c24b0 : decide ((ji22) < (t208.size : Int)) = true := decide_eq_true c24
              clear c24
              by_cases c26 : (bt t208 (ji22)) = 32
              · rw [if_pos c26] at H
                have c26b0 : ((bt t208 (ji22)) == 32) = true := beq_iff_eq.mpr c26
                have c26b1 : ((bt t208 (ji22)) != 32) = false := bne_eq_false_iff_eq.mpr c26
                clear c26
                by_cases c27 : 0 ≤ 0
                · rw [if_pos c27] at H
                  have c27b0 := eq_true c27
                  have c27b1 : decide (0 ≤ 0) = true := decide_eq_true c27
                  clear c27
                  by_cases c28 : 0 ≤ (ji22)
                  · rw [if_pos c28] at H
                    have c28b0 := eq_true c28
                    have c28b1 : decide (0 ≤ (ji22)) = true := decide_eq_true c28
                    clear c28
                    by_cases c29 : (ji22) ≤ (t208.size : Int)
                    · rw [if_pos c29] at H
                      have c29b0 := eq_true c29
                      have c29b1 : decide ((ji22) ≤ (t208.size : Int)) = true := decide_eq_true c29
                      clear c29
                      obtain rfl := Option.some.inj H
                      have p25 : 0 ≤ ((ji22) : Int) := of_decide_eq_true (by first | (with_reducible assumption) | assumption)
                      have q25 : (ji22) < (t208.size : Int) := of_decide_eq_true (by first | (with_reducible assumption) | assumption)
                      have hx25 := bt_at t208 (ji22)
                      replace p25 := eq_true p25
                      replace q25 := eq_true q25
                      go_wp2
                      go_ret
                      exact ⟨by first | rfl | (simp [errW_none, errW_some] <;> rfl) | (simp only [← hji22]; first | rfl | (simp [errW_none, errW_some] <;> rfl)) | (simp [*, errW_none, errW_some] <;> rfl), by repeat (first | (with_reducible first | exact HB.out | apply below_alloc | apply pw_below_drewN | apply below_drew1) | exact HB.out)⟩
                    · rw [if_neg c29] at H
                      exact absurd H (by simp)
                  · rw [if_neg c28] at H
                    exact absurd H (by simp)
                · rw [if_neg c27] at H
                  exact absurd H (by simp)
              · rw [if_neg c26] at H
                have c26b0 : ((bt t208 (ji22)) == 32) = false := beq_eq_false_iff_ne.mpr c26
                have c26b1 : ((bt t208 (ji22)) != 32) = true := bne_iff_ne.mpr c26
                by_cases c30 : 0 ≤ 0
                · rw [if_pos c30] at H
                  have c30b0 := eq_true c30
                  have c30b1 : decide (0 ≤ 0) = true := decide_eq_true c30
                  clear c30
                  by_cases c31 : 0 ≤ (t208.size : Int)
                  · rw [if_pos c31] at H
                    have c31b0 := eq_true c31
                    have c31b1 : decide (0 ≤ (t208.size : Int)) = true := decide_eq_true c31
                    clear c31
                    by_cases c32 : (t208.size : Int) ≤ (t208.size : Int)
                    · rw [if_pos c32] at H
                      have c32b0 := eq_true c32
                      have c32b1 : decide ((t208.size : Int) ≤ (t208.size : Int)) = true := decide_eq_true c32
                      clear c32
                      obtain rfl := Option.some.inj H
                      have p25 : 0 ≤ ((ji22) : Int) := of_decide_eq_true (by first | (with_reducible assumption) | assumption)
                      have q25 : (ji22) < (t208.size : Int) := of_decide_eq_true (by first | (with_reducible assumption) | assumption)
                      have hx25 := bt_at t208 (ji22)
                      replace p25 := eq_true p25
                      replace q25 := eq_true q25
                      go_wp2
                      go_ret
                      exact ⟨by first | rfl | (simp [errW_none, errW_some] <;> rfl) | (simp only [← hji22]; first | rfl | (simp [errW_none, errW_some] <;> rfl)) | (simp [*, errW_none, errW_some] <;> rfl), by repeat (first | (with_reducible first | exact HB.out | apply below_alloc | apply pw_below_drewN | apply below_drew1) | exact HB.out)⟩
                    · rw [if_neg c32] at H
                      exact absurd H (by simp)
                  · rw [if_neg c31] at H
                    exact absurd H (by simp)
                · rw [if_neg c30] at H
                  exact absurd H (by simp)
            · rw [if_neg c24] at H
              exact absurd H (by simp)
          · rw [if_neg c23] at H
            exact absurd H (by simp)
        · rw [if_neg c21] at H
          have c21b0 : decide (0 < (t208.size : Int)) = false := decide_eq_false c21
          have c21b1 : decide (0 < t208.size) = false := decide_eq_false (by omega)
          clear c21
          by_cases c33 : 0 ≤ 0
          · rw [if_pos c33] at H
            have c33b0 := eq_true c33
            have c33b1 : decide (0 ≤ 0) = true := decide_eq_true c33
            clear c33
            by_cases c34 : 0 ≤ (t208.size : Int)
            · rw [if_pos c34] at H
              have c34b0 := eq_true c34
              have c34b1 : decide (0 ≤ (t208.size : Int)) = true := decide_eq_true c34
              clear c34
              by_cases c35 : (t208.size : Int) ≤ (t208.size : Int)
              · rw [if_pos c35] at H
                have c35b0 := eq_true c35
                have c35b1 : decide ((t208.size : Int) ≤ (t208.size : Int)) = true := decide_eq_true c35
                clear c35
                obtain rfl := Option.some.inj H
                go_wp2
                go_ret
                exact ⟨by first | rfl | (simp [errW_none, errW_some] <;> rfl) | (simp [*, errW_none, errW_some] <;> rfl), by repeat (first | (with_reducible first | exact HB.out | apply below_alloc | apply pw_below_drewN | apply below_drew1) | exact HB.out)⟩
              · rw [if_neg c35] at H
                exact absurd H (by simp)
            · rw [if_neg c34] at H
              exact absurd H (by simp)
          · rw [if_neg c33] at H
            exact absurd H (by simp)

/-! ### text_Normal: function 25 -/
def text_Normal.f (k : Nat) (a0 : ByteArray) : Option (ByteArray) := (text_Fold.f a0).bind fun t209 => ((text_Squeeze.f k t209).bind fun t210 => (some t210))
theorem text_Normal.mono : ∀ a0 k, LeO (text_Normal.f k a0) (text_Normal.f (k + 1) a0) := by
  intro a0 k
  unfold text_Normal.f
  repeat' first
      | (with_reducible exact text_Squeeze.mono _ _)
      | (with_reducible exact LeO.refl _)
      | (with_reducible exact LeO.none _)
      | (with_reducible refine LeO.ite ?_ ?_)
      | (with_reducible refine LeO.bind ?_ (fun _ => ?_))
      | exact text_Squeeze.mono _ _
      | exact LeO.none _
      | refine LeO.ite ?_ ?_
      | refine LeO.bind ?_ (fun _ => ?_)
set_option maxHeartbeats 8000000 in
set_option maxRecDepth 100000 in
theorem text_Normal.calls (k : Nat) (a0 : ByteArray) (r : ByteArray) (w : World) (h : text_Normal.f k a0 = some r) :
    Calls Tryd.prog 25 #[.string a0] w fun e w' => e = .returned (.string r) ∧ Below w.heap.size w w' := by
  have HB := Aside0.mk (Below.refl w.heap.size w)
  have H : ((text_Fold.f a0).bind fun t209 => ((text_Squeeze.f k t209).bind fun t210 => (some t210))) = some r := h
  clear h
  replace H := Option.bind_eq_some_iff.mp H
  obtain ⟨t209, A20, H⟩ := H
  replace H : ((text_Squeeze.f k t209).bind fun t210 => (some t210)) = some r := H
  have A2 := Aside0.mk A20
  clear A20
  replace H := Option.bind_eq_some_iff.mp H
  obtain ⟨t210, A30, H⟩ := H
  replace H : (some t210) = some r := H
  have A3 := Aside0.mk A30
  clear A30
  obtain rfl := Option.some.inj H
  go_enter Tryd.func25, Tryd.ntmps25
  go_wp2_with (first | ((with_reducible refine gate_callee (f := 19) rfl ?_); refine goesL_ (some 4) rfl rfl Tryd.func19 (by kernel_rfl) rfl #[.string a0] rfl (by (try simp only [List.map_toArray, List.map_cons, List.map_nil]); first | done | rfl | (simp only [List.length_drop, List.length_take]; rfl)) ?_; (with_reducible refine (text_Fold.calls a0 t209 _ A2.out).mono ?_); rintro e w4 ⟨rfl, hb⟩; refine ⟨_, rfl, ?_⟩; have n0_ := Aside0.mk (below_step (by repeat (first | (with_reducible first | exact HB.out | apply below_alloc | apply pw_below_drewN | apply below_drew1) | exact HB.out)) hb); clear HB; have HB := n0_; clear n0_; (try clear hb); (try clear hb2); (try clear hk); (try clear hi)) | ((with_reducible refine gate_callee (f := 23) rfl ?_); refine goesL_ (some 5) rfl rfl Tryd.func23 (by kernel_rfl) rfl #[.string t209] rfl (by (try simp only [List.map_toArray, List.map_cons, List.map_nil]); first | done | rfl | (simp only [List.length_drop, List.length_take]; rfl)) ?_; (with_reducible refine (text_Squeeze.calls k t209 t210 _ A3.out).mono ?_); rintro e w5 ⟨rfl, hb⟩; refine ⟨_, rfl, ?_⟩; have n0_ := Aside0.mk (below_step (by repeat (first | (with_reducible first | exact HB.out | apply below_alloc | apply pw_below_drewN | apply below_drew1) | exact HB.out)) hb); clear HB; have HB := n0_; clear n0_; (try clear hb); (try clear hb2); (try clear hk); (try clear hi)))
  go_ret
  exact ⟨by first | rfl | (simp [errW_none, errW_some] <;> rfl) | (simp [*, errW_none, errW_some] <;> rfl), by repeat (first | (with_reducible first | exact HB.out | apply below_alloc | apply pw_below_drewN | apply below_drew1) | exact HB.out)⟩

/-! ### rosterref01_Normal: function 26 -/
def rosterref01_Normal.f (k : Nat) (a0 : ByteArray) : Option (ByteArray) := (rosterref01_Fold.f k a0).bind fun t211 => ((rosterref01_Squeeze.f k t211).bind fun t212 => (some t212))
theorem rosterref01_Normal.mono : ∀ a0 k, LeO (rosterref01_Normal.f k a0) (rosterref01_Normal.f (k + 1) a0) := by
  intro a0 k
  unfold rosterref01_Normal.f
  repeat' first
      | (with_reducible exact rosterref01_Fold.mono _ _)
      | (with_reducible exact rosterref01_Squeeze.mono _ _)
      | (with_reducible exact LeO.refl _)
      | (with_reducible exact LeO.none _)
      | (with_reducible refine LeO.ite ?_ ?_)
      | (with_reducible refine LeO.bind ?_ (fun _ => ?_))
      | exact rosterref01_Fold.mono _ _
      | exact rosterref01_Squeeze.mono _ _
      | exact LeO.none _
      | refine LeO.ite ?_ ?_
      | refine LeO.bind ?_ (fun _ => ?_)
set_option maxHeartbeats 8000000 in
set_option maxRecDepth 100000 in
theorem rosterref01_Normal.calls (k : Nat) (a0 : ByteArray) (r : ByteArray) (w : World) (h : rosterref01_Normal.f k a0 = some r) :
    Calls Tryd.prog 26 #[.string a0] w fun e w' => e = .returned (.string r) ∧ Below w.heap.size w w' := by
  have HB := Aside0.mk (Below.refl w.heap.size w)
  have H : ((rosterref01_Fold.f k a0).bind fun t211 => ((rosterref01_Squeeze.f k t211).bind fun t212 => (some t212))) = some r := h
  clear h
  replace H := Option.bind_eq_some_iff.mp H
  obtain ⟨t211, A20, H⟩ := H
  replace H : ((rosterref01_Squeeze.f k t211).bind fun t212 => (some t212)) = some r := H
  have A2 := Aside0.mk A20
  clear A20
  replace H := Option.bind_eq_some_iff.mp H
  obtain ⟨t212, A30, H⟩ := H
  replace H : (some t212) = some r := H
  have A3 := Aside0.mk A30
  clear A30
  obtain rfl := Option.some.inj H
  go_enter Tryd.func26, Tryd.ntmps26
  go_wp2_with (first | ((with_reducible refine gate_callee (f := 20) rfl ?_); refine goesL_ (some 5) rfl rfl Tryd.func20 (by kernel_rfl) rfl #[.string a0] rfl (by (try simp only [List.map_toArray, List.map_cons, List.map_nil]); first | done | rfl | (simp only [List.length_drop, List.length_take]; rfl)) ?_; (with_reducible refine (rosterref01_Fold.calls k a0 t211 _ A2.out).mono ?_); rintro e w4 ⟨rfl, hb⟩; refine ⟨_, rfl, ?_⟩; have n0_ := Aside0.mk (below_step (by repeat (first | (with_reducible first | exact HB.out | apply below_alloc | apply pw_below_drewN | apply below_drew1) | exact HB.out)) hb); clear HB; have HB := n0_; clear n0_; (try clear hb); (try clear hb2); (try clear hk); (try clear hi)) | ((with_reducible refine gate_callee (f := 24) rfl ?_); refine goesL_ (some 7) rfl rfl Tryd.func24 (by kernel_rfl) rfl #[.string t211] rfl (by (try simp only [List.map_toArray, List.map_cons, List.map_nil]); first | done | rfl | (simp only [List.length_drop, List.length_take]; rfl)) ?_; (with_reducible refine (rosterref01_Squeeze.calls k t211 t212 _ A3.out).mono ?_); rintro e w5 ⟨rfl, hb⟩; refine ⟨_, rfl, ?_⟩; have n0_ := Aside0.mk (below_step (by repeat (first | (with_reducible first | exact HB.out | apply below_alloc | apply pw_below_drewN | apply below_drew1) | exact HB.out)) hb); clear HB; have HB := n0_; clear n0_; (try clear hb); (try clear hb2); (try clear hk); (try clear hi)))
  go_ret
  exact ⟨by first | rfl | (simp [errW_none, errW_some] <;> rfl) | (simp [*, errW_none, errW_some] <;> rfl), by repeat (first | (with_reducible first | exact HB.out | apply below_alloc | apply pw_below_drewN | apply below_drew1) | exact HB.out)⟩

/-! ### text_Hex: function 27 -/
def text_Hex.l0 : Nat → ByteArray → List Int → Int → Int → Option (ByteArray)
  | 0, _, _, _, _ => none
  | k + 1, x0, x3, x10, x11 => if x11 < x10 then (if 0 ≤ x11 then (if x11 < (x0.size : Int) then (if 0 ≤ ((bt x0 x11) / 16) then (if ((bt x0 x11) / 16) < 16 then (if 0 ≤ (Go.bits .and .u8 (bt x0 x11) 15) then (if (Go.bits .and .u8 (bt x0 x11) 15) < 16 then ((some (([rd hexL ((bt x0 x11) / 16), rd hexL (Go.bits .and .u8 (bt x0 x11) 15)] : List Int) : List Int)).bind fun y218 => (if x3.length + y218.length < 140737488355328 then (text_Hex.l0 k x0 (x3 ++ y218) x10 (wrap64 (x11 + 1))) else (none))) else (none)) else (none)) else (none)) else (none)) else (none)) else (none)) else (some (strOfNums x3))
def text_Hex.f (k : Nat) (a0 : ByteArray) : Option (ByteArray) := if 0 ≤ (wrap64 (2 * (a0.size : Int))) then (if (wrap64 (2 * (a0.size : Int)) : Int).toNat ≤ 281474976710656 then (text_Hex.l0 k a0 (([] : List Int)) (a0.size : Int) 0) else (none)) else (none)
theorem text_Hex.mono_l : ∀ k, (∀ y0 y1 y2 y3, LeO (text_Hex.l0 k y0 y1 y2 y3) (text_Hex.l0 (k + 1) y0 y1 y2 y3))
  | 0 => fun _ _ _ _ r h => by simp [text_Hex.l0] at h
  | k + 1 => by
    have ih0 := text_Hex.mono_l k
    · intro y0 y1 y2 y3
      unfold text_Hex.l0
      repeat' first
      | (with_reducible exact ih0 _ _ _ _)
      | (with_reducible exact LeO.refl _)
      | (with_reducible exact LeO.none _)
      | (with_reducible refine LeO.ite ?_ ?_)
      | (with_reducible refine LeO.bind ?_ (fun _ => ?_))
      | exact ih0 _ _ _ _
      | exact LeO.none _
      | refine LeO.ite ?_ ?_
      | refine LeO.bind ?_ (fun _ => ?_)
theorem text_Hex.mono : ∀ a0 k, LeO (text_Hex.f k a0) (text_Hex.f (k + 1) a0) := by
  intro a0 k
  have ih0 := text_Hex.mono_l k
  unfold text_Hex.f
  repeat' first
      | (with_reducible exact ih0 _ _ _ _)
      | (with_reducible exact LeO.refl _)
      | (with_reducible exact LeO.none _)
      | (with_reducible refine LeO.ite ?_ ?_)
      | (with_reducible refine LeO.bind ?_ (fun _ => ?_))
      | exact ih0 _ _ _ _
      | exact LeO.none _
      | refine LeO.ite ?_ ?_
      | refine LeO.bind ?_ (fun _ => ?_)
def text_Hex.T5 : Bool × List (List Nat × List Nat) := (true, [([], []), ([], []), ([], []), ([1, 2], [1, 2]), ([3], [3]), ([4], [4]), ([5], [5]), ([], []), ([], []), ([7, 8], [7, 8]), ([9], [9]), ([10], [10]), ([11], [11]), ([6, 12], [6, 12]), ([0, 13], [0, 13]), ([14, 14, 0, 1, 2, 3, 4, 5, 6, 7, 8, 9, 10, 11, 12, 13, 14], [0, 14])])
def text_Hex.B5 : List Nat := [0, 0, 0, 6, 14, 30, 62, 0, 0, 384, 896, 1920, 3968, 8190, 16383, 32767]
theorem text_Hex.tab5 : rtab .any (opsOf Tryd.f27 5) = text_Hex.T5 := by kernel_rfl
theorem text_Hex.bits5 : waitsOk text_Hex.T5.2 text_Hex.B5 = true := by kernel_rfl
set_option maxHeartbeats 8000000 in
set_option maxRecDepth 100000 in
theorem text_Hex.calls (k : Nat) (a0 : ByteArray) (r : ByteArray) (w : World) (hG : Tabs w) (h : text_Hex.f k a0 = some r) :
    Calls Tryd.prog 27 #[.string a0] w fun e w' => e = .returned (.string r) ∧ Below w.heap.size w w' := by
  have HRG1 := Aside0.mk (Tabs_1 hG)
  have HB := Aside0.mk (Below.refl w.heap.size w)
  have H : (if 0 ≤ (wrap64 (2 * (a0.size : Int))) then (if (wrap64 (2 * (a0.size : Int)) : Int).toNat ≤ 281474976710656 then (text_Hex.l0 k a0 (([] : List Int)) (a0.size : Int) 0) else (none)) else (none)) = some r := h
  clear h
  obtain ⟨ji2, hji2⟩ : ∃ j_ : Int, (wrap64 (2 * (a0.size : Int))) = j_ := ⟨_, rfl⟩
  replace H : (if 0 ≤ (ji2) then (if (ji2 : Int).toNat ≤ 281474976710656 then (text_Hex.l0 k a0 (([] : List Int)) (a0.size : Int) 0) else (none)) else (none)) = some r := by first | (rw [hji2] at H; exact H) | (simp only [hji2] at H ⊢; exact H)
  have hji2w : (IntKind.i64.wrap (2 * (a0.size : Int))) = ji2 := (i64_w _).trans hji2
  by_cases c3 : 0 ≤ (ji2)
  · rw [if_pos c3] at H
    have c3b0 := eq_true c3
    have c3b1 : decide (0 ≤ (ji2)) = true := decide_eq_true c3
    clear c3
    by_cases c4 : (ji2 : Int).toNat ≤ 281474976710656
    · rw [if_pos c4] at H
      have c4b0 := eq_true c4
      have c4b1 : decide ((ji2 : Int).toNat ≤ 281474976710656) = true := decide_eq_true c4
      clear c4
      obtain ⟨y213, hy213⟩ : ∃ y_ : List Int, y_ = (([] : List Int)) := ⟨_, rfl⟩
      replace H : (text_Hex.l0 k a0 y213 (a0.size : Int) 0) = some r := by first | (rw [hy213]; with_reducible exact H) | (have H2_ := (Option.bind_some _ _).symm.trans H; rw [hy213]; with_reducible exact H2_) | (have H2_ := (Option.bind_some _ _).symm.trans H; with_reducible exact H2_) | with_reducible exact H | (rw [hy213]; exact H) | exact H
      have Ny213 := Aside0.mk hy213
      clear hy213
      have H' := Aside0.mk H
      clear H
      go_enter Tryd.func27, Tryd.ntmps27
      go_wp2_with (first | ((with_reducible refine gate_dst (N := 8) rfl ?_); refine Go.Proofs.YtppnhlkfkedlmaaDoor.XW.R_makecap (Kd.int .u8) _ 5 rfl (N := 8) rfl 28 _ _ rfl ji2 rfl rfl Tryd.underlying28 (.int .u8 0) 1 info5 (by decide) (by omega) (ok := fun _ => True) trivial (of_decide_eq_true (by first | (with_reducible assumption) | assumption)) (Nat.le_trans (Nat.mul_le_mul_right _ (of_decide_eq_true (by first | (with_reducible assumption) | assumption) : ji2.toNat ≤ 281474976710656)) (by omega)) (Below.refl _ _) (Nat.le_refl _) ?_; intro v214 w5 ho6 hb hg_ hnew_; clear hg_ hnew_; (first | rw [← Ny213.out] at ho6 | (simp only [Int.reduceToNat] at ho6; rw [← Ny213.out] at ho6)); have n0_ := Aside0.mk (Kd.R_lower ho6 (below_size (by repeat (first | (with_reducible first | exact HB.out | apply below_alloc | apply pw_below_drewN | apply below_drew1) | exact HB.out)))); have n1_ := Aside0.mk (below_step (by repeat (first | (with_reducible first | exact HB.out | apply below_alloc | apply pw_below_drewN | apply below_drew1) | exact HB.out)) hb); clear HB; have HO215 := n0_; have HB := n1_; clear n0_ n1_; clear hb ho6))
      go_loopg [3, 11] k (fun kq v3 v11 w' => ∃ (x3_1 : List Int) (x11_1 : Int), v11 = .int .i64 x11_1 ∧ Aside0 (text_Hex.l0 kq a0 x3_1 (a0.size : Int) x11_1 = some r) ∧ Aside0 (kq ≤ k) ∧ Aside0 (Kd.R (Kd.int .u8) 5 w' w.heap.size (fun _ => True) v3 x3_1) ∧ Aside0 (Below w.heap.size w w'))
      case atStart => exact ⟨(y213), (0), (by first | rfl | (simp; done) | (simp [*]; done)), H', ⟨Nat.le_refl _⟩, ⟨by (with_reducible repeat (first | apply Kd.R_alloc | apply Kd.R_drewN | apply Kd.R_drew)); exact HO215.out⟩, ⟨by repeat (first | (with_reducible first | exact HB.out | apply below_alloc | apply pw_below_drewN | apply below_drew1) | exact HB.out)⟩⟩
      case round =>
        clear H'
        try clear c2
        try clear p2
        try clear c3
        try clear c3b0
        try clear c3b1
        try clear c4
        try clear c4b0
        try clear c4b1
        try clear p6
        obtain ⟨x3_1, x11_1, rfl, HA, HK1, HO_3, HB⟩ := hrel
        cases gk with
        | zero => exact absurd HA.out (by simp [text_Hex.l0])
        | succ k1 =>
          have H := HA.out
          clear HA
          simp only [text_Hex.l0] at H
          by_cases c7 : x11_1 < (a0.size : Int)
          · rw [if_pos c7] at H
            have c7b0 : decide (x11_1 < (a0.size : Int)) = true := decide_eq_true c7
            clear c7
            by_cases c8 : 0 ≤ x11_1
            · rw [if_pos c8] at H
              have c8b0 : decide (0 ≤ x11_1) = true := decide_eq_true c8
              clear c8
              by_cases c9 : x11_1 < (a0.size : Int)
              · rw [if_pos c9] at H
                have c9b0 : decide (x11_1 < (a0.size : Int)) = true := decide_eq_true c9
                clear c9
                obtain ⟨ji11, hji11⟩ : ∃ j_ : Int, ((bt a0 x11_1) / 16) = j_ := ⟨_, rfl⟩
                replace H : (if 0 ≤ (ji11) then (if (ji11) < 16 then (if 0 ≤ (Go.bits .and .u8 (bt a0 x11_1) 15) then (if (Go.bits .and .u8 (bt a0 x11_1) 15) < 16 then ((some (([rd hexL (ji11), rd hexL (Go.bits .and .u8 (bt a0 x11_1) 15)] : List Int) : List Int)).bind fun y218 => (if x3_1.length + y218.length < 140737488355328 then (text_Hex.l0 k1 a0 (x3_1 ++ y218) (a0.size : Int) (wrap64 (x11_1 + 1))) else (none))) else (none)) else (none)) else (none)) else (none)) = some r := by first | (rw [hji11] at H; exact H) | (simp only [hji11] at H ⊢; exact H)
                by_cases c12 : 0 ≤ (ji11)
                · rw [if_pos c12] at H
                  have c12b0 : decide (0 ≤ (ji11)) = true := decide_eq_true c12
                  clear c12
                  by_cases c13 : (ji11) < 16
                  · rw [if_pos c13] at H
                    have c13b0 : decide ((ji11) < 16) = true := decide_eq_true c13
                    clear c13
                    by_cases c15 : 0 ≤ (Go.bits .and .u8 (bt a0 x11_1) 15)
                    · rw [if_pos c15] at H
                      have c15b0 : decide (0 ≤ (Go.bits .and .u8 (bt a0 x11_1) 15)) = true := decide_eq_true c15
                      clear c15
                      by_cases c16 : (Go.bits .and .u8 (bt a0 x11_1) 15) < 16
                      · rw [if_pos c16] at H
                        have c16b0 : decide ((Go.bits .and .u8 (bt a0 x11_1) 15) < 16) = true := decide_eq_true c16
                        clear c16
                        obtain ⟨y218, hy218⟩ : ∃ y_ : List Int, y_ = (([rd hexL (ji11), rd hexL (Go.bits .and .u8 (bt a0 x11_1) 15)] : List Int)) := ⟨_, rfl⟩
                        replace H : (if x3_1.length + y218.length < 140737488355328 then (text_Hex.l0 k1 a0 (x3_1 ++ y218) (a0.size : Int) (wrap64 (x11_1 + 1))) else (none)) = some r := by first | (rw [hy218]; with_reducible exact H) | (have H2_ := (Option.bind_some _ _).symm.trans H; rw [hy218]; with_reducible exact H2_) | (have H2_ := (Option.bind_some _ _).symm.trans H; with_reducible exact H2_) | with_reducible exact H | (rw [hy218]; exact H) | exact H
                        have Ny218 := Aside0.mk hy218
                        clear hy218
                        by_cases c17 : x3_1.length + y218.length < 140737488355328
                        · rw [if_pos c17] at H
                          have LMc17 := Aside0.mk c17
                          clear c17
                          obtain ⟨y221, hy221⟩ : ∃ y_ : List Int, y_ = (x3_1 ++ y218) := ⟨_, rfl⟩
                          replace H : (text_Hex.l0 k1 a0 y221 (a0.size : Int) (wrap64 (x11_1 + 1))) = some r := by first | (rw [hy221]; with_reducible exact H) | (have H2_ := (Option.bind_some _ _).symm.trans H; rw [hy221]; with_reducible exact H2_) | (have H2_ := (Option.bind_some _ _).symm.trans H; with_reducible exact H2_) | with_reducible exact H | (rw [hy221]; exact H) | exact H
                          have Ny221 := Aside0.mk hy221
                          clear hy221
                          have H' := Aside0.mk H
                          clear H
                          try go_wp2
                          have n0_ := Aside0.mk (Kd.R_drew HO_3.out)
                          have n1_ := Aside0.mk (below_drew1 HB.out)
                          clear HO_3
                          clear HB
                          have HO_3 := n0_
                          have HB := n1_
                          clear n0_ n1_
                          have p10 : 0 ≤ (x11_1 : Int) := of_decide_eq_true (by first | (with_reducible assumption) | assumption)
                          have q10 : x11_1 < (a0.size : Int) := of_decide_eq_true (by first | (with_reducible assumption) | assumption)
                          have hx10 := bt_at a0 x11_1
                          replace p10 := eq_true p10
                          replace q10 := eq_true q10
                          have p216 : 0 ≤ ((ji11) : Int) := of_decide_eq_true (by first | (with_reducible assumption) | assumption)
                          have q216 : (ji11) < (hexL.length : Int) := of_decide_eq_true (by first | (with_reducible assumption) | assumption)
                          have ql216 : (((ji11) : Int) < (16 : Int)) = True := eq_true (of_decide_eq_true (by first | (with_reducible assumption) | assumption))
                          obtain ⟨ad216, e216, hx216_0⟩ := Kd.at_int HRG1.out (ji11) p216 q216
                          have hw216_0 := hx216_0
                          obtain rfl : (⟨1, 0, none⟩ : Addr) = ad216 := (by injection e216)
                          (first | simp only [add_plain] at hw216_0 | simp only [add_at] at hw216_0 | simp only [Addr.add, Nat.zero_add] at hw216_0 | skip)
                          ((first | simp only [add_plain] at hx216_0 | simp only [add_at] at hx216_0 | simp only [Addr.add, Nat.zero_add] at hx216_0 | skip); (try simp only [Int.toNat_zero, Nat.add_zero] at hx216_0))
                          replace hx216_0 := (HB.out.cell (World.block_lt_of_cell? w _ hx216_0)).trans hx216_0
                          replace p216 := eq_true p216
                          replace q216 := eq_true q216
                          have p14 : 0 ≤ (x11_1 : Int) := of_decide_eq_true (by first | (with_reducible assumption) | assumption)
                          have q14 : x11_1 < (a0.size : Int) := of_decide_eq_true (by first | (with_reducible assumption) | assumption)
                          have hx14 := bt_at a0 x11_1
                          replace p14 := eq_true p14
                          replace q14 := eq_true q14
                          have p217 : 0 ≤ ((Go.bits .and .u8 (bt a0 x11_1) 15) : Int) := of_decide_eq_true (by first | (with_reducible assumption) | assumption)
                          have q217 : (Go.bits .and .u8 (bt a0 x11_1) 15) < (hexL.length : Int) := of_decide_eq_true (by first | (with_reducible assumption) | assumption)
                          have ql217 : (((Go.bits .and .u8 (bt a0 x11_1) 15) : Int) < (16 : Int)) = True := eq_true (of_decide_eq_true (by first | (with_reducible assumption) | assumption))
                          obtain ⟨ad217, e217, hx217_0⟩ := Kd.at_int HRG1.out (Go.bits .and .u8 (bt a0 x11_1) 15) p217 q217
                          have hw217_0 := hx217_0
                          obtain rfl : (⟨1, 0, none⟩ : Addr) = ad217 := (by injection e217)
                          (first | simp only [add_plain] at hw217_0 | simp only [add_at] at hw217_0 | simp only [Addr.add, Nat.zero_add] at hw217_0 | skip)
                          ((first | simp only [add_plain] at hx217_0 | simp only [add_at] at hx217_0 | simp only [Addr.add, Nat.zero_add] at hx217_0 | skip); (try simp only [Int.toNat_zero, Nat.add_zero] at hx217_0))
                          replace hx217_0 := (HB.out.cell (World.block_lt_of_cell? w _ hx217_0)).trans hx217_0
                          replace p217 := eq_true p217
                          replace q217 := eq_true q217
                          refine start_ (n := 16) (S := fun w' => w'.cell? ⟨1, ((ji11)).toNat, none⟩ = some (.int .u8 (rd hexL (ji11))) ∧ w'.cell? ⟨1, ((Go.bits .and .u8 (bt a0 x11_1) 15)).toNat, none⟩ = some (.int .u8 (rd hexL (Go.bits .and .u8 (bt a0 x11_1) 15)))) (ds := []) #[false, false, false, false, false, false, false, false, false, false, false, false, false, false, false, false] (by kernel_rfl) rfl rfl ⟨((HB.out.cell (World.block_lt_of_cell? w _ hw216_0)).trans hw216_0), ((HB.out.cell (World.block_lt_of_cell? w _ hw217_0)).trans hw217_0)⟩ (fun hHeld => ?_); refine with_tabW text_Hex.tab5 text_Hex.bits5 (fun HT_ HW_ => ?_)
                          generalize wr.drew = w18 at HO_3 HB hx216_0 hx217_0 hHeld ⊢
                          refine pure_ (i := 0) (N := some 14) (v := ?_) (a' := ?_) #[true, false, false, false, false, false, false, false, false, false, false, false, false, false, false, false] rfl rfl (any_of HT_.out (by kernel_rfl)) (fun _ _ _ h => h) (Or.inl ⟨by rfl, ?_⟩) ?_ ?_
                          rotate_left
                          · intro w'
                            go_simp
                            with_reducible rfl
                          rotate_left
                          · simp only [Act.put, List.setIfInBounds_toArray, List.set_cons_zero, List.set_cons_succ, i64_w, i32_w]
                            rfl
                          refine pure_ (i := 1) (N := some 15) (v := ?_) (a' := ?_) #[true, true, false, false, false, false, false, false, false, false, false, false, false, false, false, false] rfl rfl (any_of HT_.out (by kernel_rfl)) (fun _ _ _ h => h) (Or.inl ⟨by rfl, ?_⟩) ?_ ?_
                          rotate_left
                          · intro w'
                            go_simp
                            with_reducible rfl
                          rotate_left
                          · simp only [Act.put, List.setIfInBounds_toArray, List.set_cons_zero, List.set_cons_succ, i64_w, i32_w]
                            rfl
                          refine pure_ (i := 2) (N := some 16) (v := ?_) (a' := ?_) #[true, true, true, false, false, false, false, false, false, false, false, false, false, false, false, false] rfl rfl (any_of HT_.out (by kernel_rfl)) (fun _ _ _ h => h) (Or.inl ⟨by rfl, ?_⟩) ?_ ?_
                          rotate_left
                          · intro w'
                            go_simp
                            with_reducible rfl
                          rotate_left
                          · simp only [Act.put, List.setIfInBounds_toArray, List.set_cons_zero, List.set_cons_succ, i64_w, i32_w]
                            rfl
                          refine pure_ (i := 7) (N := some 21) (v := ?_) (a' := ?_) #[true, true, true, false, false, false, false, true, false, false, false, false, false, false, false, false] rfl rfl (any_of HT_.out (by kernel_rfl)) (fun _ _ _ h => h) (Or.inl ⟨by rfl, ?_⟩) ?_ ?_
                          rotate_left
                          · intro w'
                            go_simp
                            with_reducible rfl
                          rotate_left
                          · simp only [Act.put, List.setIfInBounds_toArray, List.set_cons_zero, List.set_cons_succ, i64_w, i32_w]
                            rfl
                          refine pure_ (i := 8) (N := some 22) (v := ?_) (a' := ?_) #[true, true, true, false, false, false, false, true, true, false, false, false, false, false, false, false] rfl rfl (any_of HT_.out (by kernel_rfl)) (fun _ _ _ h => h) (Or.inl ⟨by rfl, ?_⟩) ?_ ?_
                          rotate_left
                          · intro w'
                            go_simp
                            with_reducible rfl
                          rotate_left
                          · simp only [Act.put, List.setIfInBounds_toArray, List.set_cons_zero, List.set_cons_succ, i64_w, i32_w]
                            rfl
                          refine take_ (i := 3) (N := some 17) (v := ?_) (a' := ?_) #[true, true, true, true, false, false, false, true, true, false, false, false, false, false, false, false] rfl rfl (take_ofW HT_.out HW_.out (by kernel_rfl)) (fun _ _ _ h => h) (Or.inl ⟨by rfl, ?_⟩) hHeld ?_ ?_
                          rotate_left
                          · rintro w' ⟨s0, s1⟩
                            go_simp
                            with_reducible rfl
                          rotate_left
                          · simp only [Act.put, List.setIfInBounds_toArray, List.set_cons_zero, List.set_cons_succ, i64_w, i32_w]
                            rfl
                          refine pure_ (i := 4) (N := some 18) (v := ?_) (a' := ?_) #[true, true, true, true, true, false, false, true, true, false, false, false, false, false, false, false] rfl rfl (any_of HT_.out (by kernel_rfl)) (fun _ _ _ h => h) (Or.inl ⟨by rfl, ?_⟩) ?_ ?_
                          rotate_left
                          · intro w'
                            go_simp
                            with_reducible rfl
                          rotate_left
                          · simp only [Act.put, List.setIfInBounds_toArray, List.set_cons_zero, List.set_cons_succ, i64_w, i32_w]
                            rfl
                          refine pure_ (i := 5) (N := some 19) (v := ?_) (a' := ?_) #[true, true, true, true, true, true, false, true, true, false, false, false, false, false, false, false] rfl rfl (any_of HT_.out (by kernel_rfl)) (fun _ _ _ h => h) (Or.inl ⟨by rfl, ?_⟩) ?_ ?_
                          rotate_left
                          · intro w'
                            go_simp
                            with_reducible rfl
                          rotate_left
                          · simp only [Act.put, List.setIfInBounds_toArray, List.set_cons_zero, List.set_cons_succ, i64_w, i32_w]
                            rfl
                          refine take_ (i := 6) (N := some 20) (v := ?_) (a' := ?_) #[true, true, true, true, true, true, true, true, true, false, false, false, false, false, false, false] rfl rfl (take_ofW HT_.out HW_.out (by kernel_rfl)) (fun _ _ _ h => h) (Or.inl ⟨by rfl, ?_⟩) hHeld ?_ ?_
                          rotate_left
                          · rintro w' ⟨s0, s1⟩
                            go_simp
                            with_reducible rfl
                          rotate_left
                          · simp only [Act.put, List.setIfInBounds_toArray, List.set_cons_zero, List.set_cons_succ, i64_w, i32_w]
                            rfl
                          refine take_ (i := 9) (N := some 23) (v := ?_) (a' := ?_) #[true, true, true, true, true, true, true, true, true, true, false, false, false, false, false, false] rfl rfl (take_ofW HT_.out HW_.out (by kernel_rfl)) (fun _ _ _ h => h) (Or.inl ⟨by rfl, ?_⟩) hHeld ?_ ?_
                          rotate_left
                          · rintro w' ⟨s0, s1⟩
                            go_simp
                            with_reducible rfl
                          rotate_left
                          · simp only [Act.put, List.setIfInBounds_toArray, List.set_cons_zero, List.set_cons_succ, i64_w, i32_w]
                            rfl
                          refine pure_ (i := 10) (N := some 24) (v := ?_) (a' := ?_) #[true, true, true, true, true, true, true, true, true, true, true, false, false, false, false, false] rfl rfl (any_of HT_.out (by kernel_rfl)) (fun _ _ _ h => h) (Or.inl ⟨by rfl, ?_⟩) ?_ ?_
                          rotate_left
                          · intro w'
                            go_simp
                            with_reducible rfl
                          rotate_left
                          · simp only [Act.put, List.setIfInBounds_toArray, List.set_cons_zero, List.set_cons_succ, i64_w, i32_w]
                            rfl
                          refine pure_ (i := 11) (N := some 25) (v := ?_) (a' := ?_) #[true, true, true, true, true, true, true, true, true, true, true, true, false, false, false, false] rfl rfl (any_of HT_.out (by kernel_rfl)) (fun _ _ _ h => h) (Or.inl ⟨by rfl, ?_⟩) ?_ ?_
                          rotate_left
                          · intro w'
                            go_simp
                            with_reducible rfl
                          rotate_left
                          · simp only [Act.put, List.setIfInBounds_toArray, List.set_cons_zero, List.set_cons_succ, i64_w, i32_w]
                            rfl
                          refine take_ (i := 12) (N := some 26) (v := ?_) (a' := ?_) #[true, true, true, true, true, true, true, true, true, true, true, true, true, false, false, false] rfl rfl (take_ofW HT_.out HW_.out (by kernel_rfl)) (fun _ _ _ h => h) (Or.inl ⟨by rfl, ?_⟩) hHeld ?_ ?_
                          rotate_left
                          · rintro w' ⟨s0, s1⟩
                            go_simp
                            with_reducible rfl
                          rotate_left
                          · simp only [Act.put, List.setIfInBounds_toArray, List.set_cons_zero, List.set_cons_succ, i64_w, i32_w]
                            rfl
                          refine one_ (i := 13) (N := some 27) #[true, true, true, true, true, true, true, true, true, true, true, true, true, true, false, false] rfl rfl (one_of HT_.out (by kernel_rfl)) (by decide) (fun K hK => ?_)
                          refine Kd.R_lit_step (Kd.int .u8) _ 5 ?hg (N := 27) ?hd (xs := ([rd hexL (ji11), rd hexL (Go.bits .and .u8 (bt a0 x11_1) 15)] : List Int)) (inner := [.int .u8 (rd hexL (ji11)), .int .u8 (rd hexL (Go.bits .and .u8 (bt a0 x11_1) 15))]) (ok := fun _ => True) (okp := fun _ => True) ?hr ?hp (fun _ hk => hk) trivial (Below.refl _ _) (Nat.le_refl _) (by simp) ?_; (case hd => rfl); (case hg => rfl); (case hr => first | (go_simp; done) | (go_simp; rfl)); (case hp => exact (Reps.one (show Kd.M (Kd.int .u8) _ _ _ (rd hexL (ji11)) [.int .u8 (rd hexL (ji11))] from rfl) (Reps.one (show Kd.M (Kd.int .u8) _ _ _ (rd hexL (Go.bits .and .u8 (bt a0 x11_1) 15)) [.int .u8 (rd hexL (Go.bits .and .u8 (bt a0 x11_1) 15))] from rfl) (Reps.none _ _))))
                          intro v219 w19 ho20 hb hg_ hnew_
                          clear hg_ hnew_
                          (first | rw [← Ny218.out] at ho20 | (simp only [Int.reduceToNat] at ho20; rw [← Ny218.out] at ho20))
                          have n0_ := Aside0.mk (Kd.R_elder' (by (with_reducible repeat (first | apply Kd.R_alloc | apply Kd.R_drewN | apply Kd.R_drew)); exact HO_3.out) (Kd.R_base ho20) hb)
                          have n1_ := Aside0.mk (Kd.R_lower (Kd.R_new' ho20 (Kd.R_lt (by (with_reducible repeat (first | apply Kd.R_alloc | apply Kd.R_drewN | apply Kd.R_drew)); exact HO_3.out))) (below_size (by repeat (first | (with_reducible first | exact HB.out | apply below_alloc | apply pw_below_drewN | apply below_drew1) | exact HB.out))))
                          have n2_ := Aside0.mk (below_step (by repeat (first | (with_reducible first | exact HB.out | apply below_alloc | apply pw_below_drewN | apply below_drew1) | exact HB.out)) hb)
                          clear HO_3
                          clear HB
                          have HO_3 := n0_
                          have HO220 := n1_
                          have HB := n2_
                          clear n0_ n1_ n2_
                          clear hb ho20
                          obtain ⟨Ao22, co22, eo22⟩ := Kd.R_slice HO220.out
                          (first | subst eo22 | (injection eo22 with f1_ f2_ f3_; have f4_ := f1_.symm; have f5_ := f3_.symm; clear f1_ f2_ f3_; subst f4_; subst f5_))
                          refine hK.out _ _ ⟨((HB.out.cell (World.block_lt_of_cell? w _ hw216_0)).trans hw216_0), ((HB.out.cell (World.block_lt_of_cell? w _ hw217_0)).trans hw217_0)⟩ (fun hHeld => ?_)
                          clear hK K
                          refine norm_ (a' := ?_) ?_ ?_
                          rotate_left
                          · show Act.put _ (some 27) _ = _
                            simp only [Act.put, List.setIfInBounds_toArray, List.set_cons_zero, List.set_cons_succ, i64_w, i32_w]
                            rfl
                          refine one_ (i := 14) (N := some 28) #[true, true, true, true, true, true, true, true, true, true, true, true, true, true, true, false] rfl rfl (one_of HT_.out (by kernel_rfl)) (by decide) (fun K hK => ?_)
                          refine Kd.R_append_rows_step (Kd.int .u8) (w0 := w) w.heap.size (by rfl) (.tmp 14) (.tmp 27) 28 5 (.int .u8 0) 1 rfl Tryd.underlying28 info5 rfl (by decide) (by omega) u3 x3_1 y218 _ _ _ (fun k_ => some k_ ≠ (.slice Ao22 y218.length co22 : Value).ownBlock) (fun _ => False) rfl rfl ?aO ?aR (fun _ _ h => h) (fun _ h => h.elim) ?aF ?aB ?aS ?aL ?_
                          (case aR => repeat (first | exact (Kd.R_reads' HO220.out).2.2 | (with_reducible refine Kd.C_alloc ?_ _) | (with_reducible refine Kd.C_drewN ?_ _) | (with_reducible refine Kd.C_drew ?_)))
                          (case aB => exact (by repeat (first | (with_reducible first | exact HB.out | apply below_alloc | apply pw_below_drewN | apply below_drew1) | exact HB.out)))
                          (case aF => exact (fun k_ hk => Kd.fresh' (Kd.R_lt (by (with_reducible repeat (first | apply Kd.R_alloc | apply Kd.R_drewN | apply Kd.R_drew)); exact HO220.out)) k_ hk))
                          (case aO => exact (by (with_reducible repeat (first | apply Kd.R_alloc | apply Kd.R_drewN | apply Kd.R_drew)); exact Kd.R_mono HO_3.out (fun _ hk => hk.2)))
                          (case aS => exact (below_size (by repeat (first | (with_reducible first | exact HB.out | apply below_alloc | apply pw_below_drewN | apply below_drew1) | exact HB.out))))
                          (case aL => have := LMc17.out; omega)
                          intro v222 w21 ho hb hg hat
                          rw [← Ny221.out] at ho
                          have n0_ := Aside0.mk (Kd.R_after (ok := (fun _ => True)) (by (with_reducible repeat (first | apply Kd.R_alloc | apply Kd.R_drewN | apply Kd.R_drew)); exact HO220.out) hg hat)
                          have n1_ := Aside0.mk (hb)
                          have n2_ := Aside0.mk (ho)
                          clear HO220
                          clear HB
                          clear HO_3
                          have HO220 := n0_
                          have HB := n1_
                          have HO223 := n2_
                          clear n0_ n1_ n2_
                          clear ho hb hg hat
                          refine hK.out _ _ ⟨((HB.out.cell (World.block_lt_of_cell? w _ hw216_0)).trans hw216_0), ((HB.out.cell (World.block_lt_of_cell? w _ hw217_0)).trans hw217_0)⟩ (fun hHeld => ?_)
                          clear hK K
                          refine norm_ (a' := ?_) ?_ ?_
                          rotate_left
                          · show Act.put _ (some 28) _ = _
                            simp only [Act.put, List.setIfInBounds_toArray, List.set_cons_zero, List.set_cons_succ, i64_w, i32_w]
                            rfl
                          refine pure_ (i := 15) (N := some 3) (v := ?_) (a' := ?_) #[true, true, true, true, true, true, true, true, true, true, true, true, true, true, true, true] rfl rfl (any_of HT_.out (by kernel_rfl)) (fun _ _ _ h => h) (Or.inl ⟨by rfl, ?_⟩) ?_ ?_
                          rotate_left
                          · intro w'
                            go_simp
                            with_reducible rfl
                          rotate_left
                          · simp only [Act.put, List.setIfInBounds_toArray, List.set_cons_zero, List.set_cons_succ, i64_w, i32_w]
                            rfl
                          refine done_ (done_of HT_.out (by kernel_rfl)) ?_
                          try go_wp2
                          go_roundg k1
                          case measure => have := HK1.out; omega
                          case rel => exact ⟨(y221), (wrap64 (x11_1 + 1)), (by first | rfl | (simp; done) | (simp [*]; done)), H', ⟨by have := HK1.out; omega⟩, ⟨by (with_reducible repeat (first | apply Kd.R_alloc | apply Kd.R_drewN | apply Kd.R_drew)); exact Kd.R_mono HO223.out (fun _ hk => trivial)⟩, ⟨by repeat (first | (with_reducible first | exact HB.out | apply below_alloc | apply pw_below_drewN | apply below_drew1) | exact HB.out)⟩⟩
                        · rw [if_neg c17] at H
                          exact absurd H (by simp)
                      · rw [if_neg c16] at H
                        exact absurd H (by simp)
                    · rw [if_neg c15] at H
                      exact absurd H (by simp)
                  · rw [if_neg c13] at H
                    exact absurd H (by simp)
                · rw [if_neg c12] at H
                  exact absurd H (by simp)
              · rw [if_neg c9] at H
                exact absurd H (by simp)
            · rw [if_neg c8] at H
              exact absurd H (by simp)
          · rw [if_neg c7] at H
            have c7b0 : decide (x11_1 < (a0.size : Int)) = false := decide_eq_false c7
            clear c7
            obtain rfl := Option.some.inj H
            have hcv23 := own_string (P := Tryd.prog) Tryd.underlying28 Tryd.underlying5 Tryd.underlying9 (Kd.own_of_R HO_3.out)
            go_wp2
            go_ret
            exact ⟨by first | rfl | (simp [errW_none, errW_some] <;> rfl) | (simp only [← hji2]; first | rfl | (simp [errW_none, errW_some] <;> rfl)) | (simp [*, errW_none, errW_some] <;> rfl), by repeat (first | (with_reducible first | exact HB.out | apply below_alloc | apply pw_below_drewN | apply below_drew1) | exact HB.out)⟩
    · rw [if_neg c4] at H
      exact absurd H (by simp)
  · rw [if_neg c3] at H
    exact absurd H (by simp)

end Go.Proofs.YtppnhlkfkedlmaaDoor.XA

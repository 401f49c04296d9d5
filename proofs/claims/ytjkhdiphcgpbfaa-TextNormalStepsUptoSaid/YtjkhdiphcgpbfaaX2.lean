-- PRINTED by print.py (a twelfth state) out of the translation. Not trusted: Lean checks it.
import Derived.Test.YtjkhdiphcgpbfaaX0
import Derived.Test.YtjkhdiphcgpbfaaX1
namespace Go.Proofs.Ytjkhdiphcgpbfaa.X
open Go.Proofs.Ytjkhdiphcgpbfaa.XE
open Go.RowKit Go.Proofs.YtjkhdiphcgpbfaaW.PrintWords Go.Proofs.YtjkhdiphcgpbfaaW.PrintLast Go.Proofs.YtjkhdiphcgpbfaaW.PrintMore
attribute [local go_sem] max2_int min2_int max_two min_two max_three min_three max_four min_four   -- for this text's walks alone
set_option linter.unusedVariables false
set_option linter.unusedSimpArgs false

/-! ### text_Squeeze: function 12 -/
def text_Squeeze.j0 : Nat → ByteArray → Bool → Option (ByteArray)
  | 0, _, _ => none
  | k + 1, x3, x12 => if x12 = true then (if 1 ≤ (x3.size : Int) then (if (x3.extract 1 x3.size).toList = ([] : List UInt8) then (some (x3.extract 1 x3.size)) else (if 0 ≤ (wrap64 (((x3.extract 1 x3.size).size : Int) - 1)) then (if (wrap64 (((x3.extract 1 x3.size).size : Int) - 1)) < ((x3.extract 1 x3.size).size : Int) then (if (bt (x3.extract 1 x3.size) (wrap64 (((x3.extract 1 x3.size).size : Int) - 1))) = 32 then (if (wrap64 (((x3.extract 1 x3.size).size : Int) - 1)) ≤ ((x3.extract 1 x3.size).size : Int) then (some ((x3.extract 1 x3.size).extract 0 ((wrap64 (((x3.extract 1 x3.size).size : Int) - 1)) : Int).toNat)) else (none)) else (some (x3.extract 1 x3.size))) else (none)) else (none))) else (none)) else (if x3.toList = ([] : List UInt8) then (some x3) else (if 0 ≤ (wrap64 ((x3.size : Int) - 1)) then (if (wrap64 ((x3.size : Int) - 1)) < (x3.size : Int) then (if (bt x3 (wrap64 ((x3.size : Int) - 1))) = 32 then (if (wrap64 ((x3.size : Int) - 1)) ≤ (x3.size : Int) then (some (x3.extract 0 ((wrap64 ((x3.size : Int) - 1)) : Int).toNat)) else (none)) else (some x3)) else (none)) else (none)))
def text_Squeeze.f (k : Nat) (a0 : ByteArray) : Option (ByteArray) := (text_Collapse.f k a0).bind fun t135 => (if t135.toList = ([] : List UInt8) then (text_Squeeze.j0 k t135 false) else (if 0 < (t135.size : Int) then (text_Squeeze.j0 k t135 ((bt t135 0) == 32)) else (none)))
theorem text_Squeeze.mono_l : ∀ k, (∀ y0 y1, LeO (text_Squeeze.j0 k y0 y1) (text_Squeeze.j0 (k + 1) y0 y1))
  | 0 => fun _ _ r h => by simp [text_Squeeze.j0] at h
  | k + 1 => by
    have ih0 := text_Squeeze.mono_l k
    · intro y0 y1
      unfold text_Squeeze.j0
      repeat' first
      | (with_reducible exact ih0 _ _)
      | (with_reducible exact text_Collapse.mono _ _)
      | (with_reducible exact LeO.refl _)
      | (with_reducible exact LeO.none _)
      | (with_reducible refine LeO.ite ?_ ?_)
      | (with_reducible refine LeO.bind ?_ (fun _ => ?_))
      | exact ih0 _ _
      | exact text_Collapse.mono _ _
      | exact LeO.none _
      | refine LeO.ite ?_ ?_
      | refine LeO.bind ?_ (fun _ => ?_)
theorem text_Squeeze.mono : ∀ a0 k, LeO (text_Squeeze.f k a0) (text_Squeeze.f (k + 1) a0) := by
  intro a0 k
  have ih0 := text_Squeeze.mono_l k
  unfold text_Squeeze.f
  repeat' first
      | (with_reducible exact ih0 _ _)
      | (with_reducible exact text_Collapse.mono _ _)
      | (with_reducible exact LeO.refl _)
      | (with_reducible exact LeO.none _)
      | (with_reducible refine LeO.ite ?_ ?_)
      | (with_reducible refine LeO.bind ?_ (fun _ => ?_))
      | exact ih0 _ _
      | exact text_Collapse.mono _ _
      | exact LeO.none _
      | refine LeO.ite ?_ ?_
      | refine LeO.bind ?_ (fun _ => ?_)
set_option maxHeartbeats 8000000 in
set_option maxRecDepth 100000 in
theorem text_Squeeze.calls (k : Nat) (a0 : ByteArray) (r : ByteArray) (w : World) (h : text_Squeeze.f k a0 = some r) :
    Calls Try.prog 12 #[.string a0] w fun e w' => e = .returned (.string r) ∧ Below w.heap.size w w' := by
  have HB := Aside0.mk (Below.refl w.heap.size w)
  have H : ((text_Collapse.f k a0).bind fun t135 => (if t135.toList = ([] : List UInt8) then (text_Squeeze.j0 k t135 false) else (if 0 < (t135.size : Int) then (text_Squeeze.j0 k t135 ((bt t135 0) == 32)) else (none)))) = some r := h
  clear h
  replace H := Option.bind_eq_some_iff.mp H
  obtain ⟨t135, A20, H⟩ := H
  replace H : (if t135.toList = ([] : List UInt8) then (text_Squeeze.j0 k t135 false) else (if 0 < (t135.size : Int) then (text_Squeeze.j0 k t135 ((bt t135 0) == 32)) else (none))) = some r := H
  have A2 := Aside0.mk A20
  clear A20
  have HC3 := Aside0.mk H
  clear H
  go_enter Try.func12, Try.ntmps12
  go_upto_region 2 with (first | ((with_reducible refine gate_callee (f := 10) rfl ?_); refine goesL_ (some 5) rfl rfl Try.func10 (by kernel_rfl) rfl #[.string a0] rfl (by (try simp only [List.map_toArray, List.map_cons, List.map_nil]); first | done | rfl | (simp only [List.length_drop, List.length_take]; rfl)) ?_; (with_reducible refine (text_Collapse.calls k a0 t135 _ A2.out).mono ?_); rintro e w4 ⟨rfl, hb⟩; refine ⟨_, rfl, ?_⟩; have n0_ := Aside0.mk (below_step (by repeat (first | (with_reducible first | exact HB.out | apply below_alloc | apply pw_below_drewN | apply below_drew1) | exact HB.out)) hb); clear HB; have HB := n0_; clear n0_; (try clear hb); (try clear hb2); (try clear hk); (try clear hi)))
  (try simp only [Act.put, List.setIfInBounds_toArray, List.set_cons_zero, List.set_cons_succ])
  go_cut [12] (fun v12 wc => ∃ (kq : Nat) (x12_2 : Bool), v12 = .bool x12_2 ∧ Aside0 (text_Squeeze.j0 kq t135 x12_2 = some r) ∧ Aside0 (kq ≤ k) ∧ Aside0 (Below w.heap.size w wc))
  case first =>
    have H := HC3.out
    clear HC3
    by_cases c5 : t135.toList = ([] : List UInt8)
    · rw [if_pos c5] at H
      have c5b0 : (t135.toList == ([] : List UInt8)) = true := beq_iff_eq.mpr c5
      have c5b1 : (t135.toList != ([] : List UInt8)) = false := bne_eq_false_iff_eq.mpr c5
      clear c5
      (first | rw [c5b0] | (simp only [i64_w, i32_w]; rw [c5b0]) | skip)
      have H' := Aside0.mk H
      clear H
      go_wp2
      go_meet
      case rel => exact ⟨_, (false), (by first | rfl | (simp; done) | (simp [*]; done)), H', ⟨by first | omega | exact Nat.le_refl _⟩, ⟨by repeat (first | (with_reducible first | exact HB.out | apply below_alloc | apply pw_below_drewN | apply below_drew1) | exact HB.out)⟩⟩
    · rw [if_neg c5] at H
      have c5b0 : (t135.toList == ([] : List UInt8)) = false := beq_eq_false_iff_ne.mpr c5
      have c5b1 : (t135.toList != ([] : List UInt8)) = true := bne_iff_ne.mpr c5
      (first | rw [c5b0] | (simp only [i64_w, i32_w]; rw [c5b0]) | skip)
      by_cases c6 : 0 < (t135.size : Int)
      · rw [if_pos c6] at H
        have c6b0 : decide (0 < (t135.size : Int)) = true := decide_eq_true c6
        have c6b1 : decide (0 < t135.size) = true := decide_eq_true (by omega)
        clear c6
        have H' := Aside0.mk H
        clear H
        have p7 : 0 ≤ (0 : Int) := (by omega)
        have q7 : 0 < t135.size := (by have : (0 : Int) < (t135.size : Int) := of_decide_eq_true (by first | (with_reducible assumption) | assumption); omega)
        have hx7 : ∀ h : 0 < t135.size, ((t135[0]'h).toNat : Int) = bt t135 0 := bt_at t135 0
        clear p7
        have qi7 : (0 < (t135.size : Int)) = True := eq_true (of_decide_eq_true (by first | (with_reducible assumption) | assumption))
        replace q7 := eq_true q7
        go_wp2
        go_meet
        case rel => exact ⟨_, (((bt t135 0) == 32)), (by first | rfl | (simp; done) | (simp [*]; done)), H', ⟨by first | omega | exact Nat.le_refl _⟩, ⟨by repeat (first | (with_reducible first | exact HB.out | apply below_alloc | apply pw_below_drewN | apply below_drew1) | exact HB.out)⟩⟩
      · rw [if_neg c6] at H
        exact absurd H (by simp)
  case rest =>
    clear HC3
    try clear c1
    try clear p2
    try clear c5
    try clear c5b0
    try clear c5b1
    try clear c6
    try clear c6b0
    try clear c6b1
    try clear p7
    try clear q7
    try clear hx7
    try clear qi7
    try clear p7
    try clear q7
    obtain ⟨kq, x12_2, rfl, HA, HJ2, HB⟩ := hcut
    cases kq with
    | zero => exact absurd HA.out (by simp [text_Squeeze.j0])
    | succ kj2 =>
      have H := HA.out
      clear HA
      simp only [text_Squeeze.j0] at H
      by_cases c8 : x12_2 = true
      · subst c8
        have H1 : (if 1 ≤ (t135.size : Int) then (if (t135.extract 1 t135.size).toList = ([] : List UInt8) then (some (t135.extract 1 t135.size)) else (if 0 ≤ (wrap64 (((t135.extract 1 t135.size).size : Int) - 1)) then (if (wrap64 (((t135.extract 1 t135.size).size : Int) - 1)) < ((t135.extract 1 t135.size).size : Int) then (if (bt (t135.extract 1 t135.size) (wrap64 (((t135.extract 1 t135.size).size : Int) - 1))) = 32 then (if (wrap64 (((t135.extract 1 t135.size).size : Int) - 1)) ≤ ((t135.extract 1 t135.size).size : Int) then (some ((t135.extract 1 t135.size).extract 0 ((wrap64 (((t135.extract 1 t135.size).size : Int) - 1)) : Int).toNat)) else (none)) else (some (t135.extract 1 t135.size))) else (none)) else (none))) else (none)) = some r := by rw [if_pos rfl] at H; exact H
        clear H
        have H := H1
        clear H1
        by_cases c9 : 1 ≤ (t135.size : Int)
        · rw [if_pos c9] at H
          have c9b0 := eq_true c9
          have c9b1 : decide (1 ≤ (t135.size : Int)) = true := decide_eq_true c9
          clear c9
          by_cases c10 : (t135.extract 1 t135.size).toList = ([] : List UInt8)
          · rw [if_pos c10] at H
            have c10b0 : ((t135.extract 1 t135.size).toList == ([] : List UInt8)) = true := beq_iff_eq.mpr c10
            have c10b1 : ((t135.extract 1 t135.size).toList != ([] : List UInt8)) = false := bne_eq_false_iff_eq.mpr c10
            clear c10
            obtain rfl := Option.some.inj H
            go_wp2
            go_ret
            exact ⟨by first | rfl | (simp [errW_none, errW_some] <;> rfl) | (simp [*, errW_none, errW_some] <;> rfl), by repeat (first | (with_reducible first | exact HB.out | apply below_alloc | apply pw_below_drewN | apply below_drew1) | exact HB.out)⟩
          · rw [if_neg c10] at H
            have c10b0 : ((t135.extract 1 t135.size).toList == ([] : List UInt8)) = false := beq_eq_false_iff_ne.mpr c10
            have c10b1 : ((t135.extract 1 t135.size).toList != ([] : List UInt8)) = true := bne_iff_ne.mpr c10
            obtain ⟨ji11, hji11⟩ : ∃ j_ : Int, (wrap64 (((t135.extract 1 t135.size).size : Int) - 1)) = j_ := ⟨_, rfl⟩
            replace H : (if 0 ≤ (ji11) then (if (ji11) < ((t135.extract 1 t135.size).size : Int) then (if (bt (t135.extract 1 t135.size) (ji11)) = 32 then (if (ji11) ≤ ((t135.extract 1 t135.size).size : Int) then (some ((t135.extract 1 t135.size).extract 0 ((ji11) : Int).toNat)) else (none)) else (some (t135.extract 1 t135.size))) else (none)) else (none)) = some r := by first | (rw [hji11] at H; exact H) | (simp only [hji11] at H ⊢; exact H)
            have hji11w : (IntKind.i64.wrap (((t135.extract 1 t135.size).size : Int) - 1)) = ji11 := (i64_w _).trans hji11
            have hji11n := hji11
            (try simp only [ByteArray.size_extract, Nat.min_self] at hji11n)
            have hji11wn := hji11w
            (try simp only [ByteArray.size_extract, Nat.min_self] at hji11wn)
            by_cases c12 : 0 ≤ (ji11)
            · rw [if_pos c12] at H
              have c12b0 : decide (0 ≤ (ji11)) = true := decide_eq_true c12
              clear c12
              by_cases c13 : (ji11) < ((t135.extract 1 t135.size).size : Int)
              · rw [if_pos c13] at H
                have c13b0 : decide ((ji11) < ((t135.extract 1 t135.size).size : Int)) = true := decide_eq_true c13
                have c13b0n := c13b0
                (try simp only [ByteArray.size_extract, Nat.min_self] at c13b0n)
                clear c13
                by_cases c15 : (bt (t135.extract 1 t135.size) (ji11)) = 32
                · rw [if_pos c15] at H
                  have c15b0 : ((bt (t135.extract 1 t135.size) (ji11)) == 32) = true := beq_iff_eq.mpr c15
                  have c15b1 : ((bt (t135.extract 1 t135.size) (ji11)) != 32) = false := bne_eq_false_iff_eq.mpr c15
                  clear c15
                  have c16b0 := eq_true (of_decide_eq_true (by first | (with_reducible assumption) | assumption) : 0 ≤ (ji11))
                  by_cases c17 : (ji11) ≤ ((t135.extract 1 t135.size).size : Int)
                  · rw [if_pos c17] at H
                    have c17b0 := eq_true c17
                    have c17b0n := c17b0
                    (try simp only [ByteArray.size_extract, Nat.min_self] at c17b0n)
                    have c17b1 : decide ((ji11) ≤ ((t135.extract 1 t135.size).size : Int)) = true := decide_eq_true c17
                    have c17b1n := c17b1
                    (try simp only [ByteArray.size_extract, Nat.min_self] at c17b1n)
                    clear c17
                    obtain rfl := Option.some.inj H
                    have p14 : 0 ≤ ((ji11) : Int) := of_decide_eq_true (by first | (with_reducible assumption) | assumption)
                    have q14 : (ji11) < ((t135.extract 1 t135.size).size : Int) := of_decide_eq_true (by first | (with_reducible assumption) | assumption)
                    have hx14 := bt_at (t135.extract 1 t135.size) (ji11)
                    replace p14 := eq_true p14
                    replace q14 := eq_true q14
                    have q14n := q14
                    (try simp only [ByteArray.size_extract, Nat.min_self] at q14n)
                    go_wp2
                    go_ret
                    exact ⟨by first | rfl | (simp [errW_none, errW_some] <;> rfl) | (simp only [← hji11]; first | rfl | (simp [errW_none, errW_some] <;> rfl)) | (simp [*, errW_none, errW_some] <;> rfl), by repeat (first | (with_reducible first | exact HB.out | apply below_alloc | apply pw_below_drewN | apply below_drew1) | exact HB.out)⟩
                  · rw [if_neg c17] at H
                    exact absurd H (by simp)
                · rw [if_neg c15] at H
                  have c15b0 : ((bt (t135.extract 1 t135.size) (ji11)) == 32) = false := beq_eq_false_iff_ne.mpr c15
                  have c15b1 : ((bt (t135.extract 1 t135.size) (ji11)) != 32) = true := bne_iff_ne.mpr c15
                  obtain rfl := Option.some.inj H
                  have p14 : 0 ≤ ((ji11) : Int) := of_decide_eq_true (by first | (with_reducible assumption) | assumption)
                  have q14 : (ji11) < ((t135.extract 1 t135.size).size : Int) := of_decide_eq_true (by first | (with_reducible assumption) | assumption)
                  have hx14 := bt_at (t135.extract 1 t135.size) (ji11)
                  replace p14 := eq_true p14
                  replace q14 := eq_true q14
                  have q14n := q14
                  (try simp only [ByteArray.size_extract, Nat.min_self] at q14n)
                  go_wp2
                  go_ret
                  exact ⟨by first | rfl | (simp [errW_none, errW_some] <;> rfl) | (simp only [← hji11]; first | rfl | (simp [errW_none, errW_some] <;> rfl)) | (simp [*, errW_none, errW_some] <;> rfl), by repeat (first | (with_reducible first | exact HB.out | apply below_alloc | apply pw_below_drewN | apply below_drew1) | exact HB.out)⟩
              · rw [if_neg c13] at H
                exact absurd H (by simp)
            · rw [if_neg c12] at H
              exact absurd H (by simp)
        · rw [if_neg c9] at H
          exact absurd H (by simp)
      · replace c8 := Bool.eq_false_iff.mpr c8
        subst c8
        have H1 : (if t135.toList = ([] : List UInt8) then (some t135) else (if 0 ≤ (wrap64 ((t135.size : Int) - 1)) then (if (wrap64 ((t135.size : Int) - 1)) < (t135.size : Int) then (if (bt t135 (wrap64 ((t135.size : Int) - 1))) = 32 then (if (wrap64 ((t135.size : Int) - 1)) ≤ (t135.size : Int) then (some (t135.extract 0 ((wrap64 ((t135.size : Int) - 1)) : Int).toNat)) else (none)) else (some t135)) else (none)) else (none))) = some r := by rw [if_neg (show ¬ (false = true) by decide)] at H; exact H
        clear H
        have H := H1
        clear H1
        by_cases c18 : t135.toList = ([] : List UInt8)
        · rw [if_pos c18] at H
          have c18b0 : (t135.toList == ([] : List UInt8)) = true := beq_iff_eq.mpr c18
          have c18b1 : (t135.toList != ([] : List UInt8)) = false := bne_eq_false_iff_eq.mpr c18
          clear c18
          obtain rfl := Option.some.inj H
          go_wp2
          go_ret
          exact ⟨by first | rfl | (simp [errW_none, errW_some] <;> rfl) | (simp [*, errW_none, errW_some] <;> rfl), by repeat (first | (with_reducible first | exact HB.out | apply below_alloc | apply pw_below_drewN | apply below_drew1) | exact HB.out)⟩
        · rw [if_neg c18] at H
          have c18b0 : (t135.toList == ([] : List UInt8)) = false := beq_eq_false_iff_ne.mpr c18
          have c18b1 : (t135.toList != ([] : List UInt8)) = true := bne_iff_ne.mpr c18
          obtain ⟨ji19, hji19⟩ : ∃ j_ : Int, (wrap64 ((t135.size : Int) - 1)) = j_ := ⟨_, rfl⟩
          replace H : (if 0 ≤ (ji19) then (if (ji19) < (t135.size : Int) then (if (bt t135 (ji19)) = 32 then (if (ji19) ≤ (t135.size : Int) then (some (t135.extract 0 ((ji19) : Int).toNat)) else (none)) else (some t135)) else (none)) else (none)) = some r := by first | (rw [hji19] at H; exact H) | (simp only [hji19] at H ⊢; exact H)
          have hji19w : (IntKind.i64.wrap ((t135.size : Int) - 1)) = ji19 := (i64_w _).trans hji19
          by_cases c20 : 0 ≤ (ji19)
          · rw [if_pos c20] at H
            have c20b0 : decide (0 ≤ (ji19)) = true := decide_eq_true c20
            clear c20
            by_cases c21 : (ji19) < (t135.size : Int)
            · rw [if_pos c21] at H
              have c21b0 : decide ((ji19) < (t135.size : Int)) = true := decide_eq_true c21
              clear c21
              by_cases c23 : (bt t135 (ji19)) = 32
              · rw [if_pos c23] at H
                have c23b0 : ((bt t135 (ji19)) == 32) = true := beq_iff_eq.mpr c23
                have c23b1 : ((bt t135 (ji19)) != 32) = false := bne_eq_false_iff_eq.mpr c23
                clear c23
                have c24b0 := eq_true (of_decide_eq_true (by first | (with_reducible assumption) | assumption) : 0 ≤ (ji19))
                by_cases c25 : (ji19) ≤ (t135.size : Int)
                · rw [if_pos c25] at H
                  have c25b0 := eq_true c25
                  have c25b1 : decide ((ji19) ≤ (t135.size : Int)) = true := decide_eq_true c25
                  clear c25
                  obtain rfl := Option.some.inj H
                  have p22 : 0 ≤ ((ji19) : Int) := of_decide_eq_true (by first | (with_reducible assumption) | assumption)
                  have q22 : (ji19) < (t135.size : Int) := of_decide_eq_true (by first | (with_reducible assumption) | assumption)
                  have hx22 := bt_at t135 (ji19)
                  replace p22 := eq_true p22
                  replace q22 := eq_true q22
                  go_wp2
                  go_ret
                  exact ⟨by first | rfl | (simp [errW_none, errW_some] <;> rfl) | (simp only [← hji19]; first | rfl | (simp [errW_none, errW_some] <;> rfl)) | (simp [*, errW_none, errW_some] <;> rfl), by repeat (first | (with_reducible first | exact HB.out | apply below_alloc | apply pw_below_drewN | apply below_drew1) | exact HB.out)⟩
                · rw [if_neg c25] at H
                  exact absurd H (by simp)
              · rw [if_neg c23] at H
                have c23b0 : ((bt t135 (ji19)) == 32) = false := beq_eq_false_iff_ne.mpr c23
                have c23b1 : ((bt t135 (ji19)) != 32) = true := bne_iff_ne.mpr c23
                obtain rfl := Option.some.inj H
                have p22 : 0 ≤ ((ji19) : Int) := of_decide_eq_true (by first | (with_reducible assumption) | assumption)
                have q22 : (ji19) < (t135.size : Int) := of_decide_eq_true (by first | (with_reducible assumption) | assumption)
                have hx22 := bt_at t135 (ji19)
                replace p22 := eq_true p22
                replace q22 := eq_true q22
                go_wp2
                go_ret
                exact ⟨by first | rfl | (simp [errW_none, errW_some] <;> rfl) | (simp only [← hji19]; first | rfl | (simp [errW_none, errW_some] <;> rfl)) | (simp [*, errW_none, errW_some] <;> rfl), by repeat (first | (with_reducible first | exact HB.out | apply below_alloc | apply pw_below_drewN | apply below_drew1) | exact HB.out)⟩
            · rw [if_neg c21] at H
              exact absurd H (by simp)
          · rw [if_neg c20] at H
            exact absurd H (by simp)

/-! ### rosterref01_Squeeze: function 13 -/
def rosterref01_Squeeze.j0 : Nat → ByteArray → Int → Int → Bool → Option (ByteArray)
  | 0, _, _, _, _ => none
  | k + 1, x3, x4, x5, x16 => if x16 = true then (if x5 > 1 then (if 0 ≤ (wrap64 (x5 - 1)) then (if (wrap64 (x5 - 1)) < (x3.size : Int) then (if (bt x3 (wrap64 (x5 - 1))) = 32 then (if 1 ≤ (wrap64 (x5 - 1)) then (if (wrap64 (x5 - 1)) ≤ (x3.size : Int) then (some (x3.extract 1 ((wrap64 (x5 - 1)) : Int).toNat)) else (none)) else (none)) else (if 1 ≤ x5 then (if x5 ≤ (x3.size : Int) then (some (x3.extract 1 (x5 : Int).toNat)) else (none)) else (none))) else (none)) else (none)) else (if 1 ≤ x5 then (if x5 ≤ (x3.size : Int) then (some (x3.extract 1 (x5 : Int).toNat)) else (none)) else (none))) else (if x5 > x4 then (if 0 ≤ (wrap64 (x5 - 1)) then (if (wrap64 (x5 - 1)) < (x3.size : Int) then (if (bt x3 (wrap64 (x5 - 1))) = 32 then (if 0 ≤ x4 then (if x4 ≤ (wrap64 (x5 - 1)) then (if (wrap64 (x5 - 1)) ≤ (x3.size : Int) then (some (x3.extract (x4 : Int).toNat ((wrap64 (x5 - 1)) : Int).toNat)) else (none)) else (none)) else (none)) else (if 0 ≤ x4 then (if x4 ≤ x5 then (if x5 ≤ (x3.size : Int) then (some (x3.extract (x4 : Int).toNat (x5 : Int).toNat)) else (none)) else (none)) else (none))) else (none)) else (none)) else (if 0 ≤ x4 then (if x4 ≤ x5 then (if x5 ≤ (x3.size : Int) then (some (x3.extract (x4 : Int).toNat (x5 : Int).toNat)) else (none)) else (none)) else (none)))
def rosterref01_Squeeze.f (k : Nat) (a0 : ByteArray) : Option (ByteArray) := (rosterref01_Collapse.f k a0).bind fun t136 => (if (t136.size : Int) > 0 then (if 0 < (t136.size : Int) then (rosterref01_Squeeze.j0 k t136 0 (t136.size : Int) ((bt t136 0) == 32)) else (none)) else (rosterref01_Squeeze.j0 k t136 0 (t136.size : Int) false))
theorem rosterref01_Squeeze.mono_l : ∀ k, (∀ y0 y1 y2 y3, LeO (rosterref01_Squeeze.j0 k y0 y1 y2 y3) (rosterref01_Squeeze.j0 (k + 1) y0 y1 y2 y3))
  | 0 => fun _ _ _ _ r h => by simp [rosterref01_Squeeze.j0] at h
  | k + 1 => by
    have ih0 := rosterref01_Squeeze.mono_l k
    · intro y0 y1 y2 y3
      unfold rosterref01_Squeeze.j0
      repeat' first
      | (with_reducible exact ih0 _ _ _ _)
      | (with_reducible exact rosterref01_Collapse.mono _ _)
      | (with_reducible exact LeO.refl _)
      | (with_reducible exact LeO.none _)
      | (with_reducible refine LeO.ite ?_ ?_)
      | (with_reducible refine LeO.bind ?_ (fun _ => ?_))
      | exact ih0 _ _ _ _
      | exact rosterref01_Collapse.mono _ _
      | exact LeO.none _
      | refine LeO.ite ?_ ?_
      | refine LeO.bind ?_ (fun _ => ?_)
theorem rosterref01_Squeeze.mono : ∀ a0 k, LeO (rosterref01_Squeeze.f k a0) (rosterref01_Squeeze.f (k + 1) a0) := by
  intro a0 k
  have ih0 := rosterref01_Squeeze.mono_l k
  unfold rosterref01_Squeeze.f
  repeat' first
      | (with_reducible exact ih0 _ _ _ _)
      | (with_reducible exact rosterref01_Collapse.mono _ _)
      | (with_reducible exact LeO.refl _)
      | (with_reducible exact LeO.none _)
      | (with_reducible refine LeO.ite ?_ ?_)
      | (with_reducible refine LeO.bind ?_ (fun _ => ?_))
      | exact ih0 _ _ _ _
      | exact rosterref01_Collapse.mono _ _
      | exact LeO.none _
      | refine LeO.ite ?_ ?_
      | refine LeO.bind ?_ (fun _ => ?_)
set_option maxHeartbeats 8000000 in
set_option maxRecDepth 100000 in
theorem rosterref01_Squeeze.calls (k : Nat) (a0 : ByteArray) (r : ByteArray) (w : World) (h : rosterref01_Squeeze.f k a0 = some r) :
    Calls Try.prog 13 #[.string a0] w fun e w' => e = .returned (.string r) ∧ Below w.heap.size w w' := by
  have HB := Aside0.mk (Below.refl w.heap.size w)
  have H : ((rosterref01_Collapse.f k a0).bind fun t136 => (if (t136.size : Int) > 0 then (if 0 < (t136.size : Int) then (rosterref01_Squeeze.j0 k t136 0 (t136.size : Int) ((bt t136 0) == 32)) else (none)) else (rosterref01_Squeeze.j0 k t136 0 (t136.size : Int) false))) = some r := h
  clear h
  replace H := Option.bind_eq_some_iff.mp H
  obtain ⟨t136, A20, H⟩ := H
  replace H : (if (t136.size : Int) > 0 then (if 0 < (t136.size : Int) then (rosterref01_Squeeze.j0 k t136 0 (t136.size : Int) ((bt t136 0) == 32)) else (none)) else (rosterref01_Squeeze.j0 k t136 0 (t136.size : Int) false)) = some r := H
  have A2 := Aside0.mk A20
  clear A20
  have HC3 := Aside0.mk H
  clear H
  go_enter Try.func13, Try.ntmps13
  go_upto_region 4 with (first | ((with_reducible refine gate_callee (f := 11) rfl ?_); refine goesL_ (some 7) rfl rfl Try.func11 (by kernel_rfl) rfl #[.string a0] rfl (by (try simp only [List.map_toArray, List.map_cons, List.map_nil]); first | done | rfl | (simp only [List.length_drop, List.length_take]; rfl)) ?_; (with_reducible refine (rosterref01_Collapse.calls k a0 t136 _ A2.out).mono ?_); rintro e w4 ⟨rfl, hb⟩; refine ⟨_, rfl, ?_⟩; have n0_ := Aside0.mk (below_step (by repeat (first | (with_reducible first | exact HB.out | apply below_alloc | apply pw_below_drewN | apply below_drew1) | exact HB.out)) hb); clear HB; have HB := n0_; clear n0_; (try clear hb); (try clear hb2); (try clear hk); (try clear hi)))
  (try simp only [Act.put, List.setIfInBounds_toArray, List.set_cons_zero, List.set_cons_succ])
  go_cut [16] (fun v16 wc => ∃ (kq : Nat) (x16_2 : Bool), v16 = .bool x16_2 ∧ Aside0 (rosterref01_Squeeze.j0 kq t136 0 (t136.size : Int) x16_2 = some r) ∧ Aside0 (kq ≤ k) ∧ Aside0 (Below w.heap.size w wc))
  case first =>
    have H := HC3.out
    clear HC3
    by_cases c5 : (t136.size : Int) > 0
    · rw [if_pos c5] at H
      have c5b0 : decide (0 < (t136.size : Int)) = true := decide_eq_true c5
      have c5b1 : decide (0 < t136.size) = true := decide_eq_true (by omega)
      clear c5
      (first | rw [c5b0] | (simp only [i64_w, i32_w]; rw [c5b0]) | skip)
      by_cases c6 : 0 < (t136.size : Int)
      · rw [if_pos c6] at H
        have c6b0 : decide (0 < (t136.size : Int)) = true := decide_eq_true c6
        have c6b1 : decide (0 < t136.size) = true := decide_eq_true (by omega)
        clear c6
        have H' := Aside0.mk H
        clear H
        have p7 : 0 ≤ (0 : Int) := (by omega)
        have q7 : 0 < t136.size := (by have : (0 : Int) < (t136.size : Int) := of_decide_eq_true (by first | (with_reducible assumption) | assumption); omega)
        have hx7 : ∀ h : 0 < t136.size, ((t136[0]'h).toNat : Int) = bt t136 0 := bt_at t136 0
        clear p7
        have qi7 : (0 < (t136.size : Int)) = True := eq_true (of_decide_eq_true (by first | (with_reducible assumption) | assumption))
        replace q7 := eq_true q7
        go_wp2
        go_meet
        case rel => exact ⟨_, (((bt t136 0) == 32)), (by first | rfl | (simp; done) | (simp [*]; done)), H', ⟨by first | omega | exact Nat.le_refl _⟩, ⟨by repeat (first | (with_reducible first | exact HB.out | apply below_alloc | apply pw_below_drewN | apply below_drew1) | exact HB.out)⟩⟩
      · rw [if_neg c6] at H
        exact absurd H (by simp)
    · rw [if_neg c5] at H
      have c5b0 : decide (0 < (t136.size : Int)) = false := decide_eq_false c5
      have c5b1 : decide (0 < t136.size) = false := decide_eq_false (by omega)
      clear c5
      (first | rw [c5b0] | (simp only [i64_w, i32_w]; rw [c5b0]) | skip)
      have H' := Aside0.mk H
      clear H
      go_wp2
      go_meet
      case rel => exact ⟨_, (false), (by first | rfl | (simp; done) | (simp [*]; done)), H', ⟨by first | omega | exact Nat.le_refl _⟩, ⟨by repeat (first | (with_reducible first | exact HB.out | apply below_alloc | apply pw_below_drewN | apply below_drew1) | exact HB.out)⟩⟩
  case rest =>
    clear HC3
    try clear c1
    try clear p2
    try clear c5
    try clear c5b0
    try clear c5b1
    try clear c6
    try clear c6b0
    try clear c6b1
    try clear p7
    try clear q7
    try clear hx7
    try clear qi7
    try clear p7
    try clear q7
    obtain ⟨kq, x16_2, rfl, HA, HJ2, HB⟩ := hcut
    cases kq with
    | zero => exact absurd HA.out (by simp [rosterref01_Squeeze.j0])
    | succ kj2 =>
      have H := HA.out
      clear HA
      simp only [rosterref01_Squeeze.j0] at H
      by_cases c8 : x16_2 = true
      · subst c8
        have H1 : (if (t136.size : Int) > 1 then (if 0 ≤ (wrap64 ((t136.size : Int) - 1)) then (if (wrap64 ((t136.size : Int) - 1)) < (t136.size : Int) then (if (bt t136 (wrap64 ((t136.size : Int) - 1))) = 32 then (if 1 ≤ (wrap64 ((t136.size : Int) - 1)) then (if (wrap64 ((t136.size : Int) - 1)) ≤ (t136.size : Int) then (some (t136.extract 1 ((wrap64 ((t136.size : Int) - 1)) : Int).toNat)) else (none)) else (none)) else (if 1 ≤ (t136.size : Int) then (if (t136.size : Int) ≤ (t136.size : Int) then (some (t136.extract 1 ((t136.size : Int) : Int).toNat)) else (none)) else (none))) else (none)) else (none)) else (if 1 ≤ (t136.size : Int) then (if (t136.size : Int) ≤ (t136.size : Int) then (some (t136.extract 1 ((t136.size : Int) : Int).toNat)) else (none)) else (none))) = some r := by rw [if_pos rfl] at H; exact H
        clear H
        have H := H1
        clear H1
        by_cases c9 : (t136.size : Int) > 1
        · rw [if_pos c9] at H
          have c9b0 : decide (1 < (t136.size : Int)) = true := decide_eq_true c9
          have c9b1 : decide (1 < t136.size) = true := decide_eq_true (by omega)
          clear c9
          obtain ⟨ji10, hji10⟩ : ∃ j_ : Int, (wrap64 ((t136.size : Int) - 1)) = j_ := ⟨_, rfl⟩
          replace H : (if 0 ≤ (ji10) then (if (ji10) < (t136.size : Int) then (if (bt t136 (ji10)) = 32 then (if 1 ≤ (ji10) then (if (ji10) ≤ (t136.size : Int) then (some (t136.extract 1 ((ji10) : Int).toNat)) else (none)) else (none)) else (if 1 ≤ (t136.size : Int) then (if (t136.size : Int) ≤ (t136.size : Int) then (some (t136.extract 1 ((t136.size : Int) : Int).toNat)) else (none)) else (none))) else (none)) else (none)) = some r := by first | (rw [hji10] at H; exact H) | (simp only [hji10] at H ⊢; exact H)
          have hji10w : (IntKind.i64.wrap ((t136.size : Int) - 1)) = ji10 := (i64_w _).trans hji10
          by_cases c11 : 0 ≤ (ji10)
          · rw [if_pos c11] at H
            have c11b0 : decide (0 ≤ (ji10)) = true := decide_eq_true c11
            clear c11
            by_cases c12 : (ji10) < (t136.size : Int)
            · rw [if_pos c12] at H
              have c12b0 : decide ((ji10) < (t136.size : Int)) = true := decide_eq_true c12
              clear c12
              by_cases c14 : (bt t136 (ji10)) = 32
              · rw [if_pos c14] at H
                have c14b0 : ((bt t136 (ji10)) == 32) = true := beq_iff_eq.mpr c14
                have c14b1 : ((bt t136 (ji10)) != 32) = false := bne_eq_false_iff_eq.mpr c14
                clear c14
                by_cases c15 : 1 ≤ (ji10)
                · rw [if_pos c15] at H
                  have c15b0 := eq_true c15
                  have c15b0n := c15b0
                  (try simp only [ByteArray.size_extract, Nat.min_self] at c15b0n)
                  have c15b1 : decide (1 ≤ (ji10)) = true := decide_eq_true c15
                  clear c15
                  by_cases c16 : (ji10) ≤ (t136.size : Int)
                  · rw [if_pos c16] at H
                    have c16b0 := eq_true c16
                    have c16b1 : decide ((ji10) ≤ (t136.size : Int)) = true := decide_eq_true c16
                    clear c16
                    obtain rfl := Option.some.inj H
                    have p13 : 0 ≤ ((ji10) : Int) := of_decide_eq_true (by first | (with_reducible assumption) | assumption)
                    have q13 : (ji10) < (t136.size : Int) := of_decide_eq_true (by first | (with_reducible assumption) | assumption)
                    have hx13 := bt_at t136 (ji10)
                    replace p13 := eq_true p13
                    replace q13 := eq_true q13
                    go_wp2
                    go_ret
                    exact ⟨by first | rfl | (simp [errW_none, errW_some] <;> rfl) | (simp only [← hji10]; first | rfl | (simp [errW_none, errW_some] <;> rfl)) | (simp [*, errW_none, errW_some] <;> rfl), by repeat (first | (with_reducible first | exact HB.out | apply below_alloc | apply pw_below_drewN | apply below_drew1) | exact HB.out)⟩
                  · rw [if_neg c16] at H
                    exact absurd H (by simp)
                · rw [if_neg c15] at H
                  exact absurd H (by simp)
              · rw [if_neg c14] at H
                have c14b0 : ((bt t136 (ji10)) == 32) = false := beq_eq_false_iff_ne.mpr c14
                have c14b1 : ((bt t136 (ji10)) != 32) = true := bne_iff_ne.mpr c14
                by_cases c17 : 1 ≤ (t136.size : Int)
                · rw [if_pos c17] at H
                  have c17b0 := eq_true c17
                  have c17b0n := c17b0
                  (try simp only [ByteArray.size_extract, Nat.min_self] at c17b0n)
                  have c17b1 : decide (1 ≤ (t136.size : Int)) = true := decide_eq_true c17
                  clear c17
                  by_cases c18 : (t136.size : Int) ≤ (t136.size : Int)
                  · rw [if_pos c18] at H
                    have c18b0 := eq_true c18
                    have c18b1 : decide ((t136.size : Int) ≤ (t136.size : Int)) = true := decide_eq_true c18
                    clear c18
                    obtain rfl := Option.some.inj H
                    have p13 : 0 ≤ ((ji10) : Int) := of_decide_eq_true (by first | (with_reducible assumption) | assumption)
                    have q13 : (ji10) < (t136.size : Int) := of_decide_eq_true (by first | (with_reducible assumption) | assumption)
                    have hx13 := bt_at t136 (ji10)
                    replace p13 := eq_true p13
                    replace q13 := eq_true q13
                    go_wp2
                    go_ret
                    exact ⟨by first | rfl | (simp [errW_none, errW_some] <;> rfl) | (simp only [← hji10]; first | rfl | (simp [errW_none, errW_some] <;> rfl)) | (simp [*, errW_none, errW_some] <;> rfl), by repeat (first | (with_reducible first | exact HB.out | apply below_alloc | apply pw_below_drewN | apply below_drew1) | exact HB.out)⟩
                  · rw [if_neg c18] at H
                    exact absurd H (by simp)
                · rw [if_neg c17] at H
                  exact absurd H (by simp)
            · rw [if_neg c12] at H
              exact absurd H (by simp)
          · rw [if_neg c11] at H
            exact absurd H (by simp)
        · rw [if_neg c9] at H
          have c9b0 : decide (1 < (t136.size : Int)) = false := decide_eq_false c9
          have c9b1 : decide (1 < t136.size) = false := decide_eq_false (by omega)
          clear c9
          by_cases c19 : 1 ≤ (t136.size : Int)
          · rw [if_pos c19] at H
            have c19b0 := eq_true c19
            have c19b1 : decide (1 ≤ (t136.size : Int)) = true := decide_eq_true c19
            clear c19
            by_cases c20 : (t136.size : Int) ≤ (t136.size : Int)
            · rw [if_pos c20] at H
              have c20b0 := eq_true c20
              have c20b1 : decide ((t136.size : Int) ≤ (t136.size : Int)) = true := decide_eq_true c20
              clear c20
              obtain rfl := Option.some.inj H
              go_wp2
              go_ret
              exact ⟨by first | rfl | (simp [errW_none, errW_some] <;> rfl) | (simp [*, errW_none, errW_some] <;> rfl), by repeat (first | (with_reducible first | exact HB.out | apply below_alloc | apply pw_below_drewN | apply below_drew1) | exact HB.out)⟩
            · rw [if_neg c20] at H
              exact absurd H (by simp)
          · rw [if_neg c19] at H
            exact absurd H (by simp)
      · replace c8 := Bool.eq_false_iff.mpr c8
        subst c8
        have H1 : (if (t136.size : Int) > 0 then (if 0 ≤ (wrap64 ((t136.size : Int) - 1)) then (if (wrap64 ((t136.size : Int) - 1)) < (t136.size : Int) then (if (bt t136 (wrap64 ((t136.size : Int) - 1))) = 32 then (if 0 ≤ 0 then (if 0 ≤ (wrap64 ((t136.size : Int) - 1)) then (if (wrap64 ((t136.size : Int) - 1)) ≤ (t136.size : Int) then (some (t136.extract (0 : Int).toNat ((wrap64 ((t136.size : Int) - 1)) : Int).toNat)) else (none)) else (none)) else (none)) else (if 0 ≤ 0 then (if 0 ≤ (t136.size : Int) then (if (t136.size : Int) ≤ (t136.size : Int) then (some (t136.extract (0 : Int).toNat ((t136.size : Int) : Int).toNat)) else (none)) else (none)) else (none))) else (none)) else (none)) else (if 0 ≤ 0 then (if 0 ≤ (t136.size : Int) then (if (t136.size : Int) ≤ (t136.size : Int) then (some (t136.extract (0 : Int).toNat ((t136.size : Int) : Int).toNat)) else (none)) else (none)) else (none))) = some r := by rw [if_neg (show ¬ (false = true) by decide)] at H; exact H
        clear H
        have H := H1
        clear H1
        by_cases c21 : (t136.size : Int) > 0
        · rw [if_pos c21] at H
          have c21b0 : decide (0 < (t136.size : Int)) = true := decide_eq_true c21
          have c21b1 : decide (0 < t136.size) = true := decide_eq_true (by omega)
          clear c21
          obtain ⟨ji22, hji22⟩ : ∃ j_ : Int, (wrap64 ((t136.size : Int) - 1)) = j_ := ⟨_, rfl⟩
          replace H : (if 0 ≤ (ji22) then (if (ji22) < (t136.size : Int) then (if (bt t136 (ji22)) = 32 then (if 0 ≤ 0 then (if 0 ≤ (ji22) then (if (ji22) ≤ (t136.size : Int) then (some (t136.extract (0 : Int).toNat ((ji22) : Int).toNat)) else (none)) else (none)) else (none)) else (if 0 ≤ 0 then (if 0 ≤ (t136.size : Int) then (if (t136.size : Int) ≤ (t136.size : Int) then (some (t136.extract (0 : Int).toNat ((t136.size : Int) : Int).toNat)) else (none)) else (none)) else (none))) else (none)) else (none)) = some r := by first | (rw [hji22] at H; exact H) | (simp only [hji22] at H ⊢; exact H)
          have hji22w : (IntKind.i64.wrap ((t136.size : Int) - 1)) = ji22 := (i64_w _).trans hji22
          by_cases c23 : 0 ≤ (ji22)
          · rw [if_pos c23] at H
            have c23b0 : decide (0 ≤ (ji22)) = true := decide_eq_true c23
            clear c23
            by_cases c24 : (ji22) < (t136.size : Int)
            · rw [if_pos c24] at H
              have c24b0 : decide ((ji22) < (t136.size : Int)) = true := decide_eq_true c24
              clear c24
              by_cases c26 : (bt t136 (ji22)) = 32
              · rw [if_pos c26] at H
                have c26b0 : ((bt t136 (ji22)) == 32) = true := beq_iff_eq.mpr c26
                have c26b1 : ((bt t136 (ji22)) != 32) = false := bne_eq_false_iff_eq.mpr c26
                clear c26
                by_cases c27 : 0 ≤ 0
                · rw [if_pos c27] at H
                  have c27b0 := eq_true c27
                  have c27b1 : decide (0 ≤ 0) = true := decide_eq_true c27
                  clear c27
                  by_cases c28 : 0 ≤ (ji22)
                  · rw [if_pos c28] at H
                    have c28b0 := eq_true c28
                    have c28b1 : decide (0 ≤ (ji22)) = true := decide_eq_true c28
                    clear c28
                    by_cases c29 : (ji22) ≤ (t136.size : Int)
                    · rw [if_pos c29] at H
                      have c29b0 := eq_true c29
                      have c29b1 : decide ((ji22) ≤ (t136.size : Int)) = true := decide_eq_true c29
                      clear c29
                      obtain rfl := Option.some.inj H
                      have p25 : 0 ≤ ((ji22) : Int) := of_decide_eq_true (by first | (with_reducible assumption) | assumption)
                      have q25 : (ji22) < (t136.size : Int) := of_decide_eq_true (by first | (with_reducible assumption) | assumption)
                      have hx25 := bt_at t136 (ji22)
                      replace p25 := eq_true p25
                      replace q25 := eq_true q25
                      go_wp2
                      go_ret
                      exact ⟨by first | rfl | (simp [errW_none, errW_some] <;> rfl) | (simp only [← hji22]; first | rfl | (simp [errW_none, errW_some] <;> rfl)) | (simp [*, errW_none, errW_some] <;> rfl), by repeat (first | (with_reducible first | exact HB.out | apply below_alloc | apply pw_below_drewN | apply below_drew1) | exact HB.out)⟩
                    · rw [if_neg c29] at H
                      exact absurd H (by simp)
                  · rw [if_neg c28] at H
                    exact absurd H (by simp)
                · rw [if_neg c27] at H
                  exact absurd H (by simp)
              · rw [if_neg c26] at H
                have c26b0 : ((bt t136 (ji22)) == 32) = false := beq_eq_false_iff_ne.mpr c26
                have c26b1 : ((bt t136 (ji22)) != 32) = true := bne_iff_ne.mpr c26
                by_cases c30 : 0 ≤ 0
                · rw [if_pos c30] at H
                  have c30b0 := eq_true c30
                  have c30b1 : decide (0 ≤ 0) = true := decide_eq_true c30
                  clear c30
                  by_cases c31 : 0 ≤ (t136.size : Int)
                  · rw [if_pos c31] at H
                    have c31b0 := eq_true c31
                    have c31b1 : decide (0 ≤ (t136.size : Int)) = true := decide_eq_true c31
                    clear c31
                    by_cases c32 : (t136.size : Int) ≤ (t136.size : Int)
                    · rw [if_pos c32] at H
                      have c32b0 := eq_true c32
                      have c32b1 : decide ((t136.size : Int) ≤ (t136.size : Int)) = true := decide_eq_true c32
                      clear c32
                      obtain rfl := Option.some.inj H
                      have p25 : 0 ≤ ((ji22) : Int) := of_decide_eq_true (by first | (with_reducible assumption) | assumption)
                      have q25 : (ji22) < (t136.size : Int) := of_decide_eq_true (by first | (with_reducible assumption) | assumption)
                      have hx25 := bt_at t136 (ji22)
                      replace p25 := eq_true p25
                      replace q25 := eq_true q25
                      go_wp2
                      go_ret
                      exact ⟨by first | rfl | (simp [errW_none, errW_some] <;> rfl) | (simp only [← hji22]; first | rfl | (simp [errW_none, errW_some] <;> rfl)) | (simp [*, errW_none, errW_some] <;> rfl), by repeat (first | (with_reducible first | exact HB.out | apply below_alloc | apply pw_below_drewN | apply below_drew1) | exact HB.out)⟩
                    · rw [if_neg c32] at H
                      exact absurd H (by simp)
                  · rw [if_neg c31] at H
                    exact absurd H (by simp)
                · rw [if_neg c30] at H
                  exact absurd H (by simp)
            · rw [if_neg c24] at H
              exact absurd H (by simp)
          · rw [if_neg c23] at H
            exact absurd H (by simp)
        · rw [if_neg c21] at H
          have c21b0 : decide (0 < (t136.size : Int)) = false := decide_eq_false c21
          have c21b1 : decide (0 < t136.size) = false := decide_eq_false (by omega)
          clear c21
          by_cases c33 : 0 ≤ 0
          · rw [if_pos c33] at H
            have c33b0 := eq_true c33
            have c33b1 : decide (0 ≤ 0) = true := decide_eq_true c33
            clear c33
            by_cases c34 : 0 ≤ (t136.size : Int)
            · rw [if_pos c34] at H
              have c34b0 := eq_true c34
              have c34b1 : decide (0 ≤ (t136.size : Int)) = true := decide_eq_true c34
              clear c34
              by_cases c35 : (t136.size : Int) ≤ (t136.size : Int)
              · rw [if_pos c35] at H
                have c35b0 := eq_true c35
                have c35b1 : decide ((t136.size : Int) ≤ (t136.size : Int)) = true := decide_eq_true c35
                clear c35
                obtain rfl := Option.some.inj H
                go_wp2
                go_ret
                exact ⟨by first | rfl | (simp [errW_none, errW_some] <;> rfl) | (simp [*, errW_none, errW_some] <;> rfl), by repeat (first | (with_reducible first | exact HB.out | apply below_alloc | apply pw_below_drewN | apply below_drew1) | exact HB.out)⟩
              · rw [if_neg c35] at H
                exact absurd H (by simp)
            · rw [if_neg c34] at H
              exact absurd H (by simp)
          · rw [if_neg c33] at H
            exact absurd H (by simp)

/-! ### text_Normal: function 14 -/
def text_Normal.f (k : Nat) (a0 : ByteArray) : Option (ByteArray) := (text_Fold.f a0).bind fun t137 => ((text_Squeeze.f k t137).bind fun t138 => (some t138))
theorem text_Normal.mono : ∀ a0 k, LeO (text_Normal.f k a0) (text_Normal.f (k + 1) a0) := by
  intro a0 k
  unfold text_Normal.f
  repeat' first
      | (with_reducible exact text_Squeeze.mono _ _)
      | (with_reducible exact LeO.refl _)
      | (with_reducible exact LeO.none _)
      | (with_reducible refine LeO.ite ?_ ?_)
      | (with_reducible refine LeO.bind ?_ (fun _ => ?_))
      | exact text_Squeeze.mono _ _
      | exact LeO.none _
      | refine LeO.ite ?_ ?_
      | refine LeO.bind ?_ (fun _ => ?_)
set_option maxHeartbeats 8000000 in
set_option maxRecDepth 100000 in
theorem text_Normal.calls (k : Nat) (a0 : ByteArray) (r : ByteArray) (w : World) (h : text_Normal.f k a0 = some r) :
    Calls Try.prog 14 #[.string a0] w fun e w' => e = .returned (.string r) ∧ Below w.heap.size w w' := by
  have HB := Aside0.mk (Below.refl w.heap.size w)
  have H : ((text_Fold.f a0).bind fun t137 => ((text_Squeeze.f k t137).bind fun t138 => (some t138))) = some r := h
  clear h
  replace H := Option.bind_eq_some_iff.mp H
  obtain ⟨t137, A20, H⟩ := H
  replace H : ((text_Squeeze.f k t137).bind fun t138 => (some t138)) = some r := H
  have A2 := Aside0.mk A20
  clear A20
  replace H := Option.bind_eq_some_iff.mp H
  obtain ⟨t138, A30, H⟩ := H
  replace H : (some t138) = some r := H
  have A3 := Aside0.mk A30
  clear A30
  obtain rfl := Option.some.inj H
  go_enter Try.func14, Try.ntmps14
  go_wp2_with (first | ((with_reducible refine gate_callee (f := 8) rfl ?_); refine goesL_ (some 4) rfl rfl Try.func8 (by kernel_rfl) rfl #[.string a0] rfl (by (try simp only [List.map_toArray, List.map_cons, List.map_nil]); first | done | rfl | (simp only [List.length_drop, List.length_take]; rfl)) ?_; (with_reducible refine (text_Fold.calls a0 t137 _ A2.out).mono ?_); rintro e w4 ⟨rfl, hb⟩; refine ⟨_, rfl, ?_⟩; have n0_ := Aside0.mk (below_step (by repeat (first | (with_reducible first | exact HB.out | apply below_alloc | apply pw_below_drewN | apply below_drew1) | exact HB.out)) hb); clear HB; have HB := n0_; clear n0_; (try clear hb); (try clear hb2); (try clear hk); (try clear hi)) | ((with_reducible refine gate_callee (f := 12) rfl ?_); refine goesL_ (some 5) rfl rfl Try.func12 (by kernel_rfl) rfl #[.string t137] rfl (by (try simp only [List.map_toArray, List.map_cons, List.map_nil]); first | done | rfl | (simp only [List.length_drop, List.length_take]; rfl)) ?_; (with_reducible refine (text_Squeeze.calls k t137 t138 _ A3.out).mono ?_); rintro e w5 ⟨rfl, hb⟩; refine ⟨_, rfl, ?_⟩; have n0_ := Aside0.mk (below_step (by repeat (first | (with_reducible first | exact HB.out | apply below_alloc | apply pw_below_drewN | apply below_drew1) | exact HB.out)) hb); clear HB; have HB := n0_; clear n0_; (try clear hb); (try clear hb2); (try clear hk); (try clear hi)))
  go_ret
  exact ⟨by first | rfl | (simp [errW_none, errW_some] <;> rfl) | (simp [*, errW_none, errW_some] <;> rfl), by repeat (first | (with_reducible first | exact HB.out | apply below_alloc | apply pw_below_drewN | apply below_drew1) | exact HB.out)⟩

/-! ### rosterref01_Normal: function 15 -/
def rosterref01_Normal.f (k : Nat) (a0 : ByteArray) : Option (ByteArray) := (rosterref01_Fold.f k a0).bind fun t139 => ((rosterref01_Squeeze.f k t139).bind fun t140 => (some t140))
theorem rosterref01_Normal.mono : ∀ a0 k, LeO (rosterref01_Normal.f k a0) (rosterref01_Normal.f (k + 1) a0) := by
  intro a0 k
  unfold rosterref01_Normal.f
  repeat' first
      | (with_reducible exact rosterref01_Fold.mono _ _)
      | (with_reducible exact rosterref01_Squeeze.mono _ _)
      | (with_reducible exact LeO.refl _)
      | (with_reducible exact LeO.none _)
      | (with_reducible refine LeO.ite ?_ ?_)
      | (with_reducible refine LeO.bind ?_ (fun _ => ?_))
      | exact rosterref01_Fold.mono _ _
      | exact rosterref01_Squeeze.mono _ _
      | exact LeO.none _
      | refine LeO.ite ?_ ?_
      | refine LeO.bind ?_ (fun _ => ?_)
set_option maxHeartbeats 8000000 in
set_option maxRecDepth 100000 in
theorem rosterref01_Normal.calls (k : Nat) (a0 : ByteArray) (r : ByteArray) (w : World) (h : rosterref01_Normal.f k a0 = some r) :
    Calls Try.prog 15 #[.string a0] w fun e w' => e = .returned (.string r) ∧ Below w.heap.size w w' := by
  have HB := Aside0.mk (Below.refl w.heap.size w)
  have H : ((rosterref01_Fold.f k a0).bind fun t139 => ((rosterref01_Squeeze.f k t139).bind fun t140 => (some t140))) = some r := h
  clear h
  replace H := Option.bind_eq_some_iff.mp H
  obtain ⟨t139, A20, H⟩ := H
  replace H : ((rosterref01_Squeeze.f k t139).bind fun t140 => (some t140)) = some r := H
  have A2 := Aside0.mk A20
  clear A20
  replace H := Option.bind_eq_some_iff.mp H
  obtain ⟨t140, A30, H⟩ := H
  replace H : (some t140) = some r := H
  have A3 := Aside0.mk A30
  clear A30
  obtain rfl := Option.some.inj H
  go_enter Try.func15, Try.ntmps15
  go_wp2_with (first | ((with_reducible refine gate_callee (f := 9) rfl ?_); refine goesL_ (some 5) rfl rfl Try.func9 (by kernel_rfl) rfl #[.string a0] rfl (by (try simp only [List.map_toArray, List.map_cons, List.map_nil]); first | done | rfl | (simp only [List.length_drop, List.length_take]; rfl)) ?_; (with_reducible refine (rosterref01_Fold.calls k a0 t139 _ A2.out).mono ?_); rintro e w4 ⟨rfl, hb⟩; refine ⟨_, rfl, ?_⟩; have n0_ := Aside0.mk (below_step (by repeat (first | (with_reducible first | exact HB.out | apply below_alloc | apply pw_below_drewN | apply below_drew1) | exact HB.out)) hb); clear HB; have HB := n0_; clear n0_; (try clear hb); (try clear hb2); (try clear hk); (try clear hi)) | ((with_reducible refine gate_callee (f := 13) rfl ?_); refine goesL_ (some 7) rfl rfl Try.func13 (by kernel_rfl) rfl #[.string t139] rfl (by (try simp only [List.map_toArray, List.map_cons, List.map_nil]); first | done | rfl | (simp only [List.length_drop, List.length_take]; rfl)) ?_; (with_reducible refine (rosterref01_Squeeze.calls k t139 t140 _ A3.out).mono ?_); rintro e w5 ⟨rfl, hb⟩; refine ⟨_, rfl, ?_⟩; have n0_ := Aside0.mk (below_step (by repeat (first | (with_reducible first | exact HB.out | apply below_alloc | apply pw_below_drewN | apply below_drew1) | exact HB.out)) hb); clear HB; have HB := n0_; clear n0_; (try clear hb); (try clear hb2); (try clear hk); (try clear hi)))
  go_ret
  exact ⟨by first | rfl | (simp [errW_none, errW_some] <;> rfl) | (simp [*, errW_none, errW_some] <;> rfl), by repeat (first | (with_reducible first | exact HB.out | apply below_alloc | apply pw_below_drewN | apply below_drew1) | exact HB.out)⟩

/-! ### rosterlaw01_TextFolds: function 3 -/
def rosterlaw01_TextFolds.j0 : Nat → ByteArray → Bool → Option (Bool)
  | 0, _, _ => none
  | k + 1, x0, x14 => if x14 = true then (some false) else ((text_Squeeze.f k x0).bind fun t145 => ((rosterref01_Squeeze.f k x0).bind fun t146 => (if t145.toList = t146.toList then ((text_Normal.f k x0).bind fun t147 => ((rosterref01_Normal.f k x0).bind fun t148 => (some (t147.toList == t148.toList)))) else (some false))))
def rosterlaw01_TextFolds.f (k : Nat) (a0 : ByteArray) : Option (Bool) := (text_Fold.f a0).bind fun t141 => ((rosterref01_Fold.f k a0).bind fun t142 => (if t141.toList = t142.toList then ((text_Collapse.f k a0).bind fun t143 => ((rosterref01_Collapse.f k a0).bind fun t144 => (rosterlaw01_TextFolds.j0 k a0 (t143.toList != t144.toList)))) else (rosterlaw01_TextFolds.j0 k a0 true)))
theorem rosterlaw01_TextFolds.mono_l : ∀ k, (∀ y0 y1, LeO (rosterlaw01_TextFolds.j0 k y0 y1) (rosterlaw01_TextFolds.j0 (k + 1) y0 y1))
  | 0 => fun _ _ r h => by simp [rosterlaw01_TextFolds.j0] at h
  | k + 1 => by
    have ih0 := rosterlaw01_TextFolds.mono_l k
    · intro y0 y1
      unfold rosterlaw01_TextFolds.j0
      repeat' first
      | (with_reducible exact ih0 _ _)
      | (with_reducible exact rosterref01_Collapse.mono _ _)
      | (with_reducible exact rosterref01_Fold.mono _ _)
      | (with_reducible exact rosterref01_Normal.mono _ _)
      | (with_reducible exact rosterref01_Squeeze.mono _ _)
      | (with_reducible exact text_Collapse.mono _ _)
      | (with_reducible exact text_Normal.mono _ _)
      | (with_reducible exact text_Squeeze.mono _ _)
      | (with_reducible exact LeO.refl _)
      | (with_reducible exact LeO.none _)
      | (with_reducible refine LeO.ite ?_ ?_)
      | (with_reducible refine LeO.bind ?_ (fun _ => ?_))
      | exact ih0 _ _
      | exact rosterref01_Collapse.mono _ _
      | exact rosterref01_Fold.mono _ _
      | exact rosterref01_Normal.mono _ _
      | exact rosterref01_Squeeze.mono _ _
      | exact text_Collapse.mono _ _
      | exact text_Normal.mono _ _
      | exact text_Squeeze.mono _ _
      | exact LeO.none _
      | refine LeO.ite ?_ ?_
      | refine LeO.bind ?_ (fun _ => ?_)
theorem rosterlaw01_TextFolds.mono : ∀ a0 k, LeO (rosterlaw01_TextFolds.f k a0) (rosterlaw01_TextFolds.f (k + 1) a0) := by
  intro a0 k
  have ih0 := rosterlaw01_TextFolds.mono_l k
  unfold rosterlaw01_TextFolds.f
  repeat' first
      | (with_reducible exact ih0 _ _)
      | (with_reducible exact rosterref01_Collapse.mono _ _)
      | (with_reducible exact rosterref01_Fold.mono _ _)
      | (with_reducible exact rosterref01_Normal.mono _ _)
      | (with_reducible exact rosterref01_Squeeze.mono _ _)
      | (with_reducible exact text_Collapse.mono _ _)
      | (with_reducible exact text_Normal.mono _ _)
      | (with_reducible exact text_Squeeze.mono _ _)
      | (with_reducible exact LeO.refl _)
      | (with_reducible exact LeO.none _)
      | (with_reducible refine LeO.ite ?_ ?_)
      | (with_reducible refine LeO.bind ?_ (fun _ => ?_))
      | exact ih0 _ _
      | exact rosterref01_Collapse.mono _ _
      | exact rosterref01_Fold.mono _ _
      | exact rosterref01_Normal.mono _ _
      | exact rosterref01_Squeeze.mono _ _
      | exact text_Collapse.mono _ _
      | exact text_Normal.mono _ _
      | exact text_Squeeze.mono _ _
      | exact LeO.none _
      | refine LeO.ite ?_ ?_
      | refine LeO.bind ?_ (fun _ => ?_)
set_option maxHeartbeats 8000000 in
set_option maxRecDepth 100000 in
theorem rosterlaw01_TextFolds.calls (k : Nat) (a0 : ByteArray) (r : Bool) (w : World) (h : rosterlaw01_TextFolds.f k a0 = some r) :
    Calls Try.prog 3 #[.string a0] w fun e w' => e = .returned (.bool r) ∧ Below w.heap.size w w' := by
  have HB := Aside0.mk (Below.refl w.heap.size w)
  have H : ((text_Fold.f a0).bind fun t141 => ((rosterref01_Fold.f k a0).bind fun t142 => (if t141.toList = t142.toList then ((text_Collapse.f k a0).bind fun t143 => ((rosterref01_Collapse.f k a0).bind fun t144 => (rosterlaw01_TextFolds.j0 k a0 (t143.toList != t144.toList)))) else (rosterlaw01_TextFolds.j0 k a0 true)))) = some r := h
  clear h
  have HC2 := Aside0.mk H
  clear H
  go_enter Try.func3, Try.ntmps3
  go_upto_region 1 with (fail)
  go_cut [14] (fun v14 wc => ∃ (kq : Nat) (x14_1 : Bool), v14 = .bool x14_1 ∧ Aside0 (rosterlaw01_TextFolds.j0 kq a0 x14_1 = some r) ∧ Aside0 (kq ≤ k) ∧ Aside0 (Below w.heap.size w wc))
  case first =>
    have H := HC2.out
    clear HC2
    replace H := Option.bind_eq_some_iff.mp H
    obtain ⟨t141, A30, H⟩ := H
    replace H : ((rosterref01_Fold.f k a0).bind fun t142 => (if t141.toList = t142.toList then ((text_Collapse.f k a0).bind fun t143 => ((rosterref01_Collapse.f k a0).bind fun t144 => (rosterlaw01_TextFolds.j0 k a0 (t143.toList != t144.toList)))) else (rosterlaw01_TextFolds.j0 k a0 true))) = some r := H
    have A3 := Aside0.mk A30
    clear A30
    replace H := Option.bind_eq_some_iff.mp H
    obtain ⟨t142, A40, H⟩ := H
    replace H : (if t141.toList = t142.toList then ((text_Collapse.f k a0).bind fun t143 => ((rosterref01_Collapse.f k a0).bind fun t144 => (rosterlaw01_TextFolds.j0 k a0 (t143.toList != t144.toList)))) else (rosterlaw01_TextFolds.j0 k a0 true)) = some r := H
    have A4 := Aside0.mk A40
    clear A40
    by_cases c5 : t141.toList = t142.toList
    · rw [if_pos c5] at H
      have c5b0 : (t141.toList == t142.toList) = true := beq_iff_eq.mpr c5
      have c5b1 : (t141.toList != t142.toList) = false := bne_eq_false_iff_eq.mpr c5
      clear c5
      (first | rw [c5b0] | (simp only [i64_w, i32_w]; rw [c5b0]) | skip)
      replace H := Option.bind_eq_some_iff.mp H
      obtain ⟨t143, A60, H⟩ := H
      replace H : ((rosterref01_Collapse.f k a0).bind fun t144 => (rosterlaw01_TextFolds.j0 k a0 (t143.toList != t144.toList))) = some r := H
      have A6 := Aside0.mk A60
      clear A60
      replace H := Option.bind_eq_some_iff.mp H
      obtain ⟨t144, A70, H⟩ := H
      replace H : (rosterlaw01_TextFolds.j0 k a0 (t143.toList != t144.toList)) = some r := H
      have A7 := Aside0.mk A70
      clear A70
      have H' := Aside0.mk H
      clear H
      go_wp2_with (first | ((with_reducible refine gate_callee (f := 8) rfl ?_); refine goesL_ (some 4) rfl rfl Try.func8 (by kernel_rfl) rfl #[.string a0] rfl (by (try simp only [List.map_toArray, List.map_cons, List.map_nil]); first | done | rfl | (simp only [List.length_drop, List.length_take]; rfl)) ?_; (with_reducible refine (text_Fold.calls a0 t141 _ A3.out).mono ?_); rintro e w8 ⟨rfl, hb⟩; refine ⟨_, rfl, ?_⟩; have n0_ := Aside0.mk (below_step (by repeat (first | (with_reducible first | exact HB.out | apply below_alloc | apply pw_below_drewN | apply below_drew1) | exact HB.out)) hb); clear HB; have HB := n0_; clear n0_; (try clear hb); (try clear hb2); (try clear hk); (try clear hi)) | ((with_reducible refine gate_callee (f := 9) rfl ?_); refine goesL_ (some 6) rfl rfl Try.func9 (by kernel_rfl) rfl #[.string a0] rfl (by (try simp only [List.map_toArray, List.map_cons, List.map_nil]); first | done | rfl | (simp only [List.length_drop, List.length_take]; rfl)) ?_; (with_reducible refine (rosterref01_Fold.calls k a0 t142 _ A4.out).mono ?_); rintro e w9 ⟨rfl, hb⟩; refine ⟨_, rfl, ?_⟩; have n0_ := Aside0.mk (below_step (by repeat (first | (with_reducible first | exact HB.out | apply below_alloc | apply pw_below_drewN | apply below_drew1) | exact HB.out)) hb); clear HB; have HB := n0_; clear n0_; (try clear hb); (try clear hb2); (try clear hk); (try clear hi)) | (go_at_call 10; (with_reducible refine (text_Collapse.calls k a0 t143 _ A6.out).mono ?_); rintro e w10 ⟨rfl, hb⟩; have n0_ := Aside0.mk (below_step (by repeat (first | (with_reducible first | exact HB.out | apply below_alloc | apply pw_below_drewN | apply below_drew1) | exact HB.out)) hb); clear HB; have HB := n0_; clear n0_; (try clear hb); (try clear hb2); (try clear hk); (try clear hi)) | (go_at_call 11; (with_reducible refine (rosterref01_Collapse.calls k a0 t144 _ A7.out).mono ?_); rintro e w11 ⟨rfl, hb⟩; have n0_ := Aside0.mk (below_step (by repeat (first | (with_reducible first | exact HB.out | apply below_alloc | apply pw_below_drewN | apply below_drew1) | exact HB.out)) hb); clear HB; have HB := n0_; clear n0_; (try clear hb); (try clear hb2); (try clear hk); (try clear hi)))
      go_meet
      case rel => exact ⟨_, ((t143.toList != t144.toList)), (by first | rfl | (simp; done) | (simp [*]; done)), H', ⟨by first | omega | exact Nat.le_refl _⟩, ⟨by repeat (first | (with_reducible first | exact HB.out | apply below_alloc | apply pw_below_drewN | apply below_drew1) | exact HB.out)⟩⟩
    · rw [if_neg c5] at H
      have c5b0 : (t141.toList == t142.toList) = false := beq_eq_false_iff_ne.mpr c5
      have c5b1 : (t141.toList != t142.toList) = true := bne_iff_ne.mpr c5
      (first | rw [c5b0] | (simp only [i64_w, i32_w]; rw [c5b0]) | skip)
      have H' := Aside0.mk H
      clear H
      go_wp2_with (first | ((with_reducible refine gate_callee (f := 8) rfl ?_); refine goesL_ (some 4) rfl rfl Try.func8 (by kernel_rfl) rfl #[.string a0] rfl (by (try simp only [List.map_toArray, List.map_cons, List.map_nil]); first | done | rfl | (simp only [List.length_drop, List.length_take]; rfl)) ?_; (with_reducible refine (text_Fold.calls a0 t141 _ A3.out).mono ?_); rintro e w12 ⟨rfl, hb⟩; refine ⟨_, rfl, ?_⟩; have n0_ := Aside0.mk (below_step (by repeat (first | (with_reducible first | exact HB.out | apply below_alloc | apply pw_below_drewN | apply below_drew1) | exact HB.out)) hb); clear HB; have HB := n0_; clear n0_; (try clear hb); (try clear hb2); (try clear hk); (try clear hi)) | ((with_reducible refine gate_callee (f := 9) rfl ?_); refine goesL_ (some 6) rfl rfl Try.func9 (by kernel_rfl) rfl #[.string a0] rfl (by (try simp only [List.map_toArray, List.map_cons, List.map_nil]); first | done | rfl | (simp only [List.length_drop, List.length_take]; rfl)) ?_; (with_reducible refine (rosterref01_Fold.calls k a0 t142 _ A4.out).mono ?_); rintro e w13 ⟨rfl, hb⟩; refine ⟨_, rfl, ?_⟩; have n0_ := Aside0.mk (below_step (by repeat (first | (with_reducible first | exact HB.out | apply below_alloc | apply pw_below_drewN | apply below_drew1) | exact HB.out)) hb); clear HB; have HB := n0_; clear n0_; (try clear hb); (try clear hb2); (try clear hk); (try clear hi)))
      go_meet
      case rel => exact ⟨_, (true), (by first | rfl | (simp; done) | (simp [*]; done)), H', ⟨by first | omega | exact Nat.le_refl _⟩, ⟨by repeat (first | (with_reducible first | exact HB.out | apply below_alloc | apply pw_below_drewN | apply below_drew1) | exact HB.out)⟩⟩
  case rest =>
    clear HC2
    try clear p2
    try clear c3
    try clear c5
    try clear c5b0
    try clear c5b1
    try clear c8
    try clear c9
    obtain ⟨kq, x14_1, rfl, HA, HJ1, HB⟩ := hcut
    cases kq with
    | zero => exact absurd HA.out (by simp [rosterlaw01_TextFolds.j0])
    | succ kj1 =>
      have H := HA.out
      clear HA
      simp only [rosterlaw01_TextFolds.j0] at H
      by_cases c14 : x14_1 = true
      · subst c14
        have H1 : (some false) = some r := by rw [if_pos rfl] at H; exact H
        clear H
        have H := H1
        clear H1
        obtain rfl := Option.some.inj H
        go_wp2
        go_ret
        exact ⟨by first | rfl | (simp [errW_none, errW_some] <;> rfl) | (simp [*, errW_none, errW_some] <;> rfl), by repeat (first | (with_reducible first | exact HB.out | apply below_alloc | apply pw_below_drewN | apply below_drew1) | exact HB.out)⟩
      · replace c14 := Bool.eq_false_iff.mpr c14
        subst c14
        have H1 : ((text_Squeeze.f kj1 a0).bind fun t145 => ((rosterref01_Squeeze.f kj1 a0).bind fun t146 => (if t145.toList = t146.toList then ((text_Normal.f kj1 a0).bind fun t147 => ((rosterref01_Normal.f kj1 a0).bind fun t148 => (some (t147.toList == t148.toList)))) else (some false)))) = some r := by rw [if_neg (show ¬ (false = true) by decide)] at H; exact H
        clear H
        have H := H1
        clear H1
        replace H := Option.bind_eq_some_iff.mp H
        obtain ⟨t145, A150, H⟩ := H
        replace H : ((rosterref01_Squeeze.f kj1 a0).bind fun t146 => (if t145.toList = t146.toList then ((text_Normal.f kj1 a0).bind fun t147 => ((rosterref01_Normal.f kj1 a0).bind fun t148 => (some (t147.toList == t148.toList)))) else (some false))) = some r := H
        have A15 := Aside0.mk A150
        clear A150
        replace H := Option.bind_eq_some_iff.mp H
        obtain ⟨t146, A160, H⟩ := H
        replace H : (if t145.toList = t146.toList then ((text_Normal.f kj1 a0).bind fun t147 => ((rosterref01_Normal.f kj1 a0).bind fun t148 => (some (t147.toList == t148.toList)))) else (some false)) = some r := H
        have A16 := Aside0.mk A160
        clear A160
        by_cases c17 : t145.toList = t146.toList
        · rw [if_pos c17] at H
          have c17b0 : (t145.toList == t146.toList) = true := beq_iff_eq.mpr c17
          have c17b1 : (t145.toList != t146.toList) = false := bne_eq_false_iff_eq.mpr c17
          clear c17
          replace H := Option.bind_eq_some_iff.mp H
          obtain ⟨t147, A180, H⟩ := H
          replace H : ((rosterref01_Normal.f kj1 a0).bind fun t148 => (some (t147.toList == t148.toList))) = some r := H
          have A18 := Aside0.mk A180
          clear A180
          replace H := Option.bind_eq_some_iff.mp H
          obtain ⟨t148, A190, H⟩ := H
          replace H : (some (t147.toList == t148.toList)) = some r := H
          have A19 := Aside0.mk A190
          clear A190
          obtain rfl := Option.some.inj H
          go_wp2_with (first | ((with_reducible refine gate_callee (f := 12) rfl ?_); refine goesL_ (some 16) rfl rfl Try.func12 (by kernel_rfl) rfl #[.string a0] rfl (by (try simp only [List.map_toArray, List.map_cons, List.map_nil]); first | done | rfl | (simp only [List.length_drop, List.length_take]; rfl)) ?_; (with_reducible refine (text_Squeeze.calls kj1 a0 t145 _ A15.out).mono ?_); rintro e w20 ⟨rfl, hb⟩; refine ⟨_, rfl, ?_⟩; have n0_ := Aside0.mk (below_step (by repeat (first | (with_reducible first | exact HB.out | apply below_alloc | apply pw_below_drewN | apply below_drew1) | exact HB.out)) hb); clear HB; have HB := n0_; clear n0_; (try clear hb); (try clear hb2); (try clear hk); (try clear hi)) | ((with_reducible refine gate_callee (f := 13) rfl ?_); refine goesL_ (some 18) rfl rfl Try.func13 (by kernel_rfl) rfl #[.string a0] rfl (by (try simp only [List.map_toArray, List.map_cons, List.map_nil]); first | done | rfl | (simp only [List.length_drop, List.length_take]; rfl)) ?_; (with_reducible refine (rosterref01_Squeeze.calls kj1 a0 t146 _ A16.out).mono ?_); rintro e w21 ⟨rfl, hb⟩; refine ⟨_, rfl, ?_⟩; have n0_ := Aside0.mk (below_step (by repeat (first | (with_reducible first | exact HB.out | apply below_alloc | apply pw_below_drewN | apply below_drew1) | exact HB.out)) hb); clear HB; have HB := n0_; clear n0_; (try clear hb); (try clear hb2); (try clear hk); (try clear hi)) | (go_at_call 14; (with_reducible refine (text_Normal.calls kj1 a0 t147 _ A18.out).mono ?_); rintro e w22 ⟨rfl, hb⟩; have n0_ := Aside0.mk (below_step (by repeat (first | (with_reducible first | exact HB.out | apply below_alloc | apply pw_below_drewN | apply below_drew1) | exact HB.out)) hb); clear HB; have HB := n0_; clear n0_; (try clear hb); (try clear hb2); (try clear hk); (try clear hi)) | (go_at_call 15; (with_reducible refine (rosterref01_Normal.calls kj1 a0 t148 _ A19.out).mono ?_); rintro e w23 ⟨rfl, hb⟩; have n0_ := Aside0.mk (below_step (by repeat (first | (with_reducible first | exact HB.out | apply below_alloc | apply pw_below_drewN | apply below_drew1) | exact HB.out)) hb); clear HB; have HB := n0_; clear n0_; (try clear hb); (try clear hb2); (try clear hk); (try clear hi)))
          go_ret
          exact ⟨by first | rfl | (simp [errW_none, errW_some] <;> rfl) | (simp [*, errW_none, errW_some] <;> rfl), by repeat (first | (with_reducible first | exact HB.out | apply below_alloc | apply pw_below_drewN | apply below_drew1) | exact HB.out)⟩
        · rw [if_neg c17] at H
          have c17b0 : (t145.toList == t146.toList) = false := beq_eq_false_iff_ne.mpr c17
          have c17b1 : (t145.toList != t146.toList) = true := bne_iff_ne.mpr c17
          obtain rfl := Option.some.inj H
          go_wp2_with (first | ((with_reducible refine gate_callee (f := 12) rfl ?_); refine goesL_ (some 16) rfl rfl Try.func12 (by kernel_rfl) rfl #[.string a0] rfl (by (try simp only [List.map_toArray, List.map_cons, List.map_nil]); first | done | rfl | (simp only [List.length_drop, List.length_take]; rfl)) ?_; (with_reducible refine (text_Squeeze.calls kj1 a0 t145 _ A15.out).mono ?_); rintro e w24 ⟨rfl, hb⟩; refine ⟨_, rfl, ?_⟩; have n0_ := Aside0.mk (below_step (by repeat (first | (with_reducible first | exact HB.out | apply below_alloc | apply pw_below_drewN | apply below_drew1) | exact HB.out)) hb); clear HB; have HB := n0_; clear n0_; (try clear hb); (try clear hb2); (try clear hk); (try clear hi)) | ((with_reducible refine gate_callee (f := 13) rfl ?_); refine goesL_ (some 18) rfl rfl Try.func13 (by kernel_rfl) rfl #[.string a0] rfl (by (try simp only [List.map_toArray, List.map_cons, List.map_nil]); first | done | rfl | (simp only [List.length_drop, List.length_take]; rfl)) ?_; (with_reducible refine (rosterref01_Squeeze.calls kj1 a0 t146 _ A16.out).mono ?_); rintro e w25 ⟨rfl, hb⟩; refine ⟨_, rfl, ?_⟩; have n0_ := Aside0.mk (below_step (by repeat (first | (with_reducible first | exact HB.out | apply below_alloc | apply pw_below_drewN | apply below_drew1) | exact HB.out)) hb); clear HB; have HB := n0_; clear n0_; (try clear hb); (try clear hb2); (try clear hk); (try clear hi)))
          go_ret
          exact ⟨by first | rfl | (simp [errW_none, errW_some] <;> rfl) | (simp [*, errW_none, errW_some] <;> rfl), by repeat (first | (with_reducible first | exact HB.out | apply below_alloc | apply pw_below_drewN | apply below_drew1) | exact HB.out)⟩

/-! ### rosterlaw01_blank: function 24 -/
def rosterlaw01_blank.f (a0 : Int) : Option (Bool) := if a0 = 32 then (some true) else (if a0 ≥ 9 then (some (decide (a0 ≤ 13))) else (some false))
set_option maxHeartbeats 8000000 in
set_option maxRecDepth 100000 in
theorem rosterlaw01_blank.calls (a0 : Int) (r : Bool) (w : World) (h : rosterlaw01_blank.f a0 = some r) :
    Calls Try.prog 24 #[.int .u8 a0] w fun e w' => e = .returned (.bool r) ∧ Drawn0 w w' := by
  have H : (if a0 = 32 then (some true) else (if a0 ≥ 9 then (some (decide (a0 ≤ 13))) else (some false))) = some r := h
  clear h
  by_cases c2 : a0 = 32
  · rw [if_pos c2] at H
    have c2b0 : (a0 == 32) = true := beq_iff_eq.mpr c2
    have c2b1 : (a0 != 32) = false := bne_eq_false_iff_eq.mpr c2
    clear c2
    obtain rfl := Option.some.inj H
    go_enter Try.func24, Try.ntmps24
    go_wp2
    go_ret
    exact ⟨by first | rfl | (simp; done) | (simp [*]; done), by repeat (first | exact Drawn0.refl _ | apply Drawn0.step)⟩
  · rw [if_neg c2] at H
    have c2b0 : (a0 == 32) = false := beq_eq_false_iff_ne.mpr c2
    have c2b1 : (a0 != 32) = true := bne_iff_ne.mpr c2
    by_cases c3 : a0 ≥ 9
    · rw [if_pos c3] at H
      have c3b0 : decide (9 ≤ a0) = true := decide_eq_true c3
      clear c3
      obtain rfl := Option.some.inj H
      go_enter Try.func24, Try.ntmps24
      go_wp2
      go_ret
      exact ⟨by first | rfl | (simp; done) | (simp [*]; done), by repeat (first | exact Drawn0.refl _ | apply Drawn0.step)⟩
    · rw [if_neg c3] at H
      have c3b0 : decide (9 ≤ a0) = false := decide_eq_false c3
      clear c3
      obtain rfl := Option.some.inj H
      go_enter Try.func24, Try.ntmps24
      go_wp2
      go_ret
      exact ⟨by first | rfl | (simp; done) | (simp [*]; done), by repeat (first | exact Drawn0.refl _ | apply Drawn0.step)⟩

end Go.Proofs.Ytjkhdiphcgpbfaa.X

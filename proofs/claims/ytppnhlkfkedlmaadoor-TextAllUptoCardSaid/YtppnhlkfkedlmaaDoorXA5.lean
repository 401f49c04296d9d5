-- PRINTED by print.py (a twelfth state) out of the translation. Not trusted: Lean checks it.
import Derived.Test.YtppnhlkfkedlmaaDoorXA0
import Derived.Test.YtppnhlkfkedlmaaDoorXA2
import Derived.Test.YtppnhlkfkedlmaaDoorXA4
namespace Go.Proofs.YtppnhlkfkedlmaaDoor.XA
open Go.Proofs.YtppnhlkfkedlmaaDoor.XGA
open Go.Proofs.YtppnhlkfkedlmaaDoor.XE
open Go.Proofs.YtppnhlkfkedlmaaDoor.XS
open Go.Proofs.YtppnhlkfkedlmaaDoor.UnZ
open Go.Proofs.YtppnhlkfkedlmaaDoor.FrontW
open Go.Proofs.YtppnhlkfkedlmaaDoor.XQ
attribute [local irreducible] rowL2
attribute [local go_sem] Go.Proofs.YtppnhlkfkedlmaaDoor.XW.u8_wrap
open Go.RowKit Go.Proofs.YtppnhlkfkedlmaaDoorW.PrintWords Go.Proofs.YtppnhlkfkedlmaaDoorW.PrintLast Go.Proofs.YtppnhlkfkedlmaaDoorW.PrintMore
attribute [local go_sem] max2_int min2_int max_two min_two max_three min_three max_four min_four   -- for this text's walks alone
set_option linter.unusedVariables false
set_option linter.unusedSimpArgs false

/-! ### rosterref01_fits: function 50 -/
def rosterref01_fits.l0 : Nat → ByteArray → Int → Int → Int → Int → Option (Bool)
  | 0, _, _, _, _, _ => none
  | k + 1, x0, x1, x2, x7, x8 => if x8 < x7 then (if 0 ≤ (wrap64 (x1 + x8)) then (if (wrap64 (x1 + x8)) < (x0.size : Int) then (if 0 ≤ x2 then (if x2 < 9 then (if 0 ≤ (wrap64 (1 + (wrap64 (2 * x8)))) then (if (wrap64 (1 + (wrap64 (2 * x8)))) < 9 then (if (wrap64 (bt x0 (wrap64 (x1 + x8)))) < (rd (rowL2 x2) (wrap64 (1 + (wrap64 (2 * x8))))) then (some false) else (if 0 ≤ (wrap64 (2 + (wrap64 (2 * x8)))) then (if (wrap64 (2 + (wrap64 (2 * x8)))) < 9 then (if (wrap64 (bt x0 (wrap64 (x1 + x8)))) > (rd (rowL2 x2) (wrap64 (2 + (wrap64 (2 * x8))))) then (some false) else (rosterref01_fits.l0 k x0 x1 x2 x7 (wrap64 (x8 + 1)))) else (none)) else (none))) else (none)) else (none)) else (none)) else (none)) else (none)) else (none)) else (some true)
def rosterref01_fits.f (k : Nat) (a0 : ByteArray) (a1 : Int) (a2 : Int) : Option (Bool) := if 0 ≤ a2 then (if a2 < 9 then (if 0 < 9 then (if (wrap64 (a1 + (rd (rowL2 a2) 0))) > (a0.size : Int) then (some false) else (rosterref01_fits.l0 k a0 a1 a2 (rd (rowL2 a2) 0) 0)) else (none)) else (none)) else (none)
theorem rosterref01_fits.mono_l : ∀ k, (∀ y0 y1 y2 y3 y4, LeO (rosterref01_fits.l0 k y0 y1 y2 y3 y4) (rosterref01_fits.l0 (k + 1) y0 y1 y2 y3 y4))
  | 0 => fun _ _ _ _ _ r h => by simp [rosterref01_fits.l0] at h
  | k + 1 => by
    have ih0 := rosterref01_fits.mono_l k
    · intro y0 y1 y2 y3 y4
      unfold rosterref01_fits.l0
      repeat' first
      | (with_reducible exact ih0 _ _ _ _ _)
      | (with_reducible exact LeO.refl _)
      | (with_reducible exact LeO.none _)
      | (with_reducible refine LeO.ite ?_ ?_)
      | (with_reducible refine LeO.bind ?_ (fun _ => ?_))
      | exact ih0 _ _ _ _ _
      | exact LeO.none _
      | refine LeO.ite ?_ ?_
      | refine LeO.bind ?_ (fun _ => ?_)
theorem rosterref01_fits.mono : ∀ a0 a1 a2 k, LeO (rosterref01_fits.f k a0 a1 a2) (rosterref01_fits.f (k + 1) a0 a1 a2) := by
  intro a0 a1 a2 k
  have ih0 := rosterref01_fits.mono_l k
  unfold rosterref01_fits.f
  repeat' first
      | (with_reducible exact ih0 _ _ _ _ _)
      | (with_reducible exact LeO.refl _)
      | (with_reducible exact LeO.none _)
      | (with_reducible refine LeO.ite ?_ ?_)
      | (with_reducible refine LeO.bind ?_ (fun _ => ?_))
      | exact ih0 _ _ _ _ _
      | exact LeO.none _
      | refine LeO.ite ?_ ?_
      | refine LeO.bind ?_ (fun _ => ?_)
set_option maxHeartbeats 8000000 in
set_option maxRecDepth 100000 in
theorem rosterref01_fits.calls (k : Nat) (a0 : ByteArray) (a1 : Int) (a2 : Int) (r : Bool) (w : World) (hG : Tabs w) (h : rosterref01_fits.f k a0 a1 a2 = some r) :
    Calls Tryd.prog 50 #[.string a0, .int .i64 a1, .int .i64 a2] w fun e w' => e = .returned (.bool r) ∧ Drawn0 w w' := by
  have HRG2 := Aside0.mk (Tabs_2 hG)
  have H : (if 0 ≤ a2 then (if a2 < 9 then (if 0 < 9 then (if (wrap64 (a1 + (rd (rowL2 a2) 0))) > (a0.size : Int) then (some false) else (rosterref01_fits.l0 k a0 a1 a2 (rd (rowL2 a2) 0) 0)) else (none)) else (none)) else (none)) = some r := h
  clear h
  by_cases c4 : 0 ≤ a2
  · rw [if_pos c4] at H
    have c4b0 : decide (0 ≤ a2) = true := decide_eq_true c4
    clear c4
    by_cases c5 : a2 < 9
    · rw [if_pos c5] at H
      have c5b0 : decide (a2 < 9) = true := decide_eq_true c5
      clear c5
      by_cases c7 : 0 < 9
      · rw [if_pos c7] at H
        have c7b0 : decide (0 < 9) = true := decide_eq_true c7
        clear c7
        by_cases c8 : (wrap64 (a1 + (rd (rowL2 a2) 0))) > (a0.size : Int)
        · rw [if_pos c8] at H
          have c8b0 : decide ((a0.size : Int) < (wrap64 (a1 + (rd (rowL2 a2) 0)))) = true := decide_eq_true c8
          clear c8
          obtain rfl := Option.some.inj H
          have p6 : 0 ≤ (a2 : Int) := of_decide_eq_true (by first | (with_reducible assumption) | assumption)
          have q6 : (a2 : Int) < (9 : Int) := of_decide_eq_true (by first | (with_reducible assumption) | assumption)
          replace p6 := eq_true p6
          replace q6 := eq_true q6
          have HRT157 := Aside0.mk (HRG2.out (a2 : Int) (of_eq_true p6) (of_eq_true q6))
          have p158 : 0 ≤ (0 : Int) := (by omega)
          have q158 : 0 < (9 : Int) := of_decide_eq_true (by first | (with_reducible assumption) | assumption)
          have ql158 : ((0 : Int) < (9 : Int)) = True := eq_true (of_decide_eq_true (by first | (with_reducible assumption) | assumption))
          obtain ⟨ad158, e158, hx158_0⟩ := Kd.at_int HRT157.out 0 p158 q158
          obtain rfl : (⟨2, (a2).toNat * 9, none⟩ : Addr) = ad158 := (by injection e158)
          ((first | simp only [add_plain] at hx158_0 | simp only [add_at] at hx158_0 | simp only [Addr.add, Nat.zero_add] at hx158_0 | skip); (try simp only [Int.toNat_zero, Nat.add_zero] at hx158_0))
          have qi158 : (0 < 9) = True := eq_true (by omega)
          (try rw [show ((0 : Int)).toNat = 0 from rfl] at hx158_0)
          (try rw [Addr.add_zero'] at hx158_0)
          replace p158 := eq_true p158
          replace q158 := eq_true q158
          go_enter Tryd.func50, Tryd.ntmps50
          go_wp2
          go_ret
          exact ⟨by first | rfl | (simp; done) | (simp [*]; done), by repeat (first | exact Drawn0.refl _ | apply Drawn0.step)⟩
        · rw [if_neg c8] at H
          have c8b0 : decide ((a0.size : Int) < (wrap64 (a1 + (rd (rowL2 a2) 0)))) = false := decide_eq_false c8
          clear c8
          have H' := Aside0.mk H
          clear H
          have p6 : 0 ≤ (a2 : Int) := of_decide_eq_true (by first | (with_reducible assumption) | assumption)
          have q6 : (a2 : Int) < (9 : Int) := of_decide_eq_true (by first | (with_reducible assumption) | assumption)
          replace p6 := eq_true p6
          replace q6 := eq_true q6
          have HRT157 := Aside0.mk (HRG2.out (a2 : Int) (of_eq_true p6) (of_eq_true q6))
          have p158 : 0 ≤ (0 : Int) := (by omega)
          have q158 : 0 < (9 : Int) := of_decide_eq_true (by first | (with_reducible assumption) | assumption)
          have ql158 : ((0 : Int) < (9 : Int)) = True := eq_true (of_decide_eq_true (by first | (with_reducible assumption) | assumption))
          obtain ⟨ad158, e158, hx158_0⟩ := Kd.at_int HRT157.out 0 p158 q158
          obtain rfl : (⟨2, (a2).toNat * 9, none⟩ : Addr) = ad158 := (by injection e158)
          ((first | simp only [add_plain] at hx158_0 | simp only [add_at] at hx158_0 | simp only [Addr.add, Nat.zero_add] at hx158_0 | skip); (try simp only [Int.toNat_zero, Nat.add_zero] at hx158_0))
          have qi158 : (0 < 9) = True := eq_true (by omega)
          (try rw [show ((0 : Int)).toNat = 0 from rfl] at hx158_0)
          (try rw [Addr.add_zero'] at hx158_0)
          replace p158 := eq_true p158
          replace q158 := eq_true q158
          go_enter Tryd.func50, Tryd.ntmps50
          go_wp2
          go_loopg [8] k (fun kq v8 w' => ∃ (x8_1 : Int), v8 = .int .i64 x8_1 ∧ Aside0 (rosterref01_fits.l0 kq a0 a1 a2 (rd (rowL2 a2) 0) x8_1 = some r) ∧ Aside0 (kq ≤ k) ∧ Drawn0 w w')
          case atStart => exact ⟨(0), (by first | rfl | (simp; done) | (simp [*]; done)), H', ⟨Nat.le_refl _⟩, by repeat (first | exact Drawn0.refl _ | apply Drawn0.step)⟩
          case round =>
            clear H'
            try clear p1
            try clear q1
            try clear hx1
            try clear qi1
            try clear p2
            try clear c4
            try clear c4b0
            try clear c5
            try clear c5b0
            try clear p6
            try clear q6
            try clear c7
            try clear c7b0
            try clear c8
            try clear c8b0
            try clear hx158_0
            try clear p158
            try clear p6
            try clear q158
            try clear q6
            obtain ⟨x8_1, rfl, HA, HK1, ⟨m1, rfl⟩⟩ := hrel
            cases gk with
            | zero => exact absurd HA.out (by simp [rosterref01_fits.l0])
            | succ k1 =>
              have H := HA.out
              clear HA
              simp only [rosterref01_fits.l0] at H
              by_cases c9 : x8_1 < (rd (rowL2 a2) 0)
              · rw [if_pos c9] at H
                have c9b0 : decide (x8_1 < (rd (rowL2 a2) 0)) = true := decide_eq_true c9
                clear c9
                obtain ⟨ji10, hji10⟩ : ∃ j_ : Int, (wrap64 (a1 + x8_1)) = j_ := ⟨_, rfl⟩
                replace H : (if 0 ≤ (ji10) then (if (ji10) < (a0.size : Int) then (if 0 ≤ a2 then (if a2 < 9 then (if 0 ≤ (wrap64 (1 + (wrap64 (2 * x8_1)))) then (if (wrap64 (1 + (wrap64 (2 * x8_1)))) < 9 then (if (wrap64 (bt a0 (ji10))) < (rd (rowL2 a2) (wrap64 (1 + (wrap64 (2 * x8_1))))) then (some false) else (if 0 ≤ (wrap64 (2 + (wrap64 (2 * x8_1)))) then (if (wrap64 (2 + (wrap64 (2 * x8_1)))) < 9 then (if (wrap64 (bt a0 (ji10))) > (rd (rowL2 a2) (wrap64 (2 + (wrap64 (2 * x8_1))))) then (some false) else (rosterref01_fits.l0 k1 a0 a1 a2 (rd (rowL2 a2) 0) (wrap64 (x8_1 + 1)))) else (none)) else (none))) else (none)) else (none)) else (none)) else (none)) else (none)) else (none)) = some r := by first | (rw [hji10] at H; exact H) | (simp only [hji10] at H ⊢; exact H)
                have hji10w : (IntKind.i64.wrap (a1 + x8_1)) = ji10 := (i64_w _).trans hji10
                by_cases c11 : 0 ≤ (ji10)
                · rw [if_pos c11] at H
                  have c11b0 : decide (0 ≤ (ji10)) = true := decide_eq_true c11
                  clear c11
                  by_cases c12 : (ji10) < (a0.size : Int)
                  · rw [if_pos c12] at H
                    have c12b0 : decide ((ji10) < (a0.size : Int)) = true := decide_eq_true c12
                    clear c12
                    by_cases c14 : 0 ≤ a2
                    · rw [if_pos c14] at H
                      have c14b0 : decide (0 ≤ a2) = true := decide_eq_true c14
                      clear c14
                      by_cases c15 : a2 < 9
                      · rw [if_pos c15] at H
                        have c15b0 : decide (a2 < 9) = true := decide_eq_true c15
                        clear c15
                        obtain ⟨ji17, hji17⟩ : ∃ j_ : Int, (wrap64 (1 + (wrap64 (2 * x8_1)))) = j_ := ⟨_, rfl⟩
                        replace H : (if 0 ≤ (ji17) then (if (ji17) < 9 then (if (wrap64 (bt a0 (ji10))) < (rd (rowL2 a2) (ji17)) then (some false) else (if 0 ≤ (wrap64 (2 + (wrap64 (2 * x8_1)))) then (if (wrap64 (2 + (wrap64 (2 * x8_1)))) < 9 then (if (wrap64 (bt a0 (ji10))) > (rd (rowL2 a2) (wrap64 (2 + (wrap64 (2 * x8_1))))) then (some false) else (rosterref01_fits.l0 k1 a0 a1 a2 (rd (rowL2 a2) 0) (wrap64 (x8_1 + 1)))) else (none)) else (none))) else (none)) else (none)) = some r := by first | (rw [hji17] at H; exact H) | (simp only [hji17] at H ⊢; exact H)
                        have hji17w : (IntKind.i64.wrap (1 + (wrap64 (2 * x8_1)))) = ji17 := (i64_w _).trans hji17
                        by_cases c18 : 0 ≤ (ji17)
                        · rw [if_pos c18] at H
                          have c18b0 : decide (0 ≤ (ji17)) = true := decide_eq_true c18
                          clear c18
                          by_cases c19 : (ji17) < 9
                          · rw [if_pos c19] at H
                            have c19b0 : decide ((ji17) < 9) = true := decide_eq_true c19
                            clear c19
                            by_cases c20 : (wrap64 (bt a0 (ji10))) < (rd (rowL2 a2) (ji17))
                            · rw [if_pos c20] at H
                              have c20b0 : decide ((wrap64 (bt a0 (ji10))) < (rd (rowL2 a2) (ji17))) = true := decide_eq_true c20
                              clear c20
                              obtain rfl := Option.some.inj H
                              have p13 : 0 ≤ ((ji10) : Int) := of_decide_eq_true (by first | (with_reducible assumption) | assumption)
                              have q13 : (ji10) < (a0.size : Int) := of_decide_eq_true (by first | (with_reducible assumption) | assumption)
                              have hx13 := bt_at a0 (ji10)
                              replace p13 := eq_true p13
                              replace q13 := eq_true q13
                              have p16 : 0 ≤ (a2 : Int) := of_decide_eq_true (by first | (with_reducible assumption) | assumption)
                              have q16 : (a2 : Int) < (9 : Int) := of_decide_eq_true (by first | (with_reducible assumption) | assumption)
                              replace p16 := eq_true p16
                              replace q16 := eq_true q16
                              have HRT159 := Aside0.mk (HRG2.out (a2 : Int) (of_eq_true p16) (of_eq_true q16))
                              have p160 : 0 ≤ ((ji17) : Int) := of_decide_eq_true (by first | (with_reducible assumption) | assumption)
                              have q160 : (ji17) < (9 : Int) := of_decide_eq_true (by first | (with_reducible assumption) | assumption)
                              have ql160 : (((ji17) : Int) < (9 : Int)) = True := eq_true (of_decide_eq_true (by first | (with_reducible assumption) | assumption))
                              obtain ⟨ad160, e160, hx160_0⟩ := Kd.at_int HRT159.out (ji17) p160 q160
                              obtain rfl : (⟨2, (a2).toNat * 9, none⟩ : Addr) = ad160 := (by injection e160)
                              ((first | simp only [add_plain] at hx160_0 | simp only [add_at] at hx160_0 | simp only [Addr.add, Nat.zero_add] at hx160_0 | skip); (try simp only [Int.toNat_zero, Nat.add_zero] at hx160_0))
                              replace p160 := eq_true p160
                              replace q160 := eq_true q160
                              go_wp2
                              go_ret
                              exact ⟨by first | rfl | (simp; done) | (simp only [← hji10, ← hji17] <;> (first | rfl | simp)) | (simp [*]; done), by repeat (first | exact Drawn0.refl _ | apply Drawn0.step)⟩
                            · rw [if_neg c20] at H
                              have c20b0 : decide ((wrap64 (bt a0 (ji10))) < (rd (rowL2 a2) (ji17))) = false := decide_eq_false c20
                              clear c20
                              obtain ⟨ji22, hji22⟩ : ∃ j_ : Int, (wrap64 (2 + (wrap64 (2 * x8_1)))) = j_ := ⟨_, rfl⟩
                              replace H : (if 0 ≤ (ji22) then (if (ji22) < 9 then (if (wrap64 (bt a0 (ji10))) > (rd (rowL2 a2) (ji22)) then (some false) else (rosterref01_fits.l0 k1 a0 a1 a2 (rd (rowL2 a2) 0) (wrap64 (x8_1 + 1)))) else (none)) else (none)) = some r := by first | (rw [hji22] at H; exact H) | (simp only [hji22] at H ⊢; exact H)
                              have hji22w : (IntKind.i64.wrap (2 + (wrap64 (2 * x8_1)))) = ji22 := (i64_w _).trans hji22
                              by_cases c23 : 0 ≤ (ji22)
                              · rw [if_pos c23] at H
                                have c23b0 : decide (0 ≤ (ji22)) = true := decide_eq_true c23
                                clear c23
                                by_cases c24 : (ji22) < 9
                                · rw [if_pos c24] at H
                                  have c24b0 : decide ((ji22) < 9) = true := decide_eq_true c24
                                  clear c24
                                  by_cases c25 : (wrap64 (bt a0 (ji10))) > (rd (rowL2 a2) (ji22))
                                  · rw [if_pos c25] at H
                                    have c25b0 : decide ((rd (rowL2 a2) (ji22)) < (wrap64 (bt a0 (ji10)))) = true := decide_eq_true c25
                                    clear c25
                                    obtain rfl := Option.some.inj H
                                    have p13 : 0 ≤ ((ji10) : Int) := of_decide_eq_true (by first | (with_reducible assumption) | assumption)
                                    have q13 : (ji10) < (a0.size : Int) := of_decide_eq_true (by first | (with_reducible assumption) | assumption)
                                    have hx13 := bt_at a0 (ji10)
                                    replace p13 := eq_true p13
                                    replace q13 := eq_true q13
                                    have p16 : 0 ≤ (a2 : Int) := of_decide_eq_true (by first | (with_reducible assumption) | assumption)
                                    have q16 : (a2 : Int) < (9 : Int) := of_decide_eq_true (by first | (with_reducible assumption) | assumption)
                                    replace p16 := eq_true p16
                                    replace q16 := eq_true q16
                                    have HRT159 := Aside0.mk (HRG2.out (a2 : Int) (of_eq_true p16) (of_eq_true q16))
                                    have p160 : 0 ≤ ((ji17) : Int) := of_decide_eq_true (by first | (with_reducible assumption) | assumption)
                                    have q160 : (ji17) < (9 : Int) := of_decide_eq_true (by first | (with_reducible assumption) | assumption)
                                    have ql160 : (((ji17) : Int) < (9 : Int)) = True := eq_true (of_decide_eq_true (by first | (with_reducible assumption) | assumption))
                                    obtain ⟨ad160, e160, hx160_0⟩ := Kd.at_int HRT159.out (ji17) p160 q160
                                    obtain rfl : (⟨2, (a2).toNat * 9, none⟩ : Addr) = ad160 := (by injection e160)
                                    ((first | simp only [add_plain] at hx160_0 | simp only [add_at] at hx160_0 | simp only [Addr.add, Nat.zero_add] at hx160_0 | skip); (try simp only [Int.toNat_zero, Nat.add_zero] at hx160_0))
                                    replace p160 := eq_true p160
                                    replace q160 := eq_true q160
                                    have p21 : 0 ≤ (a2 : Int) := of_decide_eq_true (by first | (with_reducible assumption) | assumption)
                                    have q21 : (a2 : Int) < (9 : Int) := of_decide_eq_true (by first | (with_reducible assumption) | assumption)
                                    replace p21 := eq_true p21
                                    replace q21 := eq_true q21
                                    have HRT161 := Aside0.mk (HRG2.out (a2 : Int) (of_eq_true p21) (of_eq_true q21))
                                    have p162 : 0 ≤ ((ji22) : Int) := of_decide_eq_true (by first | (with_reducible assumption) | assumption)
                                    have q162 : (ji22) < (9 : Int) := of_decide_eq_true (by first | (with_reducible assumption) | assumption)
                                    have ql162 : (((ji22) : Int) < (9 : Int)) = True := eq_true (of_decide_eq_true (by first | (with_reducible assumption) | assumption))
                                    obtain ⟨ad162, e162, hx162_0⟩ := Kd.at_int HRT161.out (ji22) p162 q162
                                    obtain rfl : (⟨2, (a2).toNat * 9, none⟩ : Addr) = ad162 := (by injection e162)
                                    ((first | simp only [add_plain] at hx162_0 | simp only [add_at] at hx162_0 | simp only [Addr.add, Nat.zero_add] at hx162_0 | skip); (try simp only [Int.toNat_zero, Nat.add_zero] at hx162_0))
                                    replace p162 := eq_true p162
                                    replace q162 := eq_true q162
                                    go_wp2
                                    go_ret
                                    exact ⟨by first | rfl | (simp; done) | (simp only [← hji10, ← hji17, ← hji22] <;> (first | rfl | simp)) | (simp [*]; done), by repeat (first | exact Drawn0.refl _ | apply Drawn0.step)⟩
                                  · rw [if_neg c25] at H
                                    have c25b0 : decide ((rd (rowL2 a2) (ji22)) < (wrap64 (bt a0 (ji10)))) = false := decide_eq_false c25
                                    clear c25
                                    have H' := Aside0.mk H
                                    clear H
                                    have p13 : 0 ≤ ((ji10) : Int) := of_decide_eq_true (by first | (with_reducible assumption) | assumption)
                                    have q13 : (ji10) < (a0.size : Int) := of_decide_eq_true (by first | (with_reducible assumption) | assumption)
                                    have hx13 := bt_at a0 (ji10)
                                    replace p13 := eq_true p13
                                    replace q13 := eq_true q13
                                    have p16 : 0 ≤ (a2 : Int) := of_decide_eq_true (by first | (with_reducible assumption) | assumption)
                                    have q16 : (a2 : Int) < (9 : Int) := of_decide_eq_true (by first | (with_reducible assumption) | assumption)
                                    replace p16 := eq_true p16
                                    replace q16 := eq_true q16
                                    have HRT159 := Aside0.mk (HRG2.out (a2 : Int) (of_eq_true p16) (of_eq_true q16))
                                    have p160 : 0 ≤ ((ji17) : Int) := of_decide_eq_true (by first | (with_reducible assumption) | assumption)
                                    have q160 : (ji17) < (9 : Int) := of_decide_eq_true (by first | (with_reducible assumption) | assumption)
                                    have ql160 : (((ji17) : Int) < (9 : Int)) = True := eq_true (of_decide_eq_true (by first | (with_reducible assumption) | assumption))
                                    obtain ⟨ad160, e160, hx160_0⟩ := Kd.at_int HRT159.out (ji17) p160 q160
                                    obtain rfl : (⟨2, (a2).toNat * 9, none⟩ : Addr) = ad160 := (by injection e160)
                                    ((first | simp only [add_plain] at hx160_0 | simp only [add_at] at hx160_0 | simp only [Addr.add, Nat.zero_add] at hx160_0 | skip); (try simp only [Int.toNat_zero, Nat.add_zero] at hx160_0))
                                    replace p160 := eq_true p160
                                    replace q160 := eq_true q160
                                    have p21 : 0 ≤ (a2 : Int) := of_decide_eq_true (by first | (with_reducible assumption) | assumption)
                                    have q21 : (a2 : Int) < (9 : Int) := of_decide_eq_true (by first | (with_reducible assumption) | assumption)
                                    replace p21 := eq_true p21
                                    replace q21 := eq_true q21
                                    have HRT161 := Aside0.mk (HRG2.out (a2 : Int) (of_eq_true p21) (of_eq_true q21))
                                    have p162 : 0 ≤ ((ji22) : Int) := of_decide_eq_true (by first | (with_reducible assumption) | assumption)
                                    have q162 : (ji22) < (9 : Int) := of_decide_eq_true (by first | (with_reducible assumption) | assumption)
                                    have ql162 : (((ji22) : Int) < (9 : Int)) = True := eq_true (of_decide_eq_true (by first | (with_reducible assumption) | assumption))
                                    obtain ⟨ad162, e162, hx162_0⟩ := Kd.at_int HRT161.out (ji22) p162 q162
                                    obtain rfl : (⟨2, (a2).toNat * 9, none⟩ : Addr) = ad162 := (by injection e162)
                                    ((first | simp only [add_plain] at hx162_0 | simp only [add_at] at hx162_0 | simp only [Addr.add, Nat.zero_add] at hx162_0 | skip); (try simp only [Int.toNat_zero, Nat.add_zero] at hx162_0))
                                    replace p162 := eq_true p162
                                    replace q162 := eq_true q162
                                    go_wp2
                                    go_roundg k1
                                    case measure => have := HK1.out; omega
                                    case rel => exact ⟨(wrap64 (x8_1 + 1)), (by first | rfl | (simp; done) | (simp [*]; done)), H', ⟨by have := HK1.out; omega⟩, by repeat (first | exact Drawn0.refl _ | apply Drawn0.step)⟩
                                · rw [if_neg c24] at H
                                  exact absurd H (by simp)
                              · rw [if_neg c23] at H
                                exact absurd H (by simp)
                          · rw [if_neg c19] at H
                            exact absurd H (by simp)
                        · rw [if_neg c18] at H
                          exact absurd H (by simp)
                      · rw [if_neg c15] at H
                        exact absurd H (by simp)
                    · rw [if_neg c14] at H
                      exact absurd H (by simp)
                  · rw [if_neg c12] at H
                    exact absurd H (by simp)
                · rw [if_neg c11] at H
                  exact absurd H (by simp)
              · rw [if_neg c9] at H
                have c9b0 : decide (x8_1 < (rd (rowL2 a2) 0)) = false := decide_eq_false c9
                clear c9
                obtain rfl := Option.some.inj H
                go_wp2
                go_ret
                exact ⟨by first | rfl | (simp; done) | (simp [*]; done), by repeat (first | exact Drawn0.refl _ | apply Drawn0.step)⟩
      · rw [if_neg c7] at H
        exact absurd H (by simp)
    · rw [if_neg c5] at H
      exact absurd H (by simp)
  · rw [if_neg c4] at H
    exact absurd H (by simp)

/-! ### rosterref01_Sequence: function 46 -/
def rosterref01_Sequence.l0 : Nat → ByteArray → Int → Int → Option (Int)
  | 0, _, _, _ => none
  | k + 1, x0, x1, x5 => if x5 < 9 then ((rosterref01_fits.f k x0 x1 x5).bind fun t163 => (if t163 = true then (if 0 ≤ x5 then (if 0 < 9 then (some (rd (rowL2 x5) 0)) else (none)) else (none)) else (rosterref01_Sequence.l0 k x0 x1 (wrap64 (x5 + 1))))) else (some 0)
def rosterref01_Sequence.f (k : Nat) (a0 : ByteArray) (a1 : Int) : Option (Int) := rosterref01_Sequence.l0 k a0 a1 0
theorem rosterref01_Sequence.mono_l : ∀ k, (∀ y0 y1 y2, LeO (rosterref01_Sequence.l0 k y0 y1 y2) (rosterref01_Sequence.l0 (k + 1) y0 y1 y2))
  | 0 => fun _ _ _ r h => by simp [rosterref01_Sequence.l0] at h
  | k + 1 => by
    have ih0 := rosterref01_Sequence.mono_l k
    · intro y0 y1 y2
      unfold rosterref01_Sequence.l0
      repeat' first
      | (with_reducible exact ih0 _ _ _)
      | (with_reducible exact rosterref01_fits.mono _ _ _ _)
      | (with_reducible exact LeO.refl _)
      | (with_reducible exact LeO.none _)
      | (with_reducible refine LeO.ite ?_ ?_)
      | (with_reducible refine LeO.bind ?_ (fun _ => ?_))
      | exact ih0 _ _ _
      | exact rosterref01_fits.mono _ _ _ _
      | exact LeO.none _
      | refine LeO.ite ?_ ?_
      | refine LeO.bind ?_ (fun _ => ?_)
theorem rosterref01_Sequence.mono : ∀ a0 a1 k, LeO (rosterref01_Sequence.f k a0 a1) (rosterref01_Sequence.f (k + 1) a0 a1) := by
  intro a0 a1 k
  have ih0 := rosterref01_Sequence.mono_l k
  unfold rosterref01_Sequence.f
  repeat' first
      | (with_reducible exact ih0 _ _ _)
      | (with_reducible exact rosterref01_fits.mono _ _ _ _)
      | (with_reducible exact LeO.refl _)
      | (with_reducible exact LeO.none _)
      | (with_reducible refine LeO.ite ?_ ?_)
      | (with_reducible refine LeO.bind ?_ (fun _ => ?_))
      | exact ih0 _ _ _
      | exact rosterref01_fits.mono _ _ _ _
      | exact LeO.none _
      | refine LeO.ite ?_ ?_
      | refine LeO.bind ?_ (fun _ => ?_)
set_option maxHeartbeats 8000000 in
set_option maxRecDepth 100000 in
theorem rosterref01_Sequence.calls (k : Nat) (a0 : ByteArray) (a1 : Int) (r : Int) (w : World) (hG : Tabs w) (h : rosterref01_Sequence.f k a0 a1 = some r) :
    Calls Tryd.prog 46 #[.string a0, .int .i64 a1] w fun e w' => e = .returned (.int .i64 r) ∧ Drawn0 w w' := by
  have HRG2 := Aside0.mk (Tabs_2 hG)
  have H : (rosterref01_Sequence.l0 k a0 a1 0) = some r := h
  clear h
  have H' := Aside0.mk H
  clear H
  go_enter Tryd.func46, Tryd.ntmps46
  go_wp2
  go_loopg [5] k (fun kq v5 w' => ∃ (x5_1 : Int), v5 = .int .i64 x5_1 ∧ Aside0 (rosterref01_Sequence.l0 kq a0 a1 x5_1 = some r) ∧ Aside0 (kq ≤ k) ∧ Drawn0 w w')
  case atStart => exact ⟨(0), (by first | rfl | (simp; done) | (simp [*]; done)), H', ⟨Nat.le_refl _⟩, by repeat (first | exact Drawn0.refl _ | apply Drawn0.step)⟩
  case round =>
    clear H'
    try clear p2
    obtain ⟨x5_1, rfl, HA, HK1, ⟨m1, rfl⟩⟩ := hrel
    cases gk with
    | zero => exact absurd HA.out (by simp [rosterref01_Sequence.l0])
    | succ k1 =>
      have H := HA.out
      clear HA
      simp only [rosterref01_Sequence.l0] at H
      by_cases c3 : x5_1 < 9
      · rw [if_pos c3] at H
        have c3b0 : decide (x5_1 < 9) = true := decide_eq_true c3
        clear c3
        replace H := Option.bind_eq_some_iff.mp H
        obtain ⟨t163, A40, H⟩ := H
        replace H : (if t163 = true then (if 0 ≤ x5_1 then (if 0 < 9 then (some (rd (rowL2 x5_1) 0)) else (none)) else (none)) else (rosterref01_Sequence.l0 k1 a0 a1 (wrap64 (x5_1 + 1)))) = some r := H
        have A4 := Aside0.mk A40
        clear A40
        by_cases c5 : t163 = true
        · subst c5
          have H1 : (if 0 ≤ x5_1 then (if 0 < 9 then (some (rd (rowL2 x5_1) 0)) else (none)) else (none)) = some r := by rw [if_pos rfl] at H; exact H
          clear H
          have H := H1
          clear H1
          by_cases c6 : 0 ≤ x5_1
          · rw [if_pos c6] at H
            have c6b0 : decide (0 ≤ x5_1) = true := decide_eq_true c6
            clear c6
            by_cases c8 : 0 < 9
            · rw [if_pos c8] at H
              have c8b0 : decide (0 < 9) = true := decide_eq_true c8
              clear c8
              obtain rfl := Option.some.inj H
              go_wp2_with (first | ((with_reducible refine gate_callee (f := 50) rfl ?_); refine goesL_ (some 14) rfl rfl Tryd.func50 (by kernel_rfl) rfl #[.string a0, .int .i64 a1, .int .i64 x5_1] rfl (by (try simp only [List.map_toArray, List.map_cons, List.map_nil]); first | done | rfl | (simp only [List.length_drop, List.length_take]; rfl)) ?_; (with_reducible refine (rosterref01_fits.calls k1 a0 a1 x5_1 true _ (Tabs_at hG (by repeat (first | (with_reducible first | exact HB.out | exact Below.refl _ _ | apply below_alloc | apply pw_below_drewN | apply below_drew1) | exact HB.out | exact Below.refl _ _))) A4.out).mono ?_); rintro e w' ⟨rfl, ⟨nd, rfl⟩⟩; refine ⟨_, rfl, ?_⟩; have p7 : 0 ≤ (x5_1 : Int) := of_decide_eq_true (by first | (with_reducible assumption) | assumption); have q7 : (x5_1 : Int) < (9 : Int) := of_decide_eq_true (by first | (with_reducible assumption) | assumption); replace p7 := eq_true p7; replace q7 := eq_true q7; have HRT164 := Aside0.mk (HRG2.out (x5_1 : Int) (of_eq_true p7) (of_eq_true q7)); have p165 : 0 ≤ (0 : Int) := (by omega); have q165 : 0 < (9 : Int) := of_decide_eq_true (by first | (with_reducible assumption) | assumption); have ql165 : ((0 : Int) < (9 : Int)) = True := eq_true (of_decide_eq_true (by first | (with_reducible assumption) | assumption)); obtain ⟨ad165, e165, hx165_0⟩ := Kd.at_int HRT164.out 0 p165 q165; obtain rfl : (⟨2, (x5_1).toNat * 9, none⟩ : Addr) = ad165 := (by injection e165); ((first | simp only [add_plain] at hx165_0 | simp only [add_at] at hx165_0 | simp only [Addr.add, Nat.zero_add] at hx165_0 | skip); (try simp only [Int.toNat_zero, Nat.add_zero] at hx165_0)); have qi165 : (0 < 9) = True := eq_true (by omega); (try rw [show ((0 : Int)).toNat = 0 from rfl] at hx165_0); (try rw [Addr.add_zero'] at hx165_0); replace p165 := eq_true p165; replace q165 := eq_true q165))
              go_ret
              exact ⟨by first | rfl | (simp; done) | (simp [*]; done), by repeat (first | exact Drawn0.refl _ | apply Drawn0.step)⟩
            · rw [if_neg c8] at H
              exact absurd H (by simp)
          · rw [if_neg c6] at H
            exact absurd H (by simp)
        · replace c5 := Bool.eq_false_iff.mpr c5
          subst c5
          have H1 : (rosterref01_Sequence.l0 k1 a0 a1 (wrap64 (x5_1 + 1))) = some r := by rw [if_neg (show ¬ (false = true) by decide)] at H; exact H
          clear H
          have H := H1
          clear H1
          have H' := Aside0.mk H
          clear H
          go_wp2_with (first | ((with_reducible refine gate_callee (f := 50) rfl ?_); refine goesL_ (some 14) rfl rfl Tryd.func50 (by kernel_rfl) rfl #[.string a0, .int .i64 a1, .int .i64 x5_1] rfl (by (try simp only [List.map_toArray, List.map_cons, List.map_nil]); first | done | rfl | (simp only [List.length_drop, List.length_take]; rfl)) ?_; (with_reducible refine (rosterref01_fits.calls k1 a0 a1 x5_1 false _ (Tabs_at hG (by repeat (first | (with_reducible first | exact HB.out | exact Below.refl _ _ | apply below_alloc | apply pw_below_drewN | apply below_drew1) | exact HB.out | exact Below.refl _ _))) A4.out).mono ?_); rintro e w' ⟨rfl, ⟨nd, rfl⟩⟩; refine ⟨_, rfl, ?_⟩))
          go_roundg k1
          case measure => have := HK1.out; omega
          case rel => exact ⟨(wrap64 (x5_1 + 1)), (by first | rfl | (simp; done) | (simp [*]; done)), H', ⟨by have := HK1.out; omega⟩, by repeat (first | exact Drawn0.refl _ | apply Drawn0.step)⟩
      · rw [if_neg c3] at H
        have c3b0 : decide (x5_1 < 9) = false := decide_eq_false c3
        clear c3
        obtain rfl := Option.some.inj H
        go_wp2
        go_ret
        exact ⟨by first | rfl | (simp; done) | (simp [*]; done), by repeat (first | exact Drawn0.refl _ | apply Drawn0.step)⟩

/-! ### rosterref01_Check: function 38 -/
def rosterref01_Check.l0 : Nat → ByteArray → Int → Option (Int × Int)
  | 0, _, _ => none
  | k + 1, x0, x4 => if x4 < (x0.size : Int) then ((rosterref01_Sequence.f k x0 x4).bind fun t166 => (if t166 = 0 then (some (10, x4)) else (rosterref01_Check.l0 k x0 (wrap64 (x4 + t166))))) else (some (0, (x0.size : Int)))
def rosterref01_Check.f (k : Nat) (a0 : ByteArray) : Option (Int × Int) := rosterref01_Check.l0 k a0 0
theorem rosterref01_Check.mono_l : ∀ k, (∀ y0 y1, LeO (rosterref01_Check.l0 k y0 y1) (rosterref01_Check.l0 (k + 1) y0 y1))
  | 0 => fun _ _ r h => by simp [rosterref01_Check.l0] at h
  | k + 1 => by
    have ih0 := rosterref01_Check.mono_l k
    · intro y0 y1
      unfold rosterref01_Check.l0
      repeat' first
      | (with_reducible exact ih0 _ _)
      | (with_reducible exact rosterref01_Sequence.mono _ _ _)
      | (with_reducible exact LeO.refl _)
      | (with_reducible exact LeO.none _)
      | (with_reducible refine LeO.ite ?_ ?_)
      | (with_reducible refine LeO.bind ?_ (fun _ => ?_))
      | exact ih0 _ _
      | exact rosterref01_Sequence.mono _ _ _
      | exact LeO.none _
      | refine LeO.ite ?_ ?_
      | refine LeO.bind ?_ (fun _ => ?_)
theorem rosterref01_Check.mono : ∀ a0 k, LeO (rosterref01_Check.f k a0) (rosterref01_Check.f (k + 1) a0) := by
  intro a0 k
  have ih0 := rosterref01_Check.mono_l k
  unfold rosterref01_Check.f
  repeat' first
      | (with_reducible exact ih0 _ _)
      | (with_reducible exact rosterref01_Sequence.mono _ _ _)
      | (with_reducible exact LeO.refl _)
      | (with_reducible exact LeO.none _)
      | (with_reducible refine LeO.ite ?_ ?_)
      | (with_reducible refine LeO.bind ?_ (fun _ => ?_))
      | exact ih0 _ _
      | exact rosterref01_Sequence.mono _ _ _
      | exact LeO.none _
      | refine LeO.ite ?_ ?_
      | refine LeO.bind ?_ (fun _ => ?_)
set_option maxHeartbeats 8000000 in
set_option maxRecDepth 100000 in
theorem rosterref01_Check.calls (k : Nat) (a0 : ByteArray) (r1 : Int) (r2 : Int) (w : World) (hG : Tabs w) (h : rosterref01_Check.f k a0 = some (r1, r2)) :
    Calls Tryd.prog 38 #[.string a0] w fun e w' => e = .returned (.tuple #[.int .i64 r1, .int .i64 r2]) ∧ Drawn0 w w' := by
  have H : (rosterref01_Check.l0 k a0 0) = some (r1, r2) := h
  clear h
  have H' := Aside0.mk H
  clear H
  go_enter Tryd.func38, Tryd.ntmps38
  go_wp2
  go_loopg [4] k (fun kq v4 w' => ∃ (x4_1 : Int), v4 = .int .i64 x4_1 ∧ Aside0 (rosterref01_Check.l0 kq a0 x4_1 = some (r1, r2)) ∧ Aside0 (kq ≤ k) ∧ Drawn0 w w')
  case atStart => exact ⟨(0), (by first | rfl | (simp; done) | (simp [*]; done)), H', ⟨Nat.le_refl _⟩, by repeat (first | exact Drawn0.refl _ | apply Drawn0.step)⟩
  case round =>
    clear H'
    obtain ⟨x4_1, rfl, HA, HK1, ⟨m1, rfl⟩⟩ := hrel
    cases gk with
    | zero => exact absurd HA.out (by simp [rosterref01_Check.l0])
    | succ k1 =>
      have H := HA.out
      clear HA
      simp only [rosterref01_Check.l0] at H
      by_cases c2 : x4_1 < (a0.size : Int)
      · rw [if_pos c2] at H
        have c2b0 : decide (x4_1 < (a0.size : Int)) = true := decide_eq_true c2
        clear c2
        replace H := Option.bind_eq_some_iff.mp H
        obtain ⟨t166, A30, H⟩ := H
        replace H : (if t166 = 0 then (some (10, x4_1)) else (rosterref01_Check.l0 k1 a0 (wrap64 (x4_1 + t166)))) = some (r1, r2) := H
        have A3 := Aside0.mk A30
        clear A30
        by_cases c4 : t166 = 0
        · rw [if_pos c4] at H
          have c4b0 : (t166 == 0) = true := beq_iff_eq.mpr c4
          have c4b1 : (t166 != 0) = false := bne_eq_false_iff_eq.mpr c4
          clear c4
          simp only [Option.some.injEq, Prod.mk.injEq] at H
          obtain ⟨rfl, rfl⟩ := H
          go_wp2_with (first | ((with_reducible refine gate_callee (f := 46) rfl ?_); refine goesL_ (some 12) rfl rfl Tryd.func46 (by kernel_rfl) rfl #[.string a0, .int .i64 x4_1] rfl (by (try simp only [List.map_toArray, List.map_cons, List.map_nil]); first | done | rfl | (simp only [List.length_drop, List.length_take]; rfl)) ?_; (with_reducible refine (rosterref01_Sequence.calls k1 a0 x4_1 t166 _ (Tabs_at hG (by repeat (first | (with_reducible first | exact HB.out | exact Below.refl _ _ | apply below_alloc | apply pw_below_drewN | apply below_drew1) | exact HB.out | exact Below.refl _ _))) A3.out).mono ?_); rintro e w' ⟨rfl, ⟨nd, rfl⟩⟩; refine ⟨_, rfl, ?_⟩))
          go_ret2
          exact ⟨by first | rfl | (simp; done) | (simp [*]; done), by repeat (first | exact Drawn0.refl _ | apply Drawn0.step)⟩
        · rw [if_neg c4] at H
          have c4b0 : (t166 == 0) = false := beq_eq_false_iff_ne.mpr c4
          have c4b1 : (t166 != 0) = true := bne_iff_ne.mpr c4
          have H' := Aside0.mk H
          clear H
          go_wp2_with (first | ((with_reducible refine gate_callee (f := 46) rfl ?_); refine goesL_ (some 12) rfl rfl Tryd.func46 (by kernel_rfl) rfl #[.string a0, .int .i64 x4_1] rfl (by (try simp only [List.map_toArray, List.map_cons, List.map_nil]); first | done | rfl | (simp only [List.length_drop, List.length_take]; rfl)) ?_; (with_reducible refine (rosterref01_Sequence.calls k1 a0 x4_1 t166 _ (Tabs_at hG (by repeat (first | (with_reducible first | exact HB.out | exact Below.refl _ _ | apply below_alloc | apply pw_below_drewN | apply below_drew1) | exact HB.out | exact Below.refl _ _))) A3.out).mono ?_); rintro e w' ⟨rfl, ⟨nd, rfl⟩⟩; refine ⟨_, rfl, ?_⟩))
          go_roundg k1
          case measure => have := HK1.out; omega
          case rel => exact ⟨(wrap64 (x4_1 + t166)), (by first | rfl | (simp; done) | (simp [*]; done)), H', ⟨by have := HK1.out; omega⟩, by repeat (first | exact Drawn0.refl _ | apply Drawn0.step)⟩
      · rw [if_neg c2] at H
        have c2b0 : decide (x4_1 < (a0.size : Int)) = false := decide_eq_false c2
        clear c2
        simp only [Option.some.injEq, Prod.mk.injEq] at H
        obtain ⟨rfl, rfl⟩ := H
        go_wp2
        go_ret2
        exact ⟨by first | rfl | (simp; done) | (simp [*]; done), by repeat (first | exact Drawn0.refl _ | apply Drawn0.step)⟩

/-! ### rosterlaw01_TextChecks: function 18 -/
def rosterlaw01_TextChecks.f (k : Nat) (a0 : ByteArray) : Option (Bool) := (text_Check.f k a0).bind fun bt167 => ((rosterref01_Check.f k a0).bind fun bt169 => ((rosterlaw01_num.f bt167.1).bind fun t171 => ((rosterlaw01_num.f bt169.1).bind fun t172 => (if t171 = t172 then (some (bt167.2 == bt169.2)) else (some false)))))
theorem rosterlaw01_TextChecks.mono : ∀ a0 k, LeO (rosterlaw01_TextChecks.f k a0) (rosterlaw01_TextChecks.f (k + 1) a0) := by
  intro a0 k
  unfold rosterlaw01_TextChecks.f
  repeat' first
      | (with_reducible exact rosterref01_Check.mono _ _)
      | (with_reducible exact text_Check.mono _ _)
      | (with_reducible exact LeO.refl _)
      | (with_reducible exact LeO.none _)
      | (with_reducible refine LeO.ite ?_ ?_)
      | (with_reducible refine LeO.bind ?_ (fun _ => ?_))
      | exact rosterref01_Check.mono _ _
      | exact text_Check.mono _ _
      | exact LeO.none _
      | refine LeO.ite ?_ ?_
      | refine LeO.bind ?_ (fun _ => ?_)
set_option maxHeartbeats 8000000 in
set_option maxRecDepth 100000 in
theorem rosterlaw01_TextChecks.calls (k : Nat) (a0 : ByteArray) (r : Bool) (w : World) (hG : Tabs w) (h : rosterlaw01_TextChecks.f k a0 = some r) :
    Calls Tryd.prog 18 #[.string a0] w fun e w' => e = .returned (.bool r) ∧ Below w.heap.size w w' := by
  have HB := Aside0.mk (Below.refl w.heap.size w)
  have H : ((text_Check.f k a0).bind fun bt167 => ((rosterref01_Check.f k a0).bind fun bt169 => ((rosterlaw01_num.f bt167.1).bind fun t171 => ((rosterlaw01_num.f bt169.1).bind fun t172 => (if t171 = t172 then (some (bt167.2 == bt169.2)) else (some false)))))) = some r := h
  clear h
  replace H := Option.bind_eq_some_iff.mp H
  obtain ⟨⟨t167, t168⟩, A20, H⟩ := H
  replace H : ((rosterref01_Check.f k a0).bind fun bt169 => ((rosterlaw01_num.f t167).bind fun t171 => ((rosterlaw01_num.f bt169.1).bind fun t172 => (if t171 = t172 then (some (t168 == bt169.2)) else (some false))))) = some r := H
  have A2 := Aside0.mk A20
  clear A20
  replace H := Option.bind_eq_some_iff.mp H
  obtain ⟨⟨t169, t170⟩, A30, H⟩ := H
  replace H : ((rosterlaw01_num.f t167).bind fun t171 => ((rosterlaw01_num.f t169).bind fun t172 => (if t171 = t172 then (some (t168 == t170)) else (some false)))) = some r := H
  have A3 := Aside0.mk A30
  clear A30
  replace H := Option.bind_eq_some_iff.mp H
  obtain ⟨t171, A40, H⟩ := H
  replace H : ((rosterlaw01_num.f t169).bind fun t172 => (if t171 = t172 then (some (t168 == t170)) else (some false))) = some r := H
  have A4 := Aside0.mk A40
  clear A40
  replace H := Option.bind_eq_some_iff.mp H
  obtain ⟨t172, A50, H⟩ := H
  replace H : (if t171 = t172 then (some (t168 == t170)) else (some false)) = some r := H
  have A5 := Aside0.mk A50
  clear A50
  by_cases c6 : t171 = t172
  · rw [if_pos c6] at H
    have c6b0 : (t171 == t172) = true := beq_iff_eq.mpr c6
    have c6b1 : (t171 != t172) = false := bne_eq_false_iff_eq.mpr c6
    clear c6
    obtain rfl := Option.some.inj H
    go_enter Tryd.func18, Tryd.ntmps18
    go_wp2_with (first | ((with_reducible refine gate_callee (f := 37) rfl ?_); refine goesL_ (some 9) rfl rfl Tryd.func37 (by kernel_rfl) rfl #[.string a0] rfl (by (try simp only [List.map_toArray, List.map_cons, List.map_nil]); first | done | rfl | (simp only [List.length_drop, List.length_take]; rfl)) ?_; (with_reducible refine (text_Check.calls k a0 t167 t168 _ A2.out).mono ?_); rintro e w7 ⟨rfl, hb⟩; refine ⟨_, rfl, ?_⟩; have n0_ := Aside0.mk (below_step (by repeat (first | (with_reducible first | exact HB.out | apply below_alloc | apply pw_below_drewN | apply below_drew1) | exact HB.out)) hb); clear HB; have HB := n0_; clear n0_; (try clear hb); (try clear hb2); (try clear hk); (try clear hi)) | ((with_reducible refine gate_callee (f := 38) rfl ?_); refine goesL_ (some 14) rfl rfl Tryd.func38 (by kernel_rfl) rfl #[.string a0] rfl (by (try simp only [List.map_toArray, List.map_cons, List.map_nil]); first | done | rfl | (simp only [List.length_drop, List.length_take]; rfl)) ?_; (with_reducible refine (rosterref01_Check.calls k a0 t169 t170 _ (Tabs_at hG (by repeat (first | (with_reducible first | exact HB.out | exact Below.refl _ _ | apply below_alloc | apply pw_below_drewN | apply below_drew1) | exact HB.out | exact Below.refl _ _))) A3.out).mono ?_); rintro e w' ⟨rfl, ⟨nd, rfl⟩⟩; refine ⟨_, rfl, ?_⟩) | ((with_reducible refine gate_callee (f := 11) rfl ?_); refine goesL_ (some 18) rfl rfl Tryd.func11 (by kernel_rfl) rfl #[.int .i64 t167] rfl (by (try simp only [List.map_toArray, List.map_cons, List.map_nil]); first | done | rfl | (simp only [List.length_drop, List.length_take]; rfl)) ?_; (with_reducible refine (rosterlaw01_num.calls t167 t171 _ A4.out).mono ?_); rintro e w' ⟨rfl, ⟨nd, rfl⟩⟩; refine ⟨_, rfl, ?_⟩) | ((with_reducible refine gate_callee (f := 11) rfl ?_); refine goesL_ (some 20) rfl rfl Tryd.func11 (by kernel_rfl) rfl #[.int .i64 t169] rfl (by (try simp only [List.map_toArray, List.map_cons, List.map_nil]); first | done | rfl | (simp only [List.length_drop, List.length_take]; rfl)) ?_; (with_reducible refine (rosterlaw01_num.calls t169 t172 _ A5.out).mono ?_); rintro e w' ⟨rfl, ⟨nd, rfl⟩⟩; refine ⟨_, rfl, ?_⟩))
    go_ret
    exact ⟨by first | rfl | (simp [errW_none, errW_some] <;> rfl) | (simp [*, errW_none, errW_some] <;> rfl), by repeat (first | (with_reducible first | exact HB.out | apply below_alloc | apply pw_below_drewN | apply below_drew1) | exact HB.out)⟩
  · rw [if_neg c6] at H
    have c6b0 : (t171 == t172) = false := beq_eq_false_iff_ne.mpr c6
    have c6b1 : (t171 != t172) = true := bne_iff_ne.mpr c6
    obtain rfl := Option.some.inj H
    go_enter Tryd.func18, Tryd.ntmps18
    go_wp2_with (first | ((with_reducible refine gate_callee (f := 37) rfl ?_); refine goesL_ (some 9) rfl rfl Tryd.func37 (by kernel_rfl) rfl #[.string a0] rfl (by (try simp only [List.map_toArray, List.map_cons, List.map_nil]); first | done | rfl | (simp only [List.length_drop, List.length_take]; rfl)) ?_; (with_reducible refine (text_Check.calls k a0 t167 t168 _ A2.out).mono ?_); rintro e w8 ⟨rfl, hb⟩; refine ⟨_, rfl, ?_⟩; have n0_ := Aside0.mk (below_step (by repeat (first | (with_reducible first | exact HB.out | apply below_alloc | apply pw_below_drewN | apply below_drew1) | exact HB.out)) hb); clear HB; have HB := n0_; clear n0_; (try clear hb); (try clear hb2); (try clear hk); (try clear hi)) | ((with_reducible refine gate_callee (f := 38) rfl ?_); refine goesL_ (some 14) rfl rfl Tryd.func38 (by kernel_rfl) rfl #[.string a0] rfl (by (try simp only [List.map_toArray, List.map_cons, List.map_nil]); first | done | rfl | (simp only [List.length_drop, List.length_take]; rfl)) ?_; (with_reducible refine (rosterref01_Check.calls k a0 t169 t170 _ (Tabs_at hG (by repeat (first | (with_reducible first | exact HB.out | exact Below.refl _ _ | apply below_alloc | apply pw_below_drewN | apply below_drew1) | exact HB.out | exact Below.refl _ _))) A3.out).mono ?_); rintro e w' ⟨rfl, ⟨nd, rfl⟩⟩; refine ⟨_, rfl, ?_⟩) | ((with_reducible refine gate_callee (f := 11) rfl ?_); refine goesL_ (some 18) rfl rfl Tryd.func11 (by kernel_rfl) rfl #[.int .i64 t167] rfl (by (try simp only [List.map_toArray, List.map_cons, List.map_nil]); first | done | rfl | (simp only [List.length_drop, List.length_take]; rfl)) ?_; (with_reducible refine (rosterlaw01_num.calls t167 t171 _ A4.out).mono ?_); rintro e w' ⟨rfl, ⟨nd, rfl⟩⟩; refine ⟨_, rfl, ?_⟩) | ((with_reducible refine gate_callee (f := 11) rfl ?_); refine goesL_ (some 20) rfl rfl Tryd.func11 (by kernel_rfl) rfl #[.int .i64 t169] rfl (by (try simp only [List.map_toArray, List.map_cons, List.map_nil]); first | done | rfl | (simp only [List.length_drop, List.length_take]; rfl)) ?_; (with_reducible refine (rosterlaw01_num.calls t169 t172 _ A5.out).mono ?_); rintro e w' ⟨rfl, ⟨nd, rfl⟩⟩; refine ⟨_, rfl, ?_⟩))
    go_ret
    exact ⟨by first | rfl | (simp [errW_none, errW_some] <;> rfl) | (simp [*, errW_none, errW_some] <;> rfl), by repeat (first | (with_reducible first | exact HB.out | apply below_alloc | apply pw_below_drewN | apply below_drew1) | exact HB.out)⟩

-- by hand: function 19 (text_Fold)

/-! ### rosterref01_Fold: function 20 -/
def rosterref01_Fold.l0 : Nat → ByteArray → List Int → Int → Option (ByteArray)
  | 0, _, _, _ => none
  | k + 1, x0, x3, x4 => if x4 < (x0.size : Int) then (if 0 ≤ x4 then (if (bt x0 x4) ≥ 65 then (if (bt x0 x4) ≤ 90 then (if x3.length < 140737488355328 then (rosterref01_Fold.l0 k x0 (x3 ++ [((bt x0 x4) + 32) % 256]) (wrap64 (x4 + 1))) else (none)) else (if x3.length < 140737488355328 then (rosterref01_Fold.l0 k x0 (x3 ++ [bt x0 x4]) (wrap64 (x4 + 1))) else (none))) else (if x3.length < 140737488355328 then (rosterref01_Fold.l0 k x0 (x3 ++ [bt x0 x4]) (wrap64 (x4 + 1))) else (none))) else (none)) else (some (strOfNums x3))
def rosterref01_Fold.f (k : Nat) (a0 : ByteArray) : Option (ByteArray) := rosterref01_Fold.l0 k a0 ([] : List Int) 0
theorem rosterref01_Fold.mono_l : ∀ k, (∀ y0 y1 y2, LeO (rosterref01_Fold.l0 k y0 y1 y2) (rosterref01_Fold.l0 (k + 1) y0 y1 y2))
  | 0 => fun _ _ _ r h => by simp [rosterref01_Fold.l0] at h
  | k + 1 => by
    have ih0 := rosterref01_Fold.mono_l k
    · intro y0 y1 y2
      unfold rosterref01_Fold.l0
      repeat' first
      | (with_reducible exact ih0 _ _ _)
      | (with_reducible exact LeO.refl _)
      | (with_reducible exact LeO.none _)
      | (with_reducible refine LeO.ite ?_ ?_)
      | (with_reducible refine LeO.bind ?_ (fun _ => ?_))
      | exact ih0 _ _ _
      | exact LeO.none _
      | refine LeO.ite ?_ ?_
      | refine LeO.bind ?_ (fun _ => ?_)
theorem rosterref01_Fold.mono : ∀ a0 k, LeO (rosterref01_Fold.f k a0) (rosterref01_Fold.f (k + 1) a0) := by
  intro a0 k
  have ih0 := rosterref01_Fold.mono_l k
  unfold rosterref01_Fold.f
  repeat' first
      | (with_reducible exact ih0 _ _ _)
      | (with_reducible exact LeO.refl _)
      | (with_reducible exact LeO.none _)
      | (with_reducible refine LeO.ite ?_ ?_)
      | (with_reducible refine LeO.bind ?_ (fun _ => ?_))
      | exact ih0 _ _ _
      | exact LeO.none _
      | refine LeO.ite ?_ ?_
      | refine LeO.bind ?_ (fun _ => ?_)
set_option maxHeartbeats 8000000 in
set_option maxRecDepth 100000 in
theorem rosterref01_Fold.calls (k : Nat) (a0 : ByteArray) (r : ByteArray) (w : World) (h : rosterref01_Fold.f k a0 = some r) :
    Calls Tryd.prog 20 #[.string a0] w fun e w' => e = .returned (.string r) ∧ Below w.heap.size w w' := by
  have HB := Aside0.mk (Below.refl w.heap.size w)
  have H : (rosterref01_Fold.l0 k a0 ([] : List Int) 0) = some r := h
  clear h
  have H' := Aside0.mk H
  clear H
  go_enter Tryd.func20, Tryd.ntmps20
  go_wp2
  go_loopg [3, 4] k (fun kq v3 v4 w' => ∃ (x3_1 : List Int) (x4_1 : Int), v4 = .int .i64 x4_1 ∧ Aside0 (rosterref01_Fold.l0 kq a0 x3_1 x4_1 = some r) ∧ Aside0 (kq ≤ k) ∧ Aside0 (Kd.R (Kd.int .u8) 5 w' w.heap.size (fun _ => True) v3 x3_1) ∧ Aside0 (Below w.heap.size w w'))
  case atStart => exact ⟨(([] : List Int)), (0), (by first | rfl | (simp; done) | (simp [*]; done)), H', ⟨Nat.le_refl _⟩, ⟨by first | exact Kd.R_nil _ _ _ _ _ | exact Kd.N_nil _ _ _ _ _ | exact Kd.V_nil _ _ _ _ _ | exact Kd.Q_nil _ _ _ _ _ | exact Kd.S_nil _ _ _ _ _⟩, ⟨by repeat (first | (with_reducible first | exact HB.out | apply below_alloc | apply pw_below_drewN | apply below_drew1) | exact HB.out)⟩⟩
  case round =>
    clear H'
    obtain ⟨x3_1, x4_1, rfl, HA, HK1, HO_3, HB⟩ := hrel
    cases gk with
    | zero => exact absurd HA.out (by simp [rosterref01_Fold.l0])
    | succ k1 =>
      have H := HA.out
      clear HA
      simp only [rosterref01_Fold.l0] at H
      by_cases c2 : x4_1 < (a0.size : Int)
      · rw [if_pos c2] at H
        have c2b0 : decide (x4_1 < (a0.size : Int)) = true := decide_eq_true c2
        clear c2
        by_cases c3 : 0 ≤ x4_1
        · rw [if_pos c3] at H
          have c3b0 : decide (0 ≤ x4_1) = true := decide_eq_true c3
          clear c3
          by_cases c5 : (bt a0 x4_1) ≥ 65
          · rw [if_pos c5] at H
            have c5b0 : decide (65 ≤ (bt a0 x4_1)) = true := decide_eq_true c5
            clear c5
            by_cases c6 : (bt a0 x4_1) ≤ 90
            · rw [if_pos c6] at H
              have c6b0 : decide ((bt a0 x4_1) ≤ 90) = true := decide_eq_true c6
              clear c6
              by_cases c7 : x3_1.length < 140737488355328
              · rw [if_pos c7] at H
                have LMc7 := Aside0.mk c7
                clear c7
                obtain ⟨y173, hy173⟩ : ∃ y_ : List Int, y_ = (x3_1 ++ [((bt a0 x4_1) + 32) % 256]) := ⟨_, rfl⟩
                replace H : (rosterref01_Fold.l0 k1 a0 y173 (wrap64 (x4_1 + 1))) = some r := by first | (rw [hy173]; with_reducible exact H) | (have H2_ := (Option.bind_some _ _).symm.trans H; rw [hy173]; with_reducible exact H2_) | (have H2_ := (Option.bind_some _ _).symm.trans H; with_reducible exact H2_) | with_reducible exact H | (rw [hy173]; exact H) | exact H
                have Ny173 := Aside0.mk hy173
                clear hy173
                have H' := Aside0.mk H
                clear H
                have p4 : 0 ≤ (x4_1 : Int) := of_decide_eq_true (by first | (with_reducible assumption) | assumption)
                have q4 : x4_1 < (a0.size : Int) := of_decide_eq_true (by first | (with_reducible assumption) | assumption)
                have hx4 := bt_at a0 x4_1
                replace p4 := eq_true p4
                replace q4 := eq_true q4
                go_wp2_with (first | ((with_reducible refine gate_builtin (b := .append) (xs := #[.tmp 23, .tmp 25]) rfl ?_); at_builtin; refine Kd.R_append (Kd.int .u8) (w0 := w) w.heap.size rfl (.tmp 23) (.tmp 25) 28 5 (.int .u8 0) 1 rfl Tryd.underlying28 info5 rfl (by decide) (by omega) u3 x3_1 (((bt a0 x4_1) + 32) % 256) [.int .u8 (((bt a0 x4_1) + 32) % 256)] (fun _ => True) (fun _ => False) rfl rfl ?aP (fun _ hk => hk.elim) ?aF ?aO ?aB ?aS ?aL ?_; (case aP => exact rfl); (case aB => exact (by repeat (first | (with_reducible first | exact HB.out | apply below_alloc | apply pw_below_drewN | apply below_drew1) | exact HB.out))); (case aF => exact (fun _ _ => trivial)); (case aO => exact (by (with_reducible repeat (first | apply Kd.R_alloc | apply Kd.R_drewN | apply Kd.R_drew)); exact HO_3.out)); (case aS => exact (below_size (by repeat (first | (with_reducible first | exact HB.out | apply below_alloc | apply pw_below_drewN | apply below_drew1) | exact HB.out)))); (case aL => have := LMc7.out; omega); intro v174 w8 ho hb hg hat; rw [← Ny173.out] at ho; have n0_ := Aside0.mk (hb); have n1_ := Aside0.mk (ho); clear HB; clear HO_3; have HB := n0_; have HO175 := n1_; clear n0_ n1_; clear ho hb hg hat))
                go_roundg k1
                case measure => have := HK1.out; omega
                case rel => exact ⟨(y173), (wrap64 (x4_1 + 1)), (by first | rfl | (simp; done) | (simp [*]; done)), H', ⟨by have := HK1.out; omega⟩, ⟨by (with_reducible repeat (first | apply Kd.R_alloc | apply Kd.R_drewN | apply Kd.R_drew)); exact HO175.out⟩, ⟨by repeat (first | (with_reducible first | exact HB.out | apply below_alloc | apply pw_below_drewN | apply below_drew1) | exact HB.out)⟩⟩
              · rw [if_neg c7] at H
                exact absurd H (by simp)
            · rw [if_neg c6] at H
              have c6b0 : decide ((bt a0 x4_1) ≤ 90) = false := decide_eq_false c6
              clear c6
              by_cases c9 : x3_1.length < 140737488355328
              · rw [if_pos c9] at H
                have LMc9 := Aside0.mk c9
                clear c9
                obtain ⟨y176, hy176⟩ : ∃ y_ : List Int, y_ = (x3_1 ++ [bt a0 x4_1]) := ⟨_, rfl⟩
                replace H : (rosterref01_Fold.l0 k1 a0 y176 (wrap64 (x4_1 + 1))) = some r := by first | (rw [hy176]; with_reducible exact H) | (have H2_ := (Option.bind_some _ _).symm.trans H; rw [hy176]; with_reducible exact H2_) | (have H2_ := (Option.bind_some _ _).symm.trans H; with_reducible exact H2_) | with_reducible exact H | (rw [hy176]; exact H) | exact H
                have Ny176 := Aside0.mk hy176
                clear hy176
                have H' := Aside0.mk H
                clear H
                have p4 : 0 ≤ (x4_1 : Int) := of_decide_eq_true (by first | (with_reducible assumption) | assumption)
                have q4 : x4_1 < (a0.size : Int) := of_decide_eq_true (by first | (with_reducible assumption) | assumption)
                have hx4 := bt_at a0 x4_1
                replace p4 := eq_true p4
                replace q4 := eq_true q4
                go_wp2_with (first | ((with_reducible refine gate_builtin (b := .append) (xs := #[.tmp 23, .tmp 25]) rfl ?_); at_builtin; refine Kd.R_append (Kd.int .u8) (w0 := w) w.heap.size rfl (.tmp 23) (.tmp 25) 28 5 (.int .u8 0) 1 rfl Tryd.underlying28 info5 rfl (by decide) (by omega) u3 x3_1 (bt a0 x4_1) [.int .u8 (bt a0 x4_1)] (fun _ => True) (fun _ => False) rfl rfl ?aP (fun _ hk => hk.elim) ?aF ?aO ?aB ?aS ?aL ?_; (case aP => exact rfl); (case aB => exact (by repeat (first | (with_reducible first | exact HB.out | apply below_alloc | apply pw_below_drewN | apply below_drew1) | exact HB.out))); (case aF => exact (fun _ _ => trivial)); (case aO => exact (by (with_reducible repeat (first | apply Kd.R_alloc | apply Kd.R_drewN | apply Kd.R_drew)); exact HO_3.out)); (case aS => exact (below_size (by repeat (first | (with_reducible first | exact HB.out | apply below_alloc | apply pw_below_drewN | apply below_drew1) | exact HB.out)))); (case aL => have := LMc9.out; omega); intro v177 w10 ho hb hg hat; rw [← Ny176.out] at ho; have n0_ := Aside0.mk (hb); have n1_ := Aside0.mk (ho); clear HB; clear HO_3; have HB := n0_; have HO178 := n1_; clear n0_ n1_; clear ho hb hg hat))
                go_roundg k1
                case measure => have := HK1.out; omega
                case rel => exact ⟨(y176), (wrap64 (x4_1 + 1)), (by first | rfl | (simp; done) | (simp [*]; done)), H', ⟨by have := HK1.out; omega⟩, ⟨by (with_reducible repeat (first | apply Kd.R_alloc | apply Kd.R_drewN | apply Kd.R_drew)); exact HO178.out⟩, ⟨by repeat (first | (with_reducible first | exact HB.out | apply below_alloc | apply pw_below_drewN | apply below_drew1) | exact HB.out)⟩⟩
              · rw [if_neg c9] at H
                exact absurd H (by simp)
          · rw [if_neg c5] at H
            have c5b0 : decide (65 ≤ (bt a0 x4_1)) = false := decide_eq_false c5
            clear c5
            by_cases c11 : x3_1.length < 140737488355328
            · rw [if_pos c11] at H
              have LMc11 := Aside0.mk c11
              clear c11
              obtain ⟨y179, hy179⟩ : ∃ y_ : List Int, y_ = (x3_1 ++ [bt a0 x4_1]) := ⟨_, rfl⟩
              replace H : (rosterref01_Fold.l0 k1 a0 y179 (wrap64 (x4_1 + 1))) = some r := by first | (rw [hy179]; with_reducible exact H) | (have H2_ := (Option.bind_some _ _).symm.trans H; rw [hy179]; with_reducible exact H2_) | (have H2_ := (Option.bind_some _ _).symm.trans H; with_reducible exact H2_) | with_reducible exact H | (rw [hy179]; exact H) | exact H
              have Ny179 := Aside0.mk hy179
              clear hy179
              have H' := Aside0.mk H
              clear H
              have p4 : 0 ≤ (x4_1 : Int) := of_decide_eq_true (by first | (with_reducible assumption) | assumption)
              have q4 : x4_1 < (a0.size : Int) := of_decide_eq_true (by first | (with_reducible assumption) | assumption)
              have hx4 := bt_at a0 x4_1
              replace p4 := eq_true p4
              replace q4 := eq_true q4
              go_wp2_with (first | ((with_reducible refine gate_builtin (b := .append) (xs := #[.tmp 23, .tmp 25]) rfl ?_); at_builtin; refine Kd.R_append (Kd.int .u8) (w0 := w) w.heap.size rfl (.tmp 23) (.tmp 25) 28 5 (.int .u8 0) 1 rfl Tryd.underlying28 info5 rfl (by decide) (by omega) u3 x3_1 (bt a0 x4_1) [.int .u8 (bt a0 x4_1)] (fun _ => True) (fun _ => False) rfl rfl ?aP (fun _ hk => hk.elim) ?aF ?aO ?aB ?aS ?aL ?_; (case aP => exact rfl); (case aB => exact (by repeat (first | (with_reducible first | exact HB.out | apply below_alloc | apply pw_below_drewN | apply below_drew1) | exact HB.out))); (case aF => exact (fun _ _ => trivial)); (case aO => exact (by (with_reducible repeat (first | apply Kd.R_alloc | apply Kd.R_drewN | apply Kd.R_drew)); exact HO_3.out)); (case aS => exact (below_size (by repeat (first | (with_reducible first | exact HB.out | apply below_alloc | apply pw_below_drewN | apply below_drew1) | exact HB.out)))); (case aL => have := LMc11.out; omega); intro v180 w12 ho hb hg hat; rw [← Ny179.out] at ho; have n0_ := Aside0.mk (hb); have n1_ := Aside0.mk (ho); clear HB; clear HO_3; have HB := n0_; have HO181 := n1_; clear n0_ n1_; clear ho hb hg hat))
              go_roundg k1
              case measure => have := HK1.out; omega
              case rel => exact ⟨(y179), (wrap64 (x4_1 + 1)), (by first | rfl | (simp; done) | (simp [*]; done)), H', ⟨by have := HK1.out; omega⟩, ⟨by (with_reducible repeat (first | apply Kd.R_alloc | apply Kd.R_drewN | apply Kd.R_drew)); exact HO181.out⟩, ⟨by repeat (first | (with_reducible first | exact HB.out | apply below_alloc | apply pw_below_drewN | apply below_drew1) | exact HB.out)⟩⟩
            · rw [if_neg c11] at H
              exact absurd H (by simp)
        · rw [if_neg c3] at H
          exact absurd H (by simp)
      · rw [if_neg c2] at H
        have c2b0 : decide (x4_1 < (a0.size : Int)) = false := decide_eq_false c2
        clear c2
        obtain rfl := Option.some.inj H
        have hcv13 := own_string (P := Tryd.prog) Tryd.underlying28 Tryd.underlying5 Tryd.underlying9 (Kd.own_of_R HO_3.out)
        go_wp2
        go_ret
        exact ⟨by first | rfl | (simp [errW_none, errW_some] <;> rfl) | (simp [*, errW_none, errW_some] <;> rfl), by repeat (first | (with_reducible first | exact HB.out | apply below_alloc | apply pw_below_drewN | apply below_drew1) | exact HB.out)⟩

/-! ### text_blank: function 39 -/
def text_blank.f (a0 : Int) : Option (Bool) := if a0 = 32 then (some true) else (if a0 ≥ 9 then (some (decide (a0 ≤ 13))) else (some false))
set_option maxHeartbeats 8000000 in
set_option maxRecDepth 100000 in
theorem text_blank.calls (a0 : Int) (r : Bool) (w : World) (h : text_blank.f a0 = some r) :
    Calls Tryd.prog 39 #[.int .u8 a0] w fun e w' => e = .returned (.bool r) ∧ Drawn0 w w' := by
  have H : (if a0 = 32 then (some true) else (if a0 ≥ 9 then (some (decide (a0 ≤ 13))) else (some false))) = some r := h
  clear h
  by_cases c2 : a0 = 32
  · rw [if_pos c2] at H
    have c2b0 : (a0 == 32) = true := beq_iff_eq.mpr c2
    have c2b1 : (a0 != 32) = false := bne_eq_false_iff_eq.mpr c2
    clear c2
    obtain rfl := Option.some.inj H
    go_enter Tryd.func39, Tryd.ntmps39
    go_wp2
    go_ret
    exact ⟨by first | rfl | (simp; done) | (simp [*]; done), by repeat (first | exact Drawn0.refl _ | apply Drawn0.step)⟩
  · rw [if_neg c2] at H
    have c2b0 : (a0 == 32) = false := beq_eq_false_iff_ne.mpr c2
    have c2b1 : (a0 != 32) = true := bne_iff_ne.mpr c2
    by_cases c3 : a0 ≥ 9
    · rw [if_pos c3] at H
      have c3b0 : decide (9 ≤ a0) = true := decide_eq_true c3
      clear c3
      obtain rfl := Option.some.inj H
      go_enter Tryd.func39, Tryd.ntmps39
      go_wp2
      go_ret
      exact ⟨by first | rfl | (simp; done) | (simp [*]; done), by repeat (first | exact Drawn0.refl _ | apply Drawn0.step)⟩
    · rw [if_neg c3] at H
      have c3b0 : decide (9 ≤ a0) = false := decide_eq_false c3
      clear c3
      obtain rfl := Option.some.inj H
      go_enter Tryd.func39, Tryd.ntmps39
      go_wp2
      go_ret
      exact ⟨by first | rfl | (simp; done) | (simp [*]; done), by repeat (first | exact Drawn0.refl _ | apply Drawn0.step)⟩

end Go.Proofs.YtppnhlkfkedlmaaDoor.XA

-- PRINTED by print.py (a twelfth state) out of the translation. Not trusted: Lean checks it.
import Derived.Test.YtjkhdiphcgpbfaaDoorXC0
import Derived.Test.YtjkhdiphcgpbfaaDoorXC1
import Derived.Test.YtjkhdiphcgpbfaaDoorXC2
namespace Go.Proofs.YtjkhdiphcgpbfaaDoor.XC
open Go.Proofs.YtjkhdiphcgpbfaaDoor.XGC
attribute [local irreducible] rowL2
open Go.RowKit Go.Proofs.YtjkhdiphcgpbfaaDoorW.PrintWords Go.Proofs.YtjkhdiphcgpbfaaDoorW.PrintLast Go.Proofs.YtjkhdiphcgpbfaaDoorW.PrintMore
attribute [local go_sem] max2_int min2_int max_two min_two max_three min_three max_four min_four   -- for this text's walks alone
set_option linter.unusedVariables false
set_option linter.unusedSimpArgs false

/-! ### rosterref01_fits: function 27 -/
def rosterref01_fits.l0 : Nat → ByteArray → Int → Int → Int → Int → Option (Bool)
  | 0, _, _, _, _, _ => none
  | k + 1, x0, x1, x2, x7, x8 => if x8 < x7 then (if 0 ≤ (wrap64 (x1 + x8)) then (if (wrap64 (x1 + x8)) < (x0.size : Int) then (if 0 ≤ x2 then (if x2 < 9 then (if 0 ≤ (wrap64 (1 + (wrap64 (2 * x8)))) then (if (wrap64 (1 + (wrap64 (2 * x8)))) < 9 then (if (wrap64 (bt x0 (wrap64 (x1 + x8)))) < (rd (rowL2 x2) (wrap64 (1 + (wrap64 (2 * x8))))) then (some false) else (if 0 ≤ (wrap64 (2 + (wrap64 (2 * x8)))) then (if (wrap64 (2 + (wrap64 (2 * x8)))) < 9 then (if (wrap64 (bt x0 (wrap64 (x1 + x8)))) > (rd (rowL2 x2) (wrap64 (2 + (wrap64 (2 * x8))))) then (some false) else (rosterref01_fits.l0 k x0 x1 x2 x7 (wrap64 (x8 + 1)))) else (none)) else (none))) else (none)) else (none)) else (none)) else (none)) else (none)) else (none)) else (some true)
def rosterref01_fits.f (k : Nat) (a0 : ByteArray) (a1 : Int) (a2 : Int) : Option (Bool) := if 0 ≤ a2 then (if a2 < 9 then (if 0 < 9 then (if (wrap64 (a1 + (rd (rowL2 a2) 0))) > (a0.size : Int) then (some false) else (rosterref01_fits.l0 k a0 a1 a2 (rd (rowL2 a2) 0) 0)) else (none)) else (none)) else (none)
theorem rosterref01_fits.mono_l : ∀ k, (∀ y0 y1 y2 y3 y4, LeO (rosterref01_fits.l0 k y0 y1 y2 y3 y4) (rosterref01_fits.l0 (k + 1) y0 y1 y2 y3 y4))
  | 0 => fun _ _ _ _ _ r h => by simp [rosterref01_fits.l0] at h
  | k + 1 => by
    have ih0 := rosterref01_fits.mono_l k
    · intro y0 y1 y2 y3 y4
      unfold rosterref01_fits.l0
      repeat' first
      | (with_reducible exact ih0 _ _ _ _ _)
      | (with_reducible exact LeO.refl _)
      | (with_reducible exact LeO.none _)
      | (with_reducible refine LeO.ite ?_ ?_)
      | (with_reducible refine LeO.bind ?_ (fun _ => ?_))
      | exact ih0 _ _ _ _ _
      | exact LeO.none _
      | refine LeO.ite ?_ ?_
      | refine LeO.bind ?_ (fun _ => ?_)
theorem rosterref01_fits.mono : ∀ a0 a1 a2 k, LeO (rosterref01_fits.f k a0 a1 a2) (rosterref01_fits.f (k + 1) a0 a1 a2) := by
  intro a0 a1 a2 k
  have ih0 := rosterref01_fits.mono_l k
  unfold rosterref01_fits.f
  repeat' first
      | (with_reducible exact ih0 _ _ _ _ _)
      | (with_reducible exact LeO.refl _)
      | (with_reducible exact LeO.none _)
      | (with_reducible refine LeO.ite ?_ ?_)
      | (with_reducible refine LeO.bind ?_ (fun _ => ?_))
      | exact ih0 _ _ _ _ _
      | exact LeO.none _
      | refine LeO.ite ?_ ?_
      | refine LeO.bind ?_ (fun _ => ?_)
set_option maxHeartbeats 8000000 in
set_option maxRecDepth 100000 in
theorem rosterref01_fits.calls (k : Nat) (a0 : ByteArray) (a1 : Int) (a2 : Int) (r : Bool) (w : World) (hG : Tabs w) (h : rosterref01_fits.f k a0 a1 a2 = some r) :
    Calls Tryd.prog 27 #[.string a0, .int .i64 a1, .int .i64 a2] w fun e w' => e = .returned (.bool r) ∧ Drawn0 w w' := by
  have HRG2 := Aside0.mk (Tabs_2 hG)
  have H : (if 0 ≤ a2 then (if a2 < 9 then (if 0 < 9 then (if (wrap64 (a1 + (rd (rowL2 a2) 0))) > (a0.size : Int) then (some false) else (rosterref01_fits.l0 k a0 a1 a2 (rd (rowL2 a2) 0) 0)) else (none)) else (none)) else (none)) = some r := h
  clear h
  by_cases c4 : 0 ≤ a2
  · rw [if_pos c4] at H
    have c4b0 : decide (0 ≤ a2) = true := decide_eq_true c4
    clear c4
    by_cases c5 : a2 < 9
    · rw [if_pos c5] at H
      have c5b0 : decide (a2 < 9) = true := decide_eq_true c5
      clear c5
      by_cases c7 : 0 < 9
      · rw [if_pos c7] at H
        have c7b0 : decide (0 < 9) = true := decide_eq_true c7
        clear c7
        by_cases c8 : (wrap64 (a1 + (rd (rowL2 a2) 0))) > (a0.size : Int)
        · rw [if_pos c8] at H
          have c8b0 : decide ((a0.size : Int) < (wrap64 (a1 + (rd (rowL2 a2) 0)))) = true := decide_eq_true c8
          clear c8
          obtain rfl := Option.some.inj H
          have p6 : 0 ≤ (a2 : Int) := of_decide_eq_true (by first | (with_reducible assumption) | assumption)
          have q6 : (a2 : Int) < (9 : Int) := of_decide_eq_true (by first | (with_reducible assumption) | assumption)
          replace p6 := eq_true p6
          replace q6 := eq_true q6
          have HRT111 := Aside0.mk (HRG2.out (a2 : Int) (of_eq_true p6) (of_eq_true q6))
          have p112 : 0 ≤ (0 : Int) := (by omega)
          have q112 : 0 < (9 : Int) := of_decide_eq_true (by first | (with_reducible assumption) | assumption)
          have ql112 : ((0 : Int) < (9 : Int)) = True := eq_true (of_decide_eq_true (by first | (with_reducible assumption) | assumption))
          obtain ⟨ad112, e112, hx112_0⟩ := Kd.at_int HRT111.out 0 p112 q112
          obtain rfl : (⟨2, (a2).toNat * 9, none⟩ : Addr) = ad112 := (by injection e112)
          ((first | simp only [add_plain] at hx112_0 | simp only [add_at] at hx112_0 | simp only [Addr.add, Nat.zero_add] at hx112_0 | skip); (try simp only [Int.toNat_zero, Nat.add_zero] at hx112_0))
          have qi112 : (0 < 9) = True := eq_true (by omega)
          (try rw [show ((0 : Int)).toNat = 0 from rfl] at hx112_0)
          (try rw [Addr.add_zero'] at hx112_0)
          replace p112 := eq_true p112
          replace q112 := eq_true q112
          go_enter Tryd.func27, Tryd.ntmps27
          go_wp2
          go_ret
          exact ⟨by first | rfl | (simp; done) | (simp [*]; done), by repeat (first | exact Drawn0.refl _ | apply Drawn0.step)⟩
        · rw [if_neg c8] at H
          have c8b0 : decide ((a0.size : Int) < (wrap64 (a1 + (rd (rowL2 a2) 0)))) = false := decide_eq_false c8
          clear c8
          have H' := Aside0.mk H
          clear H
          have p6 : 0 ≤ (a2 : Int) := of_decide_eq_true (by first | (with_reducible assumption) | assumption)
          have q6 : (a2 : Int) < (9 : Int) := of_decide_eq_true (by first | (with_reducible assumption) | assumption)
          replace p6 := eq_true p6
          replace q6 := eq_true q6
          have HRT111 := Aside0.mk (HRG2.out (a2 : Int) (of_eq_true p6) (of_eq_true q6))
          have p112 : 0 ≤ (0 : Int) := (by omega)
          have q112 : 0 < (9 : Int) := of_decide_eq_true (by first | (with_reducible assumption) | assumption)
          have ql112 : ((0 : Int) < (9 : Int)) = True := eq_true (of_decide_eq_true (by first | (with_reducible assumption) | assumption))
          obtain ⟨ad112, e112, hx112_0⟩ := Kd.at_int HRT111.out 0 p112 q112
          obtain rfl : (⟨2, (a2).toNat * 9, none⟩ : Addr) = ad112 := (by injection e112)
          ((first | simp only [add_plain] at hx112_0 | simp only [add_at] at hx112_0 | simp only [Addr.add, Nat.zero_add] at hx112_0 | skip); (try simp only [Int.toNat_zero, Nat.add_zero] at hx112_0))
          have qi112 : (0 < 9) = True := eq_true (by omega)
          (try rw [show ((0 : Int)).toNat = 0 from rfl] at hx112_0)
          (try rw [Addr.add_zero'] at hx112_0)
          replace p112 := eq_true p112
          replace q112 := eq_true q112
          go_enter Tryd.func27, Tryd.ntmps27
          go_wp2
          go_loopg [8] k (fun kq v8 w' => ∃ (x8_1 : Int), v8 = .int .i64 x8_1 ∧ Aside0 (rosterref01_fits.l0 kq a0 a1 a2 (rd (rowL2 a2) 0) x8_1 = some r) ∧ Aside0 (kq ≤ k) ∧ Drawn0 w w')
          case atStart => exact ⟨(0), (by first | rfl | (simp; done) | (simp [*]; done)), H', ⟨Nat.le_refl _⟩, by repeat (first | exact Drawn0.refl _ | apply Drawn0.step)⟩
          case round =>
            clear H'
            try clear p1
            try clear q1
            try clear hx1
            try clear qi1
            try clear c2
            try clear p2
            try clear c4
            try clear c4b0
            try clear c5
            try clear c5b0
            try clear p6
            try clear q6
            try clear c7
            try clear c7b0
            try clear c8
            try clear c8b0
            try clear hx112_0
            try clear p112
            try clear p6
            try clear q112
            try clear q6
            obtain ⟨x8_1, rfl, HA, HK1, ⟨m1, rfl⟩⟩ := hrel
            cases gk with
            | zero => exact absurd HA.out (by simp [rosterref01_fits.l0])
            | succ k1 =>
              have H := HA.out
              clear HA
              simp only [rosterref01_fits.l0] at H
              by_cases c9 : x8_1 < (rd (rowL2 a2) 0)
              · rw [if_pos c9] at H
                have c9b0 : decide (x8_1 < (rd (rowL2 a2) 0)) = true := decide_eq_true c9
                clear c9
                obtain ⟨ji10, hji10⟩ : ∃ j_ : Int, (wrap64 (a1 + x8_1)) = j_ := ⟨_, rfl⟩
                replace H : (if 0 ≤ (ji10) then (if (ji10) < (a0.size : Int) then (if 0 ≤ a2 then (if a2 < 9 then (if 0 ≤ (wrap64 (1 + (wrap64 (2 * x8_1)))) then (if (wrap64 (1 + (wrap64 (2 * x8_1)))) < 9 then (if (wrap64 (bt a0 (ji10))) < (rd (rowL2 a2) (wrap64 (1 + (wrap64 (2 * x8_1))))) then (some false) else (if 0 ≤ (wrap64 (2 + (wrap64 (2 * x8_1)))) then (if (wrap64 (2 + (wrap64 (2 * x8_1)))) < 9 then (if (wrap64 (bt a0 (ji10))) > (rd (rowL2 a2) (wrap64 (2 + (wrap64 (2 * x8_1))))) then (some false) else (rosterref01_fits.l0 k1 a0 a1 a2 (rd (rowL2 a2) 0) (wrap64 (x8_1 + 1)))) else (none)) else (none))) else (none)) else (none)) else (none)) else (none)) else (none)) else (none)) = some r := by first | (rw [hji10] at H; exact H) | (simp only [hji10] at H ⊢; exact H)
                have hji10w : (IntKind.i64.wrap (a1 + x8_1)) = ji10 := (i64_w _).trans hji10
                by_cases c11 : 0 ≤ (ji10)
                · rw [if_pos c11] at H
                  have c11b0 : decide (0 ≤ (ji10)) = true := decide_eq_true c11
                  clear c11
                  by_cases c12 : (ji10) < (a0.size : Int)
                  · rw [if_pos c12] at H
                    have c12b0 : decide ((ji10) < (a0.size : Int)) = true := decide_eq_true c12
                    clear c12
                    by_cases c14 : 0 ≤ a2
                    · rw [if_pos c14] at H
                      have c14b0 : decide (0 ≤ a2) = true := decide_eq_true c14
                      clear c14
                      by_cases c15 : a2 < 9
                      · rw [if_pos c15] at H
                        have c15b0 : decide (a2 < 9) = true := decide_eq_true c15
                        clear c15
                        obtain ⟨ji17, hji17⟩ : ∃ j_ : Int, (wrap64 (1 + (wrap64 (2 * x8_1)))) = j_ := ⟨_, rfl⟩
                        replace H : (if 0 ≤ (ji17) then (if (ji17) < 9 then (if (wrap64 (bt a0 (ji10))) < (rd (rowL2 a2) (ji17)) then (some false) else (if 0 ≤ (wrap64 (2 + (wrap64 (2 * x8_1)))) then (if (wrap64 (2 + (wrap64 (2 * x8_1)))) < 9 then (if (wrap64 (bt a0 (ji10))) > (rd (rowL2 a2) (wrap64 (2 + (wrap64 (2 * x8_1))))) then (some false) else (rosterref01_fits.l0 k1 a0 a1 a2 (rd (rowL2 a2) 0) (wrap64 (x8_1 + 1)))) else (none)) else (none))) else (none)) else (none)) = some r := by first | (rw [hji17] at H; exact H) | (simp only [hji17] at H ⊢; exact H)
                        have hji17w : (IntKind.i64.wrap (1 + (wrap64 (2 * x8_1)))) = ji17 := (i64_w _).trans hji17
                        by_cases c18 : 0 ≤ (ji17)
                        · rw [if_pos c18] at H
                          have c18b0 : decide (0 ≤ (ji17)) = true := decide_eq_true c18
                          clear c18
                          by_cases c19 : (ji17) < 9
                          · rw [if_pos c19] at H
                            have c19b0 : decide ((ji17) < 9) = true := decide_eq_true c19
                            clear c19
                            by_cases c20 : (wrap64 (bt a0 (ji10))) < (rd (rowL2 a2) (ji17))
                            · rw [if_pos c20] at H
                              have c20b0 : decide ((wrap64 (bt a0 (ji10))) < (rd (rowL2 a2) (ji17))) = true := decide_eq_true c20
                              clear c20
                              obtain rfl := Option.some.inj H
                              have p13 : 0 ≤ ((ji10) : Int) := of_decide_eq_true (by first | (with_reducible assumption) | assumption)
                              have q13 : (ji10) < (a0.size : Int) := of_decide_eq_true (by first | (with_reducible assumption) | assumption)
                              have hx13 := bt_at a0 (ji10)
                              replace p13 := eq_true p13
                              replace q13 := eq_true q13
                              have p16 : 0 ≤ (a2 : Int) := of_decide_eq_true (by first | (with_reducible assumption) | assumption)
                              have q16 : (a2 : Int) < (9 : Int) := of_decide_eq_true (by first | (with_reducible assumption) | assumption)
                              replace p16 := eq_true p16
                              replace q16 := eq_true q16
                              have HRT113 := Aside0.mk (HRG2.out (a2 : Int) (of_eq_true p16) (of_eq_true q16))
                              have p114 : 0 ≤ ((ji17) : Int) := of_decide_eq_true (by first | (with_reducible assumption) | assumption)
                              have q114 : (ji17) < (9 : Int) := of_decide_eq_true (by first | (with_reducible assumption) | assumption)
                              have ql114 : (((ji17) : Int) < (9 : Int)) = True := eq_true (of_decide_eq_true (by first | (with_reducible assumption) | assumption))
                              obtain ⟨ad114, e114, hx114_0⟩ := Kd.at_int HRT113.out (ji17) p114 q114
                              obtain rfl : (⟨2, (a2).toNat * 9, none⟩ : Addr) = ad114 := (by injection e114)
                              ((first | simp only [add_plain] at hx114_0 | simp only [add_at] at hx114_0 | simp only [Addr.add, Nat.zero_add] at hx114_0 | skip); (try simp only [Int.toNat_zero, Nat.add_zero] at hx114_0))
                              replace p114 := eq_true p114
                              replace q114 := eq_true q114
                              go_wp2
                              go_ret
                              exact ⟨by first | rfl | (simp; done) | (simp only [← hji10, ← hji17] <;> (first | rfl | simp)) | (simp [*]; done), by repeat (first | exact Drawn0.refl _ | apply Drawn0.step)⟩
                            · rw [if_neg c20] at H
                              have c20b0 : decide ((wrap64 (bt a0 (ji10))) < (rd (rowL2 a2) (ji17))) = false := decide_eq_false c20
                              clear c20
                              obtain ⟨ji22, hji22⟩ : ∃ j_ : Int, (wrap64 (2 + (wrap64 (2 * x8_1)))) = j_ := ⟨_, rfl⟩
                              replace H : (if 0 ≤ (ji22) then (if (ji22) < 9 then (if (wrap64 (bt a0 (ji10))) > (rd (rowL2 a2) (ji22)) then (some false) else (rosterref01_fits.l0 k1 a0 a1 a2 (rd (rowL2 a2) 0) (wrap64 (x8_1 + 1)))) else (none)) else (none)) = some r := by first | (rw [hji22] at H; exact H) | (simp only [hji22] at H ⊢; exact H)
                              have hji22w : (IntKind.i64.wrap (2 + (wrap64 (2 * x8_1)))) = ji22 := (i64_w _).trans hji22
                              by_cases c23 : 0 ≤ (ji22)
                              · rw [if_pos c23] at H
                                have c23b0 : decide (0 ≤ (ji22)) = true := decide_eq_true c23
                                clear c23
                                by_cases c24 : (ji22) < 9
                                · rw [if_pos c24] at H
                                  have c24b0 : decide ((ji22) < 9) = true := decide_eq_true c24
                                  clear c24
                                  by_cases c25 : (wrap64 (bt a0 (ji10))) > (rd (rowL2 a2) (ji22))
                                  · rw [if_pos c25] at H
                                    have c25b0 : decide ((rd (rowL2 a2) (ji22)) < (wrap64 (bt a0 (ji10)))) = true := decide_eq_true c25
                                    clear c25
                                    obtain rfl := Option.some.inj H
                                    have p13 : 0 ≤ ((ji10) : Int) := of_decide_eq_true (by first | (with_reducible assumption) | assumption)
                                    have q13 : (ji10) < (a0.size : Int) := of_decide_eq_true (by first | (with_reducible assumption) | assumption)
                                    have hx13 := bt_at a0 (ji10)
                                    replace p13 := eq_true p13
                                    replace q13 := eq_true q13
                                    have p16 : 0 ≤ (a2 : Int) := of_decide_eq_true (by first | (with_reducible assumption) | assumption)
                                    have q16 : (a2 : Int) < (9 : Int) := of_decide_eq_true (by first | (with_reducible assumption) | assumption)
                                    replace p16 := eq_true p16
                                    replace q16 := eq_true q16
                                    have HRT113 := Aside0.mk (HRG2.out (a2 : Int) (of_eq_true p16) (of_eq_true q16))
                                    have p114 : 0 ≤ ((ji17) : Int) := of_decide_eq_true (by first | (with_reducible assumption) | assumption)
                                    have q114 : (ji17) < (9 : Int) := of_decide_eq_true (by first | (with_reducible assumption) | assumption)
                                    have ql114 : (((ji17) : Int) < (9 : Int)) = True := eq_true (of_decide_eq_true (by first | (with_reducible assumption) | assumption))
                                    obtain ⟨ad114, e114, hx114_0⟩ := Kd.at_int HRT113.out (ji17) p114 q114
                                    obtain rfl : (⟨2, (a2).toNat * 9, none⟩ : Addr) = ad114 := (by injection e114)
                                    ((first | simp only [add_plain] at hx114_0 | simp only [add_at] at hx114_0 | simp only [Addr.add, Nat.zero_add] at hx114_0 | skip); (try simp only [Int.toNat_zero, Nat.add_zero] at hx114_0))
                                    replace p114 := eq_true p114
                                    replace q114 := eq_true q114
                                    have p21 : 0 ≤ (a2 : Int) := of_decide_eq_true (by first | (with_reducible assumption) | assumption)
                                    have q21 : (a2 : Int) < (9 : Int) := of_decide_eq_true (by first | (with_reducible assumption) | assumption)
                                    replace p21 := eq_true p21
                                    replace q21 := eq_true q21
                                    have HRT115 := Aside0.mk (HRG2.out (a2 : Int) (of_eq_true p21) (of_eq_true q21))
                                    have p116 : 0 ≤ ((ji22) : Int) := of_decide_eq_true (by first | (with_reducible assumption) | assumption)
                                    have q116 : (ji22) < (9 : Int) := of_decide_eq_true (by first | (with_reducible assumption) | assumption)
                                    have ql116 : (((ji22) : Int) < (9 : Int)) = True := eq_true (of_decide_eq_true (by first | (with_reducible assumption) | assumption))
                                    obtain ⟨ad116, e116, hx116_0⟩ := Kd.at_int HRT115.out (ji22) p116 q116
                                    obtain rfl : (⟨2, (a2).toNat * 9, none⟩ : Addr) = ad116 := (by injection e116)
                                    ((first | simp only [add_plain] at hx116_0 | simp only [add_at] at hx116_0 | simp only [Addr.add, Nat.zero_add] at hx116_0 | skip); (try simp only [Int.toNat_zero, Nat.add_zero] at hx116_0))
                                    replace p116 := eq_true p116
                                    replace q116 := eq_true q116
                                    go_wp2
                                    go_ret
                                    exact ⟨by first | rfl | (simp; done) | (simp only [← hji10, ← hji17, ← hji22] <;> (first | rfl | simp)) | (simp [*]; done), by repeat (first | exact Drawn0.refl _ | apply Drawn0.step)⟩
                                  · rw [if_neg c25] at H
                                    have c25b0 : decide ((rd (rowL2 a2) (ji22)) < (wrap64 (bt a0 (ji10)))) = false := decide_eq_false c25
                                    clear c25
                                    have H' := Aside0.mk H
                                    clear H
                                    have p13 : 0 ≤ ((ji10) : Int) := of_decide_eq_true (by first | (with_reducible assumption) | assumption)
                                    have q13 : (ji10) < (a0.size : Int) := of_decide_eq_true (by first | (with_reducible assumption) | assumption)
                                    have hx13 := bt_at a0 (ji10)
                                    replace p13 := eq_true p13
                                    replace q13 := eq_true q13
                                    have p16 : 0 ≤ (a2 : Int) := of_decide_eq_true (by first | (with_reducible assumption) | assumption)
                                    have q16 : (a2 : Int) < (9 : Int) := of_decide_eq_true (by first | (with_reducible assumption) | assumption)
                                    replace p16 := eq_true p16
                                    replace q16 := eq_true q16
                                    have HRT113 := Aside0.mk (HRG2.out (a2 : Int) (of_eq_true p16) (of_eq_true q16))
                                    have p114 : 0 ≤ ((ji17) : Int) := of_decide_eq_true (by first | (with_reducible assumption) | assumption)
                                    have q114 : (ji17) < (9 : Int) := of_decide_eq_true (by first | (with_reducible assumption) | assumption)
                                    have ql114 : (((ji17) : Int) < (9 : Int)) = True := eq_true (of_decide_eq_true (by first | (with_reducible assumption) | assumption))
                                    obtain ⟨ad114, e114, hx114_0⟩ := Kd.at_int HRT113.out (ji17) p114 q114
                                    obtain rfl : (⟨2, (a2).toNat * 9, none⟩ : Addr) = ad114 := (by injection e114)
                                    ((first | simp only [add_plain] at hx114_0 | simp only [add_at] at hx114_0 | simp only [Addr.add, Nat.zero_add] at hx114_0 | skip); (try simp only [Int.toNat_zero, Nat.add_zero] at hx114_0))
                                    replace p114 := eq_true p114
                                    replace q114 := eq_true q114
                                    have p21 : 0 ≤ (a2 : Int) := of_decide_eq_true (by first | (with_reducible assumption) | assumption)
                                    have q21 : (a2 : Int) < (9 : Int) := of_decide_eq_true (by first | (with_reducible assumption) | assumption)
                                    replace p21 := eq_true p21
                                    replace q21 := eq_true q21
                                    have HRT115 := Aside0.mk (HRG2.out (a2 : Int) (of_eq_true p21) (of_eq_true q21))
                                    have p116 : 0 ≤ ((ji22) : Int) := of_decide_eq_true (by first | (with_reducible assumption) | assumption)
                                    have q116 : (ji22) < (9 : Int) := of_decide_eq_true (by first | (with_reducible assumption) | assumption)
                                    have ql116 : (((ji22) : Int) < (9 : Int)) = True := eq_true (of_decide_eq_true (by first | (with_reducible assumption) | assumption))
                                    obtain ⟨ad116, e116, hx116_0⟩ := Kd.at_int HRT115.out (ji22) p116 q116
                                    obtain rfl : (⟨2, (a2).toNat * 9, none⟩ : Addr) = ad116 := (by injection e116)
                                    ((first | simp only [add_plain] at hx116_0 | simp only [add_at] at hx116_0 | simp only [Addr.add, Nat.zero_add] at hx116_0 | skip); (try simp only [Int.toNat_zero, Nat.add_zero] at hx116_0))
                                    replace p116 := eq_true p116
                                    replace q116 := eq_true q116
                                    go_wp2
                                    go_roundg k1
                                    case measure => have := HK1.out; omega
                                    case rel => exact ⟨(wrap64 (x8_1 + 1)), (by first | rfl | (simp; done) | (simp [*]; done)), H', ⟨by have := HK1.out; omega⟩, by repeat (first | exact Drawn0.refl _ | apply Drawn0.step)⟩
                                · rw [if_neg c24] at H
                                  exact absurd H (by simp)
                              · rw [if_neg c23] at H
                                exact absurd H (by simp)
                          · rw [if_neg c19] at H
                            exact absurd H (by simp)
                        · rw [if_neg c18] at H
                          exact absurd H (by simp)
                      · rw [if_neg c15] at H
                        exact absurd H (by simp)
                    · rw [if_neg c14] at H
                      exact absurd H (by simp)
                  · rw [if_neg c12] at H
                    exact absurd H (by simp)
                · rw [if_neg c11] at H
                  exact absurd H (by simp)
              · rw [if_neg c9] at H
                have c9b0 : decide (x8_1 < (rd (rowL2 a2) 0)) = false := decide_eq_false c9
                clear c9
                obtain rfl := Option.some.inj H
                go_wp2
                go_ret
                exact ⟨by first | rfl | (simp; done) | (simp [*]; done), by repeat (first | exact Drawn0.refl _ | apply Drawn0.step)⟩
      · rw [if_neg c7] at H
        exact absurd H (by simp)
    · rw [if_neg c5] at H
      exact absurd H (by simp)
  · rw [if_neg c4] at H
    exact absurd H (by simp)

/-! ### rosterref01_Sequence: function 22 -/
def rosterref01_Sequence.l0 : Nat → ByteArray → Int → Int → Option (Int)
  | 0, _, _, _ => none
  | k + 1, x0, x1, x5 => if x5 < 9 then ((rosterref01_fits.f k x0 x1 x5).bind fun t117 => (if t117 = true then (if 0 ≤ x5 then (if 0 < 9 then (some (rd (rowL2 x5) 0)) else (none)) else (none)) else (rosterref01_Sequence.l0 k x0 x1 (wrap64 (x5 + 1))))) else (some 0)
def rosterref01_Sequence.f (k : Nat) (a0 : ByteArray) (a1 : Int) : Option (Int) := rosterref01_Sequence.l0 k a0 a1 0
theorem rosterref01_Sequence.mono_l : ∀ k, (∀ y0 y1 y2, LeO (rosterref01_Sequence.l0 k y0 y1 y2) (rosterref01_Sequence.l0 (k + 1) y0 y1 y2))
  | 0 => fun _ _ _ r h => by simp [rosterref01_Sequence.l0] at h
  | k + 1 => by
    have ih0 := rosterref01_Sequence.mono_l k
    · intro y0 y1 y2
      unfold rosterref01_Sequence.l0
      repeat' first
      | (with_reducible exact ih0 _ _ _)
      | (with_reducible exact rosterref01_fits.mono _ _ _ _)
      | (with_reducible exact LeO.refl _)
      | (with_reducible exact LeO.none _)
      | (with_reducible refine LeO.ite ?_ ?_)
      | (with_reducible refine LeO.bind ?_ (fun _ => ?_))
      | exact ih0 _ _ _
      | exact rosterref01_fits.mono _ _ _ _
      | exact LeO.none _
      | refine LeO.ite ?_ ?_
      | refine LeO.bind ?_ (fun _ => ?_)
theorem rosterref01_Sequence.mono : ∀ a0 a1 k, LeO (rosterref01_Sequence.f k a0 a1) (rosterref01_Sequence.f (k + 1) a0 a1) := by
  intro a0 a1 k
  have ih0 := rosterref01_Sequence.mono_l k
  unfold rosterref01_Sequence.f
  repeat' first
      | (with_reducible exact ih0 _ _ _)
      | (with_reducible exact rosterref01_fits.mono _ _ _ _)
      | (with_reducible exact LeO.refl _)
      | (with_reducible exact LeO.none _)
      | (with_reducible refine LeO.ite ?_ ?_)
      | (with_reducible refine LeO.bind ?_ (fun _ => ?_))
      | exact ih0 _ _ _
      | exact rosterref01_fits.mono _ _ _ _
      | exact LeO.none _
      | refine LeO.ite ?_ ?_
      | refine LeO.bind ?_ (fun _ => ?_)
set_option maxHeartbeats 8000000 in
set_option maxRecDepth 100000 in
theorem rosterref01_Sequence.calls (k : Nat) (a0 : ByteArray) (a1 : Int) (r : Int) (w : World) (hG : Tabs w) (h : rosterref01_Sequence.f k a0 a1 = some r) :
    Calls Tryd.prog 22 #[.string a0, .int .i64 a1] w fun e w' => e = .returned (.int .i64 r) ∧ Drawn0 w w' := by
  have HRG2 := Aside0.mk (Tabs_2 hG)
  have H : (rosterref01_Sequence.l0 k a0 a1 0) = some r := h
  clear h
  have H' := Aside0.mk H
  clear H
  go_enter Tryd.func22, Tryd.ntmps22
  go_wp2
  go_loopg [5] k (fun kq v5 w' => ∃ (x5_1 : Int), v5 = .int .i64 x5_1 ∧ Aside0 (rosterref01_Sequence.l0 kq a0 a1 x5_1 = some r) ∧ Aside0 (kq ≤ k) ∧ Drawn0 w w')
  case atStart => exact ⟨(0), (by first | rfl | (simp; done) | (simp [*]; done)), H', ⟨Nat.le_refl _⟩, by repeat (first | exact Drawn0.refl _ | apply Drawn0.step)⟩
  case round =>
    clear H'
    try clear c2
    try clear p2
    obtain ⟨x5_1, rfl, HA, HK1, ⟨m1, rfl⟩⟩ := hrel
    cases gk with
    | zero => exact absurd HA.out (by simp [rosterref01_Sequence.l0])
    | succ k1 =>
      have H := HA.out
      clear HA
      simp only [rosterref01_Sequence.l0] at H
      by_cases c3 : x5_1 < 9
      · rw [if_pos c3] at H
        have c3b0 : decide (x5_1 < 9) = true := decide_eq_true c3
        clear c3
        replace H := Option.bind_eq_some_iff.mp H
        obtain ⟨t117, A40, H⟩ := H
        replace H : (if t117 = true then (if 0 ≤ x5_1 then (if 0 < 9 then (some (rd (rowL2 x5_1) 0)) else (none)) else (none)) else (rosterref01_Sequence.l0 k1 a0 a1 (wrap64 (x5_1 + 1)))) = some r := H
        have A4 := Aside0.mk A40
        clear A40
        by_cases c5 : t117 = true
        · subst c5
          have H1 : (if 0 ≤ x5_1 then (if 0 < 9 then (some (rd (rowL2 x5_1) 0)) else (none)) else (none)) = some r := by rw [if_pos rfl] at H; exact H
          clear H
          have H := H1
          clear H1
          by_cases c6 : 0 ≤ x5_1
          · rw [if_pos c6] at H
            have c6b0 : decide (0 ≤ x5_1) = true := decide_eq_true c6
            clear c6
            by_cases c8 : 0 < 9
            · rw [if_pos c8] at H
              have c8b0 : decide (0 < 9) = true := decide_eq_true c8
              clear c8
              obtain rfl := Option.some.inj H
              go_wp2_with (first | ((with_reducible refine gate_callee (f := 27) rfl ?_); refine goesL_ (some 14) rfl rfl Tryd.func27 (by kernel_rfl) rfl #[.string a0, .int .i64 a1, .int .i64 x5_1] rfl (by (try simp only [List.map_toArray, List.map_cons, List.map_nil]); first | done | rfl | (simp only [List.length_drop, List.length_take]; rfl)) ?_; (with_reducible refine (rosterref01_fits.calls k1 a0 a1 x5_1 true _ (Tabs_at hG (by repeat (first | (with_reducible first | exact HB.out | exact Below.refl _ _ | apply below_alloc | apply pw_below_drewN | apply below_drew1) | exact HB.out | exact Below.refl _ _))) A4.out).mono ?_); rintro e w' ⟨rfl, ⟨nd, rfl⟩⟩; refine ⟨_, rfl, ?_⟩; have p7 : 0 ≤ (x5_1 : Int) := of_decide_eq_true (by first | (with_reducible assumption) | assumption); have q7 : (x5_1 : Int) < (9 : Int) := of_decide_eq_true (by first | (with_reducible assumption) | assumption); replace p7 := eq_true p7; replace q7 := eq_true q7; have HRT118 := Aside0.mk (HRG2.out (x5_1 : Int) (of_eq_true p7) (of_eq_true q7)); have p119 : 0 ≤ (0 : Int) := (by omega); have q119 : 0 < (9 : Int) := of_decide_eq_true (by first | (with_reducible assumption) | assumption); have ql119 : ((0 : Int) < (9 : Int)) = True := eq_true (of_decide_eq_true (by first | (with_reducible assumption) | assumption)); obtain ⟨ad119, e119, hx119_0⟩ := Kd.at_int HRT118.out 0 p119 q119; obtain rfl : (⟨2, (x5_1).toNat * 9, none⟩ : Addr) = ad119 := (by injection e119); ((first | simp only [add_plain] at hx119_0 | simp only [add_at] at hx119_0 | simp only [Addr.add, Nat.zero_add] at hx119_0 | skip); (try simp only [Int.toNat_zero, Nat.add_zero] at hx119_0)); have qi119 : (0 < 9) = True := eq_true (by omega); (try rw [show ((0 : Int)).toNat = 0 from rfl] at hx119_0); (try rw [Addr.add_zero'] at hx119_0); replace p119 := eq_true p119; replace q119 := eq_true q119))
              go_ret
              exact ⟨by first | rfl | (simp; done) | (simp [*]; done), by repeat (first | exact Drawn0.refl _ | apply Drawn0.step)⟩
            · rw [if_neg c8] at H
              exact absurd H (by simp)
          · rw [if_neg c6] at H
            exact absurd H (by simp)
        · replace c5 := Bool.eq_false_iff.mpr c5
          subst c5
          have H1 : (rosterref01_Sequence.l0 k1 a0 a1 (wrap64 (x5_1 + 1))) = some r := by rw [if_neg (show ¬ (false = true) by decide)] at H; exact H
          clear H
          have H := H1
          clear H1
          have H' := Aside0.mk H
          clear H
          go_wp2_with (first | ((with_reducible refine gate_callee (f := 27) rfl ?_); refine goesL_ (some 14) rfl rfl Tryd.func27 (by kernel_rfl) rfl #[.string a0, .int .i64 a1, .int .i64 x5_1] rfl (by (try simp only [List.map_toArray, List.map_cons, List.map_nil]); first | done | rfl | (simp only [List.length_drop, List.length_take]; rfl)) ?_; (with_reducible refine (rosterref01_fits.calls k1 a0 a1 x5_1 false _ (Tabs_at hG (by repeat (first | (with_reducible first | exact HB.out | exact Below.refl _ _ | apply below_alloc | apply pw_below_drewN | apply below_drew1) | exact HB.out | exact Below.refl _ _))) A4.out).mono ?_); rintro e w' ⟨rfl, ⟨nd, rfl⟩⟩; refine ⟨_, rfl, ?_⟩))
          go_roundg k1
          case measure => have := HK1.out; omega
          case rel => exact ⟨(wrap64 (x5_1 + 1)), (by first | rfl | (simp; done) | (simp [*]; done)), H', ⟨by have := HK1.out; omega⟩, by repeat (first | exact Drawn0.refl _ | apply Drawn0.step)⟩
      · rw [if_neg c3] at H
        have c3b0 : decide (x5_1 < 9) = false := decide_eq_false c3
        clear c3
        obtain rfl := Option.some.inj H
        go_wp2
        go_ret
        exact ⟨by first | rfl | (simp; done) | (simp [*]; done), by repeat (first | exact Drawn0.refl _ | apply Drawn0.step)⟩

/-! ### rosterref01_Check: function 18 -/
def rosterref01_Check.l0 : Nat → ByteArray → Int → Option (Int × Int)
  | 0, _, _ => none
  | k + 1, x0, x4 => if x4 < (x0.size : Int) then ((rosterref01_Sequence.f k x0 x4).bind fun t120 => (if t120 = 0 then (some (10, x4)) else (rosterref01_Check.l0 k x0 (wrap64 (x4 + t120))))) else (some (0, (x0.size : Int)))
def rosterref01_Check.f (k : Nat) (a0 : ByteArray) : Option (Int × Int) := rosterref01_Check.l0 k a0 0
theorem rosterref01_Check.mono_l : ∀ k, (∀ y0 y1, LeO (rosterref01_Check.l0 k y0 y1) (rosterref01_Check.l0 (k + 1) y0 y1))
  | 0 => fun _ _ r h => by simp [rosterref01_Check.l0] at h
  | k + 1 => by
    have ih0 := rosterref01_Check.mono_l k
    · intro y0 y1
      unfold rosterref01_Check.l0
      repeat' first
      | (with_reducible exact ih0 _ _)
      | (with_reducible exact rosterref01_Sequence.mono _ _ _)
      | (with_reducible exact LeO.refl _)
      | (with_reducible exact LeO.none _)
      | (with_reducible refine LeO.ite ?_ ?_)
      | (with_reducible refine LeO.bind ?_ (fun _ => ?_))
      | exact ih0 _ _
      | exact rosterref01_Sequence.mono _ _ _
      | exact LeO.none _
      | refine LeO.ite ?_ ?_
      | refine LeO.bind ?_ (fun _ => ?_)
theorem rosterref01_Check.mono : ∀ a0 k, LeO (rosterref01_Check.f k a0) (rosterref01_Check.f (k + 1) a0) := by
  intro a0 k
  have ih0 := rosterref01_Check.mono_l k
  unfold rosterref01_Check.f
  repeat' first
      | (with_reducible exact ih0 _ _)
      | (with_reducible exact rosterref01_Sequence.mono _ _ _)
      | (with_reducible exact LeO.refl _)
      | (with_reducible exact LeO.none _)
      | (with_reducible refine LeO.ite ?_ ?_)
      | (with_reducible refine LeO.bind ?_ (fun _ => ?_))
      | exact ih0 _ _
      | exact rosterref01_Sequence.mono _ _ _
      | exact LeO.none _
      | refine LeO.ite ?_ ?_
      | refine LeO.bind ?_ (fun _ => ?_)
set_option maxHeartbeats 8000000 in
set_option maxRecDepth 100000 in
theorem rosterref01_Check.calls (k : Nat) (a0 : ByteArray) (r1 : Int) (r2 : Int) (w : World) (hG : Tabs w) (h : rosterref01_Check.f k a0 = some (r1, r2)) :
    Calls Tryd.prog 18 #[.string a0] w fun e w' => e = .returned (.tuple #[.int .i64 r1, .int .i64 r2]) ∧ Drawn0 w w' := by
  have H : (rosterref01_Check.l0 k a0 0) = some (r1, r2) := h
  clear h
  have H' := Aside0.mk H
  clear H
  go_enter Tryd.func18, Tryd.ntmps18
  go_wp2
  go_loopg [4] k (fun kq v4 w' => ∃ (x4_1 : Int), v4 = .int .i64 x4_1 ∧ Aside0 (rosterref01_Check.l0 kq a0 x4_1 = some (r1, r2)) ∧ Aside0 (kq ≤ k) ∧ Drawn0 w w')
  case atStart => exact ⟨(0), (by first | rfl | (simp; done) | (simp [*]; done)), H', ⟨Nat.le_refl _⟩, by repeat (first | exact Drawn0.refl _ | apply Drawn0.step)⟩
  case round =>
    clear H'
    try clear c1
    obtain ⟨x4_1, rfl, HA, HK1, ⟨m1, rfl⟩⟩ := hrel
    cases gk with
    | zero => exact absurd HA.out (by simp [rosterref01_Check.l0])
    | succ k1 =>
      have H := HA.out
      clear HA
      simp only [rosterref01_Check.l0] at H
      by_cases c2 : x4_1 < (a0.size : Int)
      · rw [if_pos c2] at H
        have c2b0 : decide (x4_1 < (a0.size : Int)) = true := decide_eq_true c2
        clear c2
        replace H := Option.bind_eq_some_iff.mp H
        obtain ⟨t120, A30, H⟩ := H
        replace H : (if t120 = 0 then (some (10, x4_1)) else (rosterref01_Check.l0 k1 a0 (wrap64 (x4_1 + t120)))) = some (r1, r2) := H
        have A3 := Aside0.mk A30
        clear A30
        by_cases c4 : t120 = 0
        · rw [if_pos c4] at H
          have c4b0 : (t120 == 0) = true := beq_iff_eq.mpr c4
          have c4b1 : (t120 != 0) = false := bne_eq_false_iff_eq.mpr c4
          clear c4
          simp only [Option.some.injEq, Prod.mk.injEq] at H
          obtain ⟨rfl, rfl⟩ := H
          go_wp2_with (first | ((with_reducible refine gate_callee (f := 22) rfl ?_); refine goesL_ (some 12) rfl rfl Tryd.func22 (by kernel_rfl) rfl #[.string a0, .int .i64 x4_1] rfl (by (try simp only [List.map_toArray, List.map_cons, List.map_nil]); first | done | rfl | (simp only [List.length_drop, List.length_take]; rfl)) ?_; (with_reducible refine (rosterref01_Sequence.calls k1 a0 x4_1 t120 _ (Tabs_at hG (by repeat (first | (with_reducible first | exact HB.out | exact Below.refl _ _ | apply below_alloc | apply pw_below_drewN | apply below_drew1) | exact HB.out | exact Below.refl _ _))) A3.out).mono ?_); rintro e w' ⟨rfl, ⟨nd, rfl⟩⟩; refine ⟨_, rfl, ?_⟩))
          go_ret2
          exact ⟨by first | rfl | (simp; done) | (simp [*]; done), by repeat (first | exact Drawn0.refl _ | apply Drawn0.step)⟩
        · rw [if_neg c4] at H
          have c4b0 : (t120 == 0) = false := beq_eq_false_iff_ne.mpr c4
          have c4b1 : (t120 != 0) = true := bne_iff_ne.mpr c4
          have H' := Aside0.mk H
          clear H
          go_wp2_with (first | ((with_reducible refine gate_callee (f := 22) rfl ?_); refine goesL_ (some 12) rfl rfl Tryd.func22 (by kernel_rfl) rfl #[.string a0, .int .i64 x4_1] rfl (by (try simp only [List.map_toArray, List.map_cons, List.map_nil]); first | done | rfl | (simp only [List.length_drop, List.length_take]; rfl)) ?_; (with_reducible refine (rosterref01_Sequence.calls k1 a0 x4_1 t120 _ (Tabs_at hG (by repeat (first | (with_reducible first | exact HB.out | exact Below.refl _ _ | apply below_alloc | apply pw_below_drewN | apply below_drew1) | exact HB.out | exact Below.refl _ _))) A3.out).mono ?_); rintro e w' ⟨rfl, ⟨nd, rfl⟩⟩; refine ⟨_, rfl, ?_⟩))
          go_roundg k1
          case measure => have := HK1.out; omega
          case rel => exact ⟨(wrap64 (x4_1 + t120)), (by first | rfl | (simp; done) | (simp [*]; done)), H', ⟨by have := HK1.out; omega⟩, by repeat (first | exact Drawn0.refl _ | apply Drawn0.step)⟩
      · rw [if_neg c2] at H
        have c2b0 : decide (x4_1 < (a0.size : Int)) = false := decide_eq_false c2
        clear c2
        simp only [Option.some.injEq, Prod.mk.injEq] at H
        obtain ⟨rfl, rfl⟩ := H
        go_wp2
        go_ret2
        exact ⟨by first | rfl | (simp; done) | (simp [*]; done), by repeat (first | exact Drawn0.refl _ | apply Drawn0.step)⟩

/-! ### rosterlaw01_TextChecks: function 7 -/
def rosterlaw01_TextChecks.f (k : Nat) (a0 : ByteArray) : Option (Bool) := (text_Check.f k a0).bind fun bt121 => ((rosterref01_Check.f k a0).bind fun bt123 => ((rosterlaw01_num.f bt121.1).bind fun t125 => ((rosterlaw01_num.f bt123.1).bind fun t126 => (if t125 = t126 then (some (bt121.2 == bt123.2)) else (some false)))))
theorem rosterlaw01_TextChecks.mono : ∀ a0 k, LeO (rosterlaw01_TextChecks.f k a0) (rosterlaw01_TextChecks.f (k + 1) a0) := by
  intro a0 k
  unfold rosterlaw01_TextChecks.f
  repeat' first
      | (with_reducible exact rosterref01_Check.mono _ _)
      | (with_reducible exact text_Check.mono _ _)
      | (with_reducible exact LeO.refl _)
      | (with_reducible exact LeO.none _)
      | (with_reducible refine LeO.ite ?_ ?_)
      | (with_reducible refine LeO.bind ?_ (fun _ => ?_))
      | exact rosterref01_Check.mono _ _
      | exact text_Check.mono _ _
      | exact LeO.none _
      | refine LeO.ite ?_ ?_
      | refine LeO.bind ?_ (fun _ => ?_)
set_option maxHeartbeats 8000000 in
set_option maxRecDepth 100000 in
theorem rosterlaw01_TextChecks.calls (k : Nat) (a0 : ByteArray) (r : Bool) (w : World) (hG : Tabs w) (h : rosterlaw01_TextChecks.f k a0 = some r) :
    Calls Tryd.prog 7 #[.string a0] w fun e w' => e = .returned (.bool r) ∧ Below w.heap.size w w' := by
  have HB := Aside0.mk (Below.refl w.heap.size w)
  have H : ((text_Check.f k a0).bind fun bt121 => ((rosterref01_Check.f k a0).bind fun bt123 => ((rosterlaw01_num.f bt121.1).bind fun t125 => ((rosterlaw01_num.f bt123.1).bind fun t126 => (if t125 = t126 then (some (bt121.2 == bt123.2)) else (some false)))))) = some r := h
  clear h
  replace H := Option.bind_eq_some_iff.mp H
  obtain ⟨⟨t121, t122⟩, A20, H⟩ := H
  replace H : ((rosterref01_Check.f k a0).bind fun bt123 => ((rosterlaw01_num.f t121).bind fun t125 => ((rosterlaw01_num.f bt123.1).bind fun t126 => (if t125 = t126 then (some (t122 == bt123.2)) else (some false))))) = some r := H
  have A2 := Aside0.mk A20
  clear A20
  replace H := Option.bind_eq_some_iff.mp H
  obtain ⟨⟨t123, t124⟩, A30, H⟩ := H
  replace H : ((rosterlaw01_num.f t121).bind fun t125 => ((rosterlaw01_num.f t123).bind fun t126 => (if t125 = t126 then (some (t122 == t124)) else (some false)))) = some r := H
  have A3 := Aside0.mk A30
  clear A30
  replace H := Option.bind_eq_some_iff.mp H
  obtain ⟨t125, A40, H⟩ := H
  replace H : ((rosterlaw01_num.f t123).bind fun t126 => (if t125 = t126 then (some (t122 == t124)) else (some false))) = some r := H
  have A4 := Aside0.mk A40
  clear A40
  replace H := Option.bind_eq_some_iff.mp H
  obtain ⟨t126, A50, H⟩ := H
  replace H : (if t125 = t126 then (some (t122 == t124)) else (some false)) = some r := H
  have A5 := Aside0.mk A50
  clear A50
  by_cases c6 : t125 = t126
  · rw [if_pos c6] at H
    have c6b0 : (t125 == t126) = true := beq_iff_eq.mpr c6
    have c6b1 : (t125 != t126) = false := bne_eq_false_iff_eq.mpr c6
    clear c6
    obtain rfl := Option.some.inj H
    go_enter Tryd.func7, Tryd.ntmps7
    go_wp2_with (first | ((with_reducible refine gate_callee (f := 17) rfl ?_); refine goesL_ (some 9) rfl rfl Tryd.func17 (by kernel_rfl) rfl #[.string a0] rfl (by (try simp only [List.map_toArray, List.map_cons, List.map_nil]); first | done | rfl | (simp only [List.length_drop, List.length_take]; rfl)) ?_; (with_reducible refine (text_Check.calls k a0 t121 t122 _ A2.out).mono ?_); rintro e w7 ⟨rfl, hb⟩; refine ⟨_, rfl, ?_⟩; have n0_ := Aside0.mk (below_step (by repeat (first | (with_reducible first | exact HB.out | apply below_alloc | apply pw_below_drewN | apply below_drew1) | exact HB.out)) hb); clear HB; have HB := n0_; clear n0_; (try clear hb); (try clear hb2); (try clear hk); (try clear hi)) | ((with_reducible refine gate_callee (f := 18) rfl ?_); refine goesL_ (some 14) rfl rfl Tryd.func18 (by kernel_rfl) rfl #[.string a0] rfl (by (try simp only [List.map_toArray, List.map_cons, List.map_nil]); first | done | rfl | (simp only [List.length_drop, List.length_take]; rfl)) ?_; (with_reducible refine (rosterref01_Check.calls k a0 t123 t124 _ (Tabs_at hG (by repeat (first | (with_reducible first | exact HB.out | exact Below.refl _ _ | apply below_alloc | apply pw_below_drewN | apply below_drew1) | exact HB.out | exact Below.refl _ _))) A3.out).mono ?_); rintro e w' ⟨rfl, ⟨nd, rfl⟩⟩; refine ⟨_, rfl, ?_⟩) | ((with_reducible refine gate_callee (f := 15) rfl ?_); refine goesL_ (some 18) rfl rfl Tryd.func15 (by kernel_rfl) rfl #[.int .i64 t121] rfl (by (try simp only [List.map_toArray, List.map_cons, List.map_nil]); first | done | rfl | (simp only [List.length_drop, List.length_take]; rfl)) ?_; (with_reducible refine (rosterlaw01_num.calls t121 t125 _ A4.out).mono ?_); rintro e w' ⟨rfl, ⟨nd, rfl⟩⟩; refine ⟨_, rfl, ?_⟩) | ((with_reducible refine gate_callee (f := 15) rfl ?_); refine goesL_ (some 20) rfl rfl Tryd.func15 (by kernel_rfl) rfl #[.int .i64 t123] rfl (by (try simp only [List.map_toArray, List.map_cons, List.map_nil]); first | done | rfl | (simp only [List.length_drop, List.length_take]; rfl)) ?_; (with_reducible refine (rosterlaw01_num.calls t123 t126 _ A5.out).mono ?_); rintro e w' ⟨rfl, ⟨nd, rfl⟩⟩; refine ⟨_, rfl, ?_⟩))
    go_ret
    exact ⟨by first | rfl | (simp [errW_none, errW_some] <;> rfl) | (simp [*, errW_none, errW_some] <;> rfl), by repeat (first | (with_reducible first | exact HB.out | apply below_alloc | apply pw_below_drewN | apply below_drew1) | exact HB.out)⟩
  · rw [if_neg c6] at H
    have c6b0 : (t125 == t126) = false := beq_eq_false_iff_ne.mpr c6
    have c6b1 : (t125 != t126) = true := bne_iff_ne.mpr c6
    obtain rfl := Option.some.inj H
    go_enter Tryd.func7, Tryd.ntmps7
    go_wp2_with (first | ((with_reducible refine gate_callee (f := 17) rfl ?_); refine goesL_ (some 9) rfl rfl Tryd.func17 (by kernel_rfl) rfl #[.string a0] rfl (by (try simp only [List.map_toArray, List.map_cons, List.map_nil]); first | done | rfl | (simp only [List.length_drop, List.length_take]; rfl)) ?_; (with_reducible refine (text_Check.calls k a0 t121 t122 _ A2.out).mono ?_); rintro e w8 ⟨rfl, hb⟩; refine ⟨_, rfl, ?_⟩; have n0_ := Aside0.mk (below_step (by repeat (first | (with_reducible first | exact HB.out | apply below_alloc | apply pw_below_drewN | apply below_drew1) | exact HB.out)) hb); clear HB; have HB := n0_; clear n0_; (try clear hb); (try clear hb2); (try clear hk); (try clear hi)) | ((with_reducible refine gate_callee (f := 18) rfl ?_); refine goesL_ (some 14) rfl rfl Tryd.func18 (by kernel_rfl) rfl #[.string a0] rfl (by (try simp only [List.map_toArray, List.map_cons, List.map_nil]); first | done | rfl | (simp only [List.length_drop, List.length_take]; rfl)) ?_; (with_reducible refine (rosterref01_Check.calls k a0 t123 t124 _ (Tabs_at hG (by repeat (first | (with_reducible first | exact HB.out | exact Below.refl _ _ | apply below_alloc | apply pw_below_drewN | apply below_drew1) | exact HB.out | exact Below.refl _ _))) A3.out).mono ?_); rintro e w' ⟨rfl, ⟨nd, rfl⟩⟩; refine ⟨_, rfl, ?_⟩) | ((with_reducible refine gate_callee (f := 15) rfl ?_); refine goesL_ (some 18) rfl rfl Tryd.func15 (by kernel_rfl) rfl #[.int .i64 t121] rfl (by (try simp only [List.map_toArray, List.map_cons, List.map_nil]); first | done | rfl | (simp only [List.length_drop, List.length_take]; rfl)) ?_; (with_reducible refine (rosterlaw01_num.calls t121 t125 _ A4.out).mono ?_); rintro e w' ⟨rfl, ⟨nd, rfl⟩⟩; refine ⟨_, rfl, ?_⟩) | ((with_reducible refine gate_callee (f := 15) rfl ?_); refine goesL_ (some 20) rfl rfl Tryd.func15 (by kernel_rfl) rfl #[.int .i64 t123] rfl (by (try simp only [List.map_toArray, List.map_cons, List.map_nil]); first | done | rfl | (simp only [List.length_drop, List.length_take]; rfl)) ?_; (with_reducible refine (rosterlaw01_num.calls t123 t126 _ A5.out).mono ?_); rintro e w' ⟨rfl, ⟨nd, rfl⟩⟩; refine ⟨_, rfl, ?_⟩))
    go_ret
    exact ⟨by first | rfl | (simp [errW_none, errW_some] <;> rfl) | (simp [*, errW_none, errW_some] <;> rfl), by repeat (first | (with_reducible first | exact HB.out | apply below_alloc | apply pw_below_drewN | apply below_drew1) | exact HB.out)⟩

end Go.Proofs.YtjkhdiphcgpbfaaDoor.XC

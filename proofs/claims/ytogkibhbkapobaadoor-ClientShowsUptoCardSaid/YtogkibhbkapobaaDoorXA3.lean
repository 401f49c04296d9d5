-- PRINTED by print.py (a twelfth state) out of the translation. Not trusted: Lean checks it.
import Derived.Test.YtogkibhbkapobaaDoorXA0
import Derived.Test.YtogkibhbkapobaaDoorXA1
import Derived.Test.YtogkibhbkapobaaDoorXA2
namespace Go.Proofs.YtogkibhbkapobaaDoor.XA
open Go.Proofs.YtogkibhbkapobaaDoor.XG
open Go.Proofs.YtogkibhbkapobaaDoor.XS
attribute [local go_sem] Go.Proofs.YtogkibhbkapobaaDoor.XW.u8_wrap
open Go.RowKit Go.Proofs.YtogkibhbkapobaaDoorW.PrintWords Go.Proofs.YtogkibhbkapobaaDoorW.PrintLast Go.Proofs.YtogkibhbkapobaaDoorW.PrintMore
attribute [local go_sem] max2_int min2_int max_two min_two max_three min_three max_four min_four   -- for this text's walks alone
set_option linter.unusedVariables false
set_option linter.unusedSimpArgs false

/-! ### rosterref19_line: function 9 -/
def rosterref19_line.f (k : Nat) (a0 : ByteArray) (a1 : ByteArray) : Option (ByteArray) := if a1.toList = ([] : List UInt8) then (if a0.size + 2 ≤ 9223372036854775807 then (some (a0 ++ (⟨#[58, 10]⟩ : ByteArray))) else (none)) else ((rosterref01_Plain.f k a1).bind fun t121 => (if t121 = true then (if a0.size + 2 ≤ 9223372036854775807 then (if (a0 ++ (⟨#[58, 32]⟩ : ByteArray)).size + a1.size ≤ 9223372036854775807 then (if ((a0 ++ (⟨#[58, 32]⟩ : ByteArray)) ++ a1).size + 1 ≤ 9223372036854775807 then (some (((a0 ++ (⟨#[58, 32]⟩ : ByteArray)) ++ a1) ++ (⟨#[10]⟩ : ByteArray))) else (none)) else (none)) else (none)) else (if a0.size + 3 ≤ 9223372036854775807 then ((rosterref01_Base64.f k a1).bind fun t122 => (if (a0 ++ (⟨#[58, 58, 32]⟩ : ByteArray)).size + t122.size ≤ 9223372036854775807 then (if ((a0 ++ (⟨#[58, 58, 32]⟩ : ByteArray)) ++ t122).size + 1 ≤ 9223372036854775807 then (some (((a0 ++ (⟨#[58, 58, 32]⟩ : ByteArray)) ++ t122) ++ (⟨#[10]⟩ : ByteArray))) else (none)) else (none))) else (none))))
theorem rosterref19_line.mono : ∀ a0 a1 k, LeO (rosterref19_line.f k a0 a1) (rosterref19_line.f (k + 1) a0 a1) := by
  intro a0 a1 k
  unfold rosterref19_line.f
  repeat' first
      | (with_reducible exact rosterref01_Base64.mono _ _)
      | (with_reducible exact rosterref01_Plain.mono _ _)
      | (with_reducible exact LeO.refl _)
      | (with_reducible exact LeO.none _)
      | (with_reducible refine LeO.ite ?_ ?_)
      | (with_reducible refine LeO.bind ?_ (fun _ => ?_))
      | exact rosterref01_Base64.mono _ _
      | exact rosterref01_Plain.mono _ _
      | exact LeO.none _
      | refine LeO.ite ?_ ?_
      | refine LeO.bind ?_ (fun _ => ?_)
set_option maxHeartbeats 8000000 in
set_option maxRecDepth 100000 in
theorem rosterref19_line.calls (k : Nat) (a0 : ByteArray) (a1 : ByteArray) (r : ByteArray) (w : World) (h : rosterref19_line.f k a0 a1 = some r) :
    Calls Tryd.prog 9 #[.string a0, .string a1] w fun e w' => e = .returned (.string r) ∧ Below w.heap.size w w' := by
  have HB := Aside0.mk (Below.refl w.heap.size w)
  have H : (if a1.toList = ([] : List UInt8) then (if a0.size + 2 ≤ 9223372036854775807 then (some (a0 ++ (⟨#[58, 10]⟩ : ByteArray))) else (none)) else ((rosterref01_Plain.f k a1).bind fun t121 => (if t121 = true then (if a0.size + 2 ≤ 9223372036854775807 then (if (a0 ++ (⟨#[58, 32]⟩ : ByteArray)).size + a1.size ≤ 9223372036854775807 then (if ((a0 ++ (⟨#[58, 32]⟩ : ByteArray)) ++ a1).size + 1 ≤ 9223372036854775807 then (some (((a0 ++ (⟨#[58, 32]⟩ : ByteArray)) ++ a1) ++ (⟨#[10]⟩ : ByteArray))) else (none)) else (none)) else (none)) else (if a0.size + 3 ≤ 9223372036854775807 then ((rosterref01_Base64.f k a1).bind fun t122 => (if (a0 ++ (⟨#[58, 58, 32]⟩ : ByteArray)).size + t122.size ≤ 9223372036854775807 then (if ((a0 ++ (⟨#[58, 58, 32]⟩ : ByteArray)) ++ t122).size + 1 ≤ 9223372036854775807 then (some (((a0 ++ (⟨#[58, 58, 32]⟩ : ByteArray)) ++ t122) ++ (⟨#[10]⟩ : ByteArray))) else (none)) else (none))) else (none))))) = some r := h
  clear h
  by_cases c3 : a1.toList = ([] : List UInt8)
  · rw [if_pos c3] at H
    have c3b0 : (a1.toList == ([] : List UInt8)) = true := beq_iff_eq.mpr c3
    have c3b1 : (a1.toList != ([] : List UInt8)) = false := bne_eq_false_iff_eq.mpr c3
    clear c3
    by_cases c4 : a0.size + 2 ≤ 9223372036854775807
    · rw [if_pos c4] at H
      have c4b0 := eq_true c4
      have c4b1 : decide (a0.size + 2 ≤ 9223372036854775807) = true := decide_eq_true c4
      try have c4b2 : (9223372036854775807 < a0.size + 2) = False := eq_false (Nat.not_lt.2 c4)
      obtain rfl := Option.some.inj H
      go_enter Tryd.func9, Tryd.ntmps9
      go_wp2
      go_ret
      exact ⟨by first | rfl | (simp [errW_none, errW_some] <;> rfl) | (simp [*, errW_none, errW_some] <;> rfl), by repeat (first | (with_reducible first | exact HB.out | apply below_alloc | apply pw_below_drewN | apply below_drew1) | exact HB.out)⟩
    · rw [if_neg c4] at H
      exact absurd H (by simp)
  · rw [if_neg c3] at H
    have c3b0 : (a1.toList == ([] : List UInt8)) = false := beq_eq_false_iff_ne.mpr c3
    have c3b1 : (a1.toList != ([] : List UInt8)) = true := bne_iff_ne.mpr c3
    replace H := Option.bind_eq_some_iff.mp H
    obtain ⟨t121, A50, H⟩ := H
    replace H : (if t121 = true then (if a0.size + 2 ≤ 9223372036854775807 then (if (a0 ++ (⟨#[58, 32]⟩ : ByteArray)).size + a1.size ≤ 9223372036854775807 then (if ((a0 ++ (⟨#[58, 32]⟩ : ByteArray)) ++ a1).size + 1 ≤ 9223372036854775807 then (some (((a0 ++ (⟨#[58, 32]⟩ : ByteArray)) ++ a1) ++ (⟨#[10]⟩ : ByteArray))) else (none)) else (none)) else (none)) else (if a0.size + 3 ≤ 9223372036854775807 then ((rosterref01_Base64.f k a1).bind fun t122 => (if (a0 ++ (⟨#[58, 58, 32]⟩ : ByteArray)).size + t122.size ≤ 9223372036854775807 then (if ((a0 ++ (⟨#[58, 58, 32]⟩ : ByteArray)) ++ t122).size + 1 ≤ 9223372036854775807 then (some (((a0 ++ (⟨#[58, 58, 32]⟩ : ByteArray)) ++ t122) ++ (⟨#[10]⟩ : ByteArray))) else (none)) else (none))) else (none))) = some r := H
    have A5 := Aside0.mk A50
    clear A50
    by_cases c6 : t121 = true
    · subst c6
      have H1 : (if a0.size + 2 ≤ 9223372036854775807 then (if (a0 ++ (⟨#[58, 32]⟩ : ByteArray)).size + a1.size ≤ 9223372036854775807 then (if ((a0 ++ (⟨#[58, 32]⟩ : ByteArray)) ++ a1).size + 1 ≤ 9223372036854775807 then (some (((a0 ++ (⟨#[58, 32]⟩ : ByteArray)) ++ a1) ++ (⟨#[10]⟩ : ByteArray))) else (none)) else (none)) else (none)) = some r := by rw [if_pos rfl] at H; exact H
      clear H
      have H := H1
      clear H1
      by_cases c7 : a0.size + 2 ≤ 9223372036854775807
      · rw [if_pos c7] at H
        have c7b0 := eq_true c7
        have c7b1 : decide (a0.size + 2 ≤ 9223372036854775807) = true := decide_eq_true c7
        try have c7b2 : (9223372036854775807 < a0.size + 2) = False := eq_false (Nat.not_lt.2 c7)
        by_cases c8 : (a0 ++ (⟨#[58, 32]⟩ : ByteArray)).size + a1.size ≤ 9223372036854775807
        · rw [if_pos c8] at H
          have c8b0 := eq_true c8
          have c8b1 : decide ((a0 ++ (⟨#[58, 32]⟩ : ByteArray)).size + a1.size ≤ 9223372036854775807) = true := decide_eq_true c8
          try have c8b2 : (9223372036854775807 < (a0 ++ (⟨#[58, 32]⟩ : ByteArray)).size + a1.size) = False := eq_false (Nat.not_lt.2 c8)
          (try (have c8b3 : (9223372036854775807 < (a0 ++ (⟨#[58, 32]⟩ : ByteArray)).size + a1.size) = False := c8b2; conv at c8b3 => (lhs; rhs; simp [go_sem])))
          by_cases c9 : ((a0 ++ (⟨#[58, 32]⟩ : ByteArray)) ++ a1).size + 1 ≤ 9223372036854775807
          · rw [if_pos c9] at H
            have c9b0 := eq_true c9
            have c9b1 : decide (((a0 ++ (⟨#[58, 32]⟩ : ByteArray)) ++ a1).size + 1 ≤ 9223372036854775807) = true := decide_eq_true c9
            try have c9b2 : (9223372036854775807 < ((a0 ++ (⟨#[58, 32]⟩ : ByteArray)) ++ a1).size + 1) = False := eq_false (Nat.not_lt.2 c9)
            (try (have c9b3 : (9223372036854775807 < ((a0 ++ (⟨#[58, 32]⟩ : ByteArray)) ++ a1).size + 1) = False := c9b2; conv at c9b3 => (lhs; rhs; simp [go_sem])))
            obtain rfl := Option.some.inj H
            go_enter Tryd.func9, Tryd.ntmps9
            go_wp2_with (first | ((with_reducible refine gate_callee (f := 15) rfl ?_); refine goesL_ (some 10) rfl rfl Tryd.func15 (by kernel_rfl) rfl #[.string a1] rfl (by (try simp only [List.map_toArray, List.map_cons, List.map_nil]); first | done | rfl | (simp only [List.length_drop, List.length_take]; rfl)) ?_; (with_reducible refine (rosterref01_Plain.calls k a1 true _ A5.out).mono ?_); rintro e w' ⟨rfl, ⟨nd, rfl⟩⟩; refine ⟨_, rfl, ?_⟩))
            go_ret
            exact ⟨by first | rfl | (simp [errW_none, errW_some] <;> rfl) | (simp [*, errW_none, errW_some] <;> rfl), by repeat (first | (with_reducible first | exact HB.out | apply below_alloc | apply pw_below_drewN | apply below_drew1) | exact HB.out)⟩
          · rw [if_neg c9] at H
            exact absurd H (by simp)
        · rw [if_neg c8] at H
          exact absurd H (by simp)
      · rw [if_neg c7] at H
        exact absurd H (by simp)
    · replace c6 := Bool.eq_false_iff.mpr c6
      subst c6
      have H1 : (if a0.size + 3 ≤ 9223372036854775807 then ((rosterref01_Base64.f k a1).bind fun t122 => (if (a0 ++ (⟨#[58, 58, 32]⟩ : ByteArray)).size + t122.size ≤ 9223372036854775807 then (if ((a0 ++ (⟨#[58, 58, 32]⟩ : ByteArray)) ++ t122).size + 1 ≤ 9223372036854775807 then (some (((a0 ++ (⟨#[58, 58, 32]⟩ : ByteArray)) ++ t122) ++ (⟨#[10]⟩ : ByteArray))) else (none)) else (none))) else (none)) = some r := by rw [if_neg (show ¬ (false = true) by decide)] at H; exact H
      clear H
      have H := H1
      clear H1
      by_cases c10 : a0.size + 3 ≤ 9223372036854775807
      · rw [if_pos c10] at H
        have c10b0 := eq_true c10
        have c10b1 : decide (a0.size + 3 ≤ 9223372036854775807) = true := decide_eq_true c10
        try have c10b2 : (9223372036854775807 < a0.size + 3) = False := eq_false (Nat.not_lt.2 c10)
        replace H := Option.bind_eq_some_iff.mp H
        obtain ⟨t122, A110, H⟩ := H
        replace H : (if (a0 ++ (⟨#[58, 58, 32]⟩ : ByteArray)).size + t122.size ≤ 9223372036854775807 then (if ((a0 ++ (⟨#[58, 58, 32]⟩ : ByteArray)) ++ t122).size + 1 ≤ 9223372036854775807 then (some (((a0 ++ (⟨#[58, 58, 32]⟩ : ByteArray)) ++ t122) ++ (⟨#[10]⟩ : ByteArray))) else (none)) else (none)) = some r := H
        have A11 := Aside0.mk A110
        clear A110
        by_cases c12 : (a0 ++ (⟨#[58, 58, 32]⟩ : ByteArray)).size + t122.size ≤ 9223372036854775807
        · rw [if_pos c12] at H
          have c12b0 := eq_true c12
          have c12b1 : decide ((a0 ++ (⟨#[58, 58, 32]⟩ : ByteArray)).size + t122.size ≤ 9223372036854775807) = true := decide_eq_true c12
          try have c12b2 : (9223372036854775807 < (a0 ++ (⟨#[58, 58, 32]⟩ : ByteArray)).size + t122.size) = False := eq_false (Nat.not_lt.2 c12)
          (try (have c12b3 : (9223372036854775807 < (a0 ++ (⟨#[58, 58, 32]⟩ : ByteArray)).size + t122.size) = False := c12b2; conv at c12b3 => (lhs; rhs; simp [go_sem])))
          by_cases c13 : ((a0 ++ (⟨#[58, 58, 32]⟩ : ByteArray)) ++ t122).size + 1 ≤ 9223372036854775807
          · rw [if_pos c13] at H
            have c13b0 := eq_true c13
            have c13b1 : decide (((a0 ++ (⟨#[58, 58, 32]⟩ : ByteArray)) ++ t122).size + 1 ≤ 9223372036854775807) = true := decide_eq_true c13
            try have c13b2 : (9223372036854775807 < ((a0 ++ (⟨#[58, 58, 32]⟩ : ByteArray)) ++ t122).size + 1) = False := eq_false (Nat.not_lt.2 c13)
            (try (have c13b3 : (9223372036854775807 < ((a0 ++ (⟨#[58, 58, 32]⟩ : ByteArray)) ++ t122).size + 1) = False := c13b2; conv at c13b3 => (lhs; rhs; simp [go_sem])))
            obtain rfl := Option.some.inj H
            go_enter Tryd.func9, Tryd.ntmps9
            go_wp2_with (first | ((with_reducible refine gate_callee (f := 15) rfl ?_); refine goesL_ (some 10) rfl rfl Tryd.func15 (by kernel_rfl) rfl #[.string a1] rfl (by (try simp only [List.map_toArray, List.map_cons, List.map_nil]); first | done | rfl | (simp only [List.length_drop, List.length_take]; rfl)) ?_; (with_reducible refine (rosterref01_Plain.calls k a1 false _ A5.out).mono ?_); rintro e w' ⟨rfl, ⟨nd, rfl⟩⟩; refine ⟨_, rfl, ?_⟩) | ((with_reducible refine gate_callee (f := 16) rfl ?_); refine goesL_ (some 19) rfl rfl Tryd.func16 (by kernel_rfl) rfl #[.string a1] rfl (by (try simp only [List.map_toArray, List.map_cons, List.map_nil]); first | done | rfl | (simp only [List.length_drop, List.length_take]; rfl)) ?_; (with_reducible refine (rosterref01_Base64.calls k a1 t122 _ A11.out).mono ?_); rintro e w14 ⟨rfl, hb⟩; refine ⟨_, rfl, ?_⟩; have n0_ := Aside0.mk (below_step (by repeat (first | (with_reducible first | exact HB.out | apply below_alloc | apply pw_below_drewN | apply below_drew1) | exact HB.out)) hb); clear HB; have HB := n0_; clear n0_; (try clear hb); (try clear hb2); (try clear hk); (try clear hi)))
            go_ret
            exact ⟨by first | rfl | (simp [errW_none, errW_some] <;> rfl) | (simp [*, errW_none, errW_some] <;> rfl), by repeat (first | (with_reducible first | exact HB.out | apply below_alloc | apply pw_below_drewN | apply below_drew1) | exact HB.out)⟩
          · rw [if_neg c13] at H
            exact absurd H (by simp)
        · rw [if_neg c12] at H
          exact absurd H (by simp)
      · rw [if_neg c10] at H
        exact absurd H (by simp)

end Go.Proofs.YtogkibhbkapobaaDoor.XA

-- PRINTED by print.py (a twelfth state) out of the translation. Not trusted: Lean checks it.
import Derived.Test.YtjkhdiphcgpbfaaX0
import Derived.Test.YtjkhdiphcgpbfaaX1
import Derived.Test.YtjkhdiphcgpbfaaX2
namespace Go.Proofs.Ytjkhdiphcgpbfaa.X
open Go.Proofs.Ytjkhdiphcgpbfaa.XE
open Go.RowKit Go.Proofs.YtjkhdiphcgpbfaaW.PrintWords Go.Proofs.YtjkhdiphcgpbfaaW.PrintLast Go.Proofs.YtjkhdiphcgpbfaaW.PrintMore
attribute [local go_sem] max2_int min2_int max_two min_two max_three min_three max_four min_four   -- for this text's walks alone
set_option linter.unusedVariables false
set_option linter.unusedSimpArgs false

/-! ### rosterlaw01_TextNormalSteps: function 5 -/
mutual
def rosterlaw01_TextNormalSteps.j0 : Nat → ByteArray → ByteArray → ByteArray → Bool → Option (Bool)
  | 0, _, _, _, _ => none
  | k + 1, x0, x1, x5, x33 => if x33 = true then (some false) else ((text_Fold.f x0).bind fun t160 => ((text_Normal.f k t160).bind fun t161 => (if t161.toList = x5.toList then ((text_Collapse.f k x0).bind fun t162 => ((text_Normal.f k t162).bind fun t163 => (if t163.toList = x5.toList then ((text_Squeeze.f k x0).bind fun t164 => ((text_Normal.f k t164).bind fun t165 => (if t165.toList = x5.toList then ((text_Squeeze.f k x0).bind fun t166 => ((text_Fold.f t166).bind fun t167 => (rosterlaw01_TextNormalSteps.j1 k x0 x1 x5 (t167.toList != x5.toList)))) else (rosterlaw01_TextNormalSteps.j1 k x0 x1 x5 true)))) else (rosterlaw01_TextNormalSteps.j1 k x0 x1 x5 true)))) else (rosterlaw01_TextNormalSteps.j1 k x0 x1 x5 true))))
def rosterlaw01_TextNormalSteps.j1 : Nat → ByteArray → ByteArray → ByteArray → Bool → Option (Bool)
  | 0, _, _, _, _ => none
  | k + 1, x0, x1, x5, x59 => if x59 = true then (some false) else ((text_Normal.f k x1).bind fun t168 => (if x5.size + 1 ≤ 9223372036854775807 then (if (x5 ++ (⟨#[32]⟩ : ByteArray)).size + t168.size ≤ 9223372036854775807 then (if x5.toList = ([] : List UInt8) then (rosterlaw01_TextNormalSteps.j2 k x0 x1 x5 t168 ((x5 ++ (⟨#[32]⟩ : ByteArray)) ++ t168) true) else (rosterlaw01_TextNormalSteps.j2 k x0 x1 x5 t168 ((x5 ++ (⟨#[32]⟩ : ByteArray)) ++ t168) (t168.toList == ([] : List UInt8)))) else (none)) else (none)))
def rosterlaw01_TextNormalSteps.j2 : Nat → ByteArray → ByteArray → ByteArray → ByteArray → ByteArray → Bool → Option (Bool)
  | 0, _, _, _, _, _, _ => none
  | k + 1, x0, x1, x5, x6, x7, x71 => if x71 = true then (if x5.size + x6.size ≤ 9223372036854775807 then (if x0.size + 1 ≤ 9223372036854775807 then (if (x0 ++ (⟨#[9]⟩ : ByteArray)).size + x1.size ≤ 9223372036854775807 then ((text_Normal.f k ((x0 ++ (⟨#[9]⟩ : ByteArray)) ++ x1)).bind fun t169 => (if t169.toList = (x5 ++ x6).toList then (if x0.size + 2 ≤ 9223372036854775807 then (if (x0 ++ (⟨#[32, 32]⟩ : ByteArray)).size + x1.size ≤ 9223372036854775807 then ((text_Normal.f k ((x0 ++ (⟨#[32, 32]⟩ : ByteArray)) ++ x1)).bind fun t170 => (some (t170.toList == (x5 ++ x6).toList))) else (none)) else (none)) else (some false))) else (none)) else (none)) else (none)) else (if x0.size + 1 ≤ 9223372036854775807 then (if (x0 ++ (⟨#[9]⟩ : ByteArray)).size + x1.size ≤ 9223372036854775807 then ((text_Normal.f k ((x0 ++ (⟨#[9]⟩ : ByteArray)) ++ x1)).bind fun t171 => (if t171.toList = x7.toList then (if x0.size + 2 ≤ 9223372036854775807 then (if (x0 ++ (⟨#[32, 32]⟩ : ByteArray)).size + x1.size ≤ 9223372036854775807 then ((text_Normal.f k ((x0 ++ (⟨#[32, 32]⟩ : ByteArray)) ++ x1)).bind fun t172 => (some (t172.toList == x7.toList))) else (none)) else (none)) else (some false))) else (none)) else (none))
end
def rosterlaw01_TextNormalSteps.f (k : Nat) (a0 : ByteArray) (a1 : ByteArray) : Option (Bool) := (text_Normal.f k a0).bind fun t154 => ((text_Normal.f k (⟨#[32, 65, 9, 98, 32]⟩ : ByteArray)).bind fun t155 => (if t155.toList = ([97, 32, 98] : List UInt8) then ((text_Normal.f k t154).bind fun t156 => (if t156.toList = t154.toList then ((text_Fold.f t154).bind fun t157 => (if t157.toList = t154.toList then ((text_Collapse.f k t154).bind fun t158 => (if t158.toList = t154.toList then ((text_Squeeze.f k t154).bind fun t159 => (rosterlaw01_TextNormalSteps.j0 k a0 a1 t154 (t159.toList != t154.toList))) else (rosterlaw01_TextNormalSteps.j0 k a0 a1 t154 true))) else (rosterlaw01_TextNormalSteps.j0 k a0 a1 t154 true))) else (rosterlaw01_TextNormalSteps.j0 k a0 a1 t154 true))) else (some false)))
theorem rosterlaw01_TextNormalSteps.mono_l : ∀ k, (∀ y0 y1 y2 y3, LeO (rosterlaw01_TextNormalSteps.j0 k y0 y1 y2 y3) (rosterlaw01_TextNormalSteps.j0 (k + 1) y0 y1 y2 y3)) ∧ (∀ y0 y1 y2 y3, LeO (rosterlaw01_TextNormalSteps.j1 k y0 y1 y2 y3) (rosterlaw01_TextNormalSteps.j1 (k + 1) y0 y1 y2 y3)) ∧ (∀ y0 y1 y2 y3 y4 y5, LeO (rosterlaw01_TextNormalSteps.j2 k y0 y1 y2 y3 y4 y5) (rosterlaw01_TextNormalSteps.j2 (k + 1) y0 y1 y2 y3 y4 y5))
  | 0 => ⟨fun _ _ _ _ r h => by simp [rosterlaw01_TextNormalSteps.j0] at h, fun _ _ _ _ r h => by simp [rosterlaw01_TextNormalSteps.j1] at h, fun _ _ _ _ _ _ r h => by simp [rosterlaw01_TextNormalSteps.j2] at h⟩
  | k + 1 => by
    obtain ⟨ih0, ih1, ih2⟩ := rosterlaw01_TextNormalSteps.mono_l k
    refine ⟨?_, ?_, ?_⟩
    · intro y0 y1 y2 y3
      unfold rosterlaw01_TextNormalSteps.j0
      repeat' first
      | (with_reducible exact ih0 _ _ _ _)
      | (with_reducible exact ih1 _ _ _ _)
      | (with_reducible exact ih2 _ _ _ _ _ _)
      | (with_reducible exact text_Collapse.mono _ _)
      | (with_reducible exact text_Normal.mono _ _)
      | (with_reducible exact text_Squeeze.mono _ _)
      | (with_reducible exact LeO.refl _)
      | (with_reducible exact LeO.none _)
      | (with_reducible refine LeO.ite ?_ ?_)
      | (with_reducible refine LeO.bind ?_ (fun _ => ?_))
      | exact ih0 _ _ _ _
      | exact ih1 _ _ _ _
      | exact ih2 _ _ _ _ _ _
      | exact text_Collapse.mono _ _
      | exact text_Normal.mono _ _
      | exact text_Squeeze.mono _ _
      | exact LeO.none _
      | refine LeO.ite ?_ ?_
      | refine LeO.bind ?_ (fun _ => ?_)
    · intro y0 y1 y2 y3
      unfold rosterlaw01_TextNormalSteps.j1
      repeat' first
      | (with_reducible exact ih0 _ _ _ _)
      | (with_reducible exact ih1 _ _ _ _)
      | (with_reducible exact ih2 _ _ _ _ _ _)
      | (with_reducible exact text_Collapse.mono _ _)
      | (with_reducible exact text_Normal.mono _ _)
      | (with_reducible exact text_Squeeze.mono _ _)
      | (with_reducible exact LeO.refl _)
      | (with_reducible exact LeO.none _)
      | (with_reducible refine LeO.ite ?_ ?_)
      | (with_reducible refine LeO.bind ?_ (fun _ => ?_))
      | exact ih0 _ _ _ _
      | exact ih1 _ _ _ _
      | exact ih2 _ _ _ _ _ _
      | exact text_Collapse.mono _ _
      | exact text_Normal.mono _ _
      | exact text_Squeeze.mono _ _
      | exact LeO.none _
      | refine LeO.ite ?_ ?_
      | refine LeO.bind ?_ (fun _ => ?_)
    · intro y0 y1 y2 y3 y4 y5
      unfold rosterlaw01_TextNormalSteps.j2
      repeat' first
      | (with_reducible exact ih0 _ _ _ _)
      | (with_reducible exact ih1 _ _ _ _)
      | (with_reducible exact ih2 _ _ _ _ _ _)
      | (with_reducible exact text_Collapse.mono _ _)
      | (with_reducible exact text_Normal.mono _ _)
      | (with_reducible exact text_Squeeze.mono _ _)
      | (with_reducible exact LeO.refl _)
      | (with_reducible exact LeO.none _)
      | (with_reducible refine LeO.ite ?_ ?_)
      | (with_reducible refine LeO.bind ?_ (fun _ => ?_))
      | exact ih0 _ _ _ _
      | exact ih1 _ _ _ _
      | exact ih2 _ _ _ _ _ _
      | exact text_Collapse.mono _ _
      | exact text_Normal.mono _ _
      | exact text_Squeeze.mono _ _
      | exact LeO.none _
      | refine LeO.ite ?_ ?_
      | refine LeO.bind ?_ (fun _ => ?_)
theorem rosterlaw01_TextNormalSteps.mono : ∀ a0 a1 k, LeO (rosterlaw01_TextNormalSteps.f k a0 a1) (rosterlaw01_TextNormalSteps.f (k + 1) a0 a1) := by
  intro a0 a1 k
  obtain ⟨ih0, ih1, ih2⟩ := rosterlaw01_TextNormalSteps.mono_l k
  unfold rosterlaw01_TextNormalSteps.f
  repeat' first
      | (with_reducible exact ih0 _ _ _ _)
      | (with_reducible exact ih1 _ _ _ _)
      | (with_reducible exact ih2 _ _ _ _ _ _)
      | (with_reducible exact text_Collapse.mono _ _)
      | (with_reducible exact text_Normal.mono _ _)
      | (with_reducible exact text_Squeeze.mono _ _)
      | (with_reducible exact LeO.refl _)
      | (with_reducible exact LeO.none _)
      | (with_reducible refine LeO.ite ?_ ?_)
      | (with_reducible refine LeO.bind ?_ (fun _ => ?_))
      | exact ih0 _ _ _ _
      | exact ih1 _ _ _ _
      | exact ih2 _ _ _ _ _ _
      | exact text_Collapse.mono _ _
      | exact text_Normal.mono _ _
      | exact text_Squeeze.mono _ _
      | exact LeO.none _
      | refine LeO.ite ?_ ?_
      | refine LeO.bind ?_ (fun _ => ?_)
set_option maxHeartbeats 8000000 in
set_option maxRecDepth 100000 in
theorem rosterlaw01_TextNormalSteps.calls (k : Nat) (a0 : ByteArray) (a1 : ByteArray) (r : Bool) (w : World) (h : rosterlaw01_TextNormalSteps.f k a0 a1 = some r) :
    Calls Try.prog 5 #[.string a0, .string a1] w fun e w' => e = .returned (.bool r) ∧ Below w.heap.size w w' := by
  have HB := Aside0.mk (Below.refl w.heap.size w)
  have H : ((text_Normal.f k a0).bind fun t154 => ((text_Normal.f k (⟨#[32, 65, 9, 98, 32]⟩ : ByteArray)).bind fun t155 => (if t155.toList = ([97, 32, 98] : List UInt8) then ((text_Normal.f k t154).bind fun t156 => (if t156.toList = t154.toList then ((text_Fold.f t154).bind fun t157 => (if t157.toList = t154.toList then ((text_Collapse.f k t154).bind fun t158 => (if t158.toList = t154.toList then ((text_Squeeze.f k t154).bind fun t159 => (rosterlaw01_TextNormalSteps.j0 k a0 a1 t154 (t159.toList != t154.toList))) else (rosterlaw01_TextNormalSteps.j0 k a0 a1 t154 true))) else (rosterlaw01_TextNormalSteps.j0 k a0 a1 t154 true))) else (rosterlaw01_TextNormalSteps.j0 k a0 a1 t154 true))) else (some false)))) = some r := h
  clear h
  replace H := Option.bind_eq_some_iff.mp H
  obtain ⟨t154, A30, H⟩ := H
  replace H : ((text_Normal.f k (⟨#[32, 65, 9, 98, 32]⟩ : ByteArray)).bind fun t155 => (if t155.toList = ([97, 32, 98] : List UInt8) then ((text_Normal.f k t154).bind fun t156 => (if t156.toList = t154.toList then ((text_Fold.f t154).bind fun t157 => (if t157.toList = t154.toList then ((text_Collapse.f k t154).bind fun t158 => (if t158.toList = t154.toList then ((text_Squeeze.f k t154).bind fun t159 => (rosterlaw01_TextNormalSteps.j0 k a0 a1 t154 (t159.toList != t154.toList))) else (rosterlaw01_TextNormalSteps.j0 k a0 a1 t154 true))) else (rosterlaw01_TextNormalSteps.j0 k a0 a1 t154 true))) else (rosterlaw01_TextNormalSteps.j0 k a0 a1 t154 true))) else (some false))) = some r := H
  have A3 := Aside0.mk A30
  clear A30
  replace H := Option.bind_eq_some_iff.mp H
  obtain ⟨t155, A40, H⟩ := H
  replace H : (if t155.toList = ([97, 32, 98] : List UInt8) then ((text_Normal.f k t154).bind fun t156 => (if t156.toList = t154.toList then ((text_Fold.f t154).bind fun t157 => (if t157.toList = t154.toList then ((text_Collapse.f k t154).bind fun t158 => (if t158.toList = t154.toList then ((text_Squeeze.f k t154).bind fun t159 => (rosterlaw01_TextNormalSteps.j0 k a0 a1 t154 (t159.toList != t154.toList))) else (rosterlaw01_TextNormalSteps.j0 k a0 a1 t154 true))) else (rosterlaw01_TextNormalSteps.j0 k a0 a1 t154 true))) else (rosterlaw01_TextNormalSteps.j0 k a0 a1 t154 true))) else (some false)) = some r := H
  have A4 := Aside0.mk A40
  clear A40
  by_cases c5 : t155.toList = ([97, 32, 98] : List UInt8)
  · rw [if_pos c5] at H
    have c5b0 : (t155.toList == ([97, 32, 98] : List UInt8)) = true := beq_iff_eq.mpr c5
    have c5b1 : (t155.toList != ([97, 32, 98] : List UInt8)) = false := bne_eq_false_iff_eq.mpr c5
    clear c5
    have HC6 := Aside0.mk H
    clear H
    go_enter Try.func5, Try.ntmps5
    go_upto_region 4 with (first | ((with_reducible refine gate_callee (f := 14) rfl ?_); refine goesL_ (some 9) rfl rfl Try.func14 (by kernel_rfl) rfl #[.string a0] rfl (by (try simp only [List.map_toArray, List.map_cons, List.map_nil]); first | done | rfl | (simp only [List.length_drop, List.length_take]; rfl)) ?_; (with_reducible refine (text_Normal.calls k a0 t154 _ A3.out).mono ?_); rintro e w7 ⟨rfl, hb⟩; refine ⟨_, rfl, ?_⟩; have n0_ := Aside0.mk (below_step (by repeat (first | (with_reducible first | exact HB.out | apply below_alloc | apply pw_below_drewN | apply below_drew1) | exact HB.out)) hb); clear HB; have HB := n0_; clear n0_; (try clear hb); (try clear hb2); (try clear hk); (try clear hi)) | ((with_reducible refine gate_callee (f := 14) rfl ?_); refine goesL_ (some 10) rfl rfl Try.func14 (by kernel_rfl) rfl #[.string (⟨#[32, 65, 9, 98, 32]⟩ : ByteArray)] rfl (by (try simp only [List.map_toArray, List.map_cons, List.map_nil]); first | done | rfl | (simp only [List.length_drop, List.length_take]; rfl)) ?_; (with_reducible refine (text_Normal.calls k (⟨#[32, 65, 9, 98, 32]⟩ : ByteArray) t155 _ A4.out).mono ?_); rintro e w8 ⟨rfl, hb⟩; refine ⟨_, rfl, ?_⟩; have n0_ := Aside0.mk (below_step (by repeat (first | (with_reducible first | exact HB.out | apply below_alloc | apply pw_below_drewN | apply below_drew1) | exact HB.out)) hb); clear HB; have HB := n0_; clear n0_; (try clear hb); (try clear hb2); (try clear hk); (try clear hi)))
    (try simp only [Act.put, List.setIfInBounds_toArray, List.set_cons_zero, List.set_cons_succ])
    go_cut [33] (fun v33 wc => ∃ (kq : Nat) (x33_5 : Bool), v33 = .bool x33_5 ∧ Aside0 (rosterlaw01_TextNormalSteps.j0 kq a0 a1 t154 x33_5 = some r) ∧ Aside0 (kq ≤ k) ∧ Aside0 (Below w.heap.size w wc))
    case first =>
      have H := HC6.out
      clear HC6
      replace H := Option.bind_eq_some_iff.mp H
      obtain ⟨t156, A90, H⟩ := H
      replace H : (if t156.toList = t154.toList then ((text_Fold.f t154).bind fun t157 => (if t157.toList = t154.toList then ((text_Collapse.f k t154).bind fun t158 => (if t158.toList = t154.toList then ((text_Squeeze.f k t154).bind fun t159 => (rosterlaw01_TextNormalSteps.j0 k a0 a1 t154 (t159.toList != t154.toList))) else (rosterlaw01_TextNormalSteps.j0 k a0 a1 t154 true))) else (rosterlaw01_TextNormalSteps.j0 k a0 a1 t154 true))) else (rosterlaw01_TextNormalSteps.j0 k a0 a1 t154 true)) = some r := H
      have A9 := Aside0.mk A90
      clear A90
      by_cases c10 : t156.toList = t154.toList
      · rw [if_pos c10] at H
        have c10b0 : (t156.toList == t154.toList) = true := beq_iff_eq.mpr c10
        have c10b1 : (t156.toList != t154.toList) = false := bne_eq_false_iff_eq.mpr c10
        clear c10
        (first | rw [c10b0] | (simp only [i64_w, i32_w]; rw [c10b0]) | skip)
        replace H := Option.bind_eq_some_iff.mp H
        obtain ⟨t157, A110, H⟩ := H
        replace H : (if t157.toList = t154.toList then ((text_Collapse.f k t154).bind fun t158 => (if t158.toList = t154.toList then ((text_Squeeze.f k t154).bind fun t159 => (rosterlaw01_TextNormalSteps.j0 k a0 a1 t154 (t159.toList != t154.toList))) else (rosterlaw01_TextNormalSteps.j0 k a0 a1 t154 true))) else (rosterlaw01_TextNormalSteps.j0 k a0 a1 t154 true)) = some r := H
        have A11 := Aside0.mk A110
        clear A110
        by_cases c12 : t157.toList = t154.toList
        · rw [if_pos c12] at H
          have c12b0 : (t157.toList == t154.toList) = true := beq_iff_eq.mpr c12
          have c12b1 : (t157.toList != t154.toList) = false := bne_eq_false_iff_eq.mpr c12
          clear c12
          replace H := Option.bind_eq_some_iff.mp H
          obtain ⟨t158, A130, H⟩ := H
          replace H : (if t158.toList = t154.toList then ((text_Squeeze.f k t154).bind fun t159 => (rosterlaw01_TextNormalSteps.j0 k a0 a1 t154 (t159.toList != t154.toList))) else (rosterlaw01_TextNormalSteps.j0 k a0 a1 t154 true)) = some r := H
          have A13 := Aside0.mk A130
          clear A130
          by_cases c14 : t158.toList = t154.toList
          · rw [if_pos c14] at H
            have c14b0 : (t158.toList == t154.toList) = true := beq_iff_eq.mpr c14
            have c14b1 : (t158.toList != t154.toList) = false := bne_eq_false_iff_eq.mpr c14
            clear c14
            replace H := Option.bind_eq_some_iff.mp H
            obtain ⟨t159, A150, H⟩ := H
            replace H : (rosterlaw01_TextNormalSteps.j0 k a0 a1 t154 (t159.toList != t154.toList)) = some r := H
            have A15 := Aside0.mk A150
            clear A150
            have H' := Aside0.mk H
            clear H
            go_wp2_with (first | ((with_reducible refine gate_callee (f := 14) rfl ?_); refine goesL_ (some 13) rfl rfl Try.func14 (by kernel_rfl) rfl #[.string t154] rfl (by (try simp only [List.map_toArray, List.map_cons, List.map_nil]); first | done | rfl | (simp only [List.length_drop, List.length_take]; rfl)) ?_; (with_reducible refine (text_Normal.calls k t154 t156 _ A9.out).mono ?_); rintro e w16 ⟨rfl, hb⟩; refine ⟨_, rfl, ?_⟩; have n0_ := Aside0.mk (below_step (by repeat (first | (with_reducible first | exact HB.out | apply below_alloc | apply pw_below_drewN | apply below_drew1) | exact HB.out)) hb); clear HB; have HB := n0_; clear n0_; (try clear hb); (try clear hb2); (try clear hk); (try clear hi)) | (go_at_call 8; (with_reducible refine (text_Fold.calls t154 t157 _ A11.out).mono ?_); rintro e w17 ⟨rfl, hb⟩; have n0_ := Aside0.mk (below_step (by repeat (first | (with_reducible first | exact HB.out | apply below_alloc | apply pw_below_drewN | apply below_drew1) | exact HB.out)) hb); clear HB; have HB := n0_; clear n0_; (try clear hb); (try clear hb2); (try clear hk); (try clear hi)) | (go_at_call 10; (with_reducible refine (text_Collapse.calls k t154 t158 _ A13.out).mono ?_); rintro e w18 ⟨rfl, hb⟩; have n0_ := Aside0.mk (below_step (by repeat (first | (with_reducible first | exact HB.out | apply below_alloc | apply pw_below_drewN | apply below_drew1) | exact HB.out)) hb); clear HB; have HB := n0_; clear n0_; (try clear hb); (try clear hb2); (try clear hk); (try clear hi)) | (go_at_call 12; (with_reducible refine (text_Squeeze.calls k t154 t159 _ A15.out).mono ?_); rintro e w19 ⟨rfl, hb⟩; have n0_ := Aside0.mk (below_step (by repeat (first | (with_reducible first | exact HB.out | apply below_alloc | apply pw_below_drewN | apply below_drew1) | exact HB.out)) hb); clear HB; have HB := n0_; clear n0_; (try clear hb); (try clear hb2); (try clear hk); (try clear hi)))
            go_meet
            case rel => exact ⟨_, ((t159.toList != t154.toList)), (by first | rfl | (simp; done) | (simp [*]; done)), H', ⟨by first | omega | exact Nat.le_refl _⟩, ⟨by repeat (first | (with_reducible first | exact HB.out | apply below_alloc | apply pw_below_drewN | apply below_drew1) | exact HB.out)⟩⟩
          · rw [if_neg c14] at H
            have c14b0 : (t158.toList == t154.toList) = false := beq_eq_false_iff_ne.mpr c14
            have c14b1 : (t158.toList != t154.toList) = true := bne_iff_ne.mpr c14
            have H' := Aside0.mk H
            clear H
            go_wp2_with (first | ((with_reducible refine gate_callee (f := 14) rfl ?_); refine goesL_ (some 13) rfl rfl Try.func14 (by kernel_rfl) rfl #[.string t154] rfl (by (try simp only [List.map_toArray, List.map_cons, List.map_nil]); first | done | rfl | (simp only [List.length_drop, List.length_take]; rfl)) ?_; (with_reducible refine (text_Normal.calls k t154 t156 _ A9.out).mono ?_); rintro e w20 ⟨rfl, hb⟩; refine ⟨_, rfl, ?_⟩; have n0_ := Aside0.mk (below_step (by repeat (first | (with_reducible first | exact HB.out | apply below_alloc | apply pw_below_drewN | apply below_drew1) | exact HB.out)) hb); clear HB; have HB := n0_; clear n0_; (try clear hb); (try clear hb2); (try clear hk); (try clear hi)) | (go_at_call 8; (with_reducible refine (text_Fold.calls t154 t157 _ A11.out).mono ?_); rintro e w21 ⟨rfl, hb⟩; have n0_ := Aside0.mk (below_step (by repeat (first | (with_reducible first | exact HB.out | apply below_alloc | apply pw_below_drewN | apply below_drew1) | exact HB.out)) hb); clear HB; have HB := n0_; clear n0_; (try clear hb); (try clear hb2); (try clear hk); (try clear hi)) | (go_at_call 10; (with_reducible refine (text_Collapse.calls k t154 t158 _ A13.out).mono ?_); rintro e w22 ⟨rfl, hb⟩; have n0_ := Aside0.mk (below_step (by repeat (first | (with_reducible first | exact HB.out | apply below_alloc | apply pw_below_drewN | apply below_drew1) | exact HB.out)) hb); clear HB; have HB := n0_; clear n0_; (try clear hb); (try clear hb2); (try clear hk); (try clear hi)))
            go_meet
            case rel => exact ⟨_, (true), (by first | rfl | (simp; done) | (simp [*]; done)), H', ⟨by first | omega | exact Nat.le_refl _⟩, ⟨by repeat (first | (with_reducible first | exact HB.out | apply below_alloc | apply pw_below_drewN | apply below_drew1) | exact HB.out)⟩⟩
        · rw [if_neg c12] at H
          have c12b0 : (t157.toList == t154.toList) = false := beq_eq_false_iff_ne.mpr c12
          have c12b1 : (t157.toList != t154.toList) = true := bne_iff_ne.mpr c12
          have H' := Aside0.mk H
          clear H
          go_wp2_with (first | ((with_reducible refine gate_callee (f := 14) rfl ?_); refine goesL_ (some 13) rfl rfl Try.func14 (by kernel_rfl) rfl #[.string t154] rfl (by (try simp only [List.map_toArray, List.map_cons, List.map_nil]); first | done | rfl | (simp only [List.length_drop, List.length_take]; rfl)) ?_; (with_reducible refine (text_Normal.calls k t154 t156 _ A9.out).mono ?_); rintro e w23 ⟨rfl, hb⟩; refine ⟨_, rfl, ?_⟩; have n0_ := Aside0.mk (below_step (by repeat (first | (with_reducible first | exact HB.out | apply below_alloc | apply pw_below_drewN | apply below_drew1) | exact HB.out)) hb); clear HB; have HB := n0_; clear n0_; (try clear hb); (try clear hb2); (try clear hk); (try clear hi)) | (go_at_call 8; (with_reducible refine (text_Fold.calls t154 t157 _ A11.out).mono ?_); rintro e w24 ⟨rfl, hb⟩; have n0_ := Aside0.mk (below_step (by repeat (first | (with_reducible first | exact HB.out | apply below_alloc | apply pw_below_drewN | apply below_drew1) | exact HB.out)) hb); clear HB; have HB := n0_; clear n0_; (try clear hb); (try clear hb2); (try clear hk); (try clear hi)))
          go_meet
          case rel => exact ⟨_, (true), (by first | rfl | (simp; done) | (simp [*]; done)), H', ⟨by first | omega | exact Nat.le_refl _⟩, ⟨by repeat (first | (with_reducible first | exact HB.out | apply below_alloc | apply pw_below_drewN | apply below_drew1) | exact HB.out)⟩⟩
      · rw [if_neg c10] at H
        have c10b0 : (t156.toList == t154.toList) = false := beq_eq_false_iff_ne.mpr c10
        have c10b1 : (t156.toList != t154.toList) = true := bne_iff_ne.mpr c10
        (first | rw [c10b0] | (simp only [i64_w, i32_w]; rw [c10b0]) | skip)
        have H' := Aside0.mk H
        clear H
        go_wp2_with (first | ((with_reducible refine gate_callee (f := 14) rfl ?_); refine goesL_ (some 13) rfl rfl Try.func14 (by kernel_rfl) rfl #[.string t154] rfl (by (try simp only [List.map_toArray, List.map_cons, List.map_nil]); first | done | rfl | (simp only [List.length_drop, List.length_take]; rfl)) ?_; (with_reducible refine (text_Normal.calls k t154 t156 _ A9.out).mono ?_); rintro e w25 ⟨rfl, hb⟩; refine ⟨_, rfl, ?_⟩; have n0_ := Aside0.mk (below_step (by repeat (first | (with_reducible first | exact HB.out | apply below_alloc | apply pw_below_drewN | apply below_drew1) | exact HB.out)) hb); clear HB; have HB := n0_; clear n0_; (try clear hb); (try clear hb2); (try clear hk); (try clear hi)))
        go_meet
        case rel => exact ⟨_, (true), (by first | rfl | (simp; done) | (simp [*]; done)), H', ⟨by first | omega | exact Nat.le_refl _⟩, ⟨by repeat (first | (with_reducible first | exact HB.out | apply below_alloc | apply pw_below_drewN | apply below_drew1) | exact HB.out)⟩⟩
    case rest =>
      clear HC6
      try clear c1
      try clear p2
      try clear c5
      try clear c5b0
      try clear c5b1
      try clear c10
      try clear c10b0
      try clear c10b1
      try clear c12
      try clear c12b0
      try clear c12b1
      try clear c14
      try clear c14b0
      try clear c14b1
      obtain ⟨kq, x33_5, rfl, HA, HJ5, HB⟩ := hcut
      cases kq with
      | zero => exact absurd HA.out (by simp [rosterlaw01_TextNormalSteps.j0])
      | succ kj5 =>
        have H := HA.out
        clear HA
        simp only [rosterlaw01_TextNormalSteps.j0] at H
        by_cases c26 : x33_5 = true
        · subst c26
          have H1 : (some false) = some r := by rw [if_pos rfl] at H; exact H
          clear H
          have H := H1
          clear H1
          obtain rfl := Option.some.inj H
          go_wp2
          go_ret
          exact ⟨by first | rfl | (simp [errW_none, errW_some] <;> rfl) | (simp [*, errW_none, errW_some] <;> rfl), by repeat (first | (with_reducible first | exact HB.out | apply below_alloc | apply pw_below_drewN | apply below_drew1) | exact HB.out)⟩
        · replace c26 := Bool.eq_false_iff.mpr c26
          subst c26
          have H1 : ((text_Fold.f a0).bind fun t160 => ((text_Normal.f kj5 t160).bind fun t161 => (if t161.toList = t154.toList then ((text_Collapse.f kj5 a0).bind fun t162 => ((text_Normal.f kj5 t162).bind fun t163 => (if t163.toList = t154.toList then ((text_Squeeze.f kj5 a0).bind fun t164 => ((text_Normal.f kj5 t164).bind fun t165 => (if t165.toList = t154.toList then ((text_Squeeze.f kj5 a0).bind fun t166 => ((text_Fold.f t166).bind fun t167 => (rosterlaw01_TextNormalSteps.j1 kj5 a0 a1 t154 (t167.toList != t154.toList)))) else (rosterlaw01_TextNormalSteps.j1 kj5 a0 a1 t154 true)))) else (rosterlaw01_TextNormalSteps.j1 kj5 a0 a1 t154 true)))) else (rosterlaw01_TextNormalSteps.j1 kj5 a0 a1 t154 true)))) = some r := by rw [if_neg (show ¬ (false = true) by decide)] at H; exact H
          clear H
          have H := H1
          clear H1
          have HC27 := Aside0.mk H
          clear H
          go_upto_region 6 with (fail)
          go_cut [59] (fun v59 wc => ∃ (kq : Nat) (x59_26 : Bool), v59 = .bool x59_26 ∧ Aside0 (rosterlaw01_TextNormalSteps.j1 kq a0 a1 t154 x59_26 = some r) ∧ Aside0 (kq ≤ kj5) ∧ Aside0 (Below w.heap.size w wc))
          case first =>
            have H := HC27.out
            clear HC27
            replace H := Option.bind_eq_some_iff.mp H
            obtain ⟨t160, A280, H⟩ := H
            replace H : ((text_Normal.f kj5 t160).bind fun t161 => (if t161.toList = t154.toList then ((text_Collapse.f kj5 a0).bind fun t162 => ((text_Normal.f kj5 t162).bind fun t163 => (if t163.toList = t154.toList then ((text_Squeeze.f kj5 a0).bind fun t164 => ((text_Normal.f kj5 t164).bind fun t165 => (if t165.toList = t154.toList then ((text_Squeeze.f kj5 a0).bind fun t166 => ((text_Fold.f t166).bind fun t167 => (rosterlaw01_TextNormalSteps.j1 kj5 a0 a1 t154 (t167.toList != t154.toList)))) else (rosterlaw01_TextNormalSteps.j1 kj5 a0 a1 t154 true)))) else (rosterlaw01_TextNormalSteps.j1 kj5 a0 a1 t154 true)))) else (rosterlaw01_TextNormalSteps.j1 kj5 a0 a1 t154 true))) = some r := H
            have A28 := Aside0.mk A280
            clear A280
            replace H := Option.bind_eq_some_iff.mp H
            obtain ⟨t161, A290, H⟩ := H
            replace H : (if t161.toList = t154.toList then ((text_Collapse.f kj5 a0).bind fun t162 => ((text_Normal.f kj5 t162).bind fun t163 => (if t163.toList = t154.toList then ((text_Squeeze.f kj5 a0).bind fun t164 => ((text_Normal.f kj5 t164).bind fun t165 => (if t165.toList = t154.toList then ((text_Squeeze.f kj5 a0).bind fun t166 => ((text_Fold.f t166).bind fun t167 => (rosterlaw01_TextNormalSteps.j1 kj5 a0 a1 t154 (t167.toList != t154.toList)))) else (rosterlaw01_TextNormalSteps.j1 kj5 a0 a1 t154 true)))) else (rosterlaw01_TextNormalSteps.j1 kj5 a0 a1 t154 true)))) else (rosterlaw01_TextNormalSteps.j1 kj5 a0 a1 t154 true)) = some r := H
            have A29 := Aside0.mk A290
            clear A290
            by_cases c30 : t161.toList = t154.toList
            · rw [if_pos c30] at H
              have c30b0 : (t161.toList == t154.toList) = true := beq_iff_eq.mpr c30
              have c30b1 : (t161.toList != t154.toList) = false := bne_eq_false_iff_eq.mpr c30
              clear c30
              (first | rw [c30b0] | (simp only [i64_w, i32_w]; rw [c30b0]) | skip)
              replace H := Option.bind_eq_some_iff.mp H
              obtain ⟨t162, A310, H⟩ := H
              replace H : ((text_Normal.f kj5 t162).bind fun t163 => (if t163.toList = t154.toList then ((text_Squeeze.f kj5 a0).bind fun t164 => ((text_Normal.f kj5 t164).bind fun t165 => (if t165.toList = t154.toList then ((text_Squeeze.f kj5 a0).bind fun t166 => ((text_Fold.f t166).bind fun t167 => (rosterlaw01_TextNormalSteps.j1 kj5 a0 a1 t154 (t167.toList != t154.toList)))) else (rosterlaw01_TextNormalSteps.j1 kj5 a0 a1 t154 true)))) else (rosterlaw01_TextNormalSteps.j1 kj5 a0 a1 t154 true))) = some r := H
              have A31 := Aside0.mk A310
              clear A310
              replace H := Option.bind_eq_some_iff.mp H
              obtain ⟨t163, A320, H⟩ := H
              replace H : (if t163.toList = t154.toList then ((text_Squeeze.f kj5 a0).bind fun t164 => ((text_Normal.f kj5 t164).bind fun t165 => (if t165.toList = t154.toList then ((text_Squeeze.f kj5 a0).bind fun t166 => ((text_Fold.f t166).bind fun t167 => (rosterlaw01_TextNormalSteps.j1 kj5 a0 a1 t154 (t167.toList != t154.toList)))) else (rosterlaw01_TextNormalSteps.j1 kj5 a0 a1 t154 true)))) else (rosterlaw01_TextNormalSteps.j1 kj5 a0 a1 t154 true)) = some r := H
              have A32 := Aside0.mk A320
              clear A320
              by_cases c33 : t163.toList = t154.toList
              · rw [if_pos c33] at H
                have c33b0 : (t163.toList == t154.toList) = true := beq_iff_eq.mpr c33
                have c33b1 : (t163.toList != t154.toList) = false := bne_eq_false_iff_eq.mpr c33
                clear c33
                replace H := Option.bind_eq_some_iff.mp H
                obtain ⟨t164, A340, H⟩ := H
                replace H : ((text_Normal.f kj5 t164).bind fun t165 => (if t165.toList = t154.toList then ((text_Squeeze.f kj5 a0).bind fun t166 => ((text_Fold.f t166).bind fun t167 => (rosterlaw01_TextNormalSteps.j1 kj5 a0 a1 t154 (t167.toList != t154.toList)))) else (rosterlaw01_TextNormalSteps.j1 kj5 a0 a1 t154 true))) = some r := H
                have A34 := Aside0.mk A340
                clear A340
                replace H := Option.bind_eq_some_iff.mp H
                obtain ⟨t165, A350, H⟩ := H
                replace H : (if t165.toList = t154.toList then ((text_Squeeze.f kj5 a0).bind fun t166 => ((text_Fold.f t166).bind fun t167 => (rosterlaw01_TextNormalSteps.j1 kj5 a0 a1 t154 (t167.toList != t154.toList)))) else (rosterlaw01_TextNormalSteps.j1 kj5 a0 a1 t154 true)) = some r := H
                have A35 := Aside0.mk A350
                clear A350
                by_cases c36 : t165.toList = t154.toList
                · rw [if_pos c36] at H
                  have c36b0 : (t165.toList == t154.toList) = true := beq_iff_eq.mpr c36
                  have c36b1 : (t165.toList != t154.toList) = false := bne_eq_false_iff_eq.mpr c36
                  clear c36
                  replace H := Option.bind_eq_some_iff.mp H
                  obtain ⟨t166, A370, H⟩ := H
                  obtain rfl : t164 = t166 := Option.some.inj (A34.out.symm.trans A370)
                  replace H : ((text_Fold.f t164).bind fun t167 => (rosterlaw01_TextNormalSteps.j1 kj5 a0 a1 t154 (t167.toList != t154.toList))) = some r := H
                  have A37 := Aside0.mk A370
                  clear A370
                  replace H := Option.bind_eq_some_iff.mp H
                  obtain ⟨t167, A380, H⟩ := H
                  replace H : (rosterlaw01_TextNormalSteps.j1 kj5 a0 a1 t154 (t167.toList != t154.toList)) = some r := H
                  have A38 := Aside0.mk A380
                  clear A380
                  have H' := Aside0.mk H
                  clear H
                  go_wp2_with (first | ((with_reducible refine gate_callee (f := 8) rfl ?_); refine goesL_ (some 35) rfl rfl Try.func8 (by kernel_rfl) rfl #[.string a0] rfl (by (try simp only [List.map_toArray, List.map_cons, List.map_nil]); first | done | rfl | (simp only [List.length_drop, List.length_take]; rfl)) ?_; (with_reducible refine (text_Fold.calls a0 t160 _ A28.out).mono ?_); rintro e w39 ⟨rfl, hb⟩; refine ⟨_, rfl, ?_⟩; have n0_ := Aside0.mk (below_step (by repeat (first | (with_reducible first | exact HB.out | apply below_alloc | apply pw_below_drewN | apply below_drew1) | exact HB.out)) hb); clear HB; have HB := n0_; clear n0_; (try clear hb); (try clear hb2); (try clear hk); (try clear hi)) | ((with_reducible refine gate_callee (f := 14) rfl ?_); refine goesL_ (some 36) rfl rfl Try.func14 (by kernel_rfl) rfl #[.string t160] rfl (by (try simp only [List.map_toArray, List.map_cons, List.map_nil]); first | done | rfl | (simp only [List.length_drop, List.length_take]; rfl)) ?_; (with_reducible refine (text_Normal.calls kj5 t160 t161 _ A29.out).mono ?_); rintro e w40 ⟨rfl, hb⟩; refine ⟨_, rfl, ?_⟩; have n0_ := Aside0.mk (below_step (by repeat (first | (with_reducible first | exact HB.out | apply below_alloc | apply pw_below_drewN | apply below_drew1) | exact HB.out)) hb); clear HB; have HB := n0_; clear n0_; (try clear hb); (try clear hb2); (try clear hk); (try clear hi)) | (go_at_call 10; (with_reducible refine (text_Collapse.calls kj5 a0 t162 _ A31.out).mono ?_); rintro e w41 ⟨rfl, hb⟩; have n0_ := Aside0.mk (below_step (by repeat (first | (with_reducible first | exact HB.out | apply below_alloc | apply pw_below_drewN | apply below_drew1) | exact HB.out)) hb); clear HB; have HB := n0_; clear n0_; (try clear hb); (try clear hb2); (try clear hk); (try clear hi)) | (go_at_call 14; (with_reducible refine (text_Normal.calls kj5 t162 t163 _ A32.out).mono ?_); rintro e w42 ⟨rfl, hb⟩; have n0_ := Aside0.mk (below_step (by repeat (first | (with_reducible first | exact HB.out | apply below_alloc | apply pw_below_drewN | apply below_drew1) | exact HB.out)) hb); clear HB; have HB := n0_; clear n0_; (try clear hb); (try clear hb2); (try clear hk); (try clear hi)) | (go_at_call 12; (with_reducible refine (text_Squeeze.calls kj5 a0 t164 _ A34.out).mono ?_); rintro e w43 ⟨rfl, hb⟩; have n0_ := Aside0.mk (below_step (by repeat (first | (with_reducible first | exact HB.out | apply below_alloc | apply pw_below_drewN | apply below_drew1) | exact HB.out)) hb); clear HB; have HB := n0_; clear n0_; (try clear hb); (try clear hb2); (try clear hk); (try clear hi)) | (go_at_call 14; (with_reducible refine (text_Normal.calls kj5 t164 t165 _ A35.out).mono ?_); rintro e w44 ⟨rfl, hb⟩; have n0_ := Aside0.mk (below_step (by repeat (first | (with_reducible first | exact HB.out | apply below_alloc | apply pw_below_drewN | apply below_drew1) | exact HB.out)) hb); clear HB; have HB := n0_; clear n0_; (try clear hb); (try clear hb2); (try clear hk); (try clear hi)) | (go_at_call 12; (with_reducible refine (text_Squeeze.calls kj5 a0 t164 _ A37.out).mono ?_); rintro e w45 ⟨rfl, hb⟩; have n0_ := Aside0.mk (below_step (by repeat (first | (with_reducible first | exact HB.out | apply below_alloc | apply pw_below_drewN | apply below_drew1) | exact HB.out)) hb); clear HB; have HB := n0_; clear n0_; (try clear hb); (try clear hb2); (try clear hk); (try clear hi)) | (go_at_call 8; (with_reducible refine (text_Fold.calls t164 t167 _ A38.out).mono ?_); rintro e w46 ⟨rfl, hb⟩; have n0_ := Aside0.mk (below_step (by repeat (first | (with_reducible first | exact HB.out | apply below_alloc | apply pw_below_drewN | apply below_drew1) | exact HB.out)) hb); clear HB; have HB := n0_; clear n0_; (try clear hb); (try clear hb2); (try clear hk); (try clear hi)))
                  go_meet
                  case rel => exact ⟨_, ((t167.toList != t154.toList)), (by first | rfl | (simp; done) | (simp [*]; done)), H', ⟨by have := HJ5.out; first | omega | exact Nat.le_refl _⟩, ⟨by repeat (first | (with_reducible first | exact HB.out | apply below_alloc | apply pw_below_drewN | apply below_drew1) | exact HB.out)⟩⟩
                · rw [if_neg c36] at H
                  have c36b0 : (t165.toList == t154.toList) = false := beq_eq_false_iff_ne.mpr c36
                  have c36b1 : (t165.toList != t154.toList) = true := bne_iff_ne.mpr c36
                  have H' := Aside0.mk H
                  clear H
                  go_wp2_with (first | ((with_reducible refine gate_callee (f := 8) rfl ?_); refine goesL_ (some 35) rfl rfl Try.func8 (by kernel_rfl) rfl #[.string a0] rfl (by (try simp only [List.map_toArray, List.map_cons, List.map_nil]); first | done | rfl | (simp only [List.length_drop, List.length_take]; rfl)) ?_; (with_reducible refine (text_Fold.calls a0 t160 _ A28.out).mono ?_); rintro e w47 ⟨rfl, hb⟩; refine ⟨_, rfl, ?_⟩; have n0_ := Aside0.mk (below_step (by repeat (first | (with_reducible first | exact HB.out | apply below_alloc | apply pw_below_drewN | apply below_drew1) | exact HB.out)) hb); clear HB; have HB := n0_; clear n0_; (try clear hb); (try clear hb2); (try clear hk); (try clear hi)) | ((with_reducible refine gate_callee (f := 14) rfl ?_); refine goesL_ (some 36) rfl rfl Try.func14 (by kernel_rfl) rfl #[.string t160] rfl (by (try simp only [List.map_toArray, List.map_cons, List.map_nil]); first | done | rfl | (simp only [List.length_drop, List.length_take]; rfl)) ?_; (with_reducible refine (text_Normal.calls kj5 t160 t161 _ A29.out).mono ?_); rintro e w48 ⟨rfl, hb⟩; refine ⟨_, rfl, ?_⟩; have n0_ := Aside0.mk (below_step (by repeat (first | (with_reducible first | exact HB.out | apply below_alloc | apply pw_below_drewN | apply below_drew1) | exact HB.out)) hb); clear HB; have HB := n0_; clear n0_; (try clear hb); (try clear hb2); (try clear hk); (try clear hi)) | (go_at_call 10; (with_reducible refine (text_Collapse.calls kj5 a0 t162 _ A31.out).mono ?_); rintro e w49 ⟨rfl, hb⟩; have n0_ := Aside0.mk (below_step (by repeat (first | (with_reducible first | exact HB.out | apply below_alloc | apply pw_below_drewN | apply below_drew1) | exact HB.out)) hb); clear HB; have HB := n0_; clear n0_; (try clear hb); (try clear hb2); (try clear hk); (try clear hi)) | (go_at_call 14; (with_reducible refine (text_Normal.calls kj5 t162 t163 _ A32.out).mono ?_); rintro e w50 ⟨rfl, hb⟩; have n0_ := Aside0.mk (below_step (by repeat (first | (with_reducible first | exact HB.out | apply below_alloc | apply pw_below_drewN | apply below_drew1) | exact HB.out)) hb); clear HB; have HB := n0_; clear n0_; (try clear hb); (try clear hb2); (try clear hk); (try clear hi)) | (go_at_call 12; (with_reducible refine (text_Squeeze.calls kj5 a0 t164 _ A34.out).mono ?_); rintro e w51 ⟨rfl, hb⟩; have n0_ := Aside0.mk (below_step (by repeat (first | (with_reducible first | exact HB.out | apply below_alloc | apply pw_below_drewN | apply below_drew1) | exact HB.out)) hb); clear HB; have HB := n0_; clear n0_; (try clear hb); (try clear hb2); (try clear hk); (try clear hi)) | (go_at_call 14; (with_reducible refine (text_Normal.calls kj5 t164 t165 _ A35.out).mono ?_); rintro e w52 ⟨rfl, hb⟩; have n0_ := Aside0.mk (below_step (by repeat (first | (with_reducible first | exact HB.out | apply below_alloc | apply pw_below_drewN | apply below_drew1) | exact HB.out)) hb); clear HB; have HB := n0_; clear n0_; (try clear hb); (try clear hb2); (try clear hk); (try clear hi)))
                  go_meet
                  case rel => exact ⟨_, (true), (by first | rfl | (simp; done) | (simp [*]; done)), H', ⟨by have := HJ5.out; first | omega | exact Nat.le_refl _⟩, ⟨by repeat (first | (with_reducible first | exact HB.out | apply below_alloc | apply pw_below_drewN | apply below_drew1) | exact HB.out)⟩⟩
              · rw [if_neg c33] at H
                have c33b0 : (t163.toList == t154.toList) = false := beq_eq_false_iff_ne.mpr c33
                have c33b1 : (t163.toList != t154.toList) = true := bne_iff_ne.mpr c33
                have H' := Aside0.mk H
                clear H
                go_wp2_with (first | ((with_reducible refine gate_callee (f := 8) rfl ?_); refine goesL_ (some 35) rfl rfl Try.func8 (by kernel_rfl) rfl #[.string a0] rfl (by (try simp only [List.map_toArray, List.map_cons, List.map_nil]); first | done | rfl | (simp only [List.length_drop, List.length_take]; rfl)) ?_; (with_reducible refine (text_Fold.calls a0 t160 _ A28.out).mono ?_); rintro e w53 ⟨rfl, hb⟩; refine ⟨_, rfl, ?_⟩; have n0_ := Aside0.mk (below_step (by repeat (first | (with_reducible first | exact HB.out | apply below_alloc | apply pw_below_drewN | apply below_drew1) | exact HB.out)) hb); clear HB; have HB := n0_; clear n0_; (try clear hb); (try clear hb2); (try clear hk); (try clear hi)) | ((with_reducible refine gate_callee (f := 14) rfl ?_); refine goesL_ (some 36) rfl rfl Try.func14 (by kernel_rfl) rfl #[.string t160] rfl (by (try simp only [List.map_toArray, List.map_cons, List.map_nil]); first | done | rfl | (simp only [List.length_drop, List.length_take]; rfl)) ?_; (with_reducible refine (text_Normal.calls kj5 t160 t161 _ A29.out).mono ?_); rintro e w54 ⟨rfl, hb⟩; refine ⟨_, rfl, ?_⟩; have n0_ := Aside0.mk (below_step (by repeat (first | (with_reducible first | exact HB.out | apply below_alloc | apply pw_below_drewN | apply below_drew1) | exact HB.out)) hb); clear HB; have HB := n0_; clear n0_; (try clear hb); (try clear hb2); (try clear hk); (try clear hi)) | (go_at_call 10; (with_reducible refine (text_Collapse.calls kj5 a0 t162 _ A31.out).mono ?_); rintro e w55 ⟨rfl, hb⟩; have n0_ := Aside0.mk (below_step (by repeat (first | (with_reducible first | exact HB.out | apply below_alloc | apply pw_below_drewN | apply below_drew1) | exact HB.out)) hb); clear HB; have HB := n0_; clear n0_; (try clear hb); (try clear hb2); (try clear hk); (try clear hi)) | (go_at_call 14; (with_reducible refine (text_Normal.calls kj5 t162 t163 _ A32.out).mono ?_); rintro e w56 ⟨rfl, hb⟩; have n0_ := Aside0.mk (below_step (by repeat (first | (with_reducible first | exact HB.out | apply below_alloc | apply pw_below_drewN | apply below_drew1) | exact HB.out)) hb); clear HB; have HB := n0_; clear n0_; (try clear hb); (try clear hb2); (try clear hk); (try clear hi)))
                go_meet
                case rel => exact ⟨_, (true), (by first | rfl | (simp; done) | (simp [*]; done)), H', ⟨by have := HJ5.out; first | omega | exact Nat.le_refl _⟩, ⟨by repeat (first | (with_reducible first | exact HB.out | apply below_alloc | apply pw_below_drewN | apply below_drew1) | exact HB.out)⟩⟩
            · rw [if_neg c30] at H
              have c30b0 : (t161.toList == t154.toList) = false := beq_eq_false_iff_ne.mpr c30
              have c30b1 : (t161.toList != t154.toList) = true := bne_iff_ne.mpr c30
              (first | rw [c30b0] | (simp only [i64_w, i32_w]; rw [c30b0]) | skip)
              have H' := Aside0.mk H
              clear H
              go_wp2_with (first | ((with_reducible refine gate_callee (f := 8) rfl ?_); refine goesL_ (some 35) rfl rfl Try.func8 (by kernel_rfl) rfl #[.string a0] rfl (by (try simp only [List.map_toArray, List.map_cons, List.map_nil]); first | done | rfl | (simp only [List.length_drop, List.length_take]; rfl)) ?_; (with_reducible refine (text_Fold.calls a0 t160 _ A28.out).mono ?_); rintro e w57 ⟨rfl, hb⟩; refine ⟨_, rfl, ?_⟩; have n0_ := Aside0.mk (below_step (by repeat (first | (with_reducible first | exact HB.out | apply below_alloc | apply pw_below_drewN | apply below_drew1) | exact HB.out)) hb); clear HB; have HB := n0_; clear n0_; (try clear hb); (try clear hb2); (try clear hk); (try clear hi)) | ((with_reducible refine gate_callee (f := 14) rfl ?_); refine goesL_ (some 36) rfl rfl Try.func14 (by kernel_rfl) rfl #[.string t160] rfl (by (try simp only [List.map_toArray, List.map_cons, List.map_nil]); first | done | rfl | (simp only [List.length_drop, List.length_take]; rfl)) ?_; (with_reducible refine (text_Normal.calls kj5 t160 t161 _ A29.out).mono ?_); rintro e w58 ⟨rfl, hb⟩; refine ⟨_, rfl, ?_⟩; have n0_ := Aside0.mk (below_step (by repeat (first | (with_reducible first | exact HB.out | apply below_alloc | apply pw_below_drewN | apply below_drew1) | exact HB.out)) hb); clear HB; have HB := n0_; clear n0_; (try clear hb); (try clear hb2); (try clear hk); (try clear hi)))
              go_meet
              case rel => exact ⟨_, (true), (by first | rfl | (simp; done) | (simp [*]; done)), H', ⟨by have := HJ5.out; first | omega | exact Nat.le_refl _⟩, ⟨by repeat (first | (with_reducible first | exact HB.out | apply below_alloc | apply pw_below_drewN | apply below_drew1) | exact HB.out)⟩⟩
          case rest =>
            clear HC27
            try clear c1
            try clear c2
            try clear p2
            try clear c3
            try clear c5
            try clear c5b0
            try clear c5b1
            try clear c8
            try clear c10
            try clear c10b0
            try clear c10b1
            try clear c12
            try clear c12b0
            try clear c12b1
            try clear c14
            try clear c14b0
            try clear c14b1
            try clear c26
            try clear c30
            try clear c30b0
            try clear c30b1
            try clear c33
            try clear c33b0
            try clear c33b1
            try clear c36
            try clear c36b0
            try clear c36b1
            try clear p2
            obtain ⟨kq, x59_26, rfl, HA, HJ26, HB⟩ := hcut
            cases kq with
            | zero => exact absurd HA.out (by simp [rosterlaw01_TextNormalSteps.j1])
            | succ kj26 =>
              have H := HA.out
              clear HA
              simp only [rosterlaw01_TextNormalSteps.j1] at H
              by_cases c59 : x59_26 = true
              · subst c59
                have H1 : (some false) = some r := by rw [if_pos rfl] at H; exact H
                clear H
                have H := H1
                clear H1
                obtain rfl := Option.some.inj H
                go_wp2
                go_ret
                exact ⟨by first | rfl | (simp [errW_none, errW_some] <;> rfl) | (simp [*, errW_none, errW_some] <;> rfl), by repeat (first | (with_reducible first | exact HB.out | apply below_alloc | apply pw_below_drewN | apply below_drew1) | exact HB.out)⟩
              · replace c59 := Bool.eq_false_iff.mpr c59
                subst c59
                have H1 : ((text_Normal.f kj26 a1).bind fun t168 => (if t154.size + 1 ≤ 9223372036854775807 then (if (t154 ++ (⟨#[32]⟩ : ByteArray)).size + t168.size ≤ 9223372036854775807 then (if t154.toList = ([] : List UInt8) then (rosterlaw01_TextNormalSteps.j2 kj26 a0 a1 t154 t168 ((t154 ++ (⟨#[32]⟩ : ByteArray)) ++ t168) true) else (rosterlaw01_TextNormalSteps.j2 kj26 a0 a1 t154 t168 ((t154 ++ (⟨#[32]⟩ : ByteArray)) ++ t168) (t168.toList == ([] : List UInt8)))) else (none)) else (none))) = some r := by rw [if_neg (show ¬ (false = true) by decide)] at H; exact H
                clear H
                have H := H1
                clear H1
                replace H := Option.bind_eq_some_iff.mp H
                obtain ⟨t168, A600, H⟩ := H
                replace H : (if t154.size + 1 ≤ 9223372036854775807 then (if (t154 ++ (⟨#[32]⟩ : ByteArray)).size + t168.size ≤ 9223372036854775807 then (if t154.toList = ([] : List UInt8) then (rosterlaw01_TextNormalSteps.j2 kj26 a0 a1 t154 t168 ((t154 ++ (⟨#[32]⟩ : ByteArray)) ++ t168) true) else (rosterlaw01_TextNormalSteps.j2 kj26 a0 a1 t154 t168 ((t154 ++ (⟨#[32]⟩ : ByteArray)) ++ t168) (t168.toList == ([] : List UInt8)))) else (none)) else (none)) = some r := H
                have A60 := Aside0.mk A600
                clear A600
                by_cases c61 : t154.size + 1 ≤ 9223372036854775807
                · rw [if_pos c61] at H
                  have c61b0 := eq_true c61
                  have c61b1 : decide (t154.size + 1 ≤ 9223372036854775807) = true := decide_eq_true c61
                  try have c61b2 : (9223372036854775807 < t154.size + 1) = False := eq_false (Nat.not_lt.2 c61)
                  by_cases c62 : (t154 ++ (⟨#[32]⟩ : ByteArray)).size + t168.size ≤ 9223372036854775807
                  · rw [if_pos c62] at H
                    have c62b0 := eq_true c62
                    have c62b1 : decide ((t154 ++ (⟨#[32]⟩ : ByteArray)).size + t168.size ≤ 9223372036854775807) = true := decide_eq_true c62
                    try have c62b2 : (9223372036854775807 < (t154 ++ (⟨#[32]⟩ : ByteArray)).size + t168.size) = False := eq_false (Nat.not_lt.2 c62)
                    have HC63 := Aside0.mk H
                    clear H
                    go_upto_region 10 with (first | ((with_reducible refine gate_callee (f := 14) rfl ?_); refine goesL_ (some 61) rfl rfl Try.func14 (by kernel_rfl) rfl #[.string a1] rfl (by (try simp only [List.map_toArray, List.map_cons, List.map_nil]); first | done | rfl | (simp only [List.length_drop, List.length_take]; rfl)) ?_; (with_reducible refine (text_Normal.calls kj26 a1 t168 _ A60.out).mono ?_); rintro e w64 ⟨rfl, hb⟩; refine ⟨_, rfl, ?_⟩; have n0_ := Aside0.mk (below_step (by repeat (first | (with_reducible first | exact HB.out | apply below_alloc | apply pw_below_drewN | apply below_drew1) | exact HB.out)) hb); clear HB; have HB := n0_; clear n0_; (try clear hb); (try clear hb2); (try clear hk); (try clear hi)))
                    (try simp only [Act.put, List.setIfInBounds_toArray, List.set_cons_zero, List.set_cons_succ])
                    go_cut [71] (fun v71 wc => ∃ (kq : Nat) (x71_62 : Bool), v71 = .bool x71_62 ∧ Aside0 (rosterlaw01_TextNormalSteps.j2 kq a0 a1 t154 t168 ((t154 ++ (⟨#[32]⟩ : ByteArray)) ++ t168) x71_62 = some r) ∧ Aside0 (kq ≤ kj26) ∧ Aside0 (Below w.heap.size w wc))
                    case first =>
                      have H := HC63.out
                      clear HC63
                      by_cases c65 : t154.toList = ([] : List UInt8)
                      · rw [if_pos c65] at H
                        have c65b0 : (t154.toList == ([] : List UInt8)) = true := beq_iff_eq.mpr c65
                        have c65b1 : (t154.toList != ([] : List UInt8)) = false := bne_eq_false_iff_eq.mpr c65
                        clear c65
                        (first | rw [c65b0] | (simp only [i64_w, i32_w]; rw [c65b0]) | skip)
                        have H' := Aside0.mk H
                        clear H
                        go_wp2
                        go_meet
                        case rel => exact ⟨_, (true), (by first | rfl | (simp; done) | (simp [*]; done)), H', ⟨by have := HJ5.out; have := HJ26.out; first | omega | exact Nat.le_refl _⟩, ⟨by repeat (first | (with_reducible first | exact HB.out | apply below_alloc | apply pw_below_drewN | apply below_drew1) | exact HB.out)⟩⟩
                      · rw [if_neg c65] at H
                        have c65b0 : (t154.toList == ([] : List UInt8)) = false := beq_eq_false_iff_ne.mpr c65
                        have c65b1 : (t154.toList != ([] : List UInt8)) = true := bne_iff_ne.mpr c65
                        (first | rw [c65b0] | (simp only [i64_w, i32_w]; rw [c65b0]) | skip)
                        have H' := Aside0.mk H
                        clear H
                        go_wp2
                        go_meet
                        case rel => exact ⟨_, ((t168.toList == ([] : List UInt8))), (by first | rfl | (simp; done) | (simp [*]; done)), H', ⟨by have := HJ5.out; have := HJ26.out; first | omega | exact Nat.le_refl _⟩, ⟨by repeat (first | (with_reducible first | exact HB.out | apply below_alloc | apply pw_below_drewN | apply below_drew1) | exact HB.out)⟩⟩
                    case rest =>
                      clear HC63
                      try clear c1
                      try clear c2
                      try clear p2
                      try clear c3
                      try clear c5
                      try clear c5b0
                      try clear c5b1
                      try clear c6
                      try clear c8
                      try clear c10
                      try clear c10b0
                      try clear c10b1
                      try clear c12
                      try clear c12b0
                      try clear c12b1
                      try clear c14
                      try clear c14b0
                      try clear c14b1
                      try clear c26
                      try clear c30
                      try clear c30b0
                      try clear c30b1
                      try clear c33
                      try clear c33b0
                      try clear c33b1
                      try clear c36
                      try clear c36b0
                      try clear c36b1
                      try clear c59
                      try clear c61
                      try clear c61b0
                      try clear c61b1
                      try clear c61b2
                      try clear c62
                      try clear c62b0
                      try clear c62b1
                      try clear c62b2
                      try clear c65
                      try clear c65b0
                      try clear c65b1
                      try clear p2
                      obtain ⟨kq, x71_62, rfl, HA, HJ62, HB⟩ := hcut
                      cases kq with
                      | zero => exact absurd HA.out (by simp [rosterlaw01_TextNormalSteps.j2])
                      | succ kj62 =>
                        have H := HA.out
                        clear HA
                        simp only [rosterlaw01_TextNormalSteps.j2] at H
                        by_cases c66 : x71_62 = true
                        · subst c66
                          have H1 : (if t154.size + t168.size ≤ 9223372036854775807 then (if a0.size + 1 ≤ 9223372036854775807 then (if (a0 ++ (⟨#[9]⟩ : ByteArray)).size + a1.size ≤ 9223372036854775807 then ((text_Normal.f kj62 ((a0 ++ (⟨#[9]⟩ : ByteArray)) ++ a1)).bind fun t169 => (if t169.toList = (t154 ++ t168).toList then (if a0.size + 2 ≤ 9223372036854775807 then (if (a0 ++ (⟨#[32, 32]⟩ : ByteArray)).size + a1.size ≤ 9223372036854775807 then ((text_Normal.f kj62 ((a0 ++ (⟨#[32, 32]⟩ : ByteArray)) ++ a1)).bind fun t170 => (some (t170.toList == (t154 ++ t168).toList))) else (none)) else (none)) else (some false))) else (none)) else (none)) else (none)) = some r := by rw [if_pos rfl] at H; exact H
                          clear H
                          have H := H1
                          clear H1
                          by_cases c67 : t154.size + t168.size ≤ 9223372036854775807
                          · rw [if_pos c67] at H
                            have c67b0 := eq_true c67
                            have c67b1 : decide (t154.size + t168.size ≤ 9223372036854775807) = true := decide_eq_true c67
                            try have c67b2 : (9223372036854775807 < t154.size + t168.size) = False := eq_false (Nat.not_lt.2 c67)
                            by_cases c68 : a0.size + 1 ≤ 9223372036854775807
                            · rw [if_pos c68] at H
                              have c68b0 := eq_true c68
                              have c68b1 : decide (a0.size + 1 ≤ 9223372036854775807) = true := decide_eq_true c68
                              try have c68b2 : (9223372036854775807 < a0.size + 1) = False := eq_false (Nat.not_lt.2 c68)
                              by_cases c69 : (a0 ++ (⟨#[9]⟩ : ByteArray)).size + a1.size ≤ 9223372036854775807
                              · rw [if_pos c69] at H
                                have c69b0 := eq_true c69
                                have c69b1 : decide ((a0 ++ (⟨#[9]⟩ : ByteArray)).size + a1.size ≤ 9223372036854775807) = true := decide_eq_true c69
                                try have c69b2 : (9223372036854775807 < (a0 ++ (⟨#[9]⟩ : ByteArray)).size + a1.size) = False := eq_false (Nat.not_lt.2 c69)
                                replace H := Option.bind_eq_some_iff.mp H
                                obtain ⟨t169, A700, H⟩ := H
                                replace H : (if t169.toList = (t154 ++ t168).toList then (if a0.size + 2 ≤ 9223372036854775807 then (if (a0 ++ (⟨#[32, 32]⟩ : ByteArray)).size + a1.size ≤ 9223372036854775807 then ((text_Normal.f kj62 ((a0 ++ (⟨#[32, 32]⟩ : ByteArray)) ++ a1)).bind fun t170 => (some (t170.toList == (t154 ++ t168).toList))) else (none)) else (none)) else (some false)) = some r := H
                                have A70 := Aside0.mk A700
                                clear A700
                                by_cases c71 : t169.toList = (t154 ++ t168).toList
                                · rw [if_pos c71] at H
                                  have c71b0 : (t169.toList == (t154 ++ t168).toList) = true := beq_iff_eq.mpr c71
                                  have c71b1 : (t169.toList != (t154 ++ t168).toList) = false := bne_eq_false_iff_eq.mpr c71
                                  clear c71
                                  by_cases c72 : a0.size + 2 ≤ 9223372036854775807
                                  · rw [if_pos c72] at H
                                    have c72b0 := eq_true c72
                                    have c72b1 : decide (a0.size + 2 ≤ 9223372036854775807) = true := decide_eq_true c72
                                    try have c72b2 : (9223372036854775807 < a0.size + 2) = False := eq_false (Nat.not_lt.2 c72)
                                    by_cases c73 : (a0 ++ (⟨#[32, 32]⟩ : ByteArray)).size + a1.size ≤ 9223372036854775807
                                    · rw [if_pos c73] at H
                                      have c73b0 := eq_true c73
                                      have c73b1 : decide ((a0 ++ (⟨#[32, 32]⟩ : ByteArray)).size + a1.size ≤ 9223372036854775807) = true := decide_eq_true c73
                                      try have c73b2 : (9223372036854775807 < (a0 ++ (⟨#[32, 32]⟩ : ByteArray)).size + a1.size) = False := eq_false (Nat.not_lt.2 c73)
                                      replace H := Option.bind_eq_some_iff.mp H
                                      obtain ⟨t170, A740, H⟩ := H
                                      replace H : (some (t170.toList == (t154 ++ t168).toList)) = some r := H
                                      have A74 := Aside0.mk A740
                                      clear A740
                                      obtain rfl := Option.some.inj H
                                      go_wp2_with (first | ((with_reducible refine gate_callee (f := 14) rfl ?_); refine goesL_ (some 79) rfl rfl Try.func14 (by kernel_rfl) rfl #[.string ((a0 ++ (⟨#[9]⟩ : ByteArray)) ++ a1)] rfl (by (try simp only [List.map_toArray, List.map_cons, List.map_nil]); first | done | rfl | (simp only [List.length_drop, List.length_take]; rfl)) ?_; (with_reducible refine (text_Normal.calls kj62 ((a0 ++ (⟨#[9]⟩ : ByteArray)) ++ a1) t169 _ A70.out).mono ?_); rintro e w75 ⟨rfl, hb⟩; refine ⟨_, rfl, ?_⟩; have n0_ := Aside0.mk (below_step (by repeat (first | (with_reducible first | exact HB.out | apply below_alloc | apply pw_below_drewN | apply below_drew1) | exact HB.out)) hb); clear HB; have HB := n0_; clear n0_; (try clear hb); (try clear hb2); (try clear hk); (try clear hi)) | (go_at_call 14; (with_reducible refine (text_Normal.calls kj62 ((a0 ++ (⟨#[32, 32]⟩ : ByteArray)) ++ a1) t170 _ A74.out).mono ?_); rintro e w76 ⟨rfl, hb⟩; have n0_ := Aside0.mk (below_step (by repeat (first | (with_reducible first | exact HB.out | apply below_alloc | apply pw_below_drewN | apply below_drew1) | exact HB.out)) hb); clear HB; have HB := n0_; clear n0_; (try clear hb); (try clear hb2); (try clear hk); (try clear hi)))
                                      go_ret
                                      exact ⟨by first | rfl | (simp [errW_none, errW_some] <;> rfl) | (simp [*, errW_none, errW_some] <;> rfl), by repeat (first | (with_reducible first | exact HB.out | apply below_alloc | apply pw_below_drewN | apply below_drew1) | exact HB.out)⟩
                                    · rw [if_neg c73] at H
                                      exact absurd H (by simp)
                                  · rw [if_neg c72] at H
                                    exact absurd H (by simp)
                                · rw [if_neg c71] at H
                                  have c71b0 : (t169.toList == (t154 ++ t168).toList) = false := beq_eq_false_iff_ne.mpr c71
                                  have c71b1 : (t169.toList != (t154 ++ t168).toList) = true := bne_iff_ne.mpr c71
                                  obtain rfl := Option.some.inj H
                                  go_wp2_with (first | ((with_reducible refine gate_callee (f := 14) rfl ?_); refine goesL_ (some 79) rfl rfl Try.func14 (by kernel_rfl) rfl #[.string ((a0 ++ (⟨#[9]⟩ : ByteArray)) ++ a1)] rfl (by (try simp only [List.map_toArray, List.map_cons, List.map_nil]); first | done | rfl | (simp only [List.length_drop, List.length_take]; rfl)) ?_; (with_reducible refine (text_Normal.calls kj62 ((a0 ++ (⟨#[9]⟩ : ByteArray)) ++ a1) t169 _ A70.out).mono ?_); rintro e w77 ⟨rfl, hb⟩; refine ⟨_, rfl, ?_⟩; have n0_ := Aside0.mk (below_step (by repeat (first | (with_reducible first | exact HB.out | apply below_alloc | apply pw_below_drewN | apply below_drew1) | exact HB.out)) hb); clear HB; have HB := n0_; clear n0_; (try clear hb); (try clear hb2); (try clear hk); (try clear hi)))
                                  go_ret
                                  exact ⟨by first | rfl | (simp [errW_none, errW_some] <;> rfl) | (simp [*, errW_none, errW_some] <;> rfl), by repeat (first | (with_reducible first | exact HB.out | apply below_alloc | apply pw_below_drewN | apply below_drew1) | exact HB.out)⟩
                              · rw [if_neg c69] at H
                                exact absurd H (by simp)
                            · rw [if_neg c68] at H
                              exact absurd H (by simp)
                          · rw [if_neg c67] at H
                            exact absurd H (by simp)
                        · replace c66 := Bool.eq_false_iff.mpr c66
                          subst c66
                          have H1 : (if a0.size + 1 ≤ 9223372036854775807 then (if (a0 ++ (⟨#[9]⟩ : ByteArray)).size + a1.size ≤ 9223372036854775807 then ((text_Normal.f kj62 ((a0 ++ (⟨#[9]⟩ : ByteArray)) ++ a1)).bind fun t171 => (if t171.toList = ((t154 ++ (⟨#[32]⟩ : ByteArray)) ++ t168).toList then (if a0.size + 2 ≤ 9223372036854775807 then (if (a0 ++ (⟨#[32, 32]⟩ : ByteArray)).size + a1.size ≤ 9223372036854775807 then ((text_Normal.f kj62 ((a0 ++ (⟨#[32, 32]⟩ : ByteArray)) ++ a1)).bind fun t172 => (some (t172.toList == ((t154 ++ (⟨#[32]⟩ : ByteArray)) ++ t168).toList))) else (none)) else (none)) else (some false))) else (none)) else (none)) = some r := by rw [if_neg (show ¬ (false = true) by decide)] at H; exact H
                          clear H
                          have H := H1
                          clear H1
                          by_cases c78 : a0.size + 1 ≤ 9223372036854775807
                          · rw [if_pos c78] at H
                            have c78b0 := eq_true c78
                            have c78b1 : decide (a0.size + 1 ≤ 9223372036854775807) = true := decide_eq_true c78
                            try have c78b2 : (9223372036854775807 < a0.size + 1) = False := eq_false (Nat.not_lt.2 c78)
                            by_cases c79 : (a0 ++ (⟨#[9]⟩ : ByteArray)).size + a1.size ≤ 9223372036854775807
                            · rw [if_pos c79] at H
                              have c79b0 := eq_true c79
                              have c79b1 : decide ((a0 ++ (⟨#[9]⟩ : ByteArray)).size + a1.size ≤ 9223372036854775807) = true := decide_eq_true c79
                              try have c79b2 : (9223372036854775807 < (a0 ++ (⟨#[9]⟩ : ByteArray)).size + a1.size) = False := eq_false (Nat.not_lt.2 c79)
                              replace H := Option.bind_eq_some_iff.mp H
                              obtain ⟨t171, A800, H⟩ := H
                              replace H : (if t171.toList = ((t154 ++ (⟨#[32]⟩ : ByteArray)) ++ t168).toList then (if a0.size + 2 ≤ 9223372036854775807 then (if (a0 ++ (⟨#[32, 32]⟩ : ByteArray)).size + a1.size ≤ 9223372036854775807 then ((text_Normal.f kj62 ((a0 ++ (⟨#[32, 32]⟩ : ByteArray)) ++ a1)).bind fun t172 => (some (t172.toList == ((t154 ++ (⟨#[32]⟩ : ByteArray)) ++ t168).toList))) else (none)) else (none)) else (some false)) = some r := H
                              have A80 := Aside0.mk A800
                              clear A800
                              by_cases c81 : t171.toList = ((t154 ++ (⟨#[32]⟩ : ByteArray)) ++ t168).toList
                              · rw [if_pos c81] at H
                                have c81b0 : (t171.toList == ((t154 ++ (⟨#[32]⟩ : ByteArray)) ++ t168).toList) = true := beq_iff_eq.mpr c81
                                have c81b1 : (t171.toList != ((t154 ++ (⟨#[32]⟩ : ByteArray)) ++ t168).toList) = false := bne_eq_false_iff_eq.mpr c81
                                clear c81
                                by_cases c82 : a0.size + 2 ≤ 9223372036854775807
                                · rw [if_pos c82] at H
                                  have c82b0 := eq_true c82
                                  have c82b1 : decide (a0.size + 2 ≤ 9223372036854775807) = true := decide_eq_true c82
                                  try have c82b2 : (9223372036854775807 < a0.size + 2) = False := eq_false (Nat.not_lt.2 c82)
                                  by_cases c83 : (a0 ++ (⟨#[32, 32]⟩ : ByteArray)).size + a1.size ≤ 9223372036854775807
                                  · rw [if_pos c83] at H
                                    have c83b0 := eq_true c83
                                    have c83b1 : decide ((a0 ++ (⟨#[32, 32]⟩ : ByteArray)).size + a1.size ≤ 9223372036854775807) = true := decide_eq_true c83
                                    try have c83b2 : (9223372036854775807 < (a0 ++ (⟨#[32, 32]⟩ : ByteArray)).size + a1.size) = False := eq_false (Nat.not_lt.2 c83)
                                    replace H := Option.bind_eq_some_iff.mp H
                                    obtain ⟨t172, A840, H⟩ := H
                                    replace H : (some (t172.toList == ((t154 ++ (⟨#[32]⟩ : ByteArray)) ++ t168).toList)) = some r := H
                                    have A84 := Aside0.mk A840
                                    clear A840
                                    obtain rfl := Option.some.inj H
                                    go_wp2_with (first | ((with_reducible refine gate_callee (f := 14) rfl ?_); refine goesL_ (some 79) rfl rfl Try.func14 (by kernel_rfl) rfl #[.string ((a0 ++ (⟨#[9]⟩ : ByteArray)) ++ a1)] rfl (by (try simp only [List.map_toArray, List.map_cons, List.map_nil]); first | done | rfl | (simp only [List.length_drop, List.length_take]; rfl)) ?_; (with_reducible refine (text_Normal.calls kj62 ((a0 ++ (⟨#[9]⟩ : ByteArray)) ++ a1) t171 _ A80.out).mono ?_); rintro e w85 ⟨rfl, hb⟩; refine ⟨_, rfl, ?_⟩; have n0_ := Aside0.mk (below_step (by repeat (first | (with_reducible first | exact HB.out | apply below_alloc | apply pw_below_drewN | apply below_drew1) | exact HB.out)) hb); clear HB; have HB := n0_; clear n0_; (try clear hb); (try clear hb2); (try clear hk); (try clear hi)) | (go_at_call 14; (with_reducible refine (text_Normal.calls kj62 ((a0 ++ (⟨#[32, 32]⟩ : ByteArray)) ++ a1) t172 _ A84.out).mono ?_); rintro e w86 ⟨rfl, hb⟩; have n0_ := Aside0.mk (below_step (by repeat (first | (with_reducible first | exact HB.out | apply below_alloc | apply pw_below_drewN | apply below_drew1) | exact HB.out)) hb); clear HB; have HB := n0_; clear n0_; (try clear hb); (try clear hb2); (try clear hk); (try clear hi)))
                                    go_ret
                                    exact ⟨by first | rfl | (simp [errW_none, errW_some] <;> rfl) | (simp [*, errW_none, errW_some] <;> rfl), by repeat (first | (with_reducible first | exact HB.out | apply below_alloc | apply pw_below_drewN | apply below_drew1) | exact HB.out)⟩
                                  · rw [if_neg c83] at H
                                    exact absurd H (by simp)
                                · rw [if_neg c82] at H
                                  exact absurd H (by simp)
                              · rw [if_neg c81] at H
                                have c81b0 : (t171.toList == ((t154 ++ (⟨#[32]⟩ : ByteArray)) ++ t168).toList) = false := beq_eq_false_iff_ne.mpr c81
                                have c81b1 : (t171.toList != ((t154 ++ (⟨#[32]⟩ : ByteArray)) ++ t168).toList) = true := bne_iff_ne.mpr c81
                                obtain rfl := Option.some.inj H
                                go_wp2_with (first | ((with_reducible refine gate_callee (f := 14) rfl ?_); refine goesL_ (some 79) rfl rfl Try.func14 (by kernel_rfl) rfl #[.string ((a0 ++ (⟨#[9]⟩ : ByteArray)) ++ a1)] rfl (by (try simp only [List.map_toArray, List.map_cons, List.map_nil]); first | done | rfl | (simp only [List.length_drop, List.length_take]; rfl)) ?_; (with_reducible refine (text_Normal.calls kj62 ((a0 ++ (⟨#[9]⟩ : ByteArray)) ++ a1) t171 _ A80.out).mono ?_); rintro e w87 ⟨rfl, hb⟩; refine ⟨_, rfl, ?_⟩; have n0_ := Aside0.mk (below_step (by repeat (first | (with_reducible first | exact HB.out | apply below_alloc | apply pw_below_drewN | apply below_drew1) | exact HB.out)) hb); clear HB; have HB := n0_; clear n0_; (try clear hb); (try clear hb2); (try clear hk); (try clear hi)))
                                go_ret
                                exact ⟨by first | rfl | (simp [errW_none, errW_some] <;> rfl) | (simp [*, errW_none, errW_some] <;> rfl), by repeat (first | (with_reducible first | exact HB.out | apply below_alloc | apply pw_below_drewN | apply below_drew1) | exact HB.out)⟩
                            · rw [if_neg c79] at H
                              exact absurd H (by simp)
                          · rw [if_neg c78] at H
                            exact absurd H (by simp)
                  · rw [if_neg c62] at H
                    exact absurd H (by simp)
                · rw [if_neg c61] at H
                  exact absurd H (by simp)
  · rw [if_neg c5] at H
    have c5b0 : (t155.toList == ([97, 32, 98] : List UInt8)) = false := beq_eq_false_iff_ne.mpr c5
    have c5b1 : (t155.toList != ([97, 32, 98] : List UInt8)) = true := bne_iff_ne.mpr c5
    obtain rfl := Option.some.inj H
    go_enter Try.func5, Try.ntmps5
    go_wp2_with (first | ((with_reducible refine gate_callee (f := 14) rfl ?_); refine goesL_ (some 9) rfl rfl Try.func14 (by kernel_rfl) rfl #[.string a0] rfl (by (try simp only [List.map_toArray, List.map_cons, List.map_nil]); first | done | rfl | (simp only [List.length_drop, List.length_take]; rfl)) ?_; (with_reducible refine (text_Normal.calls k a0 t154 _ A3.out).mono ?_); rintro e w88 ⟨rfl, hb⟩; refine ⟨_, rfl, ?_⟩; have n0_ := Aside0.mk (below_step (by repeat (first | (with_reducible first | exact HB.out | apply below_alloc | apply pw_below_drewN | apply below_drew1) | exact HB.out)) hb); clear HB; have HB := n0_; clear n0_; (try clear hb); (try clear hb2); (try clear hk); (try clear hi)) | ((with_reducible refine gate_callee (f := 14) rfl ?_); refine goesL_ (some 10) rfl rfl Try.func14 (by kernel_rfl) rfl #[.string (⟨#[32, 65, 9, 98, 32]⟩ : ByteArray)] rfl (by (try simp only [List.map_toArray, List.map_cons, List.map_nil]); first | done | rfl | (simp only [List.length_drop, List.length_take]; rfl)) ?_; (with_reducible refine (text_Normal.calls k (⟨#[32, 65, 9, 98, 32]⟩ : ByteArray) t155 _ A4.out).mono ?_); rintro e w89 ⟨rfl, hb⟩; refine ⟨_, rfl, ?_⟩; have n0_ := Aside0.mk (below_step (by repeat (first | (with_reducible first | exact HB.out | apply below_alloc | apply pw_below_drewN | apply below_drew1) | exact HB.out)) hb); clear HB; have HB := n0_; clear n0_; (try clear hb); (try clear hb2); (try clear hk); (try clear hi)))
    go_ret
    exact ⟨by first | rfl | (simp [errW_none, errW_some] <;> rfl) | (simp [*, errW_none, errW_some] <;> rfl), by repeat (first | (with_reducible first | exact HB.out | apply below_alloc | apply pw_below_drewN | apply below_drew1) | exact HB.out)⟩

end Go.Proofs.Ytjkhdiphcgpbfaa.X

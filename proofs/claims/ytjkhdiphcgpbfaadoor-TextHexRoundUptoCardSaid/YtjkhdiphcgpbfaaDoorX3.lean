-- PRINTED by print.py (a twelfth state) out of the translation. Not trusted: Lean checks it.
import Derived.Test.YtjkhdiphcgpbfaaDoorX0
import Derived.Test.YtjkhdiphcgpbfaaDoorX1
import Derived.Test.YtjkhdiphcgpbfaaDoorX2
namespace Go.Proofs.YtjkhdiphcgpbfaaDoor.X
open Go.Proofs.YtjkhdiphcgpbfaaDoor.XG
open Go.Proofs.YtjkhdiphcgpbfaaDoor.XE
open Go.RowKit Go.Proofs.YtjkhdiphcgpbfaaDoorW.PrintWords Go.Proofs.YtjkhdiphcgpbfaaDoorW.PrintLast Go.Proofs.YtjkhdiphcgpbfaaDoorW.PrintMore
attribute [local go_sem] max2_int min2_int max_two min_two max_three min_three max_four min_four   -- for this text's walks alone
set_option linter.unusedVariables false
set_option linter.unusedSimpArgs false

/-! ### rosterlaw01_TextHexOnly: function 6 -/
mutual
def rosterlaw01_TextHexOnly.j0 : Nat → ByteArray → Bool → Option (Bool)
  | 0, _, _ => none
  | k + 1, x0, x28 => if x28 = true then (some false) else ((text_Unhex.f k x0).bind fun bt158 => ((rosterlaw01_num.f bt158.2.1).bind fun t161 => (if t161 = 0 then (if bt158.2.2 = (x0.size : Int) then ((text_Hex.f k bt158.1).bind fun t162 => ((text_Fold.f x0).bind fun t163 => (some (t162.toList == t163.toList)))) else (some false)) else ((rosterlaw01_num.f bt158.2.1).bind fun t164 => (if t164 = 11 then (if bt158.1.toList = ([] : List UInt8) then (if bt158.2.2 < 0 then (rosterlaw01_TextHexOnly.j1 k x0 bt158.2.2 true) else (rosterlaw01_TextHexOnly.j1 k x0 bt158.2.2 (decide (bt158.2.2 > (x0.size : Int))))) else (rosterlaw01_TextHexOnly.j1 k x0 bt158.2.2 true)) else (rosterlaw01_TextHexOnly.j1 k x0 bt158.2.2 true))))))
def rosterlaw01_TextHexOnly.j1 : Nat → ByteArray → Int → Bool → Option (Bool)
  | 0, _, _, _ => none
  | k + 1, x0, x10, x65 => if x65 = true then (some false) else (rosterlaw01_TextHexOnly.l0 k x0 x10 0)
def rosterlaw01_TextHexOnly.l0 : Nat → ByteArray → Int → Int → Option (Bool)
  | 0, _, _, _ => none
  | k + 1, x0, x10, x11 => if x11 < x10 then (if 0 ≤ x11 then (if x11 < (x0.size : Int) then (if (bt x0 x11) < 48 then (if (bt x0 x11) < 97 then (if (bt x0 x11) < 65 then (some false) else (if (bt x0 x11) > 70 then (some false) else (rosterlaw01_TextHexOnly.l0 k x0 x10 (wrap64 (x11 + 1))))) else (if (bt x0 x11) > 102 then (if (bt x0 x11) < 65 then (some false) else (if (bt x0 x11) > 70 then (some false) else (rosterlaw01_TextHexOnly.l0 k x0 x10 (wrap64 (x11 + 1))))) else (rosterlaw01_TextHexOnly.l0 k x0 x10 (wrap64 (x11 + 1))))) else (if (bt x0 x11) > 57 then (if (bt x0 x11) < 97 then (if (bt x0 x11) < 65 then (some false) else (if (bt x0 x11) > 70 then (some false) else (rosterlaw01_TextHexOnly.l0 k x0 x10 (wrap64 (x11 + 1))))) else (if (bt x0 x11) > 102 then (if (bt x0 x11) < 65 then (some false) else (if (bt x0 x11) > 70 then (some false) else (rosterlaw01_TextHexOnly.l0 k x0 x10 (wrap64 (x11 + 1))))) else (rosterlaw01_TextHexOnly.l0 k x0 x10 (wrap64 (x11 + 1))))) else (rosterlaw01_TextHexOnly.l0 k x0 x10 (wrap64 (x11 + 1))))) else (none)) else (none)) else (if x10 = (x0.size : Int) then (some (((x0.size : Int) % 2) == 1)) else (if 0 ≤ x10 then (if x10 < (x0.size : Int) then (if (bt x0 x10) < 48 then (if (bt x0 x10) < 97 then (if (bt x0 x10) < 65 then (some true) else (some (decide ((bt x0 x10) > 70)))) else (if (bt x0 x10) > 102 then (if (bt x0 x10) < 65 then (some true) else (some (decide ((bt x0 x10) > 70)))) else (some false))) else (if (bt x0 x10) > 57 then (if (bt x0 x10) < 97 then (if (bt x0 x10) < 65 then (some true) else (some (decide ((bt x0 x10) > 70)))) else (if (bt x0 x10) > 102 then (if (bt x0 x10) < 65 then (some true) else (some (decide ((bt x0 x10) > 70)))) else (some false))) else (some false))) else (none)) else (none)))
end
def rosterlaw01_TextHexOnly.f (k : Nat) (a0 : ByteArray) (a1 : ByteArray) : Option (Bool) := (text_Hex.f k a1).bind fun t153 => ((text_Unhex.f k t153).bind fun bt154 => ((rosterlaw01_num.f bt154.2.1).bind fun t157 => (if t157 = 0 then (rosterlaw01_TextHexOnly.j0 k a0 (bt154.1.toList != a1.toList)) else (rosterlaw01_TextHexOnly.j0 k a0 true))))
theorem rosterlaw01_TextHexOnly.mono_l : ∀ k, (∀ y0 y1, LeO (rosterlaw01_TextHexOnly.j0 k y0 y1) (rosterlaw01_TextHexOnly.j0 (k + 1) y0 y1)) ∧ (∀ y0 y1 y2, LeO (rosterlaw01_TextHexOnly.j1 k y0 y1 y2) (rosterlaw01_TextHexOnly.j1 (k + 1) y0 y1 y2)) ∧ (∀ y0 y1 y2, LeO (rosterlaw01_TextHexOnly.l0 k y0 y1 y2) (rosterlaw01_TextHexOnly.l0 (k + 1) y0 y1 y2))
  | 0 => ⟨fun _ _ r h => by simp [rosterlaw01_TextHexOnly.j0] at h, fun _ _ _ r h => by simp [rosterlaw01_TextHexOnly.j1] at h, fun _ _ _ r h => by simp [rosterlaw01_TextHexOnly.l0] at h⟩
  | k + 1 => by
    obtain ⟨ih0, ih1, ih2⟩ := rosterlaw01_TextHexOnly.mono_l k
    refine ⟨?_, ?_, ?_⟩
    · intro y0 y1
      unfold rosterlaw01_TextHexOnly.j0
      repeat' first
      | (with_reducible exact ih0 _ _)
      | (with_reducible exact ih1 _ _ _)
      | (with_reducible exact ih2 _ _ _)
      | (with_reducible exact text_Hex.mono _ _)
      | (with_reducible exact text_Unhex.mono _ _)
      | (with_reducible exact LeO.refl _)
      | (with_reducible exact LeO.none _)
      | (with_reducible refine LeO.ite ?_ ?_)
      | (with_reducible refine LeO.bind ?_ (fun _ => ?_))
      | exact ih0 _ _
      | exact ih1 _ _ _
      | exact ih2 _ _ _
      | exact text_Hex.mono _ _
      | exact text_Unhex.mono _ _
      | exact LeO.none _
      | refine LeO.ite ?_ ?_
      | refine LeO.bind ?_ (fun _ => ?_)
    · intro y0 y1 y2
      unfold rosterlaw01_TextHexOnly.j1
      repeat' first
      | (with_reducible exact ih0 _ _)
      | (with_reducible exact ih1 _ _ _)
      | (with_reducible exact ih2 _ _ _)
      | (with_reducible exact text_Hex.mono _ _)
      | (with_reducible exact text_Unhex.mono _ _)
      | (with_reducible exact LeO.refl _)
      | (with_reducible exact LeO.none _)
      | (with_reducible refine LeO.ite ?_ ?_)
      | (with_reducible refine LeO.bind ?_ (fun _ => ?_))
      | exact ih0 _ _
      | exact ih1 _ _ _
      | exact ih2 _ _ _
      | exact text_Hex.mono _ _
      | exact text_Unhex.mono _ _
      | exact LeO.none _
      | refine LeO.ite ?_ ?_
      | refine LeO.bind ?_ (fun _ => ?_)
    · intro y0 y1 y2
      unfold rosterlaw01_TextHexOnly.l0
      repeat' first
      | (with_reducible exact ih0 _ _)
      | (with_reducible exact ih1 _ _ _)
      | (with_reducible exact ih2 _ _ _)
      | (with_reducible exact text_Hex.mono _ _)
      | (with_reducible exact text_Unhex.mono _ _)
      | (with_reducible exact LeO.refl _)
      | (with_reducible exact LeO.none _)
      | (with_reducible refine LeO.ite ?_ ?_)
      | (with_reducible refine LeO.bind ?_ (fun _ => ?_))
      | exact ih0 _ _
      | exact ih1 _ _ _
      | exact ih2 _ _ _
      | exact text_Hex.mono _ _
      | exact text_Unhex.mono _ _
      | exact LeO.none _
      | refine LeO.ite ?_ ?_
      | refine LeO.bind ?_ (fun _ => ?_)
theorem rosterlaw01_TextHexOnly.mono : ∀ a0 a1 k, LeO (rosterlaw01_TextHexOnly.f k a0 a1) (rosterlaw01_TextHexOnly.f (k + 1) a0 a1) := by
  intro a0 a1 k
  obtain ⟨ih0, ih1, ih2⟩ := rosterlaw01_TextHexOnly.mono_l k
  unfold rosterlaw01_TextHexOnly.f
  repeat' first
      | (with_reducible exact ih0 _ _)
      | (with_reducible exact ih1 _ _ _)
      | (with_reducible exact ih2 _ _ _)
      | (with_reducible exact text_Hex.mono _ _)
      | (with_reducible exact text_Unhex.mono _ _)
      | (with_reducible exact LeO.refl _)
      | (with_reducible exact LeO.none _)
      | (with_reducible refine LeO.ite ?_ ?_)
      | (with_reducible refine LeO.bind ?_ (fun _ => ?_))
      | exact ih0 _ _
      | exact ih1 _ _ _
      | exact ih2 _ _ _
      | exact text_Hex.mono _ _
      | exact text_Unhex.mono _ _
      | exact LeO.none _
      | refine LeO.ite ?_ ?_
      | refine LeO.bind ?_ (fun _ => ?_)
set_option maxHeartbeats 8000000 in
set_option maxRecDepth 100000 in
theorem rosterlaw01_TextHexOnly.calls (k : Nat) (a0 : ByteArray) (a1 : ByteArray) (r : Bool) (w : World) (hG : Tabs w) (h : rosterlaw01_TextHexOnly.f k a0 a1 = some r) :
    Calls Tryd.prog 6 #[.string a0, .string a1] w fun e w' => e = .returned (.bool r) ∧ Below w.heap.size w w' := by
  have HB := Aside0.mk (Below.refl w.heap.size w)
  have H : ((text_Hex.f k a1).bind fun t153 => ((text_Unhex.f k t153).bind fun bt154 => ((rosterlaw01_num.f bt154.2.1).bind fun t157 => (if t157 = 0 then (rosterlaw01_TextHexOnly.j0 k a0 (bt154.1.toList != a1.toList)) else (rosterlaw01_TextHexOnly.j0 k a0 true))))) = some r := h
  clear h
  replace H := Option.bind_eq_some_iff.mp H
  obtain ⟨t153, A30, H⟩ := H
  replace H : ((text_Unhex.f k t153).bind fun bt154 => ((rosterlaw01_num.f bt154.2.1).bind fun t157 => (if t157 = 0 then (rosterlaw01_TextHexOnly.j0 k a0 (bt154.1.toList != a1.toList)) else (rosterlaw01_TextHexOnly.j0 k a0 true)))) = some r := H
  have A3 := Aside0.mk A30
  clear A30
  replace H := Option.bind_eq_some_iff.mp H
  obtain ⟨⟨t154, t155, t156⟩, A40, H⟩ := H
  replace H : ((rosterlaw01_num.f t155).bind fun t157 => (if t157 = 0 then (rosterlaw01_TextHexOnly.j0 k a0 (t154.toList != a1.toList)) else (rosterlaw01_TextHexOnly.j0 k a0 true))) = some r := H
  have A4 := Aside0.mk A40
  clear A40
  have HC5 := Aside0.mk H
  clear H
  go_enter Tryd.func6, Tryd.ntmps6
  go_upto_region 2 with (first | ((with_reducible refine gate_callee (f := 10) rfl ?_); refine goesL_ (some 16) rfl rfl Tryd.func10 (by kernel_rfl) rfl #[.string a1] rfl (by (try simp only [List.map_toArray, List.map_cons, List.map_nil]); first | done | rfl | (simp only [List.length_drop, List.length_take]; rfl)) ?_; (with_reducible refine (text_Hex.calls k a1 t153 _ (Tabs_at hG (by repeat (first | (with_reducible first | exact HB.out | exact Below.refl _ _ | apply below_alloc | apply pw_below_drewN | apply below_drew1) | exact HB.out | exact Below.refl _ _))) A3.out).mono ?_); rintro e w6 ⟨rfl, hb⟩; refine ⟨_, rfl, ?_⟩; have n0_ := Aside0.mk (below_step (by repeat (first | (with_reducible first | exact HB.out | apply below_alloc | apply pw_below_drewN | apply below_drew1) | exact HB.out)) hb); clear HB; have HB := n0_; clear n0_; (try clear hb); (try clear hb2); (try clear hk); (try clear hi)) | ((with_reducible refine gate_callee (f := 14) rfl ?_); refine goesL_ (some 17) rfl rfl Tryd.func14 (by kernel_rfl) rfl #[.string t153] rfl (by (try simp only [List.map_toArray, List.map_cons, List.map_nil]); first | done | rfl | (simp only [List.length_drop, List.length_take]; rfl)) ?_; (with_reducible refine (text_Unhex.calls k t153 t154 t155 t156 _ A4.out).mono ?_); rintro e w7 ⟨rfl, hb⟩; refine ⟨_, rfl, ?_⟩; have n0_ := Aside0.mk (below_step (by repeat (first | (with_reducible first | exact HB.out | apply below_alloc | apply pw_below_drewN | apply below_drew1) | exact HB.out)) hb); clear HB; have HB := n0_; clear n0_; (try clear hb); (try clear hb2); (try clear hk); (try clear hi)))
  (try simp only [Act.put, List.setIfInBounds_toArray, List.set_cons_zero, List.set_cons_succ])
  go_cut [28] (fun v28 wc => ∃ (kq : Nat) (x28_4 : Bool), v28 = .bool x28_4 ∧ Aside0 (rosterlaw01_TextHexOnly.j0 kq a0 x28_4 = some r) ∧ Aside0 (kq ≤ k) ∧ Aside0 (Below w.heap.size w wc))
  case first =>
    have H := HC5.out
    clear HC5
    replace H := Option.bind_eq_some_iff.mp H
    obtain ⟨t157, A80, H⟩ := H
    replace H : (if t157 = 0 then (rosterlaw01_TextHexOnly.j0 k a0 (t154.toList != a1.toList)) else (rosterlaw01_TextHexOnly.j0 k a0 true)) = some r := H
    have A8 := Aside0.mk A80
    clear A80
    by_cases c9 : t157 = 0
    · rw [if_pos c9] at H
      have c9b0 : (t157 == 0) = true := beq_iff_eq.mpr c9
      have c9b1 : (t157 != 0) = false := bne_eq_false_iff_eq.mpr c9
      clear c9
      (first | rw [c9b0] | (simp only [i64_w, i32_w]; rw [c9b0]) | skip)
      have H' := Aside0.mk H
      clear H
      go_wp2_with (first | ((with_reducible refine gate_callee (f := 15) rfl ?_); refine goesL_ (some 22) rfl rfl Tryd.func15 (by kernel_rfl) rfl #[.int .i64 t155] rfl (by (try simp only [List.map_toArray, List.map_cons, List.map_nil]); first | done | rfl | (simp only [List.length_drop, List.length_take]; rfl)) ?_; (with_reducible refine (rosterlaw01_num.calls t155 t157 _ A8.out).mono ?_); rintro e w' ⟨rfl, ⟨nd, rfl⟩⟩; refine ⟨_, rfl, ?_⟩))
      go_meet
      case rel => exact ⟨_, ((t154.toList != a1.toList)), (by first | rfl | (simp; done) | (simp [*]; done)), H', ⟨by first | omega | exact Nat.le_refl _⟩, ⟨by repeat (first | (with_reducible first | exact HB.out | apply below_alloc | apply pw_below_drewN | apply below_drew1) | exact HB.out)⟩⟩
    · rw [if_neg c9] at H
      have c9b0 : (t157 == 0) = false := beq_eq_false_iff_ne.mpr c9
      have c9b1 : (t157 != 0) = true := bne_iff_ne.mpr c9
      (first | rw [c9b0] | (simp only [i64_w, i32_w]; rw [c9b0]) | skip)
      have H' := Aside0.mk H
      clear H
      go_wp2_with (first | ((with_reducible refine gate_callee (f := 15) rfl ?_); refine goesL_ (some 22) rfl rfl Tryd.func15 (by kernel_rfl) rfl #[.int .i64 t155] rfl (by (try simp only [List.map_toArray, List.map_cons, List.map_nil]); first | done | rfl | (simp only [List.length_drop, List.length_take]; rfl)) ?_; (with_reducible refine (rosterlaw01_num.calls t155 t157 _ A8.out).mono ?_); rintro e w' ⟨rfl, ⟨nd, rfl⟩⟩; refine ⟨_, rfl, ?_⟩))
      go_meet
      case rel => exact ⟨_, (true), (by first | rfl | (simp; done) | (simp [*]; done)), H', ⟨by first | omega | exact Nat.le_refl _⟩, ⟨by repeat (first | (with_reducible first | exact HB.out | apply below_alloc | apply pw_below_drewN | apply below_drew1) | exact HB.out)⟩⟩
  case rest =>
    clear HC5
    try clear c1
    try clear p2
    try clear c6
    try clear c9
    try clear c9b0
    try clear c9b1
    obtain ⟨kq, x28_4, rfl, HA, HJ4, HB⟩ := hcut
    cases kq with
    | zero => exact absurd HA.out (by simp [rosterlaw01_TextHexOnly.j0])
    | succ kj4 =>
      have H := HA.out
      clear HA
      simp only [rosterlaw01_TextHexOnly.j0] at H
      by_cases c10 : x28_4 = true
      · subst c10
        have H1 : (some false) = some r := by rw [if_pos rfl] at H; exact H
        clear H
        have H := H1
        clear H1
        obtain rfl := Option.some.inj H
        go_wp2
        go_ret
        exact ⟨by first | rfl | (simp [errW_none, errW_some] <;> rfl) | (simp [*, errW_none, errW_some] <;> rfl), by repeat (first | (with_reducible first | exact HB.out | apply below_alloc | apply pw_below_drewN | apply below_drew1) | exact HB.out)⟩
      · replace c10 := Bool.eq_false_iff.mpr c10
        subst c10
        have H1 : ((text_Unhex.f kj4 a0).bind fun bt158 => ((rosterlaw01_num.f bt158.2.1).bind fun t161 => (if t161 = 0 then (if bt158.2.2 = (a0.size : Int) then ((text_Hex.f kj4 bt158.1).bind fun t162 => ((text_Fold.f a0).bind fun t163 => (some (t162.toList == t163.toList)))) else (some false)) else ((rosterlaw01_num.f bt158.2.1).bind fun t164 => (if t164 = 11 then (if bt158.1.toList = ([] : List UInt8) then (if bt158.2.2 < 0 then (rosterlaw01_TextHexOnly.j1 kj4 a0 bt158.2.2 true) else (rosterlaw01_TextHexOnly.j1 kj4 a0 bt158.2.2 (decide (bt158.2.2 > (a0.size : Int))))) else (rosterlaw01_TextHexOnly.j1 kj4 a0 bt158.2.2 true)) else (rosterlaw01_TextHexOnly.j1 kj4 a0 bt158.2.2 true)))))) = some r := by rw [if_neg (show ¬ (false = true) by decide)] at H; exact H
        clear H
        have H := H1
        clear H1
        replace H := Option.bind_eq_some_iff.mp H
        obtain ⟨⟨t158, t159, t160⟩, A110, H⟩ := H
        replace H : ((rosterlaw01_num.f t159).bind fun t161 => (if t161 = 0 then (if t160 = (a0.size : Int) then ((text_Hex.f kj4 t158).bind fun t162 => ((text_Fold.f a0).bind fun t163 => (some (t162.toList == t163.toList)))) else (some false)) else ((rosterlaw01_num.f t159).bind fun t164 => (if t164 = 11 then (if t158.toList = ([] : List UInt8) then (if t160 < 0 then (rosterlaw01_TextHexOnly.j1 kj4 a0 t160 true) else (rosterlaw01_TextHexOnly.j1 kj4 a0 t160 (decide (t160 > (a0.size : Int))))) else (rosterlaw01_TextHexOnly.j1 kj4 a0 t160 true)) else (rosterlaw01_TextHexOnly.j1 kj4 a0 t160 true))))) = some r := H
        have A11 := Aside0.mk A110
        clear A110
        replace H := Option.bind_eq_some_iff.mp H
        obtain ⟨t161, A120, H⟩ := H
        replace H : (if t161 = 0 then (if t160 = (a0.size : Int) then ((text_Hex.f kj4 t158).bind fun t162 => ((text_Fold.f a0).bind fun t163 => (some (t162.toList == t163.toList)))) else (some false)) else ((rosterlaw01_num.f t159).bind fun t164 => (if t164 = 11 then (if t158.toList = ([] : List UInt8) then (if t160 < 0 then (rosterlaw01_TextHexOnly.j1 kj4 a0 t160 true) else (rosterlaw01_TextHexOnly.j1 kj4 a0 t160 (decide (t160 > (a0.size : Int))))) else (rosterlaw01_TextHexOnly.j1 kj4 a0 t160 true)) else (rosterlaw01_TextHexOnly.j1 kj4 a0 t160 true)))) = some r := H
        have A12 := Aside0.mk A120
        clear A120
        by_cases c13 : t161 = 0
        · rw [if_pos c13] at H
          have c13b0 : (t161 == 0) = true := beq_iff_eq.mpr c13
          have c13b1 : (t161 != 0) = false := bne_eq_false_iff_eq.mpr c13
          clear c13
          by_cases c14 : t160 = (a0.size : Int)
          · rw [if_pos c14] at H
            have c14b0 : (t160 == (a0.size : Int)) = true := beq_iff_eq.mpr c14
            have c14b1 : (t160 != (a0.size : Int)) = false := bne_eq_false_iff_eq.mpr c14
            clear c14
            replace H := Option.bind_eq_some_iff.mp H
            obtain ⟨t162, A150, H⟩ := H
            replace H : ((text_Fold.f a0).bind fun t163 => (some (t162.toList == t163.toList))) = some r := H
            have A15 := Aside0.mk A150
            clear A150
            replace H := Option.bind_eq_some_iff.mp H
            obtain ⟨t163, A160, H⟩ := H
            replace H : (some (t162.toList == t163.toList)) = some r := H
            have A16 := Aside0.mk A160
            clear A160
            obtain rfl := Option.some.inj H
            go_wp2_with (first | ((with_reducible refine gate_callee (f := 14) rfl ?_); refine goesL_ (some 31) rfl rfl Tryd.func14 (by kernel_rfl) rfl #[.string a0] rfl (by (try simp only [List.map_toArray, List.map_cons, List.map_nil]); first | done | rfl | (simp only [List.length_drop, List.length_take]; rfl)) ?_; (with_reducible refine (text_Unhex.calls kj4 a0 t158 t159 t160 _ A11.out).mono ?_); rintro e w17 ⟨rfl, hb⟩; refine ⟨_, rfl, ?_⟩; have n0_ := Aside0.mk (below_step (by repeat (first | (with_reducible first | exact HB.out | apply below_alloc | apply pw_below_drewN | apply below_drew1) | exact HB.out)) hb); clear HB; have HB := n0_; clear n0_; (try clear hb); (try clear hb2); (try clear hk); (try clear hi)) | ((with_reducible refine gate_callee (f := 15) rfl ?_); refine goesL_ (some 36) rfl rfl Tryd.func15 (by kernel_rfl) rfl #[.int .i64 t159] rfl (by (try simp only [List.map_toArray, List.map_cons, List.map_nil]); first | done | rfl | (simp only [List.length_drop, List.length_take]; rfl)) ?_; (with_reducible refine (rosterlaw01_num.calls t159 t161 _ A12.out).mono ?_); rintro e w' ⟨rfl, ⟨nd, rfl⟩⟩; refine ⟨_, rfl, ?_⟩) | (go_at_call 10; (with_reducible refine (text_Hex.calls kj4 t158 t162 _ (Tabs_at hG (by repeat (first | (with_reducible first | exact HB.out | exact Below.refl _ _ | apply below_alloc | apply pw_below_drewN | apply below_drew1) | exact HB.out | exact Below.refl _ _))) A15.out).mono ?_); rintro e w18 ⟨rfl, hb⟩; have n0_ := Aside0.mk (below_step (by repeat (first | (with_reducible first | exact HB.out | apply below_alloc | apply pw_below_drewN | apply below_drew1) | exact HB.out)) hb); clear HB; have HB := n0_; clear n0_; (try clear hb); (try clear hb2); (try clear hk); (try clear hi)) | (go_at_call 16; (with_reducible refine (text_Fold.calls a0 t163 _ A16.out).mono ?_); rintro e w19 ⟨rfl, hb⟩; have n0_ := Aside0.mk (below_step (by repeat (first | (with_reducible first | exact HB.out | apply below_alloc | apply pw_below_drewN | apply below_drew1) | exact HB.out)) hb); clear HB; have HB := n0_; clear n0_; (try clear hb); (try clear hb2); (try clear hk); (try clear hi)))
            go_ret
            exact ⟨by first | rfl | (simp [errW_none, errW_some] <;> rfl) | (simp [*, errW_none, errW_some] <;> rfl), by repeat (first | (with_reducible first | exact HB.out | apply below_alloc | apply pw_below_drewN | apply below_drew1) | exact HB.out)⟩
          · rw [if_neg c14] at H
            have c14b0 : (t160 == (a0.size : Int)) = false := beq_eq_false_iff_ne.mpr c14
            have c14b1 : (t160 != (a0.size : Int)) = true := bne_iff_ne.mpr c14
            obtain rfl := Option.some.inj H
            go_wp2_with (first | ((with_reducible refine gate_callee (f := 14) rfl ?_); refine goesL_ (some 31) rfl rfl Tryd.func14 (by kernel_rfl) rfl #[.string a0] rfl (by (try simp only [List.map_toArray, List.map_cons, List.map_nil]); first | done | rfl | (simp only [List.length_drop, List.length_take]; rfl)) ?_; (with_reducible refine (text_Unhex.calls kj4 a0 t158 t159 t160 _ A11.out).mono ?_); rintro e w20 ⟨rfl, hb⟩; refine ⟨_, rfl, ?_⟩; have n0_ := Aside0.mk (below_step (by repeat (first | (with_reducible first | exact HB.out | apply below_alloc | apply pw_below_drewN | apply below_drew1) | exact HB.out)) hb); clear HB; have HB := n0_; clear n0_; (try clear hb); (try clear hb2); (try clear hk); (try clear hi)) | ((with_reducible refine gate_callee (f := 15) rfl ?_); refine goesL_ (some 36) rfl rfl Tryd.func15 (by kernel_rfl) rfl #[.int .i64 t159] rfl (by (try simp only [List.map_toArray, List.map_cons, List.map_nil]); first | done | rfl | (simp only [List.length_drop, List.length_take]; rfl)) ?_; (with_reducible refine (rosterlaw01_num.calls t159 t161 _ A12.out).mono ?_); rintro e w' ⟨rfl, ⟨nd, rfl⟩⟩; refine ⟨_, rfl, ?_⟩))
            go_ret
            exact ⟨by first | rfl | (simp [errW_none, errW_some] <;> rfl) | (simp [*, errW_none, errW_some] <;> rfl), by repeat (first | (with_reducible first | exact HB.out | apply below_alloc | apply pw_below_drewN | apply below_drew1) | exact HB.out)⟩
        · rw [if_neg c13] at H
          have c13b0 : (t161 == 0) = false := beq_eq_false_iff_ne.mpr c13
          have c13b1 : (t161 != 0) = true := bne_iff_ne.mpr c13
          have HC21 := Aside0.mk H
          clear H
          go_upto_region 7 with (first | ((with_reducible refine gate_callee (f := 14) rfl ?_); refine goesL_ (some 31) rfl rfl Tryd.func14 (by kernel_rfl) rfl #[.string a0] rfl (by (try simp only [List.map_toArray, List.map_cons, List.map_nil]); first | done | rfl | (simp only [List.length_drop, List.length_take]; rfl)) ?_; (with_reducible refine (text_Unhex.calls kj4 a0 t158 t159 t160 _ A11.out).mono ?_); rintro e w22 ⟨rfl, hb⟩; refine ⟨_, rfl, ?_⟩; have n0_ := Aside0.mk (below_step (by repeat (first | (with_reducible first | exact HB.out | apply below_alloc | apply pw_below_drewN | apply below_drew1) | exact HB.out)) hb); clear HB; have HB := n0_; clear n0_; (try clear hb); (try clear hb2); (try clear hk); (try clear hi)) | ((with_reducible refine gate_callee (f := 15) rfl ?_); refine goesL_ (some 36) rfl rfl Tryd.func15 (by kernel_rfl) rfl #[.int .i64 t159] rfl (by (try simp only [List.map_toArray, List.map_cons, List.map_nil]); first | done | rfl | (simp only [List.length_drop, List.length_take]; rfl)) ?_; (with_reducible refine (rosterlaw01_num.calls t159 t161 _ A12.out).mono ?_); rintro e w' ⟨rfl, ⟨nd, rfl⟩⟩; refine ⟨_, rfl, ?_⟩))
          (try simp only [Act.put, List.setIfInBounds_toArray, List.set_cons_zero, List.set_cons_succ])
          go_cut [65] (fun v65 wc => ∃ (kq : Nat) (x65_20 : Bool), v65 = .bool x65_20 ∧ Aside0 (rosterlaw01_TextHexOnly.j1 kq a0 t160 x65_20 = some r) ∧ Aside0 (kq ≤ kj4) ∧ Aside0 (Below w.heap.size w wc))
          case first =>
            have H := HC21.out
            clear HC21
            replace H := Option.bind_eq_some_iff.mp H
            obtain ⟨t164, A230, H⟩ := H
            obtain rfl : t161 = t164 := Option.some.inj (A12.out.symm.trans A230)
            replace H : (if t161 = 11 then (if t158.toList = ([] : List UInt8) then (if t160 < 0 then (rosterlaw01_TextHexOnly.j1 kj4 a0 t160 true) else (rosterlaw01_TextHexOnly.j1 kj4 a0 t160 (decide (t160 > (a0.size : Int))))) else (rosterlaw01_TextHexOnly.j1 kj4 a0 t160 true)) else (rosterlaw01_TextHexOnly.j1 kj4 a0 t160 true)) = some r := H
            have A23 := Aside0.mk A230
            clear A230
            by_cases c24 : t161 = 11
            · rw [if_pos c24] at H
              have c24b0 : (t161 == 11) = true := beq_iff_eq.mpr c24
              have c24b1 : (t161 != 11) = false := bne_eq_false_iff_eq.mpr c24
              clear c24
              (first | rw [c24b0] | (simp only [i64_w, i32_w]; rw [c24b0]) | skip)
              by_cases c25 : t158.toList = ([] : List UInt8)
              · rw [if_pos c25] at H
                have c25b0 : (t158.toList == ([] : List UInt8)) = true := beq_iff_eq.mpr c25
                have c25b1 : (t158.toList != ([] : List UInt8)) = false := bne_eq_false_iff_eq.mpr c25
                clear c25
                by_cases c26 : t160 < 0
                · rw [if_pos c26] at H
                  have c26b0 : decide (t160 < 0) = true := decide_eq_true c26
                  clear c26
                  have H' := Aside0.mk H
                  clear H
                  go_wp2_with (first | ((with_reducible refine gate_callee (f := 15) rfl ?_); refine goesL_ (some 50) rfl rfl Tryd.func15 (by kernel_rfl) rfl #[.int .i64 t159] rfl (by (try simp only [List.map_toArray, List.map_cons, List.map_nil]); first | done | rfl | (simp only [List.length_drop, List.length_take]; rfl)) ?_; (with_reducible refine (rosterlaw01_num.calls t159 t161 _ A23.out).mono ?_); rintro e w' ⟨rfl, ⟨nd, rfl⟩⟩; refine ⟨_, rfl, ?_⟩))
                  go_meet
                  case rel => exact ⟨_, (true), (by first | rfl | (simp; done) | (simp [*]; done)), H', ⟨by have := HJ4.out; first | omega | exact Nat.le_refl _⟩, ⟨by repeat (first | (with_reducible first | exact HB.out | apply below_alloc | apply pw_below_drewN | apply below_drew1) | exact HB.out)⟩⟩
                · rw [if_neg c26] at H
                  have c26b0 : decide (t160 < 0) = false := decide_eq_false c26
                  clear c26
                  have H' := Aside0.mk H
                  clear H
                  go_wp2_with (first | ((with_reducible refine gate_callee (f := 15) rfl ?_); refine goesL_ (some 50) rfl rfl Tryd.func15 (by kernel_rfl) rfl #[.int .i64 t159] rfl (by (try simp only [List.map_toArray, List.map_cons, List.map_nil]); first | done | rfl | (simp only [List.length_drop, List.length_take]; rfl)) ?_; (with_reducible refine (rosterlaw01_num.calls t159 t161 _ A23.out).mono ?_); rintro e w' ⟨rfl, ⟨nd, rfl⟩⟩; refine ⟨_, rfl, ?_⟩))
                  go_meet
                  case rel => exact ⟨_, (decide (t160 > (a0.size : Int))), (by first | rfl | (simp; done) | (simp [*]; done)), H', ⟨by have := HJ4.out; first | omega | exact Nat.le_refl _⟩, ⟨by repeat (first | (with_reducible first | exact HB.out | apply below_alloc | apply pw_below_drewN | apply below_drew1) | exact HB.out)⟩⟩
              · rw [if_neg c25] at H
                have c25b0 : (t158.toList == ([] : List UInt8)) = false := beq_eq_false_iff_ne.mpr c25
                have c25b1 : (t158.toList != ([] : List UInt8)) = true := bne_iff_ne.mpr c25
                have H' := Aside0.mk H
                clear H
                go_wp2_with (first | ((with_reducible refine gate_callee (f := 15) rfl ?_); refine goesL_ (some 50) rfl rfl Tryd.func15 (by kernel_rfl) rfl #[.int .i64 t159] rfl (by (try simp only [List.map_toArray, List.map_cons, List.map_nil]); first | done | rfl | (simp only [List.length_drop, List.length_take]; rfl)) ?_; (with_reducible refine (rosterlaw01_num.calls t159 t161 _ A23.out).mono ?_); rintro e w' ⟨rfl, ⟨nd, rfl⟩⟩; refine ⟨_, rfl, ?_⟩))
                go_meet
                case rel => exact ⟨_, (true), (by first | rfl | (simp; done) | (simp [*]; done)), H', ⟨by have := HJ4.out; first | omega | exact Nat.le_refl _⟩, ⟨by repeat (first | (with_reducible first | exact HB.out | apply below_alloc | apply pw_below_drewN | apply below_drew1) | exact HB.out)⟩⟩
            · rw [if_neg c24] at H
              have c24b0 : (t161 == 11) = false := beq_eq_false_iff_ne.mpr c24
              have c24b1 : (t161 != 11) = true := bne_iff_ne.mpr c24
              (first | rw [c24b0] | (simp only [i64_w, i32_w]; rw [c24b0]) | skip)
              have H' := Aside0.mk H
              clear H
              go_wp2_with (first | ((with_reducible refine gate_callee (f := 15) rfl ?_); refine goesL_ (some 50) rfl rfl Tryd.func15 (by kernel_rfl) rfl #[.int .i64 t159] rfl (by (try simp only [List.map_toArray, List.map_cons, List.map_nil]); first | done | rfl | (simp only [List.length_drop, List.length_take]; rfl)) ?_; (with_reducible refine (rosterlaw01_num.calls t159 t161 _ A23.out).mono ?_); rintro e w' ⟨rfl, ⟨nd, rfl⟩⟩; refine ⟨_, rfl, ?_⟩))
              go_meet
              case rel => exact ⟨_, (true), (by first | rfl | (simp; done) | (simp [*]; done)), H', ⟨by have := HJ4.out; first | omega | exact Nat.le_refl _⟩, ⟨by repeat (first | (with_reducible first | exact HB.out | apply below_alloc | apply pw_below_drewN | apply below_drew1) | exact HB.out)⟩⟩
          case rest =>
            clear HC21
            try clear c1
            try clear c2
            try clear p2
            try clear c6
            try clear c9
            try clear c9b0
            try clear c9b1
            try clear c10
            try clear c13
            try clear c13b0
            try clear c13b1
            try clear c14
            try clear c14b0
            try clear c14b1
            try clear c15
            try clear c24
            try clear c24b0
            try clear c24b1
            try clear c25
            try clear c25b0
            try clear c25b1
            try clear c26
            try clear c26b0
            try clear p2
            obtain ⟨kq, x65_20, rfl, HA, HJ20, HB⟩ := hcut
            cases kq with
            | zero => exact absurd HA.out (by simp [rosterlaw01_TextHexOnly.j1])
            | succ kj20 =>
              have H := HA.out
              clear HA
              simp only [rosterlaw01_TextHexOnly.j1] at H
              by_cases c27 : x65_20 = true
              · subst c27
                have H1 : (some false) = some r := by rw [if_pos rfl] at H; exact H
                clear H
                have H := H1
                clear H1
                obtain rfl := Option.some.inj H
                go_wp2
                go_ret
                exact ⟨by first | rfl | (simp [errW_none, errW_some] <;> rfl) | (simp [*, errW_none, errW_some] <;> rfl), by repeat (first | (with_reducible first | exact HB.out | apply below_alloc | apply pw_below_drewN | apply below_drew1) | exact HB.out)⟩
              · replace c27 := Bool.eq_false_iff.mpr c27
                subst c27
                have H1 : (rosterlaw01_TextHexOnly.l0 kj20 a0 t160 0) = some r := by rw [if_neg (show ¬ (false = true) by decide)] at H; exact H
                clear H
                have H := H1
                clear H1
                have H' := Aside0.mk H
                clear H
                go_wp2
                go_loopg [11] kj20 (fun kq v11 w' => ∃ (x11_3 : Int), v11 = .int .i64 x11_3 ∧ Aside0 (rosterlaw01_TextHexOnly.l0 kq a0 t160 x11_3 = some r) ∧ Aside0 (kq ≤ kj20) ∧ Aside0 (Below w.heap.size w w'))
                case atStart => exact ⟨(0), (by first | rfl | (simp; done) | (simp [*]; done)), H', ⟨Nat.le_refl _⟩, ⟨by repeat (first | (with_reducible first | exact HB.out | apply below_alloc | apply pw_below_drewN | apply below_drew1) | exact HB.out)⟩⟩
                case round =>
                  clear H'
                  try clear c1
                  try clear c2
                  try clear p2
                  try clear c6
                  try clear c9
                  try clear c9b0
                  try clear c9b1
                  try clear c10
                  try clear c13
                  try clear c13b0
                  try clear c13b1
                  try clear c14
                  try clear c14b0
                  try clear c14b1
                  try clear c15
                  try clear c24
                  try clear c24b0
                  try clear c24b1
                  try clear c25
                  try clear c25b0
                  try clear c25b1
                  try clear c26
                  try clear c26b0
                  try clear c27
                  try clear p2
                  obtain ⟨x11_3, rfl, HA, HK3, HB⟩ := hrel
                  cases gk with
                  | zero => exact absurd HA.out (by simp [rosterlaw01_TextHexOnly.l0])
                  | succ k3 =>
                    have H := HA.out
                    clear HA
                    simp only [rosterlaw01_TextHexOnly.l0] at H
                    by_cases c28 : x11_3 < t160
                    · rw [if_pos c28] at H
                      have c28b0 : decide (x11_3 < t160) = true := decide_eq_true c28
                      clear c28
                      by_cases c29 : 0 ≤ x11_3
                      · rw [if_pos c29] at H
                        have c29b0 : decide (0 ≤ x11_3) = true := decide_eq_true c29
                        clear c29
                        by_cases c30 : x11_3 < (a0.size : Int)
                        · rw [if_pos c30] at H
                          have c30b0 : decide (x11_3 < (a0.size : Int)) = true := decide_eq_true c30
                          clear c30
                          by_cases c32 : (bt a0 x11_3) < 48
                          · rw [if_pos c32] at H
                            have c32b0 : decide ((bt a0 x11_3) < 48) = true := decide_eq_true c32
                            clear c32
                            by_cases c33 : (bt a0 x11_3) < 97
                            · rw [if_pos c33] at H
                              have c33b0 : decide ((bt a0 x11_3) < 97) = true := decide_eq_true c33
                              clear c33
                              by_cases c34 : (bt a0 x11_3) < 65
                              · rw [if_pos c34] at H
                                have c34b0 : decide ((bt a0 x11_3) < 65) = true := decide_eq_true c34
                                clear c34
                                obtain rfl := Option.some.inj H
                                have p31 : 0 ≤ (x11_3 : Int) := of_decide_eq_true (by first | (with_reducible assumption) | assumption)
                                have q31 : x11_3 < (a0.size : Int) := of_decide_eq_true (by first | (with_reducible assumption) | assumption)
                                have hx31 := bt_at a0 x11_3
                                replace p31 := eq_true p31
                                replace q31 := eq_true q31
                                go_wp2
                                go_ret
                                exact ⟨by first | rfl | (simp [errW_none, errW_some] <;> rfl) | (simp [*, errW_none, errW_some] <;> rfl), by repeat (first | (with_reducible first | exact HB.out | apply below_alloc | apply pw_below_drewN | apply below_drew1) | exact HB.out)⟩
                              · rw [if_neg c34] at H
                                have c34b0 : decide ((bt a0 x11_3) < 65) = false := decide_eq_false c34
                                clear c34
                                by_cases c35 : (bt a0 x11_3) > 70
                                · rw [if_pos c35] at H
                                  have c35b0 : decide (70 < (bt a0 x11_3)) = true := decide_eq_true c35
                                  clear c35
                                  obtain rfl := Option.some.inj H
                                  have p31 : 0 ≤ (x11_3 : Int) := of_decide_eq_true (by first | (with_reducible assumption) | assumption)
                                  have q31 : x11_3 < (a0.size : Int) := of_decide_eq_true (by first | (with_reducible assumption) | assumption)
                                  have hx31 := bt_at a0 x11_3
                                  replace p31 := eq_true p31
                                  replace q31 := eq_true q31
                                  go_wp2
                                  go_ret
                                  exact ⟨by first | rfl | (simp [errW_none, errW_some] <;> rfl) | (simp [*, errW_none, errW_some] <;> rfl), by repeat (first | (with_reducible first | exact HB.out | apply below_alloc | apply pw_below_drewN | apply below_drew1) | exact HB.out)⟩
                                · rw [if_neg c35] at H
                                  have c35b0 : decide (70 < (bt a0 x11_3)) = false := decide_eq_false c35
                                  clear c35
                                  have H' := Aside0.mk H
                                  clear H
                                  have p31 : 0 ≤ (x11_3 : Int) := of_decide_eq_true (by first | (with_reducible assumption) | assumption)
                                  have q31 : x11_3 < (a0.size : Int) := of_decide_eq_true (by first | (with_reducible assumption) | assumption)
                                  have hx31 := bt_at a0 x11_3
                                  replace p31 := eq_true p31
                                  replace q31 := eq_true q31
                                  go_wp2
                                  go_roundg k3
                                  case measure => have := HJ4.out; have := HJ20.out; have := HK3.out; omega
                                  case rel => exact ⟨(wrap64 (x11_3 + 1)), (by first | rfl | (simp; done) | (simp [*]; done)), H', ⟨by have := HJ4.out; have := HJ20.out; have := HK3.out; omega⟩, ⟨by repeat (first | (with_reducible first | exact HB.out | apply below_alloc | apply pw_below_drewN | apply below_drew1) | exact HB.out)⟩⟩
                            · rw [if_neg c33] at H
                              have c33b0 : decide ((bt a0 x11_3) < 97) = false := decide_eq_false c33
                              clear c33
                              by_cases c36 : (bt a0 x11_3) > 102
                              · rw [if_pos c36] at H
                                have c36b0 : decide (102 < (bt a0 x11_3)) = true := decide_eq_true c36
                                clear c36
                                by_cases c37 : (bt a0 x11_3) < 65
                                · rw [if_pos c37] at H
                                  have c37b0 : decide ((bt a0 x11_3) < 65) = true := decide_eq_true c37
                                  clear c37
                                  obtain rfl := Option.some.inj H
                                  have p31 : 0 ≤ (x11_3 : Int) := of_decide_eq_true (by first | (with_reducible assumption) | assumption)
                                  have q31 : x11_3 < (a0.size : Int) := of_decide_eq_true (by first | (with_reducible assumption) | assumption)
                                  have hx31 := bt_at a0 x11_3
                                  replace p31 := eq_true p31
                                  replace q31 := eq_true q31
                                  go_wp2
                                  go_ret
                                  exact ⟨by first | rfl | (simp [errW_none, errW_some] <;> rfl) | (simp [*, errW_none, errW_some] <;> rfl), by repeat (first | (with_reducible first | exact HB.out | apply below_alloc | apply pw_below_drewN | apply below_drew1) | exact HB.out)⟩
                                · rw [if_neg c37] at H
                                  have c37b0 : decide ((bt a0 x11_3) < 65) = false := decide_eq_false c37
                                  clear c37
                                  by_cases c38 : (bt a0 x11_3) > 70
                                  · rw [if_pos c38] at H
                                    have c38b0 : decide (70 < (bt a0 x11_3)) = true := decide_eq_true c38
                                    clear c38
                                    obtain rfl := Option.some.inj H
                                    have p31 : 0 ≤ (x11_3 : Int) := of_decide_eq_true (by first | (with_reducible assumption) | assumption)
                                    have q31 : x11_3 < (a0.size : Int) := of_decide_eq_true (by first | (with_reducible assumption) | assumption)
                                    have hx31 := bt_at a0 x11_3
                                    replace p31 := eq_true p31
                                    replace q31 := eq_true q31
                                    go_wp2
                                    go_ret
                                    exact ⟨by first | rfl | (simp [errW_none, errW_some] <;> rfl) | (simp [*, errW_none, errW_some] <;> rfl), by repeat (first | (with_reducible first | exact HB.out | apply below_alloc | apply pw_below_drewN | apply below_drew1) | exact HB.out)⟩
                                  · rw [if_neg c38] at H
                                    have c38b0 : decide (70 < (bt a0 x11_3)) = false := decide_eq_false c38
                                    clear c38
                                    have H' := Aside0.mk H
                                    clear H
                                    have p31 : 0 ≤ (x11_3 : Int) := of_decide_eq_true (by first | (with_reducible assumption) | assumption)
                                    have q31 : x11_3 < (a0.size : Int) := of_decide_eq_true (by first | (with_reducible assumption) | assumption)
                                    have hx31 := bt_at a0 x11_3
                                    replace p31 := eq_true p31
                                    replace q31 := eq_true q31
                                    go_wp2
                                    go_roundg k3
                                    case measure => have := HJ4.out; have := HJ20.out; have := HK3.out; omega
                                    case rel => exact ⟨(wrap64 (x11_3 + 1)), (by first | rfl | (simp; done) | (simp [*]; done)), H', ⟨by have := HJ4.out; have := HJ20.out; have := HK3.out; omega⟩, ⟨by repeat (first | (with_reducible first | exact HB.out | apply below_alloc | apply pw_below_drewN | apply below_drew1) | exact HB.out)⟩⟩
                              · rw [if_neg c36] at H
                                have c36b0 : decide (102 < (bt a0 x11_3)) = false := decide_eq_false c36
                                clear c36
                                have H' := Aside0.mk H
                                clear H
                                have p31 : 0 ≤ (x11_3 : Int) := of_decide_eq_true (by first | (with_reducible assumption) | assumption)
                                have q31 : x11_3 < (a0.size : Int) := of_decide_eq_true (by first | (with_reducible assumption) | assumption)
                                have hx31 := bt_at a0 x11_3
                                replace p31 := eq_true p31
                                replace q31 := eq_true q31
                                go_wp2
                                go_roundg k3
                                case measure => have := HJ4.out; have := HJ20.out; have := HK3.out; omega
                                case rel => exact ⟨(wrap64 (x11_3 + 1)), (by first | rfl | (simp; done) | (simp [*]; done)), H', ⟨by have := HJ4.out; have := HJ20.out; have := HK3.out; omega⟩, ⟨by repeat (first | (with_reducible first | exact HB.out | apply below_alloc | apply pw_below_drewN | apply below_drew1) | exact HB.out)⟩⟩
                          · rw [if_neg c32] at H
                            have c32b0 : decide ((bt a0 x11_3) < 48) = false := decide_eq_false c32
                            clear c32
                            by_cases c39 : (bt a0 x11_3) > 57
                            · rw [if_pos c39] at H
                              have c39b0 : decide (57 < (bt a0 x11_3)) = true := decide_eq_true c39
                              clear c39
                              by_cases c40 : (bt a0 x11_3) < 97
                              · rw [if_pos c40] at H
                                have c40b0 : decide ((bt a0 x11_3) < 97) = true := decide_eq_true c40
                                clear c40
                                by_cases c41 : (bt a0 x11_3) < 65
                                · rw [if_pos c41] at H
                                  have c41b0 : decide ((bt a0 x11_3) < 65) = true := decide_eq_true c41
                                  clear c41
                                  obtain rfl := Option.some.inj H
                                  have p31 : 0 ≤ (x11_3 : Int) := of_decide_eq_true (by first | (with_reducible assumption) | assumption)
                                  have q31 : x11_3 < (a0.size : Int) := of_decide_eq_true (by first | (with_reducible assumption) | assumption)
                                  have hx31 := bt_at a0 x11_3
                                  replace p31 := eq_true p31
                                  replace q31 := eq_true q31
                                  go_wp2
                                  go_ret
                                  exact ⟨by first | rfl | (simp [errW_none, errW_some] <;> rfl) | (simp [*, errW_none, errW_some] <;> rfl), by repeat (first | (with_reducible first | exact HB.out | apply below_alloc | apply pw_below_drewN | apply below_drew1) | exact HB.out)⟩
                                · rw [if_neg c41] at H
                                  have c41b0 : decide ((bt a0 x11_3) < 65) = false := decide_eq_false c41
                                  clear c41
                                  by_cases c42 : (bt a0 x11_3) > 70
                                  · rw [if_pos c42] at H
                                    have c42b0 : decide (70 < (bt a0 x11_3)) = true := decide_eq_true c42
                                    clear c42
                                    obtain rfl := Option.some.inj H
                                    have p31 : 0 ≤ (x11_3 : Int) := of_decide_eq_true (by first | (with_reducible assumption) | assumption)
                                    have q31 : x11_3 < (a0.size : Int) := of_decide_eq_true (by first | (with_reducible assumption) | assumption)
                                    have hx31 := bt_at a0 x11_3
                                    replace p31 := eq_true p31
                                    replace q31 := eq_true q31
                                    go_wp2
                                    go_ret
                                    exact ⟨by first | rfl | (simp [errW_none, errW_some] <;> rfl) | (simp [*, errW_none, errW_some] <;> rfl), by repeat (first | (with_reducible first | exact HB.out | apply below_alloc | apply pw_below_drewN | apply below_drew1) | exact HB.out)⟩
                                  · rw [if_neg c42] at H
                                    have c42b0 : decide (70 < (bt a0 x11_3)) = false := decide_eq_false c42
                                    clear c42
                                    have H' := Aside0.mk H
                                    clear H
                                    have p31 : 0 ≤ (x11_3 : Int) := of_decide_eq_true (by first | (with_reducible assumption) | assumption)
                                    have q31 : x11_3 < (a0.size : Int) := of_decide_eq_true (by first | (with_reducible assumption) | assumption)
                                    have hx31 := bt_at a0 x11_3
                                    replace p31 := eq_true p31
                                    replace q31 := eq_true q31
                                    go_wp2
                                    go_roundg k3
                                    case measure => have := HJ4.out; have := HJ20.out; have := HK3.out; omega
                                    case rel => exact ⟨(wrap64 (x11_3 + 1)), (by first | rfl | (simp; done) | (simp [*]; done)), H', ⟨by have := HJ4.out; have := HJ20.out; have := HK3.out; omega⟩, ⟨by repeat (first | (with_reducible first | exact HB.out | apply below_alloc | apply pw_below_drewN | apply below_drew1) | exact HB.out)⟩⟩
                              · rw [if_neg c40] at H
                                have c40b0 : decide ((bt a0 x11_3) < 97) = false := decide_eq_false c40
                                clear c40
                                by_cases c43 : (bt a0 x11_3) > 102
                                · rw [if_pos c43] at H
                                  have c43b0 : decide (102 < (bt a0 x11_3)) = true := decide_eq_true c43
                                  clear c43
                                  by_cases c44 : (bt a0 x11_3) < 65
                                  · rw [if_pos c44] at H
                                    have c44b0 : decide ((bt a0 x11_3) < 65) = true := decide_eq_true c44
                                    clear c44
                                    obtain rfl := Option.some.inj H
                                    have p31 : 0 ≤ (x11_3 : Int) := of_decide_eq_true (by first | (with_reducible assumption) | assumption)
                                    have q31 : x11_3 < (a0.size : Int) := of_decide_eq_true (by first | (with_reducible assumption) | assumption)
                                    have hx31 := bt_at a0 x11_3
                                    replace p31 := eq_true p31
                                    replace q31 := eq_true q31
                                    go_wp2
                                    go_ret
                                    exact ⟨by first | rfl | (simp [errW_none, errW_some] <;> rfl) | (simp [*, errW_none, errW_some] <;> rfl), by repeat (first | (with_reducible first | exact HB.out | apply below_alloc | apply pw_below_drewN | apply below_drew1) | exact HB.out)⟩
                                  · rw [if_neg c44] at H
                                    have c44b0 : decide ((bt a0 x11_3) < 65) = false := decide_eq_false c44
                                    clear c44
                                    by_cases c45 : (bt a0 x11_3) > 70
                                    · rw [if_pos c45] at H
                                      have c45b0 : decide (70 < (bt a0 x11_3)) = true := decide_eq_true c45
                                      clear c45
                                      obtain rfl := Option.some.inj H
                                      have p31 : 0 ≤ (x11_3 : Int) := of_decide_eq_true (by first | (with_reducible assumption) | assumption)
                                      have q31 : x11_3 < (a0.size : Int) := of_decide_eq_true (by first | (with_reducible assumption) | assumption)
                                      have hx31 := bt_at a0 x11_3
                                      replace p31 := eq_true p31
                                      replace q31 := eq_true q31
                                      go_wp2
                                      go_ret
                                      exact ⟨by first | rfl | (simp [errW_none, errW_some] <;> rfl) | (simp [*, errW_none, errW_some] <;> rfl), by repeat (first | (with_reducible first | exact HB.out | apply below_alloc | apply pw_below_drewN | apply below_drew1) | exact HB.out)⟩
                                    · rw [if_neg c45] at H
                                      have c45b0 : decide (70 < (bt a0 x11_3)) = false := decide_eq_false c45
                                      clear c45
                                      have H' := Aside0.mk H
                                      clear H
                                      have p31 : 0 ≤ (x11_3 : Int) := of_decide_eq_true (by first | (with_reducible assumption) | assumption)
                                      have q31 : x11_3 < (a0.size : Int) := of_decide_eq_true (by first | (with_reducible assumption) | assumption)
                                      have hx31 := bt_at a0 x11_3
                                      replace p31 := eq_true p31
                                      replace q31 := eq_true q31
                                      go_wp2
                                      go_roundg k3
                                      case measure => have := HJ4.out; have := HJ20.out; have := HK3.out; omega
                                      case rel => exact ⟨(wrap64 (x11_3 + 1)), (by first | rfl | (simp; done) | (simp [*]; done)), H', ⟨by have := HJ4.out; have := HJ20.out; have := HK3.out; omega⟩, ⟨by repeat (first | (with_reducible first | exact HB.out | apply below_alloc | apply pw_below_drewN | apply below_drew1) | exact HB.out)⟩⟩
                                · rw [if_neg c43] at H
                                  have c43b0 : decide (102 < (bt a0 x11_3)) = false := decide_eq_false c43
                                  clear c43
                                  have H' := Aside0.mk H
                                  clear H
                                  have p31 : 0 ≤ (x11_3 : Int) := of_decide_eq_true (by first | (with_reducible assumption) | assumption)
                                  have q31 : x11_3 < (a0.size : Int) := of_decide_eq_true (by first | (with_reducible assumption) | assumption)
                                  have hx31 := bt_at a0 x11_3
                                  replace p31 := eq_true p31
                                  replace q31 := eq_true q31
                                  go_wp2
                                  go_roundg k3
                                  case measure => have := HJ4.out; have := HJ20.out; have := HK3.out; omega
                                  case rel => exact ⟨(wrap64 (x11_3 + 1)), (by first | rfl | (simp; done) | (simp [*]; done)), H', ⟨by have := HJ4.out; have := HJ20.out; have := HK3.out; omega⟩, ⟨by repeat (first | (with_reducible first | exact HB.out | apply below_alloc | apply pw_below_drewN | apply below_drew1) | exact HB.out)⟩⟩
                            · rw [if_neg c39] at H
                              have c39b0 : decide (57 < (bt a0 x11_3)) = false := decide_eq_false c39
                              clear c39
                              have H' := Aside0.mk H
                              clear H
                              have p31 : 0 ≤ (x11_3 : Int) := of_decide_eq_true (by first | (with_reducible assumption) | assumption)
                              have q31 : x11_3 < (a0.size : Int) := of_decide_eq_true (by first | (with_reducible assumption) | assumption)
                              have hx31 := bt_at a0 x11_3
                              replace p31 := eq_true p31
                              replace q31 := eq_true q31
                              go_wp2
                              go_roundg k3
                              case measure => have := HJ4.out; have := HJ20.out; have := HK3.out; omega
                              case rel => exact ⟨(wrap64 (x11_3 + 1)), (by first | rfl | (simp; done) | (simp [*]; done)), H', ⟨by have := HJ4.out; have := HJ20.out; have := HK3.out; omega⟩, ⟨by repeat (first | (with_reducible first | exact HB.out | apply below_alloc | apply pw_below_drewN | apply below_drew1) | exact HB.out)⟩⟩
                        · rw [if_neg c30] at H
                          exact absurd H (by simp)
                      · rw [if_neg c29] at H
                        exact absurd H (by simp)
                    · rw [if_neg c28] at H
                      have c28b0 : decide (x11_3 < t160) = false := decide_eq_false c28
                      clear c28
                      by_cases c46 : t160 = (a0.size : Int)
                      · rw [if_pos c46] at H
                        have c46b0 : (t160 == (a0.size : Int)) = true := beq_iff_eq.mpr c46
                        have c46b1 : (t160 != (a0.size : Int)) = false := bne_eq_false_iff_eq.mpr c46
                        clear c46
                        obtain rfl := Option.some.inj H
                        go_wp2
                        go_ret
                        exact ⟨by first | rfl | (simp [errW_none, errW_some] <;> rfl) | (simp [*, errW_none, errW_some] <;> rfl), by repeat (first | (with_reducible first | exact HB.out | apply below_alloc | apply pw_below_drewN | apply below_drew1) | exact HB.out)⟩
                      · rw [if_neg c46] at H
                        have c46b0 : (t160 == (a0.size : Int)) = false := beq_eq_false_iff_ne.mpr c46
                        have c46b1 : (t160 != (a0.size : Int)) = true := bne_iff_ne.mpr c46
                        by_cases c47 : 0 ≤ t160
                        · rw [if_pos c47] at H
                          have c47b0 : decide (0 ≤ t160) = true := decide_eq_true c47
                          clear c47
                          by_cases c48 : t160 < (a0.size : Int)
                          · rw [if_pos c48] at H
                            have c48b0 : decide (t160 < (a0.size : Int)) = true := decide_eq_true c48
                            clear c48
                            by_cases c50 : (bt a0 t160) < 48
                            · rw [if_pos c50] at H
                              have c50b0 : decide ((bt a0 t160) < 48) = true := decide_eq_true c50
                              clear c50
                              by_cases c51 : (bt a0 t160) < 97
                              · rw [if_pos c51] at H
                                have c51b0 : decide ((bt a0 t160) < 97) = true := decide_eq_true c51
                                clear c51
                                by_cases c52 : (bt a0 t160) < 65
                                · rw [if_pos c52] at H
                                  have c52b0 : decide ((bt a0 t160) < 65) = true := decide_eq_true c52
                                  clear c52
                                  obtain rfl := Option.some.inj H
                                  have p49 : 0 ≤ (t160 : Int) := of_decide_eq_true (by first | (with_reducible assumption) | assumption)
                                  have q49 : t160 < (a0.size : Int) := of_decide_eq_true (by first | (with_reducible assumption) | assumption)
                                  have hx49 := bt_at a0 t160
                                  replace p49 := eq_true p49
                                  replace q49 := eq_true q49
                                  go_wp2
                                  go_ret
                                  exact ⟨by first | rfl | (simp [errW_none, errW_some] <;> rfl) | (simp [*, errW_none, errW_some] <;> rfl), by repeat (first | (with_reducible first | exact HB.out | apply below_alloc | apply pw_below_drewN | apply below_drew1) | exact HB.out)⟩
                                · rw [if_neg c52] at H
                                  have c52b0 : decide ((bt a0 t160) < 65) = false := decide_eq_false c52
                                  clear c52
                                  obtain rfl := Option.some.inj H
                                  have p49 : 0 ≤ (t160 : Int) := of_decide_eq_true (by first | (with_reducible assumption) | assumption)
                                  have q49 : t160 < (a0.size : Int) := of_decide_eq_true (by first | (with_reducible assumption) | assumption)
                                  have hx49 := bt_at a0 t160
                                  replace p49 := eq_true p49
                                  replace q49 := eq_true q49
                                  go_wp2
                                  go_ret
                                  exact ⟨by first | rfl | (simp [errW_none, errW_some] <;> rfl) | (simp [*, errW_none, errW_some] <;> rfl), by repeat (first | (with_reducible first | exact HB.out | apply below_alloc | apply pw_below_drewN | apply below_drew1) | exact HB.out)⟩
                              · rw [if_neg c51] at H
                                have c51b0 : decide ((bt a0 t160) < 97) = false := decide_eq_false c51
                                clear c51
                                by_cases c53 : (bt a0 t160) > 102
                                · rw [if_pos c53] at H
                                  have c53b0 : decide (102 < (bt a0 t160)) = true := decide_eq_true c53
                                  clear c53
                                  by_cases c54 : (bt a0 t160) < 65
                                  · rw [if_pos c54] at H
                                    have c54b0 : decide ((bt a0 t160) < 65) = true := decide_eq_true c54
                                    clear c54
                                    obtain rfl := Option.some.inj H
                                    have p49 : 0 ≤ (t160 : Int) := of_decide_eq_true (by first | (with_reducible assumption) | assumption)
                                    have q49 : t160 < (a0.size : Int) := of_decide_eq_true (by first | (with_reducible assumption) | assumption)
                                    have hx49 := bt_at a0 t160
                                    replace p49 := eq_true p49
                                    replace q49 := eq_true q49
                                    go_wp2
                                    go_ret
                                    exact ⟨by first | rfl | (simp [errW_none, errW_some] <;> rfl) | (simp [*, errW_none, errW_some] <;> rfl), by repeat (first | (with_reducible first | exact HB.out | apply below_alloc | apply pw_below_drewN | apply below_drew1) | exact HB.out)⟩
                                  · rw [if_neg c54] at H
                                    have c54b0 : decide ((bt a0 t160) < 65) = false := decide_eq_false c54
                                    clear c54
                                    obtain rfl := Option.some.inj H
                                    have p49 : 0 ≤ (t160 : Int) := of_decide_eq_true (by first | (with_reducible assumption) | assumption)
                                    have q49 : t160 < (a0.size : Int) := of_decide_eq_true (by first | (with_reducible assumption) | assumption)
                                    have hx49 := bt_at a0 t160
                                    replace p49 := eq_true p49
                                    replace q49 := eq_true q49
                                    go_wp2
                                    go_ret
                                    exact ⟨by first | rfl | (simp [errW_none, errW_some] <;> rfl) | (simp [*, errW_none, errW_some] <;> rfl), by repeat (first | (with_reducible first | exact HB.out | apply below_alloc | apply pw_below_drewN | apply below_drew1) | exact HB.out)⟩
                                · rw [if_neg c53] at H
                                  have c53b0 : decide (102 < (bt a0 t160)) = false := decide_eq_false c53
                                  clear c53
                                  obtain rfl := Option.some.inj H
                                  have p49 : 0 ≤ (t160 : Int) := of_decide_eq_true (by first | (with_reducible assumption) | assumption)
                                  have q49 : t160 < (a0.size : Int) := of_decide_eq_true (by first | (with_reducible assumption) | assumption)
                                  have hx49 := bt_at a0 t160
                                  replace p49 := eq_true p49
                                  replace q49 := eq_true q49
                                  go_wp2
                                  go_ret
                                  exact ⟨by first | rfl | (simp [errW_none, errW_some] <;> rfl) | (simp [*, errW_none, errW_some] <;> rfl), by repeat (first | (with_reducible first | exact HB.out | apply below_alloc | apply pw_below_drewN | apply below_drew1) | exact HB.out)⟩
                            · rw [if_neg c50] at H
                              have c50b0 : decide ((bt a0 t160) < 48) = false := decide_eq_false c50
                              clear c50
                              by_cases c55 : (bt a0 t160) > 57
                              · rw [if_pos c55] at H
                                have c55b0 : decide (57 < (bt a0 t160)) = true := decide_eq_true c55
                                clear c55
                                by_cases c56 : (bt a0 t160) < 97
                                · rw [if_pos c56] at H
                                  have c56b0 : decide ((bt a0 t160) < 97) = true := decide_eq_true c56
                                  clear c56
                                  by_cases c57 : (bt a0 t160) < 65
                                  · rw [if_pos c57] at H
                                    have c57b0 : decide ((bt a0 t160) < 65) = true := decide_eq_true c57
                                    clear c57
                                    obtain rfl := Option.some.inj H
                                    have p49 : 0 ≤ (t160 : Int) := of_decide_eq_true (by first | (with_reducible assumption) | assumption)
                                    have q49 : t160 < (a0.size : Int) := of_decide_eq_true (by first | (with_reducible assumption) | assumption)
                                    have hx49 := bt_at a0 t160
                                    replace p49 := eq_true p49
                                    replace q49 := eq_true q49
                                    go_wp2
                                    go_ret
                                    exact ⟨by first | rfl | (simp [errW_none, errW_some] <;> rfl) | (simp [*, errW_none, errW_some] <;> rfl), by repeat (first | (with_reducible first | exact HB.out | apply below_alloc | apply pw_below_drewN | apply below_drew1) | exact HB.out)⟩
                                  · rw [if_neg c57] at H
                                    have c57b0 : decide ((bt a0 t160) < 65) = false := decide_eq_false c57
                                    clear c57
                                    obtain rfl := Option.some.inj H
                                    have p49 : 0 ≤ (t160 : Int) := of_decide_eq_true (by first | (with_reducible assumption) | assumption)
                                    have q49 : t160 < (a0.size : Int) := of_decide_eq_true (by first | (with_reducible assumption) | assumption)
                                    have hx49 := bt_at a0 t160
                                    replace p49 := eq_true p49
                                    replace q49 := eq_true q49
                                    go_wp2
                                    go_ret
                                    exact ⟨by first | rfl | (simp [errW_none, errW_some] <;> rfl) | (simp [*, errW_none, errW_some] <;> rfl), by repeat (first | (with_reducible first | exact HB.out | apply below_alloc | apply pw_below_drewN | apply below_drew1) | exact HB.out)⟩
                                · rw [if_neg c56] at H
                                  have c56b0 : decide ((bt a0 t160) < 97) = false := decide_eq_false c56
                                  clear c56
                                  by_cases c58 : (bt a0 t160) > 102
                                  · rw [if_pos c58] at H
                                    have c58b0 : decide (102 < (bt a0 t160)) = true := decide_eq_true c58
                                    clear c58
                                    by_cases c59 : (bt a0 t160) < 65
                                    · rw [if_pos c59] at H
                                      have c59b0 : decide ((bt a0 t160) < 65) = true := decide_eq_true c59
                                      clear c59
                                      obtain rfl := Option.some.inj H
                                      have p49 : 0 ≤ (t160 : Int) := of_decide_eq_true (by first | (with_reducible assumption) | assumption)
                                      have q49 : t160 < (a0.size : Int) := of_decide_eq_true (by first | (with_reducible assumption) | assumption)
                                      have hx49 := bt_at a0 t160
                                      replace p49 := eq_true p49
                                      replace q49 := eq_true q49
                                      go_wp2
                                      go_ret
                                      exact ⟨by first | rfl | (simp [errW_none, errW_some] <;> rfl) | (simp [*, errW_none, errW_some] <;> rfl), by repeat (first | (with_reducible first | exact HB.out | apply below_alloc | apply pw_below_drewN | apply below_drew1) | exact HB.out)⟩
                                    · rw [if_neg c59] at H
                                      have c59b0 : decide ((bt a0 t160) < 65) = false := decide_eq_false c59
                                      clear c59
                                      obtain rfl := Option.some.inj H
                                      have p49 : 0 ≤ (t160 : Int) := of_decide_eq_true (by first | (with_reducible assumption) | assumption)
                                      have q49 : t160 < (a0.size : Int) := of_decide_eq_true (by first | (with_reducible assumption) | assumption)
                                      have hx49 := bt_at a0 t160
                                      replace p49 := eq_true p49
                                      replace q49 := eq_true q49
                                      go_wp2
                                      go_ret
                                      exact ⟨by first | rfl | (simp [errW_none, errW_some] <;> rfl) | (simp [*, errW_none, errW_some] <;> rfl), by repeat (first | (with_reducible first | exact HB.out | apply below_alloc | apply pw_below_drewN | apply below_drew1) | exact HB.out)⟩
                                  · rw [if_neg c58] at H
                                    have c58b0 : decide (102 < (bt a0 t160)) = false := decide_eq_false c58
                                    clear c58
                                    obtain rfl := Option.some.inj H
                                    have p49 : 0 ≤ (t160 : Int) := of_decide_eq_true (by first | (with_reducible assumption) | assumption)
                                    have q49 : t160 < (a0.size : Int) := of_decide_eq_true (by first | (with_reducible assumption) | assumption)
                                    have hx49 := bt_at a0 t160
                                    replace p49 := eq_true p49
                                    replace q49 := eq_true q49
                                    go_wp2
                                    go_ret
                                    exact ⟨by first | rfl | (simp [errW_none, errW_some] <;> rfl) | (simp [*, errW_none, errW_some] <;> rfl), by repeat (first | (with_reducible first | exact HB.out | apply below_alloc | apply pw_below_drewN | apply below_drew1) | exact HB.out)⟩
                              · rw [if_neg c55] at H
                                have c55b0 : decide (57 < (bt a0 t160)) = false := decide_eq_false c55
                                clear c55
                                obtain rfl := Option.some.inj H
                                have p49 : 0 ≤ (t160 : Int) := of_decide_eq_true (by first | (with_reducible assumption) | assumption)
                                have q49 : t160 < (a0.size : Int) := of_decide_eq_true (by first | (with_reducible assumption) | assumption)
                                have hx49 := bt_at a0 t160
                                replace p49 := eq_true p49
                                replace q49 := eq_true q49
                                go_wp2
                                go_ret
                                exact ⟨by first | rfl | (simp [errW_none, errW_some] <;> rfl) | (simp [*, errW_none, errW_some] <;> rfl), by repeat (first | (with_reducible first | exact HB.out | apply below_alloc | apply pw_below_drewN | apply below_drew1) | exact HB.out)⟩
                          · rw [if_neg c48] at H
                            exact absurd H (by simp)
                        · rw [if_neg c47] at H
                          exact absurd H (by simp)

end Go.Proofs.YtjkhdiphcgpbfaaDoor.X

-- PRINTED by print.py (a twelfth state) out of the translation. Not trusted: Lean checks it.
import Derived.Test.YtppnhlkfkedlmaaDoorX0
import Derived.Test.YtppnhlkfkedlmaaDoorX1
import Derived.Test.YtppnhlkfkedlmaaDoorX2
import Derived.Test.YtppnhlkfkedlmaaDoorX3
namespace Go.Proofs.YtppnhlkfkedlmaaDoor.X
open Go.Proofs.YtppnhlkfkedlmaaDoor.XG
open Go.Proofs.YtppnhlkfkedlmaaDoor.UnZ
open Go.Proofs.YtppnhlkfkedlmaaDoor.FrontW
attribute [local go_sem] Go.Proofs.YtppnhlkfkedlmaaDoor.XW.u8_wrap
open Go.RowKit Go.Proofs.YtppnhlkfkedlmaaDoorW.PrintWords Go.Proofs.YtppnhlkfkedlmaaDoorW.PrintLast Go.Proofs.YtppnhlkfkedlmaaDoorW.PrintMore
attribute [local go_sem] max2_int min2_int max_two min_two max_three min_three max_four min_four   -- for this text's walks alone
set_option linter.unusedVariables false
set_option linter.unusedSimpArgs false

/-! ### rosterlaw01_TextBases: function 3 -/
def rosterlaw01_TextBases.f (k : Nat) (a0 : ByteArray) : Option (Bool) := (text_Base64.f k a0).bind fun t166 => ((rosterref01_Base64.f k a0).bind fun t167 => (if t166.toList = t167.toList then ((rosterlaw01_unbases.f k a0).bind fun t168 => (if t168 = true then ((rosterref01_Base64.f k a0).bind fun t169 => ((rosterlaw01_unbases.f k t169).bind fun t170 => (some t170))) else (some false))) else (some false)))
theorem rosterlaw01_TextBases.mono : ∀ a0 k, LeO (rosterlaw01_TextBases.f k a0) (rosterlaw01_TextBases.f (k + 1) a0) := by
  intro a0 k
  unfold rosterlaw01_TextBases.f
  repeat' first
      | (with_reducible exact rosterlaw01_unbases.mono _ _)
      | (with_reducible exact rosterref01_Base64.mono _ _)
      | (with_reducible exact text_Base64.mono _ _)
      | (with_reducible exact LeO.refl _)
      | (with_reducible exact LeO.none _)
      | (with_reducible refine LeO.ite ?_ ?_)
      | (with_reducible refine LeO.bind ?_ (fun _ => ?_))
      | exact rosterlaw01_unbases.mono _ _
      | exact rosterref01_Base64.mono _ _
      | exact text_Base64.mono _ _
      | exact LeO.none _
      | refine LeO.ite ?_ ?_
      | refine LeO.bind ?_ (fun _ => ?_)
set_option maxHeartbeats 8000000 in
set_option maxRecDepth 100000 in
theorem rosterlaw01_TextBases.calls (k : Nat) (a0 : ByteArray) (r : Bool) (w : World) (hG : Tabs w) (h : rosterlaw01_TextBases.f k a0 = some r) :
    Calls Tryd.prog 3 #[.string a0] w fun e w' => e = .returned (.bool r) ∧ Below w.heap.size w w' := by
  have HB := Aside0.mk (Below.refl w.heap.size w)
  have H : ((text_Base64.f k a0).bind fun t166 => ((rosterref01_Base64.f k a0).bind fun t167 => (if t166.toList = t167.toList then ((rosterlaw01_unbases.f k a0).bind fun t168 => (if t168 = true then ((rosterref01_Base64.f k a0).bind fun t169 => ((rosterlaw01_unbases.f k t169).bind fun t170 => (some t170))) else (some false))) else (some false)))) = some r := h
  clear h
  replace H := Option.bind_eq_some_iff.mp H
  obtain ⟨t166, A20, H⟩ := H
  replace H : ((rosterref01_Base64.f k a0).bind fun t167 => (if t166.toList = t167.toList then ((rosterlaw01_unbases.f k a0).bind fun t168 => (if t168 = true then ((rosterref01_Base64.f k a0).bind fun t169 => ((rosterlaw01_unbases.f k t169).bind fun t170 => (some t170))) else (some false))) else (some false))) = some r := H
  have A2 := Aside0.mk A20
  clear A20
  replace H := Option.bind_eq_some_iff.mp H
  obtain ⟨t167, A30, H⟩ := H
  replace H : (if t166.toList = t167.toList then ((rosterlaw01_unbases.f k a0).bind fun t168 => (if t168 = true then ((rosterref01_Base64.f k a0).bind fun t169 => ((rosterlaw01_unbases.f k t169).bind fun t170 => (some t170))) else (some false))) else (some false)) = some r := H
  have A3 := Aside0.mk A30
  clear A30
  by_cases c4 : t166.toList = t167.toList
  · rw [if_pos c4] at H
    have c4b0 : (t166.toList == t167.toList) = true := beq_iff_eq.mpr c4
    have c4b1 : (t166.toList != t167.toList) = false := bne_eq_false_iff_eq.mpr c4
    clear c4
    replace H := Option.bind_eq_some_iff.mp H
    obtain ⟨t168, A50, H⟩ := H
    replace H : (if t168 = true then ((rosterref01_Base64.f k a0).bind fun t169 => ((rosterlaw01_unbases.f k t169).bind fun t170 => (some t170))) else (some false)) = some r := H
    have A5 := Aside0.mk A50
    clear A50
    by_cases c6 : t168 = true
    · subst c6
      have H1 : ((rosterref01_Base64.f k a0).bind fun t169 => ((rosterlaw01_unbases.f k t169).bind fun t170 => (some t170))) = some r := by rw [if_pos rfl] at H; exact H
      clear H
      have H := H1
      clear H1
      replace H := Option.bind_eq_some_iff.mp H
      obtain ⟨t169, A70, H⟩ := H
      obtain rfl : t167 = t169 := Option.some.inj (A3.out.symm.trans A70)
      replace H : ((rosterlaw01_unbases.f k t167).bind fun t170 => (some t170)) = some r := H
      have A7 := Aside0.mk A70
      clear A70
      replace H := Option.bind_eq_some_iff.mp H
      obtain ⟨t170, A80, H⟩ := H
      replace H : (some t170) = some r := H
      have A8 := Aside0.mk A80
      clear A80
      obtain rfl := Option.some.inj H
      go_enter Tryd.func3, Tryd.ntmps3
      go_wp2_with (first | ((with_reducible refine gate_callee (f := 7) rfl ?_); refine goesL_ (some 4) rfl rfl Tryd.func7 (by kernel_rfl) rfl #[.string a0] rfl (by (try simp only [List.map_toArray, List.map_cons, List.map_nil]); first | done | rfl | (simp only [List.length_drop, List.length_take]; rfl)) ?_; (with_reducible refine (text_Base64.calls k a0 t166 _ (Tabs_at hG (by repeat (first | (with_reducible first | exact HB.out | exact Below.refl _ _ | apply below_alloc | apply pw_below_drewN | apply below_drew1) | exact HB.out | exact Below.refl _ _))) A2.out).mono ?_); rintro e w9 ⟨rfl, hb⟩; refine ⟨_, rfl, ?_⟩; have n0_ := Aside0.mk (below_step (by repeat (first | (with_reducible first | exact HB.out | apply below_alloc | apply pw_below_drewN | apply below_drew1) | exact HB.out)) hb); clear HB; have HB := n0_; clear n0_; (try clear hb); (try clear hb2); (try clear hk); (try clear hi)) | ((with_reducible refine gate_callee (f := 8) rfl ?_); refine goesL_ (some 6) rfl rfl Tryd.func8 (by kernel_rfl) rfl #[.string a0] rfl (by (try simp only [List.map_toArray, List.map_cons, List.map_nil]); first | done | rfl | (simp only [List.length_drop, List.length_take]; rfl)) ?_; (with_reducible refine (rosterref01_Base64.calls k a0 t167 _ A3.out).mono ?_); rintro e w10 ⟨rfl, hb⟩; refine ⟨_, rfl, ?_⟩; have n0_ := Aside0.mk (below_step (by repeat (first | (with_reducible first | exact HB.out | apply below_alloc | apply pw_below_drewN | apply below_drew1) | exact HB.out)) hb); clear HB; have HB := n0_; clear n0_; (try clear hb); (try clear hb2); (try clear hk); (try clear hi)) | ((with_reducible refine gate_callee (f := 9) rfl ?_); refine goesL_ (some 9) rfl rfl Tryd.func9 (by kernel_rfl) rfl #[.string a0] rfl (by (try simp only [List.map_toArray, List.map_cons, List.map_nil]); first | done | rfl | (simp only [List.length_drop, List.length_take]; rfl)) ?_; (with_reducible refine (rosterlaw01_unbases.calls k a0 true _ A5.out).mono ?_); rintro e w11 ⟨rfl, hb⟩; refine ⟨_, rfl, ?_⟩; have n0_ := Aside0.mk (below_step (by repeat (first | (with_reducible first | exact HB.out | apply below_alloc | apply pw_below_drewN | apply below_drew1) | exact HB.out)) hb); clear HB; have HB := n0_; clear n0_; (try clear hb); (try clear hb2); (try clear hk); (try clear hi)) | (go_at_call 8; (with_reducible refine (rosterref01_Base64.calls k a0 t167 _ A7.out).mono ?_); rintro e w12 ⟨rfl, hb⟩; have n0_ := Aside0.mk (below_step (by repeat (first | (with_reducible first | exact HB.out | apply below_alloc | apply pw_below_drewN | apply below_drew1) | exact HB.out)) hb); clear HB; have HB := n0_; clear n0_; (try clear hb); (try clear hb2); (try clear hk); (try clear hi)) | (go_at_call 9; (with_reducible refine (rosterlaw01_unbases.calls k t167 t170 _ A8.out).mono ?_); rintro e w13 ⟨rfl, hb⟩; have n0_ := Aside0.mk (below_step (by repeat (first | (with_reducible first | exact HB.out | apply below_alloc | apply pw_below_drewN | apply below_drew1) | exact HB.out)) hb); clear HB; have HB := n0_; clear n0_; (try clear hb); (try clear hb2); (try clear hk); (try clear hi)))
      go_ret
      exact ⟨by first | rfl | (simp [errW_none, errW_some] <;> rfl) | (simp [*, errW_none, errW_some] <;> rfl), by repeat (first | (with_reducible first | exact HB.out | apply below_alloc | apply pw_below_drewN | apply below_drew1) | exact HB.out)⟩
    · replace c6 := Bool.eq_false_iff.mpr c6
      subst c6
      have H1 : (some false) = some r := by rw [if_neg (show ¬ (false = true) by decide)] at H; exact H
      clear H
      have H := H1
      clear H1
      obtain rfl := Option.some.inj H
      go_enter Tryd.func3, Tryd.ntmps3
      go_wp2_with (first | ((with_reducible refine gate_callee (f := 7) rfl ?_); refine goesL_ (some 4) rfl rfl Tryd.func7 (by kernel_rfl) rfl #[.string a0] rfl (by (try simp only [List.map_toArray, List.map_cons, List.map_nil]); first | done | rfl | (simp only [List.length_drop, List.length_take]; rfl)) ?_; (with_reducible refine (text_Base64.calls k a0 t166 _ (Tabs_at hG (by repeat (first | (with_reducible first | exact HB.out | exact Below.refl _ _ | apply below_alloc | apply pw_below_drewN | apply below_drew1) | exact HB.out | exact Below.refl _ _))) A2.out).mono ?_); rintro e w14 ⟨rfl, hb⟩; refine ⟨_, rfl, ?_⟩; have n0_ := Aside0.mk (below_step (by repeat (first | (with_reducible first | exact HB.out | apply below_alloc | apply pw_below_drewN | apply below_drew1) | exact HB.out)) hb); clear HB; have HB := n0_; clear n0_; (try clear hb); (try clear hb2); (try clear hk); (try clear hi)) | ((with_reducible refine gate_callee (f := 8) rfl ?_); refine goesL_ (some 6) rfl rfl Tryd.func8 (by kernel_rfl) rfl #[.string a0] rfl (by (try simp only [List.map_toArray, List.map_cons, List.map_nil]); first | done | rfl | (simp only [List.length_drop, List.length_take]; rfl)) ?_; (with_reducible refine (rosterref01_Base64.calls k a0 t167 _ A3.out).mono ?_); rintro e w15 ⟨rfl, hb⟩; refine ⟨_, rfl, ?_⟩; have n0_ := Aside0.mk (below_step (by repeat (first | (with_reducible first | exact HB.out | apply below_alloc | apply pw_below_drewN | apply below_drew1) | exact HB.out)) hb); clear HB; have HB := n0_; clear n0_; (try clear hb); (try clear hb2); (try clear hk); (try clear hi)) | ((with_reducible refine gate_callee (f := 9) rfl ?_); refine goesL_ (some 9) rfl rfl Tryd.func9 (by kernel_rfl) rfl #[.string a0] rfl (by (try simp only [List.map_toArray, List.map_cons, List.map_nil]); first | done | rfl | (simp only [List.length_drop, List.length_take]; rfl)) ?_; (with_reducible refine (rosterlaw01_unbases.calls k a0 false _ A5.out).mono ?_); rintro e w16 ⟨rfl, hb⟩; refine ⟨_, rfl, ?_⟩; have n0_ := Aside0.mk (below_step (by repeat (first | (with_reducible first | exact HB.out | apply below_alloc | apply pw_below_drewN | apply below_drew1) | exact HB.out)) hb); clear HB; have HB := n0_; clear n0_; (try clear hb); (try clear hb2); (try clear hk); (try clear hi)))
      go_ret
      exact ⟨by first | rfl | (simp [errW_none, errW_some] <;> rfl) | (simp [*, errW_none, errW_some] <;> rfl), by repeat (first | (with_reducible first | exact HB.out | apply below_alloc | apply pw_below_drewN | apply below_drew1) | exact HB.out)⟩
  · rw [if_neg c4] at H
    have c4b0 : (t166.toList == t167.toList) = false := beq_eq_false_iff_ne.mpr c4
    have c4b1 : (t166.toList != t167.toList) = true := bne_iff_ne.mpr c4
    obtain rfl := Option.some.inj H
    go_enter Tryd.func3, Tryd.ntmps3
    go_wp2_with (first | ((with_reducible refine gate_callee (f := 7) rfl ?_); refine goesL_ (some 4) rfl rfl Tryd.func7 (by kernel_rfl) rfl #[.string a0] rfl (by (try simp only [List.map_toArray, List.map_cons, List.map_nil]); first | done | rfl | (simp only [List.length_drop, List.length_take]; rfl)) ?_; (with_reducible refine (text_Base64.calls k a0 t166 _ (Tabs_at hG (by repeat (first | (with_reducible first | exact HB.out | exact Below.refl _ _ | apply below_alloc | apply pw_below_drewN | apply below_drew1) | exact HB.out | exact Below.refl _ _))) A2.out).mono ?_); rintro e w17 ⟨rfl, hb⟩; refine ⟨_, rfl, ?_⟩; have n0_ := Aside0.mk (below_step (by repeat (first | (with_reducible first | exact HB.out | apply below_alloc | apply pw_below_drewN | apply below_drew1) | exact HB.out)) hb); clear HB; have HB := n0_; clear n0_; (try clear hb); (try clear hb2); (try clear hk); (try clear hi)) | ((with_reducible refine gate_callee (f := 8) rfl ?_); refine goesL_ (some 6) rfl rfl Tryd.func8 (by kernel_rfl) rfl #[.string a0] rfl (by (try simp only [List.map_toArray, List.map_cons, List.map_nil]); first | done | rfl | (simp only [List.length_drop, List.length_take]; rfl)) ?_; (with_reducible refine (rosterref01_Base64.calls k a0 t167 _ A3.out).mono ?_); rintro e w18 ⟨rfl, hb⟩; refine ⟨_, rfl, ?_⟩; have n0_ := Aside0.mk (below_step (by repeat (first | (with_reducible first | exact HB.out | apply below_alloc | apply pw_below_drewN | apply below_drew1) | exact HB.out)) hb); clear HB; have HB := n0_; clear n0_; (try clear hb); (try clear hb2); (try clear hk); (try clear hi)))
    go_ret
    exact ⟨by first | rfl | (simp [errW_none, errW_some] <;> rfl) | (simp [*, errW_none, errW_some] <;> rfl), by repeat (first | (with_reducible first | exact HB.out | apply below_alloc | apply pw_below_drewN | apply below_drew1) | exact HB.out)⟩

-- by hand: function 12 (rosterlaw01_goes)

/-! ### rosterlaw01_TextBaseOnly: function 5 -/
def rosterlaw01_TextBaseOnly.j0 : Nat → ByteArray → Int → Bool → Option (Bool)
  | 0, _, _, _ => none
  | k + 1, x0, x6, x47 => if x47 = true then (some false) else (if 0 ≤ x6 then (if x6 ≤ (x0.size : Int) then ((rosterlaw01_goes.f (x0.extract 0 (x6 : Int).toNat)).bind fun t178 => (if t178 = true then (if x6 = (x0.size : Int) then (some true) else (if 0 ≤ (wrap64 (x6 + 1)) then (if (wrap64 (x6 + 1)) ≤ (x0.size : Int) then ((rosterlaw01_goes.f (x0.extract 0 ((wrap64 (x6 + 1)) : Int).toNat)).bind fun t179 => (some (!t179))) else (none)) else (none))) else (some false))) else (none)) else (none))
def rosterlaw01_TextBaseOnly.f (k : Nat) (a0 : ByteArray) : Option (Bool) := (rosterlaw01_goes.f (⟨#[90, 109, 57, 118]⟩ : ByteArray)).bind fun t171 => (if t171 = true then ((text_Unbase64.f a0).bind fun bt172 => ((rosterlaw01_num.f bt172.2.1).bind fun t175 => (if t175 = 0 then (if bt172.2.2 = (a0.size : Int) then ((text_Base64.f k bt172.1).bind fun t176 => (some (t176.toList == a0.toList))) else (some false)) else ((rosterlaw01_num.f bt172.2.1).bind fun t177 => (if t177 = 12 then (if bt172.1.toList = ([] : List UInt8) then (if bt172.2.2 < 0 then (rosterlaw01_TextBaseOnly.j0 k a0 bt172.2.2 true) else (rosterlaw01_TextBaseOnly.j0 k a0 bt172.2.2 (decide (bt172.2.2 > (a0.size : Int))))) else (rosterlaw01_TextBaseOnly.j0 k a0 bt172.2.2 true)) else (rosterlaw01_TextBaseOnly.j0 k a0 bt172.2.2 true)))))) else (some false))
theorem rosterlaw01_TextBaseOnly.mono_l : ∀ k, (∀ y0 y1 y2, LeO (rosterlaw01_TextBaseOnly.j0 k y0 y1 y2) (rosterlaw01_TextBaseOnly.j0 (k + 1) y0 y1 y2))
  | 0 => fun _ _ _ r h => by simp [rosterlaw01_TextBaseOnly.j0] at h
  | k + 1 => by
    have ih0 := rosterlaw01_TextBaseOnly.mono_l k
    · intro y0 y1 y2
      unfold rosterlaw01_TextBaseOnly.j0
      repeat' first
      | (with_reducible exact ih0 _ _ _)
      | (with_reducible exact text_Base64.mono _ _)
      | (with_reducible exact LeO.refl _)
      | (with_reducible exact LeO.none _)
      | (with_reducible refine LeO.ite ?_ ?_)
      | (with_reducible refine LeO.bind ?_ (fun _ => ?_))
      | exact ih0 _ _ _
      | exact text_Base64.mono _ _
      | exact LeO.none _
      | refine LeO.ite ?_ ?_
      | refine LeO.bind ?_ (fun _ => ?_)
theorem rosterlaw01_TextBaseOnly.mono : ∀ a0 k, LeO (rosterlaw01_TextBaseOnly.f k a0) (rosterlaw01_TextBaseOnly.f (k + 1) a0) := by
  intro a0 k
  have ih0 := rosterlaw01_TextBaseOnly.mono_l k
  unfold rosterlaw01_TextBaseOnly.f
  repeat' first
      | (with_reducible exact ih0 _ _ _)
      | (with_reducible exact text_Base64.mono _ _)
      | (with_reducible exact LeO.refl _)
      | (with_reducible exact LeO.none _)
      | (with_reducible refine LeO.ite ?_ ?_)
      | (with_reducible refine LeO.bind ?_ (fun _ => ?_))
      | exact ih0 _ _ _
      | exact text_Base64.mono _ _
      | exact LeO.none _
      | refine LeO.ite ?_ ?_
      | refine LeO.bind ?_ (fun _ => ?_)
set_option maxHeartbeats 8000000 in
set_option maxRecDepth 100000 in
theorem rosterlaw01_TextBaseOnly.calls (k : Nat) (a0 : ByteArray) (r : Bool) (w : World) (hG : Tabs w) (h : rosterlaw01_TextBaseOnly.f k a0 = some r) :
    Calls Tryd.prog 5 #[.string a0] w fun e w' => e = .returned (.bool r) ∧ Below w.heap.size w w' := by
  have HB := Aside0.mk (Below.refl w.heap.size w)
  have H : ((rosterlaw01_goes.f (⟨#[90, 109, 57, 118]⟩ : ByteArray)).bind fun t171 => (if t171 = true then ((text_Unbase64.f a0).bind fun bt172 => ((rosterlaw01_num.f bt172.2.1).bind fun t175 => (if t175 = 0 then (if bt172.2.2 = (a0.size : Int) then ((text_Base64.f k bt172.1).bind fun t176 => (some (t176.toList == a0.toList))) else (some false)) else ((rosterlaw01_num.f bt172.2.1).bind fun t177 => (if t177 = 12 then (if bt172.1.toList = ([] : List UInt8) then (if bt172.2.2 < 0 then (rosterlaw01_TextBaseOnly.j0 k a0 bt172.2.2 true) else (rosterlaw01_TextBaseOnly.j0 k a0 bt172.2.2 (decide (bt172.2.2 > (a0.size : Int))))) else (rosterlaw01_TextBaseOnly.j0 k a0 bt172.2.2 true)) else (rosterlaw01_TextBaseOnly.j0 k a0 bt172.2.2 true)))))) else (some false))) = some r := h
  clear h
  replace H := Option.bind_eq_some_iff.mp H
  obtain ⟨t171, A20, H⟩ := H
  replace H : (if t171 = true then ((text_Unbase64.f a0).bind fun bt172 => ((rosterlaw01_num.f bt172.2.1).bind fun t175 => (if t175 = 0 then (if bt172.2.2 = (a0.size : Int) then ((text_Base64.f k bt172.1).bind fun t176 => (some (t176.toList == a0.toList))) else (some false)) else ((rosterlaw01_num.f bt172.2.1).bind fun t177 => (if t177 = 12 then (if bt172.1.toList = ([] : List UInt8) then (if bt172.2.2 < 0 then (rosterlaw01_TextBaseOnly.j0 k a0 bt172.2.2 true) else (rosterlaw01_TextBaseOnly.j0 k a0 bt172.2.2 (decide (bt172.2.2 > (a0.size : Int))))) else (rosterlaw01_TextBaseOnly.j0 k a0 bt172.2.2 true)) else (rosterlaw01_TextBaseOnly.j0 k a0 bt172.2.2 true)))))) else (some false)) = some r := H
  have A2 := Aside0.mk A20
  clear A20
  by_cases c3 : t171 = true
  · subst c3
    have H1 : ((text_Unbase64.f a0).bind fun bt172 => ((rosterlaw01_num.f bt172.2.1).bind fun t175 => (if t175 = 0 then (if bt172.2.2 = (a0.size : Int) then ((text_Base64.f k bt172.1).bind fun t176 => (some (t176.toList == a0.toList))) else (some false)) else ((rosterlaw01_num.f bt172.2.1).bind fun t177 => (if t177 = 12 then (if bt172.1.toList = ([] : List UInt8) then (if bt172.2.2 < 0 then (rosterlaw01_TextBaseOnly.j0 k a0 bt172.2.2 true) else (rosterlaw01_TextBaseOnly.j0 k a0 bt172.2.2 (decide (bt172.2.2 > (a0.size : Int))))) else (rosterlaw01_TextBaseOnly.j0 k a0 bt172.2.2 true)) else (rosterlaw01_TextBaseOnly.j0 k a0 bt172.2.2 true)))))) = some r := by rw [if_pos rfl] at H; exact H
    clear H
    have H := H1
    clear H1
    replace H := Option.bind_eq_some_iff.mp H
    obtain ⟨⟨t172, t173, t174⟩, A40, H⟩ := H
    replace H : ((rosterlaw01_num.f t173).bind fun t175 => (if t175 = 0 then (if t174 = (a0.size : Int) then ((text_Base64.f k t172).bind fun t176 => (some (t176.toList == a0.toList))) else (some false)) else ((rosterlaw01_num.f t173).bind fun t177 => (if t177 = 12 then (if t172.toList = ([] : List UInt8) then (if t174 < 0 then (rosterlaw01_TextBaseOnly.j0 k a0 t174 true) else (rosterlaw01_TextBaseOnly.j0 k a0 t174 (decide (t174 > (a0.size : Int))))) else (rosterlaw01_TextBaseOnly.j0 k a0 t174 true)) else (rosterlaw01_TextBaseOnly.j0 k a0 t174 true))))) = some r := H
    have A4 := Aside0.mk A40
    clear A40
    replace H := Option.bind_eq_some_iff.mp H
    obtain ⟨t175, A50, H⟩ := H
    replace H : (if t175 = 0 then (if t174 = (a0.size : Int) then ((text_Base64.f k t172).bind fun t176 => (some (t176.toList == a0.toList))) else (some false)) else ((rosterlaw01_num.f t173).bind fun t177 => (if t177 = 12 then (if t172.toList = ([] : List UInt8) then (if t174 < 0 then (rosterlaw01_TextBaseOnly.j0 k a0 t174 true) else (rosterlaw01_TextBaseOnly.j0 k a0 t174 (decide (t174 > (a0.size : Int))))) else (rosterlaw01_TextBaseOnly.j0 k a0 t174 true)) else (rosterlaw01_TextBaseOnly.j0 k a0 t174 true)))) = some r := H
    have A5 := Aside0.mk A50
    clear A50
    by_cases c6 : t175 = 0
    · rw [if_pos c6] at H
      have c6b0 : (t175 == 0) = true := beq_iff_eq.mpr c6
      have c6b1 : (t175 != 0) = false := bne_eq_false_iff_eq.mpr c6
      clear c6
      by_cases c7 : t174 = (a0.size : Int)
      · rw [if_pos c7] at H
        have c7b0 : (t174 == (a0.size : Int)) = true := beq_iff_eq.mpr c7
        have c7b1 : (t174 != (a0.size : Int)) = false := bne_eq_false_iff_eq.mpr c7
        clear c7
        replace H := Option.bind_eq_some_iff.mp H
        obtain ⟨t176, A80, H⟩ := H
        replace H : (some (t176.toList == a0.toList)) = some r := H
        have A8 := Aside0.mk A80
        clear A80
        obtain rfl := Option.some.inj H
        go_enter Tryd.func5, Tryd.ntmps5
        go_wp2_with (first | ((with_reducible refine gate_callee (f := 12) rfl ?_); refine goesL_ (some 9) rfl rfl Tryd.func12 (by kernel_rfl) rfl #[.string (⟨#[90, 109, 57, 118]⟩ : ByteArray)] rfl (by (try simp only [List.map_toArray, List.map_cons, List.map_nil]); first | done | rfl | (simp only [List.length_drop, List.length_take]; rfl)) ?_; (with_reducible refine (rosterlaw01_goes.calls (⟨#[90, 109, 57, 118]⟩ : ByteArray) true _ A2.out).mono ?_); rintro e w9 ⟨rfl, hb⟩; refine ⟨_, rfl, ?_⟩; have n0_ := Aside0.mk (below_step (by repeat (first | (with_reducible first | exact HB.out | apply below_alloc | apply pw_below_drewN | apply below_drew1) | exact HB.out)) hb); clear HB; have HB := n0_; clear n0_; (try clear hb); (try clear hb2); (try clear hk); (try clear hi)) | ((with_reducible refine gate_callee (f := 10) rfl ?_); refine goesL_ (some 14) rfl rfl Tryd.func10 (by kernel_rfl) rfl #[.string a0] rfl (by (try simp only [List.map_toArray, List.map_cons, List.map_nil]); first | done | rfl | (simp only [List.length_drop, List.length_take]; rfl)) ?_; (with_reducible refine (text_Unbase64.calls a0 t172 t173 t174 _ A4.out).mono ?_); rintro e w10 ⟨rfl, hb⟩; refine ⟨_, rfl, ?_⟩; have n0_ := Aside0.mk (below_step (by repeat (first | (with_reducible first | exact HB.out | apply below_alloc | apply pw_below_drewN | apply below_drew1) | exact HB.out)) hb); clear HB; have HB := n0_; clear n0_; (try clear hb); (try clear hb2); (try clear hk); (try clear hi)) | ((with_reducible refine gate_callee (f := 11) rfl ?_); refine goesL_ (some 19) rfl rfl Tryd.func11 (by kernel_rfl) rfl #[.int .i64 t173] rfl (by (try simp only [List.map_toArray, List.map_cons, List.map_nil]); first | done | rfl | (simp only [List.length_drop, List.length_take]; rfl)) ?_; (with_reducible refine (rosterlaw01_num.calls t173 t175 _ A5.out).mono ?_); rintro e w' ⟨rfl, ⟨nd, rfl⟩⟩; refine ⟨_, rfl, ?_⟩) | (go_at_call 7; (with_reducible refine (text_Base64.calls k t172 t176 _ (Tabs_at hG (by repeat (first | (with_reducible first | exact HB.out | exact Below.refl _ _ | apply below_alloc | apply pw_below_drewN | apply below_drew1) | exact HB.out | exact Below.refl _ _))) A8.out).mono ?_); rintro e w11 ⟨rfl, hb⟩; have n0_ := Aside0.mk (below_step (by repeat (first | (with_reducible first | exact HB.out | apply below_alloc | apply pw_below_drewN | apply below_drew1) | exact HB.out)) hb); clear HB; have HB := n0_; clear n0_; (try clear hb); (try clear hb2); (try clear hk); (try clear hi)))
        go_ret
        exact ⟨by first | rfl | (simp [errW_none, errW_some] <;> rfl) | (simp [*, errW_none, errW_some] <;> rfl), by repeat (first | (with_reducible first | exact HB.out | apply below_alloc | apply pw_below_drewN | apply below_drew1) | exact HB.out)⟩
      · rw [if_neg c7] at H
        have c7b0 : (t174 == (a0.size : Int)) = false := beq_eq_false_iff_ne.mpr c7
        have c7b1 : (t174 != (a0.size : Int)) = true := bne_iff_ne.mpr c7
        obtain rfl := Option.some.inj H
        go_enter Tryd.func5, Tryd.ntmps5
        go_wp2_with (first | ((with_reducible refine gate_callee (f := 12) rfl ?_); refine goesL_ (some 9) rfl rfl Tryd.func12 (by kernel_rfl) rfl #[.string (⟨#[90, 109, 57, 118]⟩ : ByteArray)] rfl (by (try simp only [List.map_toArray, List.map_cons, List.map_nil]); first | done | rfl | (simp only [List.length_drop, List.length_take]; rfl)) ?_; (with_reducible refine (rosterlaw01_goes.calls (⟨#[90, 109, 57, 118]⟩ : ByteArray) true _ A2.out).mono ?_); rintro e w12 ⟨rfl, hb⟩; refine ⟨_, rfl, ?_⟩; have n0_ := Aside0.mk (below_step (by repeat (first | (with_reducible first | exact HB.out | apply below_alloc | apply pw_below_drewN | apply below_drew1) | exact HB.out)) hb); clear HB; have HB := n0_; clear n0_; (try clear hb); (try clear hb2); (try clear hk); (try clear hi)) | ((with_reducible refine gate_callee (f := 10) rfl ?_); refine goesL_ (some 14) rfl rfl Tryd.func10 (by kernel_rfl) rfl #[.string a0] rfl (by (try simp only [List.map_toArray, List.map_cons, List.map_nil]); first | done | rfl | (simp only [List.length_drop, List.length_take]; rfl)) ?_; (with_reducible refine (text_Unbase64.calls a0 t172 t173 t174 _ A4.out).mono ?_); rintro e w13 ⟨rfl, hb⟩; refine ⟨_, rfl, ?_⟩; have n0_ := Aside0.mk (below_step (by repeat (first | (with_reducible first | exact HB.out | apply below_alloc | apply pw_below_drewN | apply below_drew1) | exact HB.out)) hb); clear HB; have HB := n0_; clear n0_; (try clear hb); (try clear hb2); (try clear hk); (try clear hi)) | ((with_reducible refine gate_callee (f := 11) rfl ?_); refine goesL_ (some 19) rfl rfl Tryd.func11 (by kernel_rfl) rfl #[.int .i64 t173] rfl (by (try simp only [List.map_toArray, List.map_cons, List.map_nil]); first | done | rfl | (simp only [List.length_drop, List.length_take]; rfl)) ?_; (with_reducible refine (rosterlaw01_num.calls t173 t175 _ A5.out).mono ?_); rintro e w' ⟨rfl, ⟨nd, rfl⟩⟩; refine ⟨_, rfl, ?_⟩))
        go_ret
        exact ⟨by first | rfl | (simp [errW_none, errW_some] <;> rfl) | (simp [*, errW_none, errW_some] <;> rfl), by repeat (first | (with_reducible first | exact HB.out | apply below_alloc | apply pw_below_drewN | apply below_drew1) | exact HB.out)⟩
    · rw [if_neg c6] at H
      have c6b0 : (t175 == 0) = false := beq_eq_false_iff_ne.mpr c6
      have c6b1 : (t175 != 0) = true := bne_iff_ne.mpr c6
      have HC14 := Aside0.mk H
      clear H
      go_enter Tryd.func5, Tryd.ntmps5
      go_upto_region 7 with (first | ((with_reducible refine gate_callee (f := 12) rfl ?_); refine goesL_ (some 9) rfl rfl Tryd.func12 (by kernel_rfl) rfl #[.string (⟨#[90, 109, 57, 118]⟩ : ByteArray)] rfl (by (try simp only [List.map_toArray, List.map_cons, List.map_nil]); first | done | rfl | (simp only [List.length_drop, List.length_take]; rfl)) ?_; (with_reducible refine (rosterlaw01_goes.calls (⟨#[90, 109, 57, 118]⟩ : ByteArray) true _ A2.out).mono ?_); rintro e w15 ⟨rfl, hb⟩; refine ⟨_, rfl, ?_⟩; have n0_ := Aside0.mk (below_step (by repeat (first | (with_reducible first | exact HB.out | apply below_alloc | apply pw_below_drewN | apply below_drew1) | exact HB.out)) hb); clear HB; have HB := n0_; clear n0_; (try clear hb); (try clear hb2); (try clear hk); (try clear hi)) | ((with_reducible refine gate_callee (f := 10) rfl ?_); refine goesL_ (some 14) rfl rfl Tryd.func10 (by kernel_rfl) rfl #[.string a0] rfl (by (try simp only [List.map_toArray, List.map_cons, List.map_nil]); first | done | rfl | (simp only [List.length_drop, List.length_take]; rfl)) ?_; (with_reducible refine (text_Unbase64.calls a0 t172 t173 t174 _ A4.out).mono ?_); rintro e w16 ⟨rfl, hb⟩; refine ⟨_, rfl, ?_⟩; have n0_ := Aside0.mk (below_step (by repeat (first | (with_reducible first | exact HB.out | apply below_alloc | apply pw_below_drewN | apply below_drew1) | exact HB.out)) hb); clear HB; have HB := n0_; clear n0_; (try clear hb); (try clear hb2); (try clear hk); (try clear hi)) | ((with_reducible refine gate_callee (f := 11) rfl ?_); refine goesL_ (some 19) rfl rfl Tryd.func11 (by kernel_rfl) rfl #[.int .i64 t173] rfl (by (try simp only [List.map_toArray, List.map_cons, List.map_nil]); first | done | rfl | (simp only [List.length_drop, List.length_take]; rfl)) ?_; (with_reducible refine (rosterlaw01_num.calls t173 t175 _ A5.out).mono ?_); rintro e w' ⟨rfl, ⟨nd, rfl⟩⟩; refine ⟨_, rfl, ?_⟩))
      (try simp only [Act.put, List.setIfInBounds_toArray, List.set_cons_zero, List.set_cons_succ])
      go_cut [47] (fun v47 wc => ∃ (kq : Nat) (x47_13 : Bool), v47 = .bool x47_13 ∧ Aside0 (rosterlaw01_TextBaseOnly.j0 kq a0 t174 x47_13 = some r) ∧ Aside0 (kq ≤ k) ∧ Aside0 (Below w.heap.size w wc))
      case first =>
        have H := HC14.out
        clear HC14
        replace H := Option.bind_eq_some_iff.mp H
        obtain ⟨t177, A170, H⟩ := H
        obtain rfl : t175 = t177 := Option.some.inj (A5.out.symm.trans A170)
        replace H : (if t175 = 12 then (if t172.toList = ([] : List UInt8) then (if t174 < 0 then (rosterlaw01_TextBaseOnly.j0 k a0 t174 true) else (rosterlaw01_TextBaseOnly.j0 k a0 t174 (decide (t174 > (a0.size : Int))))) else (rosterlaw01_TextBaseOnly.j0 k a0 t174 true)) else (rosterlaw01_TextBaseOnly.j0 k a0 t174 true)) = some r := H
        have A17 := Aside0.mk A170
        clear A170
        by_cases c18 : t175 = 12
        · rw [if_pos c18] at H
          have c18b0 : (t175 == 12) = true := beq_iff_eq.mpr c18
          have c18b1 : (t175 != 12) = false := bne_eq_false_iff_eq.mpr c18
          clear c18
          (first | rw [c18b0] | (simp only [i64_w, i32_w]; rw [c18b0]) | skip)
          by_cases c19 : t172.toList = ([] : List UInt8)
          · rw [if_pos c19] at H
            have c19b0 : (t172.toList == ([] : List UInt8)) = true := beq_iff_eq.mpr c19
            have c19b1 : (t172.toList != ([] : List UInt8)) = false := bne_eq_false_iff_eq.mpr c19
            clear c19
            by_cases c20 : t174 < 0
            · rw [if_pos c20] at H
              have c20b0 : decide (t174 < 0) = true := decide_eq_true c20
              clear c20
              have H' := Aside0.mk H
              clear H
              go_wp2_with (first | ((with_reducible refine gate_callee (f := 11) rfl ?_); refine goesL_ (some 32) rfl rfl Tryd.func11 (by kernel_rfl) rfl #[.int .i64 t173] rfl (by (try simp only [List.map_toArray, List.map_cons, List.map_nil]); first | done | rfl | (simp only [List.length_drop, List.length_take]; rfl)) ?_; (with_reducible refine (rosterlaw01_num.calls t173 t175 _ A17.out).mono ?_); rintro e w' ⟨rfl, ⟨nd, rfl⟩⟩; refine ⟨_, rfl, ?_⟩))
              go_meet
              case rel => exact ⟨_, (true), (by first | rfl | (simp; done) | (simp [*]; done)), H', ⟨by first | omega | exact Nat.le_refl _⟩, ⟨by repeat (first | (with_reducible first | exact HB.out | apply below_alloc | apply pw_below_drewN | apply below_drew1) | exact HB.out)⟩⟩
            · rw [if_neg c20] at H
              have c20b0 : decide (t174 < 0) = false := decide_eq_false c20
              clear c20
              have H' := Aside0.mk H
              clear H
              go_wp2_with (first | ((with_reducible refine gate_callee (f := 11) rfl ?_); refine goesL_ (some 32) rfl rfl Tryd.func11 (by kernel_rfl) rfl #[.int .i64 t173] rfl (by (try simp only [List.map_toArray, List.map_cons, List.map_nil]); first | done | rfl | (simp only [List.length_drop, List.length_take]; rfl)) ?_; (with_reducible refine (rosterlaw01_num.calls t173 t175 _ A17.out).mono ?_); rintro e w' ⟨rfl, ⟨nd, rfl⟩⟩; refine ⟨_, rfl, ?_⟩))
              go_meet
              case rel => exact ⟨_, (decide (t174 > (a0.size : Int))), (by first | rfl | (simp; done) | (simp [*]; done)), H', ⟨by first | omega | exact Nat.le_refl _⟩, ⟨by repeat (first | (with_reducible first | exact HB.out | apply below_alloc | apply pw_below_drewN | apply below_drew1) | exact HB.out)⟩⟩
          · rw [if_neg c19] at H
            have c19b0 : (t172.toList == ([] : List UInt8)) = false := beq_eq_false_iff_ne.mpr c19
            have c19b1 : (t172.toList != ([] : List UInt8)) = true := bne_iff_ne.mpr c19
            have H' := Aside0.mk H
            clear H
            go_wp2_with (first | ((with_reducible refine gate_callee (f := 11) rfl ?_); refine goesL_ (some 32) rfl rfl Tryd.func11 (by kernel_rfl) rfl #[.int .i64 t173] rfl (by (try simp only [List.map_toArray, List.map_cons, List.map_nil]); first | done | rfl | (simp only [List.length_drop, List.length_take]; rfl)) ?_; (with_reducible refine (rosterlaw01_num.calls t173 t175 _ A17.out).mono ?_); rintro e w' ⟨rfl, ⟨nd, rfl⟩⟩; refine ⟨_, rfl, ?_⟩))
            go_meet
            case rel => exact ⟨_, (true), (by first | rfl | (simp; done) | (simp [*]; done)), H', ⟨by first | omega | exact Nat.le_refl _⟩, ⟨by repeat (first | (with_reducible first | exact HB.out | apply below_alloc | apply pw_below_drewN | apply below_drew1) | exact HB.out)⟩⟩
        · rw [if_neg c18] at H
          have c18b0 : (t175 == 12) = false := beq_eq_false_iff_ne.mpr c18
          have c18b1 : (t175 != 12) = true := bne_iff_ne.mpr c18
          (first | rw [c18b0] | (simp only [i64_w, i32_w]; rw [c18b0]) | skip)
          have H' := Aside0.mk H
          clear H
          go_wp2_with (first | ((with_reducible refine gate_callee (f := 11) rfl ?_); refine goesL_ (some 32) rfl rfl Tryd.func11 (by kernel_rfl) rfl #[.int .i64 t173] rfl (by (try simp only [List.map_toArray, List.map_cons, List.map_nil]); first | done | rfl | (simp only [List.length_drop, List.length_take]; rfl)) ?_; (with_reducible refine (rosterlaw01_num.calls t173 t175 _ A17.out).mono ?_); rintro e w' ⟨rfl, ⟨nd, rfl⟩⟩; refine ⟨_, rfl, ?_⟩))
          go_meet
          case rel => exact ⟨_, (true), (by first | rfl | (simp; done) | (simp [*]; done)), H', ⟨by first | omega | exact Nat.le_refl _⟩, ⟨by repeat (first | (with_reducible first | exact HB.out | apply below_alloc | apply pw_below_drewN | apply below_drew1) | exact HB.out)⟩⟩
      case rest =>
        clear HC14
        try clear c1
        try clear c2
        try clear p2
        try clear c3
        try clear c5
        try clear c6
        try clear c6b0
        try clear c6b1
        try clear c7
        try clear c7b0
        try clear c7b1
        try clear c10
        try clear c11
        try clear c12
        try clear c18
        try clear c18b0
        try clear c18b1
        try clear c19
        try clear c19b0
        try clear c19b1
        try clear c20
        try clear c20b0
        obtain ⟨kq, x47_13, rfl, HA, HJ13, HB⟩ := hcut
        cases kq with
        | zero => exact absurd HA.out (by simp [rosterlaw01_TextBaseOnly.j0])
        | succ kj13 =>
          have H := HA.out
          clear HA
          simp only [rosterlaw01_TextBaseOnly.j0] at H
          by_cases c21 : x47_13 = true
          · subst c21
            have H1 : (some false) = some r := by rw [if_pos rfl] at H; exact H
            clear H
            have H := H1
            clear H1
            obtain rfl := Option.some.inj H
            go_wp2
            go_ret
            exact ⟨by first | rfl | (simp [errW_none, errW_some] <;> rfl) | (simp [*, errW_none, errW_some] <;> rfl), by repeat (first | (with_reducible first | exact HB.out | apply below_alloc | apply pw_below_drewN | apply below_drew1) | exact HB.out)⟩
          · replace c21 := Bool.eq_false_iff.mpr c21
            subst c21
            have H1 : (if 0 ≤ t174 then (if t174 ≤ (a0.size : Int) then ((rosterlaw01_goes.f (a0.extract 0 (t174 : Int).toNat)).bind fun t178 => (if t178 = true then (if t174 = (a0.size : Int) then (some true) else (if 0 ≤ (wrap64 (t174 + 1)) then (if (wrap64 (t174 + 1)) ≤ (a0.size : Int) then ((rosterlaw01_goes.f (a0.extract 0 ((wrap64 (t174 + 1)) : Int).toNat)).bind fun t179 => (some (!t179))) else (none)) else (none))) else (some false))) else (none)) else (none)) = some r := by rw [if_neg (show ¬ (false = true) by decide)] at H; exact H
            clear H
            have H := H1
            clear H1
            by_cases c22 : 0 ≤ t174
            · rw [if_pos c22] at H
              have c22b0 := eq_true c22
              have c22b1 : decide (0 ≤ t174) = true := decide_eq_true c22
              clear c22
              by_cases c23 : t174 ≤ (a0.size : Int)
              · rw [if_pos c23] at H
                have c23b0 := eq_true c23
                have c23b1 : decide (t174 ≤ (a0.size : Int)) = true := decide_eq_true c23
                clear c23
                replace H := Option.bind_eq_some_iff.mp H
                obtain ⟨t178, A240, H⟩ := H
                replace H : (if t178 = true then (if t174 = (a0.size : Int) then (some true) else (if 0 ≤ (wrap64 (t174 + 1)) then (if (wrap64 (t174 + 1)) ≤ (a0.size : Int) then ((rosterlaw01_goes.f (a0.extract 0 ((wrap64 (t174 + 1)) : Int).toNat)).bind fun t179 => (some (!t179))) else (none)) else (none))) else (some false)) = some r := H
                have A24 := Aside0.mk A240
                clear A240
                by_cases c25 : t178 = true
                · subst c25
                  have H1 : (if t174 = (a0.size : Int) then (some true) else (if 0 ≤ (wrap64 (t174 + 1)) then (if (wrap64 (t174 + 1)) ≤ (a0.size : Int) then ((rosterlaw01_goes.f (a0.extract 0 ((wrap64 (t174 + 1)) : Int).toNat)).bind fun t179 => (some (!t179))) else (none)) else (none))) = some r := by rw [if_pos rfl] at H; exact H
                  clear H
                  have H := H1
                  clear H1
                  by_cases c26 : t174 = (a0.size : Int)
                  · rw [if_pos c26] at H
                    have c26b0 : (t174 == (a0.size : Int)) = true := beq_iff_eq.mpr c26
                    have c26b1 : (t174 != (a0.size : Int)) = false := bne_eq_false_iff_eq.mpr c26
                    clear c26
                    obtain rfl := Option.some.inj H
                    go_wp2_with (first | ((with_reducible refine gate_callee (f := 12) rfl ?_); refine goesL_ (some 51) rfl rfl Tryd.func12 (by kernel_rfl) rfl #[.string (a0.extract 0 (t174 : Int).toNat)] rfl (by (try simp only [List.map_toArray, List.map_cons, List.map_nil]); first | done | rfl | (simp only [List.length_drop, List.length_take]; rfl)) ?_; (with_reducible refine (rosterlaw01_goes.calls (a0.extract 0 (t174 : Int).toNat) true _ A24.out).mono ?_); rintro e w27 ⟨rfl, hb⟩; refine ⟨_, rfl, ?_⟩; have n0_ := Aside0.mk (below_step (by repeat (first | (with_reducible first | exact HB.out | apply below_alloc | apply pw_below_drewN | apply below_drew1) | exact HB.out)) hb); clear HB; have HB := n0_; clear n0_; (try clear hb); (try clear hb2); (try clear hk); (try clear hi)))
                    go_ret
                    exact ⟨by first | rfl | (simp [errW_none, errW_some] <;> rfl) | (simp [*, errW_none, errW_some] <;> rfl), by repeat (first | (with_reducible first | exact HB.out | apply below_alloc | apply pw_below_drewN | apply below_drew1) | exact HB.out)⟩
                  · rw [if_neg c26] at H
                    have c26b0 : (t174 == (a0.size : Int)) = false := beq_eq_false_iff_ne.mpr c26
                    have c26b1 : (t174 != (a0.size : Int)) = true := bne_iff_ne.mpr c26
                    obtain ⟨ji28, hji28⟩ : ∃ j_ : Int, (wrap64 (t174 + 1)) = j_ := ⟨_, rfl⟩
                    replace H : (if 0 ≤ (ji28) then (if (ji28) ≤ (a0.size : Int) then ((rosterlaw01_goes.f (a0.extract 0 ((ji28) : Int).toNat)).bind fun t179 => (some (!t179))) else (none)) else (none)) = some r := by first | (rw [hji28] at H; exact H) | (simp only [hji28] at H ⊢; exact H)
                    (try rw [hji28] at A24)
                    have hji28w : (IntKind.i64.wrap (t174 + 1)) = ji28 := (i64_w _).trans hji28
                    by_cases c29 : 0 ≤ (ji28)
                    · rw [if_pos c29] at H
                      have c29b0 := eq_true c29
                      have c29b1 : decide (0 ≤ (ji28)) = true := decide_eq_true c29
                      clear c29
                      by_cases c30 : (ji28) ≤ (a0.size : Int)
                      · rw [if_pos c30] at H
                        have c30b0 := eq_true c30
                        have c30b1 : decide ((ji28) ≤ (a0.size : Int)) = true := decide_eq_true c30
                        clear c30
                        replace H := Option.bind_eq_some_iff.mp H
                        obtain ⟨t179, A310, H⟩ := H
                        replace H : (some (!t179)) = some r := H
                        have A31 := Aside0.mk A310
                        clear A310
                        obtain rfl := Option.some.inj H
                        go_wp2_with (first | ((with_reducible refine gate_callee (f := 12) rfl ?_); refine goesL_ (some 51) rfl rfl Tryd.func12 (by kernel_rfl) rfl #[.string (a0.extract 0 (t174 : Int).toNat)] rfl (by (try simp only [List.map_toArray, List.map_cons, List.map_nil]); first | done | rfl | (simp only [List.length_drop, List.length_take]; rfl)) ?_; (with_reducible refine (rosterlaw01_goes.calls (a0.extract 0 (t174 : Int).toNat) true _ A24.out).mono ?_); rintro e w32 ⟨rfl, hb⟩; refine ⟨_, rfl, ?_⟩; have n0_ := Aside0.mk (below_step (by repeat (first | (with_reducible first | exact HB.out | apply below_alloc | apply pw_below_drewN | apply below_drew1) | exact HB.out)) hb); clear HB; have HB := n0_; clear n0_; (try clear hb); (try clear hb2); (try clear hk); (try clear hi)) | ((with_reducible refine gate_callee (f := 12) rfl ?_); refine goesL_ (some 62) rfl rfl Tryd.func12 (by kernel_rfl) rfl #[.string (a0.extract 0 ((ji28) : Int).toNat)] rfl (by (try simp only [List.map_toArray, List.map_cons, List.map_nil]); first | done | (simp only [hji28]; rfl) | rfl | (simp only [List.length_drop, List.length_take]; rfl)) ?_; (with_reducible refine (rosterlaw01_goes.calls (a0.extract 0 ((ji28) : Int).toNat) t179 _ A31.out).mono ?_); rintro e w33 ⟨rfl, hb⟩; refine ⟨_, rfl, ?_⟩; have n0_ := Aside0.mk (below_step (by repeat (first | (with_reducible first | exact HB.out | apply below_alloc | apply pw_below_drewN | apply below_drew1) | exact HB.out)) hb); clear HB; have HB := n0_; clear n0_; (try clear hb); (try clear hb2); (try clear hk); (try clear hi)))
                        go_ret
                        exact ⟨by first | rfl | (simp [errW_none, errW_some] <;> rfl) | (simp only [← hji28]; first | rfl | (simp [errW_none, errW_some] <;> rfl)) | (simp [*, errW_none, errW_some] <;> rfl), by repeat (first | (with_reducible first | exact HB.out | apply below_alloc | apply pw_below_drewN | apply below_drew1) | exact HB.out)⟩
                      · rw [if_neg c30] at H
                        exact absurd H (by simp)
                    · rw [if_neg c29] at H
                      exact absurd H (by simp)
                · replace c25 := Bool.eq_false_iff.mpr c25
                  subst c25
                  have H1 : (some false) = some r := by rw [if_neg (show ¬ (false = true) by decide)] at H; exact H
                  clear H
                  have H := H1
                  clear H1
                  obtain rfl := Option.some.inj H
                  go_wp2_with (first | ((with_reducible refine gate_callee (f := 12) rfl ?_); refine goesL_ (some 51) rfl rfl Tryd.func12 (by kernel_rfl) rfl #[.string (a0.extract 0 (t174 : Int).toNat)] rfl (by (try simp only [List.map_toArray, List.map_cons, List.map_nil]); first | done | rfl | (simp only [List.length_drop, List.length_take]; rfl)) ?_; (with_reducible refine (rosterlaw01_goes.calls (a0.extract 0 (t174 : Int).toNat) false _ A24.out).mono ?_); rintro e w34 ⟨rfl, hb⟩; refine ⟨_, rfl, ?_⟩; have n0_ := Aside0.mk (below_step (by repeat (first | (with_reducible first | exact HB.out | apply below_alloc | apply pw_below_drewN | apply below_drew1) | exact HB.out)) hb); clear HB; have HB := n0_; clear n0_; (try clear hb); (try clear hb2); (try clear hk); (try clear hi)))
                  go_ret
                  exact ⟨by first | rfl | (simp [errW_none, errW_some] <;> rfl) | (simp [*, errW_none, errW_some] <;> rfl), by repeat (first | (with_reducible first | exact HB.out | apply below_alloc | apply pw_below_drewN | apply below_drew1) | exact HB.out)⟩
              · rw [if_neg c23] at H
                exact absurd H (by simp)
            · rw [if_neg c22] at H
              exact absurd H (by simp)
  · replace c3 := Bool.eq_false_iff.mpr c3
    subst c3
    have H1 : (some false) = some r := by rw [if_neg (show ¬ (false = true) by decide)] at H; exact H
    clear H
    have H := H1
    clear H1
    obtain rfl := Option.some.inj H
    go_enter Tryd.func5, Tryd.ntmps5
    go_wp2_with (first | ((with_reducible refine gate_callee (f := 12) rfl ?_); refine goesL_ (some 9) rfl rfl Tryd.func12 (by kernel_rfl) rfl #[.string (⟨#[90, 109, 57, 118]⟩ : ByteArray)] rfl (by (try simp only [List.map_toArray, List.map_cons, List.map_nil]); first | done | rfl | (simp only [List.length_drop, List.length_take]; rfl)) ?_; (with_reducible refine (rosterlaw01_goes.calls (⟨#[90, 109, 57, 118]⟩ : ByteArray) false _ A2.out).mono ?_); rintro e w35 ⟨rfl, hb⟩; refine ⟨_, rfl, ?_⟩; have n0_ := Aside0.mk (below_step (by repeat (first | (with_reducible first | exact HB.out | apply below_alloc | apply pw_below_drewN | apply below_drew1) | exact HB.out)) hb); clear HB; have HB := n0_; clear n0_; (try clear hb); (try clear hb2); (try clear hk); (try clear hi)))
    go_ret
    exact ⟨by first | rfl | (simp [errW_none, errW_some] <;> rfl) | (simp [*, errW_none, errW_some] <;> rfl), by repeat (first | (with_reducible first | exact HB.out | apply below_alloc | apply pw_below_drewN | apply below_drew1) | exact HB.out)⟩

end Go.Proofs.YtppnhlkfkedlmaaDoor.X

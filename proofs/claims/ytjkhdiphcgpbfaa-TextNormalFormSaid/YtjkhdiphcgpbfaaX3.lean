-- PRINTED by print.py (a twelfth state) out of the translation. Not trusted: Lean checks it.
import Derived.Test.YtjkhdiphcgpbfaaX0
import Derived.Test.YtjkhdiphcgpbfaaX2
namespace Go.Proofs.Ytjkhdiphcgpbfaa.X
open Go.Proofs.Ytjkhdiphcgpbfaa.XE
open Go.RowKit Go.Proofs.YtjkhdiphcgpbfaaW.PrintWords Go.Proofs.YtjkhdiphcgpbfaaW.PrintLast Go.Proofs.YtjkhdiphcgpbfaaW.PrintMore
attribute [local go_sem] max2_int min2_int max_two min_two max_three min_three max_four min_four   -- for this text's walks alone
set_option linter.unusedVariables false
set_option linter.unusedSimpArgs false

/-! ### rosterlaw01_next: function 16 -/
def rosterlaw01_next.l0 : Nat → ByteArray → Int → Option (Int)
  | 0, _, _ => none
  | k + 1, x0, x1 => if x1 < (x0.size : Int) then (if 0 ≤ x1 then ((rosterlaw01_blank.f (bt x0 x1)).bind fun t149 => (if t149 = true then (rosterlaw01_next.l0 k x0 (wrap64 (x1 + 1))) else (some x1))) else (none)) else (some x1)
def rosterlaw01_next.f (k : Nat) (a0 : ByteArray) (a1 : Int) : Option (Int) := rosterlaw01_next.l0 k a0 a1
theorem rosterlaw01_next.mono_l : ∀ k, (∀ y0 y1, LeO (rosterlaw01_next.l0 k y0 y1) (rosterlaw01_next.l0 (k + 1) y0 y1))
  | 0 => fun _ _ r h => by simp [rosterlaw01_next.l0] at h
  | k + 1 => by
    have ih0 := rosterlaw01_next.mono_l k
    · intro y0 y1
      unfold rosterlaw01_next.l0
      repeat' first
      | (with_reducible exact ih0 _ _)
      | (with_reducible exact LeO.refl _)
      | (with_reducible exact LeO.none _)
      | (with_reducible refine LeO.ite ?_ ?_)
      | (with_reducible refine LeO.bind ?_ (fun _ => ?_))
      | exact ih0 _ _
      | exact LeO.none _
      | refine LeO.ite ?_ ?_
      | refine LeO.bind ?_ (fun _ => ?_)
theorem rosterlaw01_next.mono : ∀ a0 a1 k, LeO (rosterlaw01_next.f k a0 a1) (rosterlaw01_next.f (k + 1) a0 a1) := by
  intro a0 a1 k
  have ih0 := rosterlaw01_next.mono_l k
  unfold rosterlaw01_next.f
  repeat' first
      | (with_reducible exact ih0 _ _)
      | (with_reducible exact LeO.refl _)
      | (with_reducible exact LeO.none _)
      | (with_reducible refine LeO.ite ?_ ?_)
      | (with_reducible refine LeO.bind ?_ (fun _ => ?_))
      | exact ih0 _ _
      | exact LeO.none _
      | refine LeO.ite ?_ ?_
      | refine LeO.bind ?_ (fun _ => ?_)
set_option maxHeartbeats 8000000 in
set_option maxRecDepth 100000 in
theorem rosterlaw01_next.calls (k : Nat) (a0 : ByteArray) (a1 : Int) (r : Int) (w : World) (h : rosterlaw01_next.f k a0 a1 = some r) :
    Calls Try.prog 16 #[.string a0, .int .i64 a1] w fun e w' => e = .returned (.int .i64 r) ∧ Drawn0 w w' := by
  have H : (rosterlaw01_next.l0 k a0 a1) = some r := h
  clear h
  have H' := Aside0.mk H
  clear H
  go_enter Try.func16, Try.ntmps16
  go_wp2
  go_loopg [1] k (fun kq v1 w' => ∃ (x1_1 : Int), v1 = .int .i64 x1_1 ∧ Aside0 (rosterlaw01_next.l0 kq a0 x1_1 = some r) ∧ Aside0 (kq ≤ k) ∧ Drawn0 w w')
  case atStart => exact ⟨(a1), (by first | rfl | (simp; done) | (simp [*]; done)), H', ⟨Nat.le_refl _⟩, by repeat (first | exact Drawn0.refl _ | apply Drawn0.step)⟩
  case round =>
    clear H'
    try clear c1
    try clear p2
    obtain ⟨x1_1, rfl, HA, HK1, ⟨m1, rfl⟩⟩ := hrel
    cases gk with
    | zero => exact absurd HA.out (by simp [rosterlaw01_next.l0])
    | succ k1 =>
      have H := HA.out
      clear HA
      simp only [rosterlaw01_next.l0] at H
      by_cases c3 : x1_1 < (a0.size : Int)
      · rw [if_pos c3] at H
        have c3b0 : decide (x1_1 < (a0.size : Int)) = true := decide_eq_true c3
        clear c3
        by_cases c4 : 0 ≤ x1_1
        · rw [if_pos c4] at H
          have c4b0 : decide (0 ≤ x1_1) = true := decide_eq_true c4
          clear c4
          replace H := Option.bind_eq_some_iff.mp H
          obtain ⟨t149, A60, H⟩ := H
          replace H : (if t149 = true then (rosterlaw01_next.l0 k1 a0 (wrap64 (x1_1 + 1))) else (some x1_1)) = some r := H
          have A6 := Aside0.mk A60
          clear A60
          by_cases c7 : t149 = true
          · subst c7
            have H1 : (rosterlaw01_next.l0 k1 a0 (wrap64 (x1_1 + 1))) = some r := by rw [if_pos rfl] at H; exact H
            clear H
            have H := H1
            clear H1
            have H' := Aside0.mk H
            clear H
            have p5 : 0 ≤ (x1_1 : Int) := of_decide_eq_true (by first | (with_reducible assumption) | assumption)
            have q5 : x1_1 < (a0.size : Int) := of_decide_eq_true (by first | (with_reducible assumption) | assumption)
            have hx5 := bt_at a0 x1_1
            replace p5 := eq_true p5
            replace q5 := eq_true q5
            go_wp2_with (first | (go_at_call 24; (with_reducible refine (rosterlaw01_blank.calls (bt a0 x1_1) true _ A6.out).mono ?_); rintro e w' ⟨rfl, ⟨nd, rfl⟩⟩))
            go_roundg k1
            case measure => have := HK1.out; omega
            case rel => exact ⟨(wrap64 (x1_1 + 1)), (by first | rfl | (simp; done) | (simp [*]; done)), H', ⟨by have := HK1.out; omega⟩, by repeat (first | exact Drawn0.refl _ | apply Drawn0.step)⟩
          · replace c7 := Bool.eq_false_iff.mpr c7
            subst c7
            have H1 : (some x1_1) = some r := by rw [if_neg (show ¬ (false = true) by decide)] at H; exact H
            clear H
            have H := H1
            clear H1
            obtain rfl := Option.some.inj H
            have p5 : 0 ≤ (x1_1 : Int) := of_decide_eq_true (by first | (with_reducible assumption) | assumption)
            have q5 : x1_1 < (a0.size : Int) := of_decide_eq_true (by first | (with_reducible assumption) | assumption)
            have hx5 := bt_at a0 x1_1
            replace p5 := eq_true p5
            replace q5 := eq_true q5
            go_wp2_with (first | (go_at_call 24; (with_reducible refine (rosterlaw01_blank.calls (bt a0 x1_1) false _ A6.out).mono ?_); rintro e w' ⟨rfl, ⟨nd, rfl⟩⟩))
            go_ret
            exact ⟨by first | rfl | (simp; done) | (simp [*]; done), by repeat (first | exact Drawn0.refl _ | apply Drawn0.step)⟩
        · rw [if_neg c4] at H
          exact absurd H (by simp)
      · rw [if_neg c3] at H
        have c3b0 : decide (x1_1 < (a0.size : Int)) = false := decide_eq_false c3
        clear c3
        obtain rfl := Option.some.inj H
        go_wp2
        go_ret
        exact ⟨by first | rfl | (simp; done) | (simp [*]; done), by repeat (first | exact Drawn0.refl _ | apply Drawn0.step)⟩

/-! ### rosterlaw01_small: function 17 -/
def rosterlaw01_small.f (a0 : Int) : Option (Int) := if a0 ≥ 65 then (if a0 ≤ 90 then (some ((a0 + 32) % 256)) else (some a0)) else (some a0)
set_option maxHeartbeats 8000000 in
set_option maxRecDepth 100000 in
theorem rosterlaw01_small.calls (a0 : Int) (r : Int) (w : World) (h : rosterlaw01_small.f a0 = some r) :
    Calls Try.prog 17 #[.int .u8 a0] w fun e w' => e = .returned (.int .u8 r) ∧ Drawn0 w w' := by
  have H : (if a0 ≥ 65 then (if a0 ≤ 90 then (some ((a0 + 32) % 256)) else (some a0)) else (some a0)) = some r := h
  clear h
  by_cases c2 : a0 ≥ 65
  · rw [if_pos c2] at H
    have c2b0 : decide (65 ≤ a0) = true := decide_eq_true c2
    clear c2
    by_cases c3 : a0 ≤ 90
    · rw [if_pos c3] at H
      have c3b0 : decide (a0 ≤ 90) = true := decide_eq_true c3
      clear c3
      obtain rfl := Option.some.inj H
      go_enter Try.func17, Try.ntmps17
      go_wp2
      go_ret
      exact ⟨by first | rfl | (simp; done) | (simp [*]; done), by repeat (first | exact Drawn0.refl _ | apply Drawn0.step)⟩
    · rw [if_neg c3] at H
      have c3b0 : decide (a0 ≤ 90) = false := decide_eq_false c3
      clear c3
      obtain rfl := Option.some.inj H
      go_enter Try.func17, Try.ntmps17
      go_wp2
      go_ret
      exact ⟨by first | rfl | (simp; done) | (simp [*]; done), by repeat (first | exact Drawn0.refl _ | apply Drawn0.step)⟩
  · rw [if_neg c2] at H
    have c2b0 : decide (65 ≤ a0) = false := decide_eq_false c2
    clear c2
    obtain rfl := Option.some.inj H
    go_enter Try.func17, Try.ntmps17
    go_wp2
    go_ret
    exact ⟨by first | rfl | (simp; done) | (simp [*]; done), by repeat (first | exact Drawn0.refl _ | apply Drawn0.step)⟩

/-! ### rosterlaw01_TextNormalForm: function 4 -/
mutual
def rosterlaw01_TextNormalForm.l0 : Nat → ByteArray → ByteArray → Int → Int → Option (Bool)
  | 0, _, _, _, _ => none
  | k + 1, x0, x3, x4, x5 => if x5 < (x0.size : Int) then (if x4 ≥ (x3.size : Int) then (rosterlaw01_TextNormalForm.j1 k x0 x3 x4 x5 true) else (if 0 ≤ x4 then (if x4 < (x3.size : Int) then (if 0 ≤ x5 then ((rosterlaw01_small.f (bt x0 x5)).bind fun t152 => (rosterlaw01_TextNormalForm.j1 k x0 x3 x4 x5 ((bt x3 x4) != t152))) else (none)) else (none)) else (none))) else (some (x4 == (x3.size : Int)))
def rosterlaw01_TextNormalForm.j1 : Nat → ByteArray → ByteArray → Int → Int → Bool → Option (Bool)
  | 0, _, _, _, _, _ => none
  | k + 1, x0, x3, x4, x5, x28 => if x28 = true then (some false) else ((rosterlaw01_next.f k x0 (wrap64 (x5 + 1))).bind fun t153 => (if t153 > (wrap64 (x5 + 1)) then (rosterlaw01_TextNormalForm.j2 k x0 x3 (wrap64 (x4 + 1)) t153 (decide (t153 < (x0.size : Int)))) else (rosterlaw01_TextNormalForm.j2 k x0 x3 (wrap64 (x4 + 1)) t153 false)))
def rosterlaw01_TextNormalForm.j2 : Nat → ByteArray → ByteArray → Int → Int → Bool → Option (Bool)
  | 0, _, _, _, _, _ => none
  | k + 1, x0, x3, x4, x6, x44 => if x44 = true then (if x4 ≥ (x3.size : Int) then (some false) else (if 0 ≤ x4 then (if x4 < (x3.size : Int) then (if (bt x3 x4) = 32 then (rosterlaw01_TextNormalForm.l0 k x0 x3 (wrap64 (x4 + 1)) x6) else (some false)) else (none)) else (none))) else (rosterlaw01_TextNormalForm.l0 k x0 x3 x4 x6)
end
def rosterlaw01_TextNormalForm.f (k : Nat) (a0 : ByteArray) : Option (Bool) := (text_Normal.f k a0).bind fun t150 => ((rosterlaw01_next.f k a0 0).bind fun t151 => (rosterlaw01_TextNormalForm.l0 k a0 t150 0 t151))
theorem rosterlaw01_TextNormalForm.mono_l : ∀ k, (∀ y0 y1 y2 y3, LeO (rosterlaw01_TextNormalForm.l0 k y0 y1 y2 y3) (rosterlaw01_TextNormalForm.l0 (k + 1) y0 y1 y2 y3)) ∧ (∀ y0 y1 y2 y3 y4, LeO (rosterlaw01_TextNormalForm.j1 k y0 y1 y2 y3 y4) (rosterlaw01_TextNormalForm.j1 (k + 1) y0 y1 y2 y3 y4)) ∧ (∀ y0 y1 y2 y3 y4, LeO (rosterlaw01_TextNormalForm.j2 k y0 y1 y2 y3 y4) (rosterlaw01_TextNormalForm.j2 (k + 1) y0 y1 y2 y3 y4))
  | 0 => ⟨fun _ _ _ _ r h => by simp [rosterlaw01_TextNormalForm.l0] at h, fun _ _ _ _ _ r h => by simp [rosterlaw01_TextNormalForm.j1] at h, fun _ _ _ _ _ r h => by simp [rosterlaw01_TextNormalForm.j2] at h⟩
  | k + 1 => by
    obtain ⟨ih0, ih1, ih2⟩ := rosterlaw01_TextNormalForm.mono_l k
    refine ⟨?_, ?_, ?_⟩
    · intro y0 y1 y2 y3
      unfold rosterlaw01_TextNormalForm.l0
      repeat' first
      | (with_reducible exact ih0 _ _ _ _)
      | (with_reducible exact ih1 _ _ _ _ _)
      | (with_reducible exact ih2 _ _ _ _ _)
      | (with_reducible exact rosterlaw01_next.mono _ _ _)
      | (with_reducible exact text_Normal.mono _ _)
      | (with_reducible exact LeO.refl _)
      | (with_reducible exact LeO.none _)
      | (with_reducible refine LeO.ite ?_ ?_)
      | (with_reducible refine LeO.bind ?_ (fun _ => ?_))
      | exact ih0 _ _ _ _
      | exact ih1 _ _ _ _ _
      | exact ih2 _ _ _ _ _
      | exact rosterlaw01_next.mono _ _ _
      | exact text_Normal.mono _ _
      | exact LeO.none _
      | refine LeO.ite ?_ ?_
      | refine LeO.bind ?_ (fun _ => ?_)
    · intro y0 y1 y2 y3 y4
      unfold rosterlaw01_TextNormalForm.j1
      repeat' first
      | (with_reducible exact ih0 _ _ _ _)
      | (with_reducible exact ih1 _ _ _ _ _)
      | (with_reducible exact ih2 _ _ _ _ _)
      | (with_reducible exact rosterlaw01_next.mono _ _ _)
      | (with_reducible exact text_Normal.mono _ _)
      | (with_reducible exact LeO.refl _)
      | (with_reducible exact LeO.none _)
      | (with_reducible refine LeO.ite ?_ ?_)
      | (with_reducible refine LeO.bind ?_ (fun _ => ?_))
      | exact ih0 _ _ _ _
      | exact ih1 _ _ _ _ _
      | exact ih2 _ _ _ _ _
      | exact rosterlaw01_next.mono _ _ _
      | exact text_Normal.mono _ _
      | exact LeO.none _
      | refine LeO.ite ?_ ?_
      | refine LeO.bind ?_ (fun _ => ?_)
    · intro y0 y1 y2 y3 y4
      unfold rosterlaw01_TextNormalForm.j2
      repeat' first
      | (with_reducible exact ih0 _ _ _ _)
      | (with_reducible exact ih1 _ _ _ _ _)
      | (with_reducible exact ih2 _ _ _ _ _)
      | (with_reducible exact rosterlaw01_next.mono _ _ _)
      | (with_reducible exact text_Normal.mono _ _)
      | (with_reducible exact LeO.refl _)
      | (with_reducible exact LeO.none _)
      | (with_reducible refine LeO.ite ?_ ?_)
      | (with_reducible refine LeO.bind ?_ (fun _ => ?_))
      | exact ih0 _ _ _ _
      | exact ih1 _ _ _ _ _
      | exact ih2 _ _ _ _ _
      | exact rosterlaw01_next.mono _ _ _
      | exact text_Normal.mono _ _
      | exact LeO.none _
      | refine LeO.ite ?_ ?_
      | refine LeO.bind ?_ (fun _ => ?_)
theorem rosterlaw01_TextNormalForm.mono : ∀ a0 k, LeO (rosterlaw01_TextNormalForm.f k a0) (rosterlaw01_TextNormalForm.f (k + 1) a0) := by
  intro a0 k
  obtain ⟨ih0, ih1, ih2⟩ := rosterlaw01_TextNormalForm.mono_l k
  unfold rosterlaw01_TextNormalForm.f
  repeat' first
      | (with_reducible exact ih0 _ _ _ _)
      | (with_reducible exact ih1 _ _ _ _ _)
      | (with_reducible exact ih2 _ _ _ _ _)
      | (with_reducible exact rosterlaw01_next.mono _ _ _)
      | (with_reducible exact text_Normal.mono _ _)
      | (with_reducible exact LeO.refl _)
      | (with_reducible exact LeO.none _)
      | (with_reducible refine LeO.ite ?_ ?_)
      | (with_reducible refine LeO.bind ?_ (fun _ => ?_))
      | exact ih0 _ _ _ _
      | exact ih1 _ _ _ _ _
      | exact ih2 _ _ _ _ _
      | exact rosterlaw01_next.mono _ _ _
      | exact text_Normal.mono _ _
      | exact LeO.none _
      | refine LeO.ite ?_ ?_
      | refine LeO.bind ?_ (fun _ => ?_)
set_option maxHeartbeats 8000000 in
set_option maxRecDepth 100000 in
theorem rosterlaw01_TextNormalForm.calls (k : Nat) (a0 : ByteArray) (r : Bool) (w : World) (h : rosterlaw01_TextNormalForm.f k a0 = some r) :
    Calls Try.prog 4 #[.string a0] w fun e w' => e = .returned (.bool r) ∧ Below w.heap.size w w' := by
  have HB := Aside0.mk (Below.refl w.heap.size w)
  have H : ((text_Normal.f k a0).bind fun t150 => ((rosterlaw01_next.f k a0 0).bind fun t151 => (rosterlaw01_TextNormalForm.l0 k a0 t150 0 t151))) = some r := h
  clear h
  replace H := Option.bind_eq_some_iff.mp H
  obtain ⟨t150, A20, H⟩ := H
  replace H : ((rosterlaw01_next.f k a0 0).bind fun t151 => (rosterlaw01_TextNormalForm.l0 k a0 t150 0 t151)) = some r := H
  have A2 := Aside0.mk A20
  clear A20
  replace H := Option.bind_eq_some_iff.mp H
  obtain ⟨t151, A30, H⟩ := H
  replace H : (rosterlaw01_TextNormalForm.l0 k a0 t150 0 t151) = some r := H
  have A3 := Aside0.mk A30
  clear A30
  have H' := Aside0.mk H
  clear H
  go_enter Try.func4, Try.ntmps4
  go_wp2_with (first | (go_at_call 14; (with_reducible refine (text_Normal.calls k a0 t150 _ A2.out).mono ?_); rintro e w4 ⟨rfl, hb⟩; have n0_ := Aside0.mk (below_step (by repeat (first | (with_reducible first | exact HB.out | apply below_alloc | apply pw_below_drewN | apply below_drew1) | exact HB.out)) hb); clear HB; have HB := n0_; clear n0_; (try clear hb); (try clear hb2); (try clear hk); (try clear hi)) | (go_at_call 16; (with_reducible refine (rosterlaw01_next.calls k a0 0 t151 _ A3.out).mono ?_); rintro e w' ⟨rfl, ⟨nd, rfl⟩⟩; (try first | exact ⟨rfl, _, World.drewN_drewN _ _ _⟩ | exact ⟨rfl, _, Eq.trans (World.drewN_drewN _ _ _) (congrArg (World.drewN _) (Nat.add_assoc _ _ _))⟩)))
  repeat (go_quiet (first | (go_at_call 14; (with_reducible refine (text_Normal.calls k a0 t150 _ A2.out).mono ?_); rintro e w4 ⟨rfl, hb⟩; have n0_ := Aside0.mk (below_step (by repeat (first | (with_reducible first | exact HB.out | apply below_alloc | apply pw_below_drewN | apply below_drew1) | exact HB.out)) hb); clear HB; have HB := n0_; clear n0_; (try clear hb); (try clear hb2); (try clear hk); (try clear hi)) | (go_at_call 16; (with_reducible refine (rosterlaw01_next.calls k a0 0 t151 _ A3.out).mono ?_); rintro e w' ⟨rfl, ⟨nd, rfl⟩⟩; (try first | exact ⟨rfl, _, World.drewN_drewN _ _ _⟩ | exact ⟨rfl, _, Eq.trans (World.drewN_drewN _ _ _) (congrArg (World.drewN _) (Nat.add_assoc _ _ _))⟩))); try go_wp2_with (first | (go_at_call 14; (with_reducible refine (text_Normal.calls k a0 t150 _ A2.out).mono ?_); rintro e w4 ⟨rfl, hb⟩; have n0_ := Aside0.mk (below_step (by repeat (first | (with_reducible first | exact HB.out | apply below_alloc | apply pw_below_drewN | apply below_drew1) | exact HB.out)) hb); clear HB; have HB := n0_; clear n0_; (try clear hb); (try clear hb2); (try clear hk); (try clear hi)) | (go_at_call 16; (with_reducible refine (rosterlaw01_next.calls k a0 0 t151 _ A3.out).mono ?_); rintro e w' ⟨rfl, ⟨nd, rfl⟩⟩; (try first | exact ⟨rfl, _, World.drewN_drewN _ _ _⟩ | exact ⟨rfl, _, Eq.trans (World.drewN_drewN _ _ _) (congrArg (World.drewN _) (Nat.add_assoc _ _ _))⟩))))
  go_loopg [4, 5] k (fun kq v4 v5 w' => ∃ (x4_1 : Int) (x5_1 : Int), v4 = .int .i64 x4_1 ∧ v5 = .int .i64 x5_1 ∧ Aside0 (rosterlaw01_TextNormalForm.l0 kq a0 t150 x4_1 x5_1 = some r) ∧ Aside0 (kq ≤ k) ∧ Aside0 (Below w.heap.size w w'))
  case atStart => exact ⟨(0), (t151), (by first | rfl | (simp; done) | (simp [*]; done)), (by first | rfl | (simp; done) | (simp [*]; done)), H', ⟨Nat.le_refl _⟩, ⟨by repeat (first | (with_reducible first | exact HB.out | apply below_alloc | apply pw_below_drewN | apply below_drew1) | exact HB.out)⟩⟩
  case round =>
    clear H'
    try clear p2
    try clear c4
    obtain ⟨x4_1, x5_1, rfl, rfl, HA, HK1, HB⟩ := hrel
    cases gk with
    | zero => exact absurd HA.out (by simp [rosterlaw01_TextNormalForm.l0])
    | succ k1 =>
      have H := HA.out
      clear HA
      simp only [rosterlaw01_TextNormalForm.l0] at H
      by_cases c5 : x5_1 < (a0.size : Int)
      · rw [if_pos c5] at H
        have c5b0 : decide (x5_1 < (a0.size : Int)) = true := decide_eq_true c5
        clear c5
        have HC6 := Aside0.mk H
        clear H
        go_upto_region 5 with (fail)
        repeat (go_quiet (fail); go_upto_region 5 with (fail))
        go_cut [28] (fun v28 wc => ∃ (kq : Nat) (x28_5 : Bool), v28 = .bool x28_5 ∧ Aside0 (rosterlaw01_TextNormalForm.j1 kq a0 t150 x4_1 x5_1 x28_5 = some r) ∧ Aside0 (kq ≤ k1) ∧ Aside0 (Below w.heap.size w wc))
        case first =>
          have H := HC6.out
          clear HC6
          by_cases c7 : x4_1 ≥ (t150.size : Int)
          · rw [if_pos c7] at H
            have c7b0 : decide ((t150.size : Int) ≤ x4_1) = true := decide_eq_true c7
            clear c7
            (first | rw [c7b0] | (simp only [i64_w, i32_w]; rw [c7b0]) | skip)
            have H' := Aside0.mk H
            clear H
            go_wp2
            repeat (go_quiet (fail); try go_wp2)
            go_meet
            case rel => exact ⟨_, (true), (by first | rfl | (simp; done) | (simp [*]; done)), H', ⟨by have := HK1.out; first | omega | exact Nat.le_refl _⟩, ⟨by repeat (first | (with_reducible first | exact HB.out | apply below_alloc | apply pw_below_drewN | apply below_drew1) | exact HB.out)⟩⟩
          · rw [if_neg c7] at H
            have c7b0 : decide ((t150.size : Int) ≤ x4_1) = false := decide_eq_false c7
            clear c7
            (first | rw [c7b0] | (simp only [i64_w, i32_w]; rw [c7b0]) | skip)
            by_cases c8 : 0 ≤ x4_1
            · rw [if_pos c8] at H
              have c8b0 : decide (0 ≤ x4_1) = true := decide_eq_true c8
              clear c8
              by_cases c9 : x4_1 < (t150.size : Int)
              · rw [if_pos c9] at H
                have c9b0 : decide (x4_1 < (t150.size : Int)) = true := decide_eq_true c9
                clear c9
                by_cases c11 : 0 ≤ x5_1
                · rw [if_pos c11] at H
                  have c11b0 : decide (0 ≤ x5_1) = true := decide_eq_true c11
                  clear c11
                  replace H := Option.bind_eq_some_iff.mp H
                  obtain ⟨t152, A130, H⟩ := H
                  replace H : (rosterlaw01_TextNormalForm.j1 k1 a0 t150 x4_1 x5_1 ((bt t150 x4_1) != t152)) = some r := H
                  have A13 := Aside0.mk A130
                  clear A130
                  have H' := Aside0.mk H
                  clear H
                  have p10 : 0 ≤ (x4_1 : Int) := of_decide_eq_true (by first | (with_reducible assumption) | assumption)
                  have q10 : x4_1 < (t150.size : Int) := of_decide_eq_true (by first | (with_reducible assumption) | assumption)
                  have hx10 := bt_at t150 x4_1
                  replace p10 := eq_true p10
                  replace q10 := eq_true q10
                  have p12 : 0 ≤ (x5_1 : Int) := of_decide_eq_true (by first | (with_reducible assumption) | assumption)
                  have q12 : x5_1 < (a0.size : Int) := of_decide_eq_true (by first | (with_reducible assumption) | assumption)
                  have hx12 := bt_at a0 x5_1
                  replace p12 := eq_true p12
                  replace q12 := eq_true q12
                  go_wp2_with (first | (go_at_call 17; (with_reducible refine (rosterlaw01_small.calls (bt a0 x5_1) t152 _ A13.out).mono ?_); rintro e w' ⟨rfl, ⟨nd, rfl⟩⟩; (try first | exact ⟨rfl, _, World.drewN_drewN _ _ _⟩ | exact ⟨rfl, _, Eq.trans (World.drewN_drewN _ _ _) (congrArg (World.drewN _) (Nat.add_assoc _ _ _))⟩)))
                  repeat (go_quiet (first | (go_at_call 17; (with_reducible refine (rosterlaw01_small.calls (bt a0 x5_1) t152 _ A13.out).mono ?_); rintro e w' ⟨rfl, ⟨nd, rfl⟩⟩; (try first | exact ⟨rfl, _, World.drewN_drewN _ _ _⟩ | exact ⟨rfl, _, Eq.trans (World.drewN_drewN _ _ _) (congrArg (World.drewN _) (Nat.add_assoc _ _ _))⟩))); try go_wp2_with (first | (go_at_call 17; (with_reducible refine (rosterlaw01_small.calls (bt a0 x5_1) t152 _ A13.out).mono ?_); rintro e w' ⟨rfl, ⟨nd, rfl⟩⟩; (try first | exact ⟨rfl, _, World.drewN_drewN _ _ _⟩ | exact ⟨rfl, _, Eq.trans (World.drewN_drewN _ _ _) (congrArg (World.drewN _) (Nat.add_assoc _ _ _))⟩))))
                  go_meet
                  case rel => exact ⟨_, (((bt t150 x4_1) != t152)), (by first | rfl | (simp; done) | (simp [*]; done)), H', ⟨by have := HK1.out; first | omega | exact Nat.le_refl _⟩, ⟨by repeat (first | (with_reducible first | exact HB.out | apply below_alloc | apply pw_below_drewN | apply below_drew1) | exact HB.out)⟩⟩
                · rw [if_neg c11] at H
                  exact absurd H (by simp)
              · rw [if_neg c9] at H
                exact absurd H (by simp)
            · rw [if_neg c8] at H
              exact absurd H (by simp)
        case rest =>
          clear HC6
          try clear c1
          try clear p1
          try clear q1
          try clear hx1
          try clear p2
          try clear c4
          try clear c5
          try clear c5b0
          try clear c7
          try clear c7b0
          try clear c8
          try clear c8b0
          try clear c9
          try clear c9b0
          try clear p10
          try clear q10
          try clear hx10
          try clear c11
          try clear c11b0
          try clear p12
          try clear q12
          try clear hx12
          try clear p10
          try clear p12
          try clear p2
          try clear q10
          try clear q12
          obtain ⟨kq, x28_5, rfl, HA, HJ5, HB⟩ := hcut
          cases kq with
          | zero => exact absurd HA.out (by simp [rosterlaw01_TextNormalForm.j1])
          | succ kj5 =>
            have H := HA.out
            clear HA
            simp only [rosterlaw01_TextNormalForm.j1] at H
            by_cases c14 : x28_5 = true
            · subst c14
              have H1 : (some false) = some r := by rw [if_pos rfl] at H; exact H
              clear H
              have H := H1
              clear H1
              obtain rfl := Option.some.inj H
              go_wp2
              repeat (go_quiet (fail); try go_wp2)
              go_ret
              exact ⟨by first | rfl | (simp [errW_none, errW_some] <;> rfl) | (simp [*, errW_none, errW_some] <;> rfl), by repeat (first | (with_reducible first | exact HB.out | apply below_alloc | apply pw_below_drewN | apply below_drew1) | exact HB.out)⟩
            · replace c14 := Bool.eq_false_iff.mpr c14
              subst c14
              have H1 : ((rosterlaw01_next.f kj5 a0 (wrap64 (x5_1 + 1))).bind fun t153 => (if t153 > (wrap64 (x5_1 + 1)) then (rosterlaw01_TextNormalForm.j2 kj5 a0 t150 (wrap64 (x4_1 + 1)) t153 (decide (t153 < (a0.size : Int)))) else (rosterlaw01_TextNormalForm.j2 kj5 a0 t150 (wrap64 (x4_1 + 1)) t153 false))) = some r := by rw [if_neg (show ¬ (false = true) by decide)] at H; exact H
              clear H
              have H := H1
              clear H1
              replace H := Option.bind_eq_some_iff.mp H
              obtain ⟨t153, A150, H⟩ := H
              replace H : (if t153 > (wrap64 (x5_1 + 1)) then (rosterlaw01_TextNormalForm.j2 kj5 a0 t150 (wrap64 (x4_1 + 1)) t153 (decide (t153 < (a0.size : Int)))) else (rosterlaw01_TextNormalForm.j2 kj5 a0 t150 (wrap64 (x4_1 + 1)) t153 false)) = some r := H
              have A15 := Aside0.mk A150
              clear A150
              have HC16 := Aside0.mk H
              clear H
              go_upto_region 9 with (first | (go_at_call 16; (with_reducible refine (rosterlaw01_next.calls kj5 a0 (wrap64 (x5_1 + 1)) t153 _ A15.out).mono ?_); rintro e w' ⟨rfl, ⟨nd, rfl⟩⟩; (try first | exact ⟨rfl, _, World.drewN_drewN _ _ _⟩ | exact ⟨rfl, _, Eq.trans (World.drewN_drewN _ _ _) (congrArg (World.drewN _) (Nat.add_assoc _ _ _))⟩)))
              repeat (go_quiet (first | (go_at_call 16; (with_reducible refine (rosterlaw01_next.calls kj5 a0 (wrap64 (x5_1 + 1)) t153 _ A15.out).mono ?_); rintro e w' ⟨rfl, ⟨nd, rfl⟩⟩; (try first | exact ⟨rfl, _, World.drewN_drewN _ _ _⟩ | exact ⟨rfl, _, Eq.trans (World.drewN_drewN _ _ _) (congrArg (World.drewN _) (Nat.add_assoc _ _ _))⟩))); go_upto_region 9 with (first | (go_at_call 16; (with_reducible refine (rosterlaw01_next.calls kj5 a0 (wrap64 (x5_1 + 1)) t153 _ A15.out).mono ?_); rintro e w' ⟨rfl, ⟨nd, rfl⟩⟩; (try first | exact ⟨rfl, _, World.drewN_drewN _ _ _⟩ | exact ⟨rfl, _, Eq.trans (World.drewN_drewN _ _ _) (congrArg (World.drewN _) (Nat.add_assoc _ _ _))⟩))))
              (try simp only [Act.put, List.setIfInBounds_toArray, List.set_cons_zero, List.set_cons_succ])
              go_cut [44] (fun v44 wc => ∃ (kq : Nat) (x44_15 : Bool), v44 = .bool x44_15 ∧ Aside0 (rosterlaw01_TextNormalForm.j2 kq a0 t150 (wrap64 (x4_1 + 1)) t153 x44_15 = some r) ∧ Aside0 (kq ≤ kj5) ∧ Aside0 (Below w.heap.size w wc))
              case first =>
                have H := HC16.out
                clear HC16
                by_cases c17 : t153 > (wrap64 (x5_1 + 1))
                · rw [if_pos c17] at H
                  have c17b0 : decide ((wrap64 (x5_1 + 1)) < t153) = true := decide_eq_true c17
                  clear c17
                  (first | rw [c17b0] | (simp only [i64_w, i32_w]; rw [c17b0]) | skip)
                  have H' := Aside0.mk H
                  clear H
                  go_wp2
                  repeat (go_quiet (fail); try go_wp2)
                  go_meet
                  case rel => exact ⟨_, (decide (t153 < (a0.size : Int))), (by first | rfl | (simp; done) | (simp [*]; done)), H', ⟨by have := HK1.out; have := HJ5.out; first | omega | exact Nat.le_refl _⟩, ⟨by repeat (first | (with_reducible first | exact HB.out | apply below_alloc | apply pw_below_drewN | apply below_drew1) | exact HB.out)⟩⟩
                · rw [if_neg c17] at H
                  have c17b0 : decide ((wrap64 (x5_1 + 1)) < t153) = false := decide_eq_false c17
                  clear c17
                  (first | rw [c17b0] | (simp only [i64_w, i32_w]; rw [c17b0]) | skip)
                  have H' := Aside0.mk H
                  clear H
                  go_wp2
                  repeat (go_quiet (fail); try go_wp2)
                  go_meet
                  case rel => exact ⟨_, (false), (by first | rfl | (simp; done) | (simp [*]; done)), H', ⟨by have := HK1.out; have := HJ5.out; first | omega | exact Nat.le_refl _⟩, ⟨by repeat (first | (with_reducible first | exact HB.out | apply below_alloc | apply pw_below_drewN | apply below_drew1) | exact HB.out)⟩⟩
              case rest =>
                clear HC16
                try clear c1
                try clear p1
                try clear q1
                try clear hx1
                try clear p2
                try clear c4
                try clear c5
                try clear c5b0
                try clear p6
                try clear c7
                try clear c7b0
                try clear c8
                try clear c8b0
                try clear c9
                try clear c9b0
                try clear p10
                try clear q10
                try clear hx10
                try clear c11
                try clear c11b0
                try clear p12
                try clear q12
                try clear hx12
                try clear c14
                try clear c17
                try clear c17b0
                try clear p1
                try clear p10
                try clear p12
                try clear p2
                try clear q1
                try clear q10
                try clear q12
                obtain ⟨kq, x44_15, rfl, HA, HJ15, HB⟩ := hcut
                cases kq with
                | zero => exact absurd HA.out (by simp [rosterlaw01_TextNormalForm.j2])
                | succ kj15 =>
                  have H := HA.out
                  clear HA
                  simp only [rosterlaw01_TextNormalForm.j2] at H
                  by_cases c18 : x44_15 = true
                  · subst c18
                    have H1 : (if (wrap64 (x4_1 + 1)) ≥ (t150.size : Int) then (some false) else (if 0 ≤ (wrap64 (x4_1 + 1)) then (if (wrap64 (x4_1 + 1)) < (t150.size : Int) then (if (bt t150 (wrap64 (x4_1 + 1))) = 32 then (rosterlaw01_TextNormalForm.l0 kj15 a0 t150 (wrap64 ((wrap64 (x4_1 + 1)) + 1)) t153) else (some false)) else (none)) else (none))) = some r := by rw [if_pos rfl] at H; exact H
                    clear H
                    have H := H1
                    clear H1
                    by_cases c19 : (wrap64 (x4_1 + 1)) ≥ (t150.size : Int)
                    · rw [if_pos c19] at H
                      have c19b0 : decide ((t150.size : Int) ≤ (wrap64 (x4_1 + 1))) = true := decide_eq_true c19
                      clear c19
                      obtain rfl := Option.some.inj H
                      go_wp2
                      repeat (go_quiet (fail); try go_wp2)
                      go_ret
                      exact ⟨by first | rfl | (simp [errW_none, errW_some] <;> rfl) | (simp [*, errW_none, errW_some] <;> rfl), by repeat (first | (with_reducible first | exact HB.out | apply below_alloc | apply pw_below_drewN | apply below_drew1) | exact HB.out)⟩
                    · rw [if_neg c19] at H
                      have c19b0 : decide ((t150.size : Int) ≤ (wrap64 (x4_1 + 1))) = false := decide_eq_false c19
                      clear c19
                      obtain ⟨ji20, hji20⟩ : ∃ j_ : Int, (wrap64 (x4_1 + 1)) = j_ := ⟨_, rfl⟩
                      replace H : (if 0 ≤ (ji20) then (if (ji20) < (t150.size : Int) then (if (bt t150 (ji20)) = 32 then (rosterlaw01_TextNormalForm.l0 kj15 a0 t150 (wrap64 ((ji20) + 1)) t153) else (some false)) else (none)) else (none)) = some r := by first | (rw [hji20] at H; exact H) | (simp only [hji20] at H ⊢; exact H)
                      (try rw [hji20] at c19b0)
                      have hji20w : (IntKind.i64.wrap (x4_1 + 1)) = ji20 := (i64_w _).trans hji20
                      by_cases c21 : 0 ≤ (ji20)
                      · rw [if_pos c21] at H
                        have c21b0 : decide (0 ≤ (ji20)) = true := decide_eq_true c21
                        clear c21
                        by_cases c22 : (ji20) < (t150.size : Int)
                        · rw [if_pos c22] at H
                          have c22b0 : decide ((ji20) < (t150.size : Int)) = true := decide_eq_true c22
                          clear c22
                          by_cases c24 : (bt t150 (ji20)) = 32
                          · rw [if_pos c24] at H
                            have c24b0 : ((bt t150 (ji20)) == 32) = true := beq_iff_eq.mpr c24
                            have c24b1 : ((bt t150 (ji20)) != 32) = false := bne_eq_false_iff_eq.mpr c24
                            clear c24
                            have H' := Aside0.mk H
                            clear H
                            have p23 : 0 ≤ ((ji20) : Int) := of_decide_eq_true (by first | (with_reducible assumption) | assumption)
                            have q23 : (ji20) < (t150.size : Int) := of_decide_eq_true (by first | (with_reducible assumption) | assumption)
                            have hx23 := bt_at t150 (ji20)
                            replace p23 := eq_true p23
                            replace q23 := eq_true q23
                            go_wp2
                            repeat (go_quiet (fail); try go_wp2)
                            go_roundg kj15
                            case measure => have := HK1.out; have := HJ5.out; have := HJ15.out; omega
                            case rel => exact ⟨(wrap64 ((ji20) + 1)), (t153), (by first | rfl | (simp; done) | (simp only [← hji20] <;> (first | rfl | simp)) | (simp [*]; done)), (by first | rfl | (simp; done) | (simp [*]; done)), H', ⟨by have := HK1.out; have := HJ5.out; have := HJ15.out; omega⟩, ⟨by repeat (first | (with_reducible first | exact HB.out | apply below_alloc | apply pw_below_drewN | apply below_drew1) | exact HB.out)⟩⟩
                          · rw [if_neg c24] at H
                            have c24b0 : ((bt t150 (ji20)) == 32) = false := beq_eq_false_iff_ne.mpr c24
                            have c24b1 : ((bt t150 (ji20)) != 32) = true := bne_iff_ne.mpr c24
                            obtain rfl := Option.some.inj H
                            have p23 : 0 ≤ ((ji20) : Int) := of_decide_eq_true (by first | (with_reducible assumption) | assumption)
                            have q23 : (ji20) < (t150.size : Int) := of_decide_eq_true (by first | (with_reducible assumption) | assumption)
                            have hx23 := bt_at t150 (ji20)
                            replace p23 := eq_true p23
                            replace q23 := eq_true q23
                            go_wp2
                            repeat (go_quiet (fail); try go_wp2)
                            go_ret
                            exact ⟨by first | rfl | (simp [errW_none, errW_some] <;> rfl) | (simp only [← hji20]; first | rfl | (simp [errW_none, errW_some] <;> rfl)) | (simp [*, errW_none, errW_some] <;> rfl), by repeat (first | (with_reducible first | exact HB.out | apply below_alloc | apply pw_below_drewN | apply below_drew1) | exact HB.out)⟩
                        · rw [if_neg c22] at H
                          exact absurd H (by simp)
                      · rw [if_neg c21] at H
                        exact absurd H (by simp)
                  · replace c18 := Bool.eq_false_iff.mpr c18
                    subst c18
                    have H1 : (rosterlaw01_TextNormalForm.l0 kj15 a0 t150 (wrap64 (x4_1 + 1)) t153) = some r := by rw [if_neg (show ¬ (false = true) by decide)] at H; exact H
                    clear H
                    have H := H1
                    clear H1
                    have H' := Aside0.mk H
                    clear H
                    go_wp2
                    repeat (go_quiet (fail); try go_wp2)
                    go_roundg kj15
                    case measure => have := HK1.out; have := HJ5.out; have := HJ15.out; omega
                    case rel => exact ⟨((wrap64 (x4_1 + 1))), (t153), (by first | rfl | (simp; done) | (simp [*]; done)), (by first | rfl | (simp; done) | (simp [*]; done)), H', ⟨by have := HK1.out; have := HJ5.out; have := HJ15.out; omega⟩, ⟨by repeat (first | (with_reducible first | exact HB.out | apply below_alloc | apply pw_below_drewN | apply below_drew1) | exact HB.out)⟩⟩
      · rw [if_neg c5] at H
        have c5b0 : decide (x5_1 < (a0.size : Int)) = false := decide_eq_false c5
        clear c5
        obtain rfl := Option.some.inj H
        go_wp2
        repeat (go_quiet (fail); try go_wp2)
        go_ret
        exact ⟨by first | rfl | (simp [errW_none, errW_some] <;> rfl) | (simp [*, errW_none, errW_some] <;> rfl), by repeat (first | (with_reducible first | exact HB.out | apply below_alloc | apply pw_below_drewN | apply below_drew1) | exact HB.out)⟩

end Go.Proofs.Ytjkhdiphcgpbfaa.X

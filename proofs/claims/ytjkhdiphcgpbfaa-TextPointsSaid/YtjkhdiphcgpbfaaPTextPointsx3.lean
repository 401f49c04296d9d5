-- PRINTED BY print.sh 35421559b90ae4d0a3588c463048766b98c2df88dd9212a6774a882060cdf62d: not written by this session
import Derived.Test.YtjkhdiphcgpbfaaPTextPointsx0
import Derived.Test.YtjkhdiphcgpbfaaPTextPointsx1
import Derived.Test.YtjkhdiphcgpbfaaPTextPointsx2
namespace Go.Proofs.Ytjkhdiphcgpbfaa.PTextPoints
open Go.RowKit Go.Proofs.YtjkhdiphcgpbfaaW.PrintWords Go.Proofs.YtjkhdiphcgpbfaaW.PrintLast Go.Proofs.YtjkhdiphcgpbfaaW.PrintMore
attribute [local go_sem] max2_int min2_int max_two min_two max_three min_three max_four min_four   -- for this text's walks alone
set_option linter.unusedVariables false
set_option linter.unusedSimpArgs false

/-! ### rosterlaw01_TextPoints: function 6 -/
mutual
def rosterlaw01_TextPoints.l0 : Nat → List Int → List Int → ByteArray → Int → Int → Option (Bool)
  | 0, _, _, _, _, _ => none
  | k + 1, x0, x1, x5, x6, x7 => if x7 < (x0.length : Int) then (rosterlaw01_TextPoints.j1 k x0 x1 x5 x6 x7 (decide (x7 < 64))) else (rosterlaw01_TextPoints.j1 k x0 x1 x5 x6 x7 false)
def rosterlaw01_TextPoints.j1 : Nat → List Int → List Int → ByteArray → Int → Int → Bool → Option (Bool)
  | 0, _, _, _, _, _, _ => none
  | k + 1, x0, x1, x5, x6, x7, x21 => if x21 = true then (if 0 ≤ x7 then (if x7 < (x0.length : Int) then ((rosterlaw01_need.f (Go.bits .and .i64 (rd x0 x7) 2097151)).bind fun t124 => (if x7 < (x1.length : Int) then (rosterlaw01_TextPoints.j2 k x0 x1 x5 x6 x7 (Go.bits .and .i64 (rd x0 x7) 2097151) (wrap64 (t124 + (Go.bits .and .i64 (rd x1 x7) 3))) t124) else (rosterlaw01_TextPoints.j2 k x0 x1 x5 x6 x7 (Go.bits .and .i64 (rd x0 x7) 2097151) t124 t124))) else (none)) else (none)) else ((text_Check.f k x5).bind fun bt146 => (if x6 < 0 then ((rosterlaw01_num.f bt146.1).bind fun t148 => (if t148 = 0 then (some (bt146.2 == (x5.size : Int))) else (some false))) else ((rosterlaw01_num.f bt146.1).bind fun t149 => (if t149 = 10 then (some (bt146.2 == x6)) else (some false)))))
def rosterlaw01_TextPoints.j2 : Nat → List Int → List Int → ByteArray → Int → Int → Int → Int → Int → Option (Bool)
  | 0, _, _, _, _, _, _, _, _ => none
  | k + 1, x0, x1, x5, x6, x7, x8, x9, x10 => if x9 > 4 then (if 4 > x10 then (if x6 < 0 then ((rosterlaw01_wide.f x8 4).bind fun t126 => (if x5.size + t126.size ≤ 9223372036854775807 then (rosterlaw01_TextPoints.l0 k x0 x1 (x5 ++ t126) (x5.size : Int) (wrap64 (x7 + 1))) else (none))) else ((rosterlaw01_wide.f x8 4).bind fun t127 => (if x5.size + t127.size ≤ 9223372036854775807 then (rosterlaw01_TextPoints.l0 k x0 x1 (x5 ++ t127) x6 (wrap64 (x7 + 1))) else (none)))) else (if x8 ≥ 55296 then (if x8 ≤ 57343 then (if x6 < 0 then ((rosterlaw01_wide.f x8 4).bind fun t128 => (if x5.size + t128.size ≤ 9223372036854775807 then (rosterlaw01_TextPoints.l0 k x0 x1 (x5 ++ t128) (x5.size : Int) (wrap64 (x7 + 1))) else (none))) else ((rosterlaw01_wide.f x8 4).bind fun t129 => (if x5.size + t129.size ≤ 9223372036854775807 then (rosterlaw01_TextPoints.l0 k x0 x1 (x5 ++ t129) x6 (wrap64 (x7 + 1))) else (none)))) else (if x8 > 1114111 then (if x6 < 0 then ((rosterlaw01_wide.f x8 4).bind fun t130 => (if x5.size + t130.size ≤ 9223372036854775807 then (rosterlaw01_TextPoints.l0 k x0 x1 (x5 ++ t130) (x5.size : Int) (wrap64 (x7 + 1))) else (none))) else ((rosterlaw01_wide.f x8 4).bind fun t131 => (if x5.size + t131.size ≤ 9223372036854775807 then (rosterlaw01_TextPoints.l0 k x0 x1 (x5 ++ t131) x6 (wrap64 (x7 + 1))) else (none)))) else ((rosterlaw01_wide.f x8 4).bind fun t132 => (if x5.size + t132.size ≤ 9223372036854775807 then (rosterlaw01_TextPoints.l0 k x0 x1 (x5 ++ t132) x6 (wrap64 (x7 + 1))) else (none))))) else (if x8 > 1114111 then (if x6 < 0 then ((rosterlaw01_wide.f x8 4).bind fun t133 => (if x5.size + t133.size ≤ 9223372036854775807 then (rosterlaw01_TextPoints.l0 k x0 x1 (x5 ++ t133) (x5.size : Int) (wrap64 (x7 + 1))) else (none))) else ((rosterlaw01_wide.f x8 4).bind fun t134 => (if x5.size + t134.size ≤ 9223372036854775807 then (rosterlaw01_TextPoints.l0 k x0 x1 (x5 ++ t134) x6 (wrap64 (x7 + 1))) else (none)))) else ((rosterlaw01_wide.f x8 4).bind fun t135 => (if x5.size + t135.size ≤ 9223372036854775807 then (rosterlaw01_TextPoints.l0 k x0 x1 (x5 ++ t135) x6 (wrap64 (x7 + 1))) else (none)))))) else (if x9 > x10 then (if x6 < 0 then ((rosterlaw01_wide.f x8 x9).bind fun t136 => (if x5.size + t136.size ≤ 9223372036854775807 then (rosterlaw01_TextPoints.l0 k x0 x1 (x5 ++ t136) (x5.size : Int) (wrap64 (x7 + 1))) else (none))) else ((rosterlaw01_wide.f x8 x9).bind fun t137 => (if x5.size + t137.size ≤ 9223372036854775807 then (rosterlaw01_TextPoints.l0 k x0 x1 (x5 ++ t137) x6 (wrap64 (x7 + 1))) else (none)))) else (if x8 ≥ 55296 then (if x8 ≤ 57343 then (if x6 < 0 then ((rosterlaw01_wide.f x8 x9).bind fun t138 => (if x5.size + t138.size ≤ 9223372036854775807 then (rosterlaw01_TextPoints.l0 k x0 x1 (x5 ++ t138) (x5.size : Int) (wrap64 (x7 + 1))) else (none))) else ((rosterlaw01_wide.f x8 x9).bind fun t139 => (if x5.size + t139.size ≤ 9223372036854775807 then (rosterlaw01_TextPoints.l0 k x0 x1 (x5 ++ t139) x6 (wrap64 (x7 + 1))) else (none)))) else (if x8 > 1114111 then (if x6 < 0 then ((rosterlaw01_wide.f x8 x9).bind fun t140 => (if x5.size + t140.size ≤ 9223372036854775807 then (rosterlaw01_TextPoints.l0 k x0 x1 (x5 ++ t140) (x5.size : Int) (wrap64 (x7 + 1))) else (none))) else ((rosterlaw01_wide.f x8 x9).bind fun t141 => (if x5.size + t141.size ≤ 9223372036854775807 then (rosterlaw01_TextPoints.l0 k x0 x1 (x5 ++ t141) x6 (wrap64 (x7 + 1))) else (none)))) else ((rosterlaw01_wide.f x8 x9).bind fun t142 => (if x5.size + t142.size ≤ 9223372036854775807 then (rosterlaw01_TextPoints.l0 k x0 x1 (x5 ++ t142) x6 (wrap64 (x7 + 1))) else (none))))) else (if x8 > 1114111 then (if x6 < 0 then ((rosterlaw01_wide.f x8 x9).bind fun t143 => (if x5.size + t143.size ≤ 9223372036854775807 then (rosterlaw01_TextPoints.l0 k x0 x1 (x5 ++ t143) (x5.size : Int) (wrap64 (x7 + 1))) else (none))) else ((rosterlaw01_wide.f x8 x9).bind fun t144 => (if x5.size + t144.size ≤ 9223372036854775807 then (rosterlaw01_TextPoints.l0 k x0 x1 (x5 ++ t144) x6 (wrap64 (x7 + 1))) else (none)))) else ((rosterlaw01_wide.f x8 x9).bind fun t145 => (if x5.size + t145.size ≤ 9223372036854775807 then (rosterlaw01_TextPoints.l0 k x0 x1 (x5 ++ t145) x6 (wrap64 (x7 + 1))) else (none))))))
end
def rosterlaw01_TextPoints.f (k : Nat) (l0 : List Int) (l1 : List Int) : Option (Bool) := rosterlaw01_TextPoints.l0 k l0 l1 (⟨#[]⟩ : ByteArray) (-1) 0
theorem rosterlaw01_TextPoints.mono_l : ∀ k, (∀ y0 y1 y2 y3 y4, LeO (rosterlaw01_TextPoints.l0 k y0 y1 y2 y3 y4) (rosterlaw01_TextPoints.l0 (k + 1) y0 y1 y2 y3 y4)) ∧ (∀ y0 y1 y2 y3 y4 y5, LeO (rosterlaw01_TextPoints.j1 k y0 y1 y2 y3 y4 y5) (rosterlaw01_TextPoints.j1 (k + 1) y0 y1 y2 y3 y4 y5)) ∧ (∀ y0 y1 y2 y3 y4 y5 y6 y7, LeO (rosterlaw01_TextPoints.j2 k y0 y1 y2 y3 y4 y5 y6 y7) (rosterlaw01_TextPoints.j2 (k + 1) y0 y1 y2 y3 y4 y5 y6 y7))
  | 0 => ⟨fun _ _ _ _ _ r h => by simp [rosterlaw01_TextPoints.l0] at h, fun _ _ _ _ _ _ r h => by simp [rosterlaw01_TextPoints.j1] at h, fun _ _ _ _ _ _ _ _ r h => by simp [rosterlaw01_TextPoints.j2] at h⟩
  | k + 1 => by
    obtain ⟨ih0, ih1, ih2⟩ := rosterlaw01_TextPoints.mono_l k
    refine ⟨?_, ?_, ?_⟩
    · intro y0 y1 y2 y3 y4
      unfold rosterlaw01_TextPoints.l0
      repeat' first
      | (with_reducible exact ih0 _ _ _ _ _)
      | (with_reducible exact ih1 _ _ _ _ _ _)
      | (with_reducible exact ih2 _ _ _ _ _ _ _ _)
      | (with_reducible exact text_Check.mono _ _)
      | (with_reducible exact LeO.refl _)
      | (with_reducible exact LeO.none _)
      | (with_reducible refine LeO.ite ?_ ?_)
      | (with_reducible refine LeO.bind ?_ (fun _ => ?_))
      | exact ih0 _ _ _ _ _
      | exact ih1 _ _ _ _ _ _
      | exact ih2 _ _ _ _ _ _ _ _
      | exact text_Check.mono _ _
      | exact LeO.none _
      | refine LeO.ite ?_ ?_
      | refine LeO.bind ?_ (fun _ => ?_)
    · intro y0 y1 y2 y3 y4 y5
      unfold rosterlaw01_TextPoints.j1
      repeat' first
      | (with_reducible exact ih0 _ _ _ _ _)
      | (with_reducible exact ih1 _ _ _ _ _ _)
      | (with_reducible exact ih2 _ _ _ _ _ _ _ _)
      | (with_reducible exact text_Check.mono _ _)
      | (with_reducible exact LeO.refl _)
      | (with_reducible exact LeO.none _)
      | (with_reducible refine LeO.ite ?_ ?_)
      | (with_reducible refine LeO.bind ?_ (fun _ => ?_))
      | exact ih0 _ _ _ _ _
      | exact ih1 _ _ _ _ _ _
      | exact ih2 _ _ _ _ _ _ _ _
      | exact text_Check.mono _ _
      | exact LeO.none _
      | refine LeO.ite ?_ ?_
      | refine LeO.bind ?_ (fun _ => ?_)
    · intro y0 y1 y2 y3 y4 y5 y6 y7
      unfold rosterlaw01_TextPoints.j2
      repeat' first
      | (with_reducible exact ih0 _ _ _ _ _)
      | (with_reducible exact ih1 _ _ _ _ _ _)
      | (with_reducible exact ih2 _ _ _ _ _ _ _ _)
      | (with_reducible exact text_Check.mono _ _)
      | (with_reducible exact LeO.refl _)
      | (with_reducible exact LeO.none _)
      | (with_reducible refine LeO.ite ?_ ?_)
      | (with_reducible refine LeO.bind ?_ (fun _ => ?_))
      | exact ih0 _ _ _ _ _
      | exact ih1 _ _ _ _ _ _
      | exact ih2 _ _ _ _ _ _ _ _
      | exact text_Check.mono _ _
      | exact LeO.none _
      | refine LeO.ite ?_ ?_
      | refine LeO.bind ?_ (fun _ => ?_)
theorem rosterlaw01_TextPoints.mono : ∀ a0 a1 k, LeO (rosterlaw01_TextPoints.f k a0 a1) (rosterlaw01_TextPoints.f (k + 1) a0 a1) := by
  intro a0 a1 k
  obtain ⟨ih0, ih1, ih2⟩ := rosterlaw01_TextPoints.mono_l k
  unfold rosterlaw01_TextPoints.f
  repeat' first
      | (with_reducible exact ih0 _ _ _ _ _)
      | (with_reducible exact ih1 _ _ _ _ _ _)
      | (with_reducible exact ih2 _ _ _ _ _ _ _ _)
      | (with_reducible exact text_Check.mono _ _)
      | (with_reducible exact LeO.refl _)
      | (with_reducible exact LeO.none _)
      | (with_reducible refine LeO.ite ?_ ?_)
      | (with_reducible refine LeO.bind ?_ (fun _ => ?_))
      | exact ih0 _ _ _ _ _
      | exact ih1 _ _ _ _ _ _
      | exact ih2 _ _ _ _ _ _ _ _
      | exact text_Check.mono _ _
      | exact LeO.none _
      | refine LeO.ite ?_ ?_
      | refine LeO.bind ?_ (fun _ => ?_)
set_option maxHeartbeats 8000000 in
set_option maxRecDepth 100000 in
theorem rosterlaw01_TextPoints.calls (k : Nat) (A0 : Option Addr) (c0 : Nat) (l0 : List Int) (A1 : Option Addr) (c1 : Nat) (l1 : List Int) (r : Bool) (w : World) (hr0 : Kd.C (Kd.int .i64) w A0 l0.length l0) (hc0 : l0.length ≤ c0) (hr1 : Kd.C (Kd.int .i64) w A1 l1.length l1) (hc1 : l1.length ≤ c1) (h : rosterlaw01_TextPoints.f k l0 l1 = some r) :
    Calls Try.prog 6 #[.slice A0 l0.length c0, .slice A1 l1.length c1] w fun e w' => e = .returned (.bool r) ∧ Below w.heap.size w w' := by
  have HR0 := Aside0.mk hr0
  have HC0 := Aside0.mk hc0
  clear hr0 hc0
  have HR1 := Aside0.mk hr1
  have HC1 := Aside0.mk hc1
  clear hr1 hc1
  have HB := Aside0.mk (Below.refl w.heap.size w)
  have H : (rosterlaw01_TextPoints.l0 k l0 l1 (⟨#[]⟩ : ByteArray) (-1) 0) = some r := h
  clear h
  have H' := Aside0.mk H
  clear H
  go_enter Try.func6, Try.ntmps6
  go_wp2
  go_loopg [5, 6, 7] k (fun kq v5 v6 v7 w' => ∃ (x5_1 : ByteArray) (x6_1 : Int) (x7_1 : Int), v5 = .string x5_1 ∧ v6 = .int .i64 x6_1 ∧ v7 = .int .i64 x7_1 ∧ Aside0 (rosterlaw01_TextPoints.l0 kq l0 l1 x5_1 x6_1 x7_1 = some r) ∧ Aside0 (kq ≤ k) ∧ Aside0 (Below w.heap.size w w'))
  case atStart => exact ⟨((⟨#[]⟩ : ByteArray)), ((-1)), (0), (by first | rfl | (simp; done) | (simp [*]; done)), (by first | rfl | (simp; done) | (simp [*]; done)), (by first | rfl | (simp; done) | (simp [*]; done)), H', ⟨Nat.le_refl _⟩, ⟨by repeat (first | (with_reducible first | exact HB.out | apply below_alloc | apply pw_below_drewN | apply below_drew1) | exact HB.out)⟩⟩
  case round =>
    clear H'
    try clear c1
    try clear p2
    obtain ⟨x5_1, x6_1, x7_1, rfl, rfl, rfl, HA, HK1, HB⟩ := hrel
    cases gk with
    | zero => exact absurd HA.out (by simp [rosterlaw01_TextPoints.l0])
    | succ k1 =>
      have H := HA.out
      clear HA
      simp only [rosterlaw01_TextPoints.l0] at H
      have HC3 := Aside0.mk H
      clear H
      go_upto_region 4 with (fail)
      go_cut [21] (fun v21 wc => ∃ (kq : Nat) (x21_2 : Bool), v21 = .bool x21_2 ∧ Aside0 (rosterlaw01_TextPoints.j1 kq l0 l1 x5_1 x6_1 x7_1 x21_2 = some r) ∧ Aside0 (kq ≤ k1) ∧ Aside0 (Below w.heap.size w wc))
      case first =>
        have H := HC3.out
        clear HC3
        by_cases c4 : x7_1 < (l0.length : Int)
        · rw [if_pos c4] at H
          have c4b0 : decide (x7_1 < (l0.length : Int)) = true := decide_eq_true c4
          clear c4
          (first | rw [c4b0] | (simp only [i64_w, i32_w]; rw [c4b0]) | skip)
          have H' := Aside0.mk H
          clear H
          go_wp2
          go_meet
          case rel => exact ⟨_, (decide (x7_1 < 64)), (by first | rfl | (simp; done) | (simp [*]; done)), H', ⟨by have := HK1.out; first | omega | exact Nat.le_refl _⟩, ⟨by repeat (first | (with_reducible first | exact HB.out | apply below_alloc | apply pw_below_drewN | apply below_drew1) | exact HB.out)⟩⟩
        · rw [if_neg c4] at H
          have c4b0 : decide (x7_1 < (l0.length : Int)) = false := decide_eq_false c4
          clear c4
          (first | rw [c4b0] | (simp only [i64_w, i32_w]; rw [c4b0]) | skip)
          have H' := Aside0.mk H
          clear H
          go_wp2
          go_meet
          case rel => exact ⟨_, (false), (by first | rfl | (simp; done) | (simp [*]; done)), H', ⟨by have := HK1.out; first | omega | exact Nat.le_refl _⟩, ⟨by repeat (first | (with_reducible first | exact HB.out | apply below_alloc | apply pw_below_drewN | apply below_drew1) | exact HB.out)⟩⟩
      case rest =>
        clear HC3
        try clear c1
        try clear p2
        try clear c4
        try clear c4b0
        try clear p2
        obtain ⟨kq, x21_2, rfl, HA, HJ2, HB⟩ := hcut
        cases kq with
        | zero => exact absurd HA.out (by simp [rosterlaw01_TextPoints.j1])
        | succ kj2 =>
          have H := HA.out
          clear HA
          simp only [rosterlaw01_TextPoints.j1] at H
          by_cases c5 : x21_2 = true
          · subst c5
            have H1 : (if 0 ≤ x7_1 then (if x7_1 < (l0.length : Int) then ((rosterlaw01_need.f (Go.bits .and .i64 (rd l0 x7_1) 2097151)).bind fun t124 => (if x7_1 < (l1.length : Int) then (rosterlaw01_TextPoints.j2 kj2 l0 l1 x5_1 x6_1 x7_1 (Go.bits .and .i64 (rd l0 x7_1) 2097151) (wrap64 (t124 + (Go.bits .and .i64 (rd l1 x7_1) 3))) t124) else (rosterlaw01_TextPoints.j2 kj2 l0 l1 x5_1 x6_1 x7_1 (Go.bits .and .i64 (rd l0 x7_1) 2097151) t124 t124))) else (none)) else (none)) = some r := by rw [if_pos rfl] at H; exact H
            clear H
            have H := H1
            clear H1
            by_cases c6 : 0 ≤ x7_1
            · rw [if_pos c6] at H
              have c6b0 : decide (0 ≤ x7_1) = true := decide_eq_true c6
              clear c6
              by_cases c7 : x7_1 < (l0.length : Int)
              · rw [if_pos c7] at H
                have c7b0 : decide (x7_1 < (l0.length : Int)) = true := decide_eq_true c7
                clear c7
                replace H := Option.bind_eq_some_iff.mp H
                obtain ⟨t124, A80, H⟩ := H
                replace H : (if x7_1 < (l1.length : Int) then (rosterlaw01_TextPoints.j2 kj2 l0 l1 x5_1 x6_1 x7_1 (Go.bits .and .i64 (rd l0 x7_1) 2097151) (wrap64 (t124 + (Go.bits .and .i64 (rd l1 x7_1) 3))) t124) else (rosterlaw01_TextPoints.j2 kj2 l0 l1 x5_1 x6_1 x7_1 (Go.bits .and .i64 (rd l0 x7_1) 2097151) t124 t124)) = some r := H
                have A8 := Aside0.mk A80
                clear A80
                have HC9 := Aside0.mk H
                clear H
                have p123 : 0 ≤ (x7_1 : Int) := of_decide_eq_true (by first | (with_reducible assumption) | assumption)
                have q123 : x7_1 < (l0.length : Int) := of_decide_eq_true (by first | (with_reducible assumption) | assumption)
                obtain ⟨ad123, e123, hx123_0⟩ := Kd.at_int HR0.out x7_1 p123 q123
                cases e123
                replace hx123_0 := (HB.out.cell (World.block_lt_of_cell? w _ hx123_0)).trans hx123_0
                replace p123 := eq_true p123
                replace q123 := eq_true q123
                go_upto_if 35 with (first | ((with_reducible refine gate_callee (f := 18) rfl ?_); refine goesL_ (some 30) rfl rfl Try.func18 (by kernel_rfl) rfl #[.int .i64 (Go.bits .and .i64 (rd l0 x7_1) 2097151)] rfl (by (try simp only [List.map_toArray, List.map_cons, List.map_nil]); first | done | rfl | (simp only [List.length_drop, List.length_take]; rfl)) ?_; (with_reducible refine (rosterlaw01_need.calls (Go.bits .and .i64 (rd l0 x7_1) 2097151) t124 _ A8.out).mono ?_); rintro e w' ⟨rfl, ⟨nd, rfl⟩⟩; refine ⟨_, rfl, ?_⟩))
                (try simp only [Act.put, List.setIfInBounds_toArray, List.set_cons_zero, List.set_cons_succ])
                go_cut [9] (fun v9 wc => ∃ (kq : Nat) (x9_8 : Int), v9 = .int .i64 x9_8 ∧ Aside0 (rosterlaw01_TextPoints.j2 kq l0 l1 x5_1 x6_1 x7_1 (Go.bits .and .i64 (rd l0 x7_1) 2097151) x9_8 t124 = some r) ∧ Aside0 (kq ≤ kj2) ∧ Aside0 (Below w.heap.size w wc))
                case first =>
                  have H := HC9.out
                  clear HC9
                  by_cases c10 : x7_1 < (l1.length : Int)
                  · rw [if_pos c10] at H
                    have c10b0 : decide (x7_1 < (l1.length : Int)) = true := decide_eq_true c10
                    clear c10
                    (first | rw [c10b0] | (simp only [i64_w, i32_w]; rw [c10b0]) | skip)
                    have H' := Aside0.mk H
                    clear H
                    have p125 : 0 ≤ (x7_1 : Int) := of_decide_eq_true (by first | (with_reducible assumption) | assumption)
                    have q125 : x7_1 < (l1.length : Int) := of_decide_eq_true (by first | (with_reducible assumption) | assumption)
                    obtain ⟨ad125, e125, hx125_0⟩ := Kd.at_int HR1.out x7_1 p125 q125
                    cases e125
                    replace hx125_0 := (HB.out.cell (World.block_lt_of_cell? w _ hx125_0)).trans hx125_0
                    replace p125 := eq_true p125
                    replace q125 := eq_true q125
                    go_wp2
                    go_meet
                    case rel => exact ⟨_, (wrap64 (t124 + (Go.bits .and .i64 (rd l1 x7_1) 3))), (by first | rfl | (simp; done) | (simp [*]; done)), H', ⟨by have := HK1.out; have := HJ2.out; first | omega | exact Nat.le_refl _⟩, ⟨by repeat (first | (with_reducible first | exact HB.out | apply below_alloc | apply pw_below_drewN | apply below_drew1) | exact HB.out)⟩⟩
                  · rw [if_neg c10] at H
                    have c10b0 : decide (x7_1 < (l1.length : Int)) = false := decide_eq_false c10
                    clear c10
                    (first | rw [c10b0] | (simp only [i64_w, i32_w]; rw [c10b0]) | skip)
                    have H' := Aside0.mk H
                    clear H
                    go_wp2
                    go_meet
                    case rel => exact ⟨_, (t124), (by first | rfl | (simp; done) | (simp [*]; done)), H', ⟨by have := HK1.out; have := HJ2.out; first | omega | exact Nat.le_refl _⟩, ⟨by repeat (first | (with_reducible first | exact HB.out | apply below_alloc | apply pw_below_drewN | apply below_drew1) | exact HB.out)⟩⟩
                case rest =>
                  clear HC9
                  try clear c1
                  try clear p1
                  try clear q1
                  try clear hx1
                  try clear p2
                  try clear c4
                  try clear c4b0
                  try clear c5
                  try clear c6
                  try clear c6b0
                  try clear p6
                  try clear c7
                  try clear c7b0
                  try clear c10
                  try clear c10b0
                  try clear hx123_0
                  try clear hx125_0
                  try clear p123
                  try clear p125
                  try clear p2
                  try clear q123
                  try clear q125
                  obtain ⟨kq, x9_8, rfl, HA, HJ8, HB⟩ := hcut
                  cases kq with
                  | zero => exact absurd HA.out (by simp [rosterlaw01_TextPoints.j2])
                  | succ kj8 =>
                    have H := HA.out
                    clear HA
                    simp only [rosterlaw01_TextPoints.j2] at H
                    by_cases c11 : x9_8 > 4
                    · rw [if_pos c11] at H
                      have c11b0 : decide (4 < x9_8) = true := decide_eq_true c11
                      clear c11
                      by_cases c12 : 4 > t124
                      · rw [if_pos c12] at H
                        have c12b0 : decide (t124 < 4) = true := decide_eq_true c12
                        clear c12
                        by_cases c13 : x6_1 < 0
                        · rw [if_pos c13] at H
                          have c13b0 : decide (x6_1 < 0) = true := decide_eq_true c13
                          clear c13
                          replace H := Option.bind_eq_some_iff.mp H
                          obtain ⟨t126, A140, H⟩ := H
                          replace H : (if x5_1.size + t126.size ≤ 9223372036854775807 then (rosterlaw01_TextPoints.l0 kj8 l0 l1 (x5_1 ++ t126) (x5_1.size : Int) (wrap64 (x7_1 + 1))) else (none)) = some r := H
                          have A14 := Aside0.mk A140
                          clear A140
                          by_cases c15 : x5_1.size + t126.size ≤ 9223372036854775807
                          · rw [if_pos c15] at H
                            have c15b0 := eq_true c15
                            have c15b1 : decide (x5_1.size + t126.size ≤ 9223372036854775807) = true := decide_eq_true c15
                            try have c15b2 : (9223372036854775807 < x5_1.size + t126.size) = False := eq_false (Nat.not_lt.2 c15)
                            have H' := Aside0.mk H
                            clear H
                            go_wp2_with (first | ((with_reducible refine gate_callee (f := 19) rfl ?_); refine goesL_ (some 70) rfl rfl Try.func19 (by kernel_rfl) rfl #[.int .i64 (Go.bits .and .i64 (rd l0 x7_1) 2097151), .int .i64 4] rfl (by (try simp only [List.map_toArray, List.map_cons, List.map_nil]); first | done | rfl | (simp only [List.length_drop, List.length_take]; rfl)) ?_; (with_reducible refine (rosterlaw01_wide.calls (Go.bits .and .i64 (rd l0 x7_1) 2097151) 4 t126 _ A14.out).mono ?_); rintro e w16 ⟨rfl, hb⟩; refine ⟨_, rfl, ?_⟩; have n0_ := Aside0.mk (below_step (by repeat (first | (with_reducible first | exact HB.out | apply below_alloc | apply pw_below_drewN | apply below_drew1) | exact HB.out)) hb); clear HB; have HB := n0_; clear n0_; (try clear hb); (try clear hb2); (try clear hk); (try clear hi)))
                            go_roundg kj8
                            case measure => have := HK1.out; have := HJ2.out; have := HJ8.out; omega
                            case rel => exact ⟨(x5_1 ++ t126), ((x5_1.size : Int)), (wrap64 (x7_1 + 1)), (by first | rfl | (simp; done) | (simp [*]; done)), (by first | rfl | (simp; done) | (simp [*]; done)), (by first | rfl | (simp; done) | (simp [*]; done)), H', ⟨by have := HK1.out; have := HJ2.out; have := HJ8.out; omega⟩, ⟨by repeat (first | (with_reducible first | exact HB.out | apply below_alloc | apply pw_below_drewN | apply below_drew1) | exact HB.out)⟩⟩
                          · rw [if_neg c15] at H
                            exact absurd H (by simp)
                        · rw [if_neg c13] at H
                          have c13b0 : decide (x6_1 < 0) = false := decide_eq_false c13
                          clear c13
                          replace H := Option.bind_eq_some_iff.mp H
                          obtain ⟨t127, A170, H⟩ := H
                          replace H : (if x5_1.size + t127.size ≤ 9223372036854775807 then (rosterlaw01_TextPoints.l0 kj8 l0 l1 (x5_1 ++ t127) x6_1 (wrap64 (x7_1 + 1))) else (none)) = some r := H
                          have A17 := Aside0.mk A170
                          clear A170
                          by_cases c18 : x5_1.size + t127.size ≤ 9223372036854775807
                          · rw [if_pos c18] at H
                            have c18b0 := eq_true c18
                            have c18b1 : decide (x5_1.size + t127.size ≤ 9223372036854775807) = true := decide_eq_true c18
                            try have c18b2 : (9223372036854775807 < x5_1.size + t127.size) = False := eq_false (Nat.not_lt.2 c18)
                            have H' := Aside0.mk H
                            clear H
                            go_wp2_with (first | ((with_reducible refine gate_callee (f := 19) rfl ?_); refine goesL_ (some 70) rfl rfl Try.func19 (by kernel_rfl) rfl #[.int .i64 (Go.bits .and .i64 (rd l0 x7_1) 2097151), .int .i64 4] rfl (by (try simp only [List.map_toArray, List.map_cons, List.map_nil]); first | done | rfl | (simp only [List.length_drop, List.length_take]; rfl)) ?_; (with_reducible refine (rosterlaw01_wide.calls (Go.bits .and .i64 (rd l0 x7_1) 2097151) 4 t127 _ A17.out).mono ?_); rintro e w19 ⟨rfl, hb⟩; refine ⟨_, rfl, ?_⟩; have n0_ := Aside0.mk (below_step (by repeat (first | (with_reducible first | exact HB.out | apply below_alloc | apply pw_below_drewN | apply below_drew1) | exact HB.out)) hb); clear HB; have HB := n0_; clear n0_; (try clear hb); (try clear hb2); (try clear hk); (try clear hi)))
                            go_roundg kj8
                            case measure => have := HK1.out; have := HJ2.out; have := HJ8.out; omega
                            case rel => exact ⟨(x5_1 ++ t127), (x6_1), (wrap64 (x7_1 + 1)), (by first | rfl | (simp; done) | (simp [*]; done)), (by first | rfl | (simp; done) | (simp [*]; done)), (by first | rfl | (simp; done) | (simp [*]; done)), H', ⟨by have := HK1.out; have := HJ2.out; have := HJ8.out; omega⟩, ⟨by repeat (first | (with_reducible first | exact HB.out | apply below_alloc | apply pw_below_drewN | apply below_drew1) | exact HB.out)⟩⟩
                          · rw [if_neg c18] at H
                            exact absurd H (by simp)
                      · rw [if_neg c12] at H
                        have c12b0 : decide (t124 < 4) = false := decide_eq_false c12
                        clear c12
                        by_cases c20 : (Go.bits .and .i64 (rd l0 x7_1) 2097151) ≥ 55296
                        · rw [if_pos c20] at H
                          have c20b0 : decide (55296 ≤ (Go.bits .and .i64 (rd l0 x7_1) 2097151)) = true := decide_eq_true c20
                          clear c20
                          by_cases c21 : (Go.bits .and .i64 (rd l0 x7_1) 2097151) ≤ 57343
                          · rw [if_pos c21] at H
                            have c21b0 : decide ((Go.bits .and .i64 (rd l0 x7_1) 2097151) ≤ 57343) = true := decide_eq_true c21
                            clear c21
                            by_cases c22 : x6_1 < 0
                            · rw [if_pos c22] at H
                              have c22b0 : decide (x6_1 < 0) = true := decide_eq_true c22
                              clear c22
                              replace H := Option.bind_eq_some_iff.mp H
                              obtain ⟨t128, A230, H⟩ := H
                              replace H : (if x5_1.size + t128.size ≤ 9223372036854775807 then (rosterlaw01_TextPoints.l0 kj8 l0 l1 (x5_1 ++ t128) (x5_1.size : Int) (wrap64 (x7_1 + 1))) else (none)) = some r := H
                              have A23 := Aside0.mk A230
                              clear A230
                              by_cases c24 : x5_1.size + t128.size ≤ 9223372036854775807
                              · rw [if_pos c24] at H
                                have c24b0 := eq_true c24
                                have c24b1 : decide (x5_1.size + t128.size ≤ 9223372036854775807) = true := decide_eq_true c24
                                try have c24b2 : (9223372036854775807 < x5_1.size + t128.size) = False := eq_false (Nat.not_lt.2 c24)
                                have H' := Aside0.mk H
                                clear H
                                go_wp2_with (first | ((with_reducible refine gate_callee (f := 19) rfl ?_); refine goesL_ (some 70) rfl rfl Try.func19 (by kernel_rfl) rfl #[.int .i64 (Go.bits .and .i64 (rd l0 x7_1) 2097151), .int .i64 4] rfl (by (try simp only [List.map_toArray, List.map_cons, List.map_nil]); first | done | rfl | (simp only [List.length_drop, List.length_take]; rfl)) ?_; (with_reducible refine (rosterlaw01_wide.calls (Go.bits .and .i64 (rd l0 x7_1) 2097151) 4 t128 _ A23.out).mono ?_); rintro e w25 ⟨rfl, hb⟩; refine ⟨_, rfl, ?_⟩; have n0_ := Aside0.mk (below_step (by repeat (first | (with_reducible first | exact HB.out | apply below_alloc | apply pw_below_drewN | apply below_drew1) | exact HB.out)) hb); clear HB; have HB := n0_; clear n0_; (try clear hb); (try clear hb2); (try clear hk); (try clear hi)))
                                go_roundg kj8
                                case measure => have := HK1.out; have := HJ2.out; have := HJ8.out; omega
                                case rel => exact ⟨(x5_1 ++ t128), ((x5_1.size : Int)), (wrap64 (x7_1 + 1)), (by first | rfl | (simp; done) | (simp [*]; done)), (by first | rfl | (simp; done) | (simp [*]; done)), (by first | rfl | (simp; done) | (simp [*]; done)), H', ⟨by have := HK1.out; have := HJ2.out; have := HJ8.out; omega⟩, ⟨by repeat (first | (with_reducible first | exact HB.out | apply below_alloc | apply pw_below_drewN | apply below_drew1) | exact HB.out)⟩⟩
                              · rw [if_neg c24] at H
                                exact absurd H (by simp)
                            · rw [if_neg c22] at H
                              have c22b0 : decide (x6_1 < 0) = false := decide_eq_false c22
                              clear c22
                              replace H := Option.bind_eq_some_iff.mp H
                              obtain ⟨t129, A260, H⟩ := H
                              replace H : (if x5_1.size + t129.size ≤ 9223372036854775807 then (rosterlaw01_TextPoints.l0 kj8 l0 l1 (x5_1 ++ t129) x6_1 (wrap64 (x7_1 + 1))) else (none)) = some r := H
                              have A26 := Aside0.mk A260
                              clear A260
                              by_cases c27 : x5_1.size + t129.size ≤ 9223372036854775807
                              · rw [if_pos c27] at H
                                have c27b0 := eq_true c27
                                have c27b1 : decide (x5_1.size + t129.size ≤ 9223372036854775807) = true := decide_eq_true c27
                                try have c27b2 : (9223372036854775807 < x5_1.size + t129.size) = False := eq_false (Nat.not_lt.2 c27)
                                have H' := Aside0.mk H
                                clear H
                                go_wp2_with (first | ((with_reducible refine gate_callee (f := 19) rfl ?_); refine goesL_ (some 70) rfl rfl Try.func19 (by kernel_rfl) rfl #[.int .i64 (Go.bits .and .i64 (rd l0 x7_1) 2097151), .int .i64 4] rfl (by (try simp only [List.map_toArray, List.map_cons, List.map_nil]); first | done | rfl | (simp only [List.length_drop, List.length_take]; rfl)) ?_; (with_reducible refine (rosterlaw01_wide.calls (Go.bits .and .i64 (rd l0 x7_1) 2097151) 4 t129 _ A26.out).mono ?_); rintro e w28 ⟨rfl, hb⟩; refine ⟨_, rfl, ?_⟩; have n0_ := Aside0.mk (below_step (by repeat (first | (with_reducible first | exact HB.out | apply below_alloc | apply pw_below_drewN | apply below_drew1) | exact HB.out)) hb); clear HB; have HB := n0_; clear n0_; (try clear hb); (try clear hb2); (try clear hk); (try clear hi)))
                                go_roundg kj8
                                case measure => have := HK1.out; have := HJ2.out; have := HJ8.out; omega
                                case rel => exact ⟨(x5_1 ++ t129), (x6_1), (wrap64 (x7_1 + 1)), (by first | rfl | (simp; done) | (simp [*]; done)), (by first | rfl | (simp; done) | (simp [*]; done)), (by first | rfl | (simp; done) | (simp [*]; done)), H', ⟨by have := HK1.out; have := HJ2.out; have := HJ8.out; omega⟩, ⟨by repeat (first | (with_reducible first | exact HB.out | apply below_alloc | apply pw_below_drewN | apply below_drew1) | exact HB.out)⟩⟩
                              · rw [if_neg c27] at H
                                exact absurd H (by simp)
                          · rw [if_neg c21] at H
                            have c21b0 : decide ((Go.bits .and .i64 (rd l0 x7_1) 2097151) ≤ 57343) = false := decide_eq_false c21
                            clear c21
                            by_cases c29 : (Go.bits .and .i64 (rd l0 x7_1) 2097151) > 1114111
                            · rw [if_pos c29] at H
                              have c29b0 : decide (1114111 < (Go.bits .and .i64 (rd l0 x7_1) 2097151)) = true := decide_eq_true c29
                              clear c29
                              by_cases c30 : x6_1 < 0
                              · rw [if_pos c30] at H
                                have c30b0 : decide (x6_1 < 0) = true := decide_eq_true c30
                                clear c30
                                replace H := Option.bind_eq_some_iff.mp H
                                obtain ⟨t130, A310, H⟩ := H
                                replace H : (if x5_1.size + t130.size ≤ 9223372036854775807 then (rosterlaw01_TextPoints.l0 kj8 l0 l1 (x5_1 ++ t130) (x5_1.size : Int) (wrap64 (x7_1 + 1))) else (none)) = some r := H
                                have A31 := Aside0.mk A310
                                clear A310
                                by_cases c32 : x5_1.size + t130.size ≤ 9223372036854775807
                                · rw [if_pos c32] at H
                                  have c32b0 := eq_true c32
                                  have c32b1 : decide (x5_1.size + t130.size ≤ 9223372036854775807) = true := decide_eq_true c32
                                  try have c32b2 : (9223372036854775807 < x5_1.size + t130.size) = False := eq_false (Nat.not_lt.2 c32)
                                  have H' := Aside0.mk H
                                  clear H
                                  go_wp2_with (first | ((with_reducible refine gate_callee (f := 19) rfl ?_); refine goesL_ (some 70) rfl rfl Try.func19 (by kernel_rfl) rfl #[.int .i64 (Go.bits .and .i64 (rd l0 x7_1) 2097151), .int .i64 4] rfl (by (try simp only [List.map_toArray, List.map_cons, List.map_nil]); first | done | rfl | (simp only [List.length_drop, List.length_take]; rfl)) ?_; (with_reducible refine (rosterlaw01_wide.calls (Go.bits .and .i64 (rd l0 x7_1) 2097151) 4 t130 _ A31.out).mono ?_); rintro e w33 ⟨rfl, hb⟩; refine ⟨_, rfl, ?_⟩; have n0_ := Aside0.mk (below_step (by repeat (first | (with_reducible first | exact HB.out | apply below_alloc | apply pw_below_drewN | apply below_drew1) | exact HB.out)) hb); clear HB; have HB := n0_; clear n0_; (try clear hb); (try clear hb2); (try clear hk); (try clear hi)))
                                  go_roundg kj8
                                  case measure => have := HK1.out; have := HJ2.out; have := HJ8.out; omega
                                  case rel => exact ⟨(x5_1 ++ t130), ((x5_1.size : Int)), (wrap64 (x7_1 + 1)), (by first | rfl | (simp; done) | (simp [*]; done)), (by first | rfl | (simp; done) | (simp [*]; done)), (by first | rfl | (simp; done) | (simp [*]; done)), H', ⟨by have := HK1.out; have := HJ2.out; have := HJ8.out; omega⟩, ⟨by repeat (first | (with_reducible first | exact HB.out | apply below_alloc | apply pw_below_drewN | apply below_drew1) | exact HB.out)⟩⟩
                                · rw [if_neg c32] at H
                                  exact absurd H (by simp)
                              · rw [if_neg c30] at H
                                have c30b0 : decide (x6_1 < 0) = false := decide_eq_false c30
                                clear c30
                                replace H := Option.bind_eq_some_iff.mp H
                                obtain ⟨t131, A340, H⟩ := H
                                replace H : (if x5_1.size + t131.size ≤ 9223372036854775807 then (rosterlaw01_TextPoints.l0 kj8 l0 l1 (x5_1 ++ t131) x6_1 (wrap64 (x7_1 + 1))) else (none)) = some r := H
                                have A34 := Aside0.mk A340
                                clear A340
                                by_cases c35 : x5_1.size + t131.size ≤ 9223372036854775807
                                · rw [if_pos c35] at H
                                  have c35b0 := eq_true c35
                                  have c35b1 : decide (x5_1.size + t131.size ≤ 9223372036854775807) = true := decide_eq_true c35
                                  try have c35b2 : (9223372036854775807 < x5_1.size + t131.size) = False := eq_false (Nat.not_lt.2 c35)
                                  have H' := Aside0.mk H
                                  clear H
                                  go_wp2_with (first | ((with_reducible refine gate_callee (f := 19) rfl ?_); refine goesL_ (some 70) rfl rfl Try.func19 (by kernel_rfl) rfl #[.int .i64 (Go.bits .and .i64 (rd l0 x7_1) 2097151), .int .i64 4] rfl (by (try simp only [List.map_toArray, List.map_cons, List.map_nil]); first | done | rfl | (simp only [List.length_drop, List.length_take]; rfl)) ?_; (with_reducible refine (rosterlaw01_wide.calls (Go.bits .and .i64 (rd l0 x7_1) 2097151) 4 t131 _ A34.out).mono ?_); rintro e w36 ⟨rfl, hb⟩; refine ⟨_, rfl, ?_⟩; have n0_ := Aside0.mk (below_step (by repeat (first | (with_reducible first | exact HB.out | apply below_alloc | apply pw_below_drewN | apply below_drew1) | exact HB.out)) hb); clear HB; have HB := n0_; clear n0_; (try clear hb); (try clear hb2); (try clear hk); (try clear hi)))
                                  go_roundg kj8
                                  case measure => have := HK1.out; have := HJ2.out; have := HJ8.out; omega
                                  case rel => exact ⟨(x5_1 ++ t131), (x6_1), (wrap64 (x7_1 + 1)), (by first | rfl | (simp; done) | (simp [*]; done)), (by first | rfl | (simp; done) | (simp [*]; done)), (by first | rfl | (simp; done) | (simp [*]; done)), H', ⟨by have := HK1.out; have := HJ2.out; have := HJ8.out; omega⟩, ⟨by repeat (first | (with_reducible first | exact HB.out | apply below_alloc | apply pw_below_drewN | apply below_drew1) | exact HB.out)⟩⟩
                                · rw [if_neg c35] at H
                                  exact absurd H (by simp)
                            · rw [if_neg c29] at H
                              have c29b0 : decide (1114111 < (Go.bits .and .i64 (rd l0 x7_1) 2097151)) = false := decide_eq_false c29
                              clear c29
                              replace H := Option.bind_eq_some_iff.mp H
                              obtain ⟨t132, A370, H⟩ := H
                              replace H : (if x5_1.size + t132.size ≤ 9223372036854775807 then (rosterlaw01_TextPoints.l0 kj8 l0 l1 (x5_1 ++ t132) x6_1 (wrap64 (x7_1 + 1))) else (none)) = some r := H
                              have A37 := Aside0.mk A370
                              clear A370
                              by_cases c38 : x5_1.size + t132.size ≤ 9223372036854775807
                              · rw [if_pos c38] at H
                                have c38b0 := eq_true c38
                                have c38b1 : decide (x5_1.size + t132.size ≤ 9223372036854775807) = true := decide_eq_true c38
                                try have c38b2 : (9223372036854775807 < x5_1.size + t132.size) = False := eq_false (Nat.not_lt.2 c38)
                                have H' := Aside0.mk H
                                clear H
                                go_wp2_with (first | ((with_reducible refine gate_callee (f := 19) rfl ?_); refine goesL_ (some 70) rfl rfl Try.func19 (by kernel_rfl) rfl #[.int .i64 (Go.bits .and .i64 (rd l0 x7_1) 2097151), .int .i64 4] rfl (by (try simp only [List.map_toArray, List.map_cons, List.map_nil]); first | done | rfl | (simp only [List.length_drop, List.length_take]; rfl)) ?_; (with_reducible refine (rosterlaw01_wide.calls (Go.bits .and .i64 (rd l0 x7_1) 2097151) 4 t132 _ A37.out).mono ?_); rintro e w39 ⟨rfl, hb⟩; refine ⟨_, rfl, ?_⟩; have n0_ := Aside0.mk (below_step (by repeat (first | (with_reducible first | exact HB.out | apply below_alloc | apply pw_below_drewN | apply below_drew1) | exact HB.out)) hb); clear HB; have HB := n0_; clear n0_; (try clear hb); (try clear hb2); (try clear hk); (try clear hi)))
                                go_roundg kj8
                                case measure => have := HK1.out; have := HJ2.out; have := HJ8.out; omega
                                case rel => exact ⟨(x5_1 ++ t132), (x6_1), (wrap64 (x7_1 + 1)), (by first | rfl | (simp; done) | (simp [*]; done)), (by first | rfl | (simp; done) | (simp [*]; done)), (by first | rfl | (simp; done) | (simp [*]; done)), H', ⟨by have := HK1.out; have := HJ2.out; have := HJ8.out; omega⟩, ⟨by repeat (first | (with_reducible first | exact HB.out | apply below_alloc | apply pw_below_drewN | apply below_drew1) | exact HB.out)⟩⟩
                              · rw [if_neg c38] at H
                                exact absurd H (by simp)
                        · rw [if_neg c20] at H
                          have c20b0 : decide (55296 ≤ (Go.bits .and .i64 (rd l0 x7_1) 2097151)) = false := decide_eq_false c20
                          clear c20
                          by_cases c40 : (Go.bits .and .i64 (rd l0 x7_1) 2097151) > 1114111
                          · rw [if_pos c40] at H
                            have c40b0 : decide (1114111 < (Go.bits .and .i64 (rd l0 x7_1) 2097151)) = true := decide_eq_true c40
                            clear c40
                            by_cases c41 : x6_1 < 0
                            · rw [if_pos c41] at H
                              have c41b0 : decide (x6_1 < 0) = true := decide_eq_true c41
                              clear c41
                              replace H := Option.bind_eq_some_iff.mp H
                              obtain ⟨t133, A420, H⟩ := H
                              replace H : (if x5_1.size + t133.size ≤ 9223372036854775807 then (rosterlaw01_TextPoints.l0 kj8 l0 l1 (x5_1 ++ t133) (x5_1.size : Int) (wrap64 (x7_1 + 1))) else (none)) = some r := H
                              have A42 := Aside0.mk A420
                              clear A420
                              by_cases c43 : x5_1.size + t133.size ≤ 9223372036854775807
                              · rw [if_pos c43] at H
                                have c43b0 := eq_true c43
                                have c43b1 : decide (x5_1.size + t133.size ≤ 9223372036854775807) = true := decide_eq_true c43
                                try have c43b2 : (9223372036854775807 < x5_1.size + t133.size) = False := eq_false (Nat.not_lt.2 c43)
                                have H' := Aside0.mk H
                                clear H
                                go_wp2_with (first | ((with_reducible refine gate_callee (f := 19) rfl ?_); refine goesL_ (some 70) rfl rfl Try.func19 (by kernel_rfl) rfl #[.int .i64 (Go.bits .and .i64 (rd l0 x7_1) 2097151), .int .i64 4] rfl (by (try simp only [List.map_toArray, List.map_cons, List.map_nil]); first | done | rfl | (simp only [List.length_drop, List.length_take]; rfl)) ?_; (with_reducible refine (rosterlaw01_wide.calls (Go.bits .and .i64 (rd l0 x7_1) 2097151) 4 t133 _ A42.out).mono ?_); rintro e w44 ⟨rfl, hb⟩; refine ⟨_, rfl, ?_⟩; have n0_ := Aside0.mk (below_step (by repeat (first | (with_reducible first | exact HB.out | apply below_alloc | apply pw_below_drewN | apply below_drew1) | exact HB.out)) hb); clear HB; have HB := n0_; clear n0_; (try clear hb); (try clear hb2); (try clear hk); (try clear hi)))
                                go_roundg kj8
                                case measure => have := HK1.out; have := HJ2.out; have := HJ8.out; omega
                                case rel => exact ⟨(x5_1 ++ t133), ((x5_1.size : Int)), (wrap64 (x7_1 + 1)), (by first | rfl | (simp; done) | (simp [*]; done)), (by first | rfl | (simp; done) | (simp [*]; done)), (by first | rfl | (simp; done) | (simp [*]; done)), H', ⟨by have := HK1.out; have := HJ2.out; have := HJ8.out; omega⟩, ⟨by repeat (first | (with_reducible first | exact HB.out | apply below_alloc | apply pw_below_drewN | apply below_drew1) | exact HB.out)⟩⟩
                              · rw [if_neg c43] at H
                                exact absurd H (by simp)
                            · rw [if_neg c41] at H
                              have c41b0 : decide (x6_1 < 0) = false := decide_eq_false c41
                              clear c41
                              replace H := Option.bind_eq_some_iff.mp H
                              obtain ⟨t134, A450, H⟩ := H
                              replace H : (if x5_1.size + t134.size ≤ 9223372036854775807 then (rosterlaw01_TextPoints.l0 kj8 l0 l1 (x5_1 ++ t134) x6_1 (wrap64 (x7_1 + 1))) else (none)) = some r := H
                              have A45 := Aside0.mk A450
                              clear A450
                              by_cases c46 : x5_1.size + t134.size ≤ 9223372036854775807
                              · rw [if_pos c46] at H
                                have c46b0 := eq_true c46
                                have c46b1 : decide (x5_1.size + t134.size ≤ 9223372036854775807) = true := decide_eq_true c46
                                try have c46b2 : (9223372036854775807 < x5_1.size + t134.size) = False := eq_false (Nat.not_lt.2 c46)
                                have H' := Aside0.mk H
                                clear H
                                go_wp2_with (first | ((with_reducible refine gate_callee (f := 19) rfl ?_); refine goesL_ (some 70) rfl rfl Try.func19 (by kernel_rfl) rfl #[.int .i64 (Go.bits .and .i64 (rd l0 x7_1) 2097151), .int .i64 4] rfl (by (try simp only [List.map_toArray, List.map_cons, List.map_nil]); first | done | rfl | (simp only [List.length_drop, List.length_take]; rfl)) ?_; (with_reducible refine (rosterlaw01_wide.calls (Go.bits .and .i64 (rd l0 x7_1) 2097151) 4 t134 _ A45.out).mono ?_); rintro e w47 ⟨rfl, hb⟩; refine ⟨_, rfl, ?_⟩; have n0_ := Aside0.mk (below_step (by repeat (first | (with_reducible first | exact HB.out | apply below_alloc | apply pw_below_drewN | apply below_drew1) | exact HB.out)) hb); clear HB; have HB := n0_; clear n0_; (try clear hb); (try clear hb2); (try clear hk); (try clear hi)))
                                go_roundg kj8
                                case measure => have := HK1.out; have := HJ2.out; have := HJ8.out; omega
                                case rel => exact ⟨(x5_1 ++ t134), (x6_1), (wrap64 (x7_1 + 1)), (by first | rfl | (simp; done) | (simp [*]; done)), (by first | rfl | (simp; done) | (simp [*]; done)), (by first | rfl | (simp; done) | (simp [*]; done)), H', ⟨by have := HK1.out; have := HJ2.out; have := HJ8.out; omega⟩, ⟨by repeat (first | (with_reducible first | exact HB.out | apply below_alloc | apply pw_below_drewN | apply below_drew1) | exact HB.out)⟩⟩
                              · rw [if_neg c46] at H
                                exact absurd H (by simp)
                          · rw [if_neg c40] at H
                            have c40b0 : decide (1114111 < (Go.bits .and .i64 (rd l0 x7_1) 2097151)) = false := decide_eq_false c40
                            clear c40
                            replace H := Option.bind_eq_some_iff.mp H
                            obtain ⟨t135, A480, H⟩ := H
                            replace H : (if x5_1.size + t135.size ≤ 9223372036854775807 then (rosterlaw01_TextPoints.l0 kj8 l0 l1 (x5_1 ++ t135) x6_1 (wrap64 (x7_1 + 1))) else (none)) = some r := H
                            have A48 := Aside0.mk A480
                            clear A480
                            by_cases c49 : x5_1.size + t135.size ≤ 9223372036854775807
                            · rw [if_pos c49] at H
                              have c49b0 := eq_true c49
                              have c49b1 : decide (x5_1.size + t135.size ≤ 9223372036854775807) = true := decide_eq_true c49
                              try have c49b2 : (9223372036854775807 < x5_1.size + t135.size) = False := eq_false (Nat.not_lt.2 c49)
                              have H' := Aside0.mk H
                              clear H
                              go_wp2_with (first | ((with_reducible refine gate_callee (f := 19) rfl ?_); refine goesL_ (some 70) rfl rfl Try.func19 (by kernel_rfl) rfl #[.int .i64 (Go.bits .and .i64 (rd l0 x7_1) 2097151), .int .i64 4] rfl (by (try simp only [List.map_toArray, List.map_cons, List.map_nil]); first | done | rfl | (simp only [List.length_drop, List.length_take]; rfl)) ?_; (with_reducible refine (rosterlaw01_wide.calls (Go.bits .and .i64 (rd l0 x7_1) 2097151) 4 t135 _ A48.out).mono ?_); rintro e w50 ⟨rfl, hb⟩; refine ⟨_, rfl, ?_⟩; have n0_ := Aside0.mk (below_step (by repeat (first | (with_reducible first | exact HB.out | apply below_alloc | apply pw_below_drewN | apply below_drew1) | exact HB.out)) hb); clear HB; have HB := n0_; clear n0_; (try clear hb); (try clear hb2); (try clear hk); (try clear hi)))
                              go_roundg kj8
                              case measure => have := HK1.out; have := HJ2.out; have := HJ8.out; omega
                              case rel => exact ⟨(x5_1 ++ t135), (x6_1), (wrap64 (x7_1 + 1)), (by first | rfl | (simp; done) | (simp [*]; done)), (by first | rfl | (simp; done) | (simp [*]; done)), (by first | rfl | (simp; done) | (simp [*]; done)), H', ⟨by have := HK1.out; have := HJ2.out; have := HJ8.out; omega⟩, ⟨by repeat (first | (with_reducible first | exact HB.out | apply below_alloc | apply pw_below_drewN | apply below_drew1) | exact HB.out)⟩⟩
                            · rw [if_neg c49] at H
                              exact absurd H (by simp)
                    · rw [if_neg c11] at H
                      have c11b0 : decide (4 < x9_8) = false := decide_eq_false c11
                      clear c11
                      by_cases c51 : x9_8 > t124
                      · rw [if_pos c51] at H
                        have c51b0 : decide (t124 < x9_8) = true := decide_eq_true c51
                        clear c51
                        by_cases c52 : x6_1 < 0
                        · rw [if_pos c52] at H
                          have c52b0 : decide (x6_1 < 0) = true := decide_eq_true c52
                          clear c52
                          replace H := Option.bind_eq_some_iff.mp H
                          obtain ⟨t136, A530, H⟩ := H
                          replace H : (if x5_1.size + t136.size ≤ 9223372036854775807 then (rosterlaw01_TextPoints.l0 kj8 l0 l1 (x5_1 ++ t136) (x5_1.size : Int) (wrap64 (x7_1 + 1))) else (none)) = some r := H
                          have A53 := Aside0.mk A530
                          clear A530
                          by_cases c54 : x5_1.size + t136.size ≤ 9223372036854775807
                          · rw [if_pos c54] at H
                            have c54b0 := eq_true c54
                            have c54b1 : decide (x5_1.size + t136.size ≤ 9223372036854775807) = true := decide_eq_true c54
                            try have c54b2 : (9223372036854775807 < x5_1.size + t136.size) = False := eq_false (Nat.not_lt.2 c54)
                            have H' := Aside0.mk H
                            clear H
                            go_wp2_with (first | ((with_reducible refine gate_callee (f := 19) rfl ?_); refine goesL_ (some 70) rfl rfl Try.func19 (by kernel_rfl) rfl #[.int .i64 (Go.bits .and .i64 (rd l0 x7_1) 2097151), .int .i64 x9_8] rfl (by (try simp only [List.map_toArray, List.map_cons, List.map_nil]); first | done | rfl | (simp only [List.length_drop, List.length_take]; rfl)) ?_; (with_reducible refine (rosterlaw01_wide.calls (Go.bits .and .i64 (rd l0 x7_1) 2097151) x9_8 t136 _ A53.out).mono ?_); rintro e w55 ⟨rfl, hb⟩; refine ⟨_, rfl, ?_⟩; have n0_ := Aside0.mk (below_step (by repeat (first | (with_reducible first | exact HB.out | apply below_alloc | apply pw_below_drewN | apply below_drew1) | exact HB.out)) hb); clear HB; have HB := n0_; clear n0_; (try clear hb); (try clear hb2); (try clear hk); (try clear hi)))
                            go_roundg kj8
                            case measure => have := HK1.out; have := HJ2.out; have := HJ8.out; omega
                            case rel => exact ⟨(x5_1 ++ t136), ((x5_1.size : Int)), (wrap64 (x7_1 + 1)), (by first | rfl | (simp; done) | (simp [*]; done)), (by first | rfl | (simp; done) | (simp [*]; done)), (by first | rfl | (simp; done) | (simp [*]; done)), H', ⟨by have := HK1.out; have := HJ2.out; have := HJ8.out; omega⟩, ⟨by repeat (first | (with_reducible first | exact HB.out | apply below_alloc | apply pw_below_drewN | apply below_drew1) | exact HB.out)⟩⟩
                          · rw [if_neg c54] at H
                            exact absurd H (by simp)
                        · rw [if_neg c52] at H
                          have c52b0 : decide (x6_1 < 0) = false := decide_eq_false c52
                          clear c52
                          replace H := Option.bind_eq_some_iff.mp H
                          obtain ⟨t137, A560, H⟩ := H
                          replace H : (if x5_1.size + t137.size ≤ 9223372036854775807 then (rosterlaw01_TextPoints.l0 kj8 l0 l1 (x5_1 ++ t137) x6_1 (wrap64 (x7_1 + 1))) else (none)) = some r := H
                          have A56 := Aside0.mk A560
                          clear A560
                          by_cases c57 : x5_1.size + t137.size ≤ 9223372036854775807
                          · rw [if_pos c57] at H
                            have c57b0 := eq_true c57
                            have c57b1 : decide (x5_1.size + t137.size ≤ 9223372036854775807) = true := decide_eq_true c57
                            try have c57b2 : (9223372036854775807 < x5_1.size + t137.size) = False := eq_false (Nat.not_lt.2 c57)
                            have H' := Aside0.mk H
                            clear H
                            go_wp2_with (first | ((with_reducible refine gate_callee (f := 19) rfl ?_); refine goesL_ (some 70) rfl rfl Try.func19 (by kernel_rfl) rfl #[.int .i64 (Go.bits .and .i64 (rd l0 x7_1) 2097151), .int .i64 x9_8] rfl (by (try simp only [List.map_toArray, List.map_cons, List.map_nil]); first | done | rfl | (simp only [List.length_drop, List.length_take]; rfl)) ?_; (with_reducible refine (rosterlaw01_wide.calls (Go.bits .and .i64 (rd l0 x7_1) 2097151) x9_8 t137 _ A56.out).mono ?_); rintro e w58 ⟨rfl, hb⟩; refine ⟨_, rfl, ?_⟩; have n0_ := Aside0.mk (below_step (by repeat (first | (with_reducible first | exact HB.out | apply below_alloc | apply pw_below_drewN | apply below_drew1) | exact HB.out)) hb); clear HB; have HB := n0_; clear n0_; (try clear hb); (try clear hb2); (try clear hk); (try clear hi)))
                            go_roundg kj8
                            case measure => have := HK1.out; have := HJ2.out; have := HJ8.out; omega
                            case rel => exact ⟨(x5_1 ++ t137), (x6_1), (wrap64 (x7_1 + 1)), (by first | rfl | (simp; done) | (simp [*]; done)), (by first | rfl | (simp; done) | (simp [*]; done)), (by first | rfl | (simp; done) | (simp [*]; done)), H', ⟨by have := HK1.out; have := HJ2.out; have := HJ8.out; omega⟩, ⟨by repeat (first | (with_reducible first | exact HB.out | apply below_alloc | apply pw_below_drewN | apply below_drew1) | exact HB.out)⟩⟩
                          · rw [if_neg c57] at H
                            exact absurd H (by simp)
                      · rw [if_neg c51] at H
                        have c51b0 : decide (t124 < x9_8) = false := decide_eq_false c51
                        clear c51
                        by_cases c59 : (Go.bits .and .i64 (rd l0 x7_1) 2097151) ≥ 55296
                        · rw [if_pos c59] at H
                          have c59b0 : decide (55296 ≤ (Go.bits .and .i64 (rd l0 x7_1) 2097151)) = true := decide_eq_true c59
                          clear c59
                          by_cases c60 : (Go.bits .and .i64 (rd l0 x7_1) 2097151) ≤ 57343
                          · rw [if_pos c60] at H
                            have c60b0 : decide ((Go.bits .and .i64 (rd l0 x7_1) 2097151) ≤ 57343) = true := decide_eq_true c60
                            clear c60
                            by_cases c61 : x6_1 < 0
                            · rw [if_pos c61] at H
                              have c61b0 : decide (x6_1 < 0) = true := decide_eq_true c61
                              clear c61
                              replace H := Option.bind_eq_some_iff.mp H
                              obtain ⟨t138, A620, H⟩ := H
                              replace H : (if x5_1.size + t138.size ≤ 9223372036854775807 then (rosterlaw01_TextPoints.l0 kj8 l0 l1 (x5_1 ++ t138) (x5_1.size : Int) (wrap64 (x7_1 + 1))) else (none)) = some r := H
                              have A62 := Aside0.mk A620
                              clear A620
                              by_cases c63 : x5_1.size + t138.size ≤ 9223372036854775807
                              · rw [if_pos c63] at H
                                have c63b0 := eq_true c63
                                have c63b1 : decide (x5_1.size + t138.size ≤ 9223372036854775807) = true := decide_eq_true c63
                                try have c63b2 : (9223372036854775807 < x5_1.size + t138.size) = False := eq_false (Nat.not_lt.2 c63)
                                have H' := Aside0.mk H
                                clear H
                                go_wp2_with (first | ((with_reducible refine gate_callee (f := 19) rfl ?_); refine goesL_ (some 70) rfl rfl Try.func19 (by kernel_rfl) rfl #[.int .i64 (Go.bits .and .i64 (rd l0 x7_1) 2097151), .int .i64 x9_8] rfl (by (try simp only [List.map_toArray, List.map_cons, List.map_nil]); first | done | rfl | (simp only [List.length_drop, List.length_take]; rfl)) ?_; (with_reducible refine (rosterlaw01_wide.calls (Go.bits .and .i64 (rd l0 x7_1) 2097151) x9_8 t138 _ A62.out).mono ?_); rintro e w64 ⟨rfl, hb⟩; refine ⟨_, rfl, ?_⟩; have n0_ := Aside0.mk (below_step (by repeat (first | (with_reducible first | exact HB.out | apply below_alloc | apply pw_below_drewN | apply below_drew1) | exact HB.out)) hb); clear HB; have HB := n0_; clear n0_; (try clear hb); (try clear hb2); (try clear hk); (try clear hi)))
                                go_roundg kj8
                                case measure => have := HK1.out; have := HJ2.out; have := HJ8.out; omega
                                case rel => exact ⟨(x5_1 ++ t138), ((x5_1.size : Int)), (wrap64 (x7_1 + 1)), (by first | rfl | (simp; done) | (simp [*]; done)), (by first | rfl | (simp; done) | (simp [*]; done)), (by first | rfl | (simp; done) | (simp [*]; done)), H', ⟨by have := HK1.out; have := HJ2.out; have := HJ8.out; omega⟩, ⟨by repeat (first | (with_reducible first | exact HB.out | apply below_alloc | apply pw_below_drewN | apply below_drew1) | exact HB.out)⟩⟩
                              · rw [if_neg c63] at H
                                exact absurd H (by simp)
                            · rw [if_neg c61] at H
                              have c61b0 : decide (x6_1 < 0) = false := decide_eq_false c61
                              clear c61
                              replace H := Option.bind_eq_some_iff.mp H
                              obtain ⟨t139, A650, H⟩ := H
                              replace H : (if x5_1.size + t139.size ≤ 9223372036854775807 then (rosterlaw01_TextPoints.l0 kj8 l0 l1 (x5_1 ++ t139) x6_1 (wrap64 (x7_1 + 1))) else (none)) = some r := H
                              have A65 := Aside0.mk A650
                              clear A650
                              by_cases c66 : x5_1.size + t139.size ≤ 9223372036854775807
                              · rw [if_pos c66] at H
                                have c66b0 := eq_true c66
                                have c66b1 : decide (x5_1.size + t139.size ≤ 9223372036854775807) = true := decide_eq_true c66
                                try have c66b2 : (9223372036854775807 < x5_1.size + t139.size) = False := eq_false (Nat.not_lt.2 c66)
                                have H' := Aside0.mk H
                                clear H
                                go_wp2_with (first | ((with_reducible refine gate_callee (f := 19) rfl ?_); refine goesL_ (some 70) rfl rfl Try.func19 (by kernel_rfl) rfl #[.int .i64 (Go.bits .and .i64 (rd l0 x7_1) 2097151), .int .i64 x9_8] rfl (by (try simp only [List.map_toArray, List.map_cons, List.map_nil]); first | done | rfl | (simp only [List.length_drop, List.length_take]; rfl)) ?_; (with_reducible refine (rosterlaw01_wide.calls (Go.bits .and .i64 (rd l0 x7_1) 2097151) x9_8 t139 _ A65.out).mono ?_); rintro e w67 ⟨rfl, hb⟩; refine ⟨_, rfl, ?_⟩; have n0_ := Aside0.mk (below_step (by repeat (first | (with_reducible first | exact HB.out | apply below_alloc | apply pw_below_drewN | apply below_drew1) | exact HB.out)) hb); clear HB; have HB := n0_; clear n0_; (try clear hb); (try clear hb2); (try clear hk); (try clear hi)))
                                go_roundg kj8
                                case measure => have := HK1.out; have := HJ2.out; have := HJ8.out; omega
                                case rel => exact ⟨(x5_1 ++ t139), (x6_1), (wrap64 (x7_1 + 1)), (by first | rfl | (simp; done) | (simp [*]; done)), (by first | rfl | (simp; done) | (simp [*]; done)), (by first | rfl | (simp; done) | (simp [*]; done)), H', ⟨by have := HK1.out; have := HJ2.out; have := HJ8.out; omega⟩, ⟨by repeat (first | (with_reducible first | exact HB.out | apply below_alloc | apply pw_below_drewN | apply below_drew1) | exact HB.out)⟩⟩
                              · rw [if_neg c66] at H
                                exact absurd H (by simp)
                          · rw [if_neg c60] at H
                            have c60b0 : decide ((Go.bits .and .i64 (rd l0 x7_1) 2097151) ≤ 57343) = false := decide_eq_false c60
                            clear c60
                            by_cases c68 : (Go.bits .and .i64 (rd l0 x7_1) 2097151) > 1114111
                            · rw [if_pos c68] at H
                              have c68b0 : decide (1114111 < (Go.bits .and .i64 (rd l0 x7_1) 2097151)) = true := decide_eq_true c68
                              clear c68
                              by_cases c69 : x6_1 < 0
                              · rw [if_pos c69] at H
                                have c69b0 : decide (x6_1 < 0) = true := decide_eq_true c69
                                clear c69
                                replace H := Option.bind_eq_some_iff.mp H
                                obtain ⟨t140, A700, H⟩ := H
                                replace H : (if x5_1.size + t140.size ≤ 9223372036854775807 then (rosterlaw01_TextPoints.l0 kj8 l0 l1 (x5_1 ++ t140) (x5_1.size : Int) (wrap64 (x7_1 + 1))) else (none)) = some r := H
                                have A70 := Aside0.mk A700
                                clear A700
                                by_cases c71 : x5_1.size + t140.size ≤ 9223372036854775807
                                · rw [if_pos c71] at H
                                  have c71b0 := eq_true c71
                                  have c71b1 : decide (x5_1.size + t140.size ≤ 9223372036854775807) = true := decide_eq_true c71
                                  try have c71b2 : (9223372036854775807 < x5_1.size + t140.size) = False := eq_false (Nat.not_lt.2 c71)
                                  have H' := Aside0.mk H
                                  clear H
                                  go_wp2_with (first | ((with_reducible refine gate_callee (f := 19) rfl ?_); refine goesL_ (some 70) rfl rfl Try.func19 (by kernel_rfl) rfl #[.int .i64 (Go.bits .and .i64 (rd l0 x7_1) 2097151), .int .i64 x9_8] rfl (by (try simp only [List.map_toArray, List.map_cons, List.map_nil]); first | done | rfl | (simp only [List.length_drop, List.length_take]; rfl)) ?_; (with_reducible refine (rosterlaw01_wide.calls (Go.bits .and .i64 (rd l0 x7_1) 2097151) x9_8 t140 _ A70.out).mono ?_); rintro e w72 ⟨rfl, hb⟩; refine ⟨_, rfl, ?_⟩; have n0_ := Aside0.mk (below_step (by repeat (first | (with_reducible first | exact HB.out | apply below_alloc | apply pw_below_drewN | apply below_drew1) | exact HB.out)) hb); clear HB; have HB := n0_; clear n0_; (try clear hb); (try clear hb2); (try clear hk); (try clear hi)))
                                  go_roundg kj8
                                  case measure => have := HK1.out; have := HJ2.out; have := HJ8.out; omega
                                  case rel => exact ⟨(x5_1 ++ t140), ((x5_1.size : Int)), (wrap64 (x7_1 + 1)), (by first | rfl | (simp; done) | (simp [*]; done)), (by first | rfl | (simp; done) | (simp [*]; done)), (by first | rfl | (simp; done) | (simp [*]; done)), H', ⟨by have := HK1.out; have := HJ2.out; have := HJ8.out; omega⟩, ⟨by repeat (first | (with_reducible first | exact HB.out | apply below_alloc | apply pw_below_drewN | apply below_drew1) | exact HB.out)⟩⟩
                                · rw [if_neg c71] at H
                                  exact absurd H (by simp)
                              · rw [if_neg c69] at H
                                have c69b0 : decide (x6_1 < 0) = false := decide_eq_false c69
                                clear c69
                                replace H := Option.bind_eq_some_iff.mp H
                                obtain ⟨t141, A730, H⟩ := H
                                replace H : (if x5_1.size + t141.size ≤ 9223372036854775807 then (rosterlaw01_TextPoints.l0 kj8 l0 l1 (x5_1 ++ t141) x6_1 (wrap64 (x7_1 + 1))) else (none)) = some r := H
                                have A73 := Aside0.mk A730
                                clear A730
                                by_cases c74 : x5_1.size + t141.size ≤ 9223372036854775807
                                · rw [if_pos c74] at H
                                  have c74b0 := eq_true c74
                                  have c74b1 : decide (x5_1.size + t141.size ≤ 9223372036854775807) = true := decide_eq_true c74
                                  try have c74b2 : (9223372036854775807 < x5_1.size + t141.size) = False := eq_false (Nat.not_lt.2 c74)
                                  have H' := Aside0.mk H
                                  clear H
                                  go_wp2_with (first | ((with_reducible refine gate_callee (f := 19) rfl ?_); refine goesL_ (some 70) rfl rfl Try.func19 (by kernel_rfl) rfl #[.int .i64 (Go.bits .and .i64 (rd l0 x7_1) 2097151), .int .i64 x9_8] rfl (by (try simp only [List.map_toArray, List.map_cons, List.map_nil]); first | done | rfl | (simp only [List.length_drop, List.length_take]; rfl)) ?_; (with_reducible refine (rosterlaw01_wide.calls (Go.bits .and .i64 (rd l0 x7_1) 2097151) x9_8 t141 _ A73.out).mono ?_); rintro e w75 ⟨rfl, hb⟩; refine ⟨_, rfl, ?_⟩; have n0_ := Aside0.mk (below_step (by repeat (first | (with_reducible first | exact HB.out | apply below_alloc | apply pw_below_drewN | apply below_drew1) | exact HB.out)) hb); clear HB; have HB := n0_; clear n0_; (try clear hb); (try clear hb2); (try clear hk); (try clear hi)))
                                  go_roundg kj8
                                  case measure => have := HK1.out; have := HJ2.out; have := HJ8.out; omega
                                  case rel => exact ⟨(x5_1 ++ t141), (x6_1), (wrap64 (x7_1 + 1)), (by first | rfl | (simp; done) | (simp [*]; done)), (by first | rfl | (simp; done) | (simp [*]; done)), (by first | rfl | (simp; done) | (simp [*]; done)), H', ⟨by have := HK1.out; have := HJ2.out; have := HJ8.out; omega⟩, ⟨by repeat (first | (with_reducible first | exact HB.out | apply below_alloc | apply pw_below_drewN | apply below_drew1) | exact HB.out)⟩⟩
                                · rw [if_neg c74] at H
                                  exact absurd H (by simp)
                            · rw [if_neg c68] at H
                              have c68b0 : decide (1114111 < (Go.bits .and .i64 (rd l0 x7_1) 2097151)) = false := decide_eq_false c68
                              clear c68
                              replace H := Option.bind_eq_some_iff.mp H
                              obtain ⟨t142, A760, H⟩ := H
                              replace H : (if x5_1.size + t142.size ≤ 9223372036854775807 then (rosterlaw01_TextPoints.l0 kj8 l0 l1 (x5_1 ++ t142) x6_1 (wrap64 (x7_1 + 1))) else (none)) = some r := H
                              have A76 := Aside0.mk A760
                              clear A760
                              by_cases c77 : x5_1.size + t142.size ≤ 9223372036854775807
                              · rw [if_pos c77] at H
                                have c77b0 := eq_true c77
                                have c77b1 : decide (x5_1.size + t142.size ≤ 9223372036854775807) = true := decide_eq_true c77
                                try have c77b2 : (9223372036854775807 < x5_1.size + t142.size) = False := eq_false (Nat.not_lt.2 c77)
                                have H' := Aside0.mk H
                                clear H
                                go_wp2_with (first | ((with_reducible refine gate_callee (f := 19) rfl ?_); refine goesL_ (some 70) rfl rfl Try.func19 (by kernel_rfl) rfl #[.int .i64 (Go.bits .and .i64 (rd l0 x7_1) 2097151), .int .i64 x9_8] rfl (by (try simp only [List.map_toArray, List.map_cons, List.map_nil]); first | done | rfl | (simp only [List.length_drop, List.length_take]; rfl)) ?_; (with_reducible refine (rosterlaw01_wide.calls (Go.bits .and .i64 (rd l0 x7_1) 2097151) x9_8 t142 _ A76.out).mono ?_); rintro e w78 ⟨rfl, hb⟩; refine ⟨_, rfl, ?_⟩; have n0_ := Aside0.mk (below_step (by repeat (first | (with_reducible first | exact HB.out | apply below_alloc | apply pw_below_drewN | apply below_drew1) | exact HB.out)) hb); clear HB; have HB := n0_; clear n0_; (try clear hb); (try clear hb2); (try clear hk); (try clear hi)))
                                go_roundg kj8
                                case measure => have := HK1.out; have := HJ2.out; have := HJ8.out; omega
                                case rel => exact ⟨(x5_1 ++ t142), (x6_1), (wrap64 (x7_1 + 1)), (by first | rfl | (simp; done) | (simp [*]; done)), (by first | rfl | (simp; done) | (simp [*]; done)), (by first | rfl | (simp; done) | (simp [*]; done)), H', ⟨by have := HK1.out; have := HJ2.out; have := HJ8.out; omega⟩, ⟨by repeat (first | (with_reducible first | exact HB.out | apply below_alloc | apply pw_below_drewN | apply below_drew1) | exact HB.out)⟩⟩
                              · rw [if_neg c77] at H
                                exact absurd H (by simp)
                        · rw [if_neg c59] at H
                          have c59b0 : decide (55296 ≤ (Go.bits .and .i64 (rd l0 x7_1) 2097151)) = false := decide_eq_false c59
                          clear c59
                          by_cases c79 : (Go.bits .and .i64 (rd l0 x7_1) 2097151) > 1114111
                          · rw [if_pos c79] at H
                            have c79b0 : decide (1114111 < (Go.bits .and .i64 (rd l0 x7_1) 2097151)) = true := decide_eq_true c79
                            clear c79
                            by_cases c80 : x6_1 < 0
                            · rw [if_pos c80] at H
                              have c80b0 : decide (x6_1 < 0) = true := decide_eq_true c80
                              clear c80
                              replace H := Option.bind_eq_some_iff.mp H
                              obtain ⟨t143, A810, H⟩ := H
                              replace H : (if x5_1.size + t143.size ≤ 9223372036854775807 then (rosterlaw01_TextPoints.l0 kj8 l0 l1 (x5_1 ++ t143) (x5_1.size : Int) (wrap64 (x7_1 + 1))) else (none)) = some r := H
                              have A81 := Aside0.mk A810
                              clear A810
                              by_cases c82 : x5_1.size + t143.size ≤ 9223372036854775807
                              · rw [if_pos c82] at H
                                have c82b0 := eq_true c82
                                have c82b1 : decide (x5_1.size + t143.size ≤ 9223372036854775807) = true := decide_eq_true c82
                                try have c82b2 : (9223372036854775807 < x5_1.size + t143.size) = False := eq_false (Nat.not_lt.2 c82)
                                have H' := Aside0.mk H
                                clear H
                                go_wp2_with (first | ((with_reducible refine gate_callee (f := 19) rfl ?_); refine goesL_ (some 70) rfl rfl Try.func19 (by kernel_rfl) rfl #[.int .i64 (Go.bits .and .i64 (rd l0 x7_1) 2097151), .int .i64 x9_8] rfl (by (try simp only [List.map_toArray, List.map_cons, List.map_nil]); first | done | rfl | (simp only [List.length_drop, List.length_take]; rfl)) ?_; (with_reducible refine (rosterlaw01_wide.calls (Go.bits .and .i64 (rd l0 x7_1) 2097151) x9_8 t143 _ A81.out).mono ?_); rintro e w83 ⟨rfl, hb⟩; refine ⟨_, rfl, ?_⟩; have n0_ := Aside0.mk (below_step (by repeat (first | (with_reducible first | exact HB.out | apply below_alloc | apply pw_below_drewN | apply below_drew1) | exact HB.out)) hb); clear HB; have HB := n0_; clear n0_; (try clear hb); (try clear hb2); (try clear hk); (try clear hi)))
                                go_roundg kj8
                                case measure => have := HK1.out; have := HJ2.out; have := HJ8.out; omega
                                case rel => exact ⟨(x5_1 ++ t143), ((x5_1.size : Int)), (wrap64 (x7_1 + 1)), (by first | rfl | (simp; done) | (simp [*]; done)), (by first | rfl | (simp; done) | (simp [*]; done)), (by first | rfl | (simp; done) | (simp [*]; done)), H', ⟨by have := HK1.out; have := HJ2.out; have := HJ8.out; omega⟩, ⟨by repeat (first | (with_reducible first | exact HB.out | apply below_alloc | apply pw_below_drewN | apply below_drew1) | exact HB.out)⟩⟩
                              · rw [if_neg c82] at H
                                exact absurd H (by simp)
                            · rw [if_neg c80] at H
                              have c80b0 : decide (x6_1 < 0) = false := decide_eq_false c80
                              clear c80
                              replace H := Option.bind_eq_some_iff.mp H
                              obtain ⟨t144, A840, H⟩ := H
                              replace H : (if x5_1.size + t144.size ≤ 9223372036854775807 then (rosterlaw01_TextPoints.l0 kj8 l0 l1 (x5_1 ++ t144) x6_1 (wrap64 (x7_1 + 1))) else (none)) = some r := H
                              have A84 := Aside0.mk A840
                              clear A840
                              by_cases c85 : x5_1.size + t144.size ≤ 9223372036854775807
                              · rw [if_pos c85] at H
                                have c85b0 := eq_true c85
                                have c85b1 : decide (x5_1.size + t144.size ≤ 9223372036854775807) = true := decide_eq_true c85
                                try have c85b2 : (9223372036854775807 < x5_1.size + t144.size) = False := eq_false (Nat.not_lt.2 c85)
                                have H' := Aside0.mk H
                                clear H
                                go_wp2_with (first | ((with_reducible refine gate_callee (f := 19) rfl ?_); refine goesL_ (some 70) rfl rfl Try.func19 (by kernel_rfl) rfl #[.int .i64 (Go.bits .and .i64 (rd l0 x7_1) 2097151), .int .i64 x9_8] rfl (by (try simp only [List.map_toArray, List.map_cons, List.map_nil]); first | done | rfl | (simp only [List.length_drop, List.length_take]; rfl)) ?_; (with_reducible refine (rosterlaw01_wide.calls (Go.bits .and .i64 (rd l0 x7_1) 2097151) x9_8 t144 _ A84.out).mono ?_); rintro e w86 ⟨rfl, hb⟩; refine ⟨_, rfl, ?_⟩; have n0_ := Aside0.mk (below_step (by repeat (first | (with_reducible first | exact HB.out | apply below_alloc | apply pw_below_drewN | apply below_drew1) | exact HB.out)) hb); clear HB; have HB := n0_; clear n0_; (try clear hb); (try clear hb2); (try clear hk); (try clear hi)))
                                go_roundg kj8
                                case measure => have := HK1.out; have := HJ2.out; have := HJ8.out; omega
                                case rel => exact ⟨(x5_1 ++ t144), (x6_1), (wrap64 (x7_1 + 1)), (by first | rfl | (simp; done) | (simp [*]; done)), (by first | rfl | (simp; done) | (simp [*]; done)), (by first | rfl | (simp; done) | (simp [*]; done)), H', ⟨by have := HK1.out; have := HJ2.out; have := HJ8.out; omega⟩, ⟨by repeat (first | (with_reducible first | exact HB.out | apply below_alloc | apply pw_below_drewN | apply below_drew1) | exact HB.out)⟩⟩
                              · rw [if_neg c85] at H
                                exact absurd H (by simp)
                          · rw [if_neg c79] at H
                            have c79b0 : decide (1114111 < (Go.bits .and .i64 (rd l0 x7_1) 2097151)) = false := decide_eq_false c79
                            clear c79
                            replace H := Option.bind_eq_some_iff.mp H
                            obtain ⟨t145, A870, H⟩ := H
                            replace H : (if x5_1.size + t145.size ≤ 9223372036854775807 then (rosterlaw01_TextPoints.l0 kj8 l0 l1 (x5_1 ++ t145) x6_1 (wrap64 (x7_1 + 1))) else (none)) = some r := H
                            have A87 := Aside0.mk A870
                            clear A870
                            by_cases c88 : x5_1.size + t145.size ≤ 9223372036854775807
                            · rw [if_pos c88] at H
                              have c88b0 := eq_true c88
                              have c88b1 : decide (x5_1.size + t145.size ≤ 9223372036854775807) = true := decide_eq_true c88
                              try have c88b2 : (9223372036854775807 < x5_1.size + t145.size) = False := eq_false (Nat.not_lt.2 c88)
                              have H' := Aside0.mk H
                              clear H
                              go_wp2_with (first | ((with_reducible refine gate_callee (f := 19) rfl ?_); refine goesL_ (some 70) rfl rfl Try.func19 (by kernel_rfl) rfl #[.int .i64 (Go.bits .and .i64 (rd l0 x7_1) 2097151), .int .i64 x9_8] rfl (by (try simp only [List.map_toArray, List.map_cons, List.map_nil]); first | done | rfl | (simp only [List.length_drop, List.length_take]; rfl)) ?_; (with_reducible refine (rosterlaw01_wide.calls (Go.bits .and .i64 (rd l0 x7_1) 2097151) x9_8 t145 _ A87.out).mono ?_); rintro e w89 ⟨rfl, hb⟩; refine ⟨_, rfl, ?_⟩; have n0_ := Aside0.mk (below_step (by repeat (first | (with_reducible first | exact HB.out | apply below_alloc | apply pw_below_drewN | apply below_drew1) | exact HB.out)) hb); clear HB; have HB := n0_; clear n0_; (try clear hb); (try clear hb2); (try clear hk); (try clear hi)))
                              go_roundg kj8
                              case measure => have := HK1.out; have := HJ2.out; have := HJ8.out; omega
                              case rel => exact ⟨(x5_1 ++ t145), (x6_1), (wrap64 (x7_1 + 1)), (by first | rfl | (simp; done) | (simp [*]; done)), (by first | rfl | (simp; done) | (simp [*]; done)), (by first | rfl | (simp; done) | (simp [*]; done)), H', ⟨by have := HK1.out; have := HJ2.out; have := HJ8.out; omega⟩, ⟨by repeat (first | (with_reducible first | exact HB.out | apply below_alloc | apply pw_below_drewN | apply below_drew1) | exact HB.out)⟩⟩
                            · rw [if_neg c88] at H
                              exact absurd H (by simp)
              · rw [if_neg c7] at H
                exact absurd H (by simp)
            · rw [if_neg c6] at H
              exact absurd H (by simp)
          · replace c5 := Bool.eq_false_iff.mpr c5
            subst c5
            have H1 : ((text_Check.f kj2 x5_1).bind fun bt146 => (if x6_1 < 0 then ((rosterlaw01_num.f bt146.1).bind fun t148 => (if t148 = 0 then (some (bt146.2 == (x5_1.size : Int))) else (some false))) else ((rosterlaw01_num.f bt146.1).bind fun t149 => (if t149 = 10 then (some (bt146.2 == x6_1)) else (some false))))) = some r := by rw [if_neg (show ¬ (false = true) by decide)] at H; exact H
            clear H
            have H := H1
            clear H1
            replace H := Option.bind_eq_some_iff.mp H
            obtain ⟨⟨t146, t147⟩, A900, H⟩ := H
            replace H : (if x6_1 < 0 then ((rosterlaw01_num.f t146).bind fun t148 => (if t148 = 0 then (some (t147 == (x5_1.size : Int))) else (some false))) else ((rosterlaw01_num.f t146).bind fun t149 => (if t149 = 10 then (some (t147 == x6_1)) else (some false)))) = some r := H
            have A90 := Aside0.mk A900
            clear A900
            by_cases c91 : x6_1 < 0
            · rw [if_pos c91] at H
              have c91b0 : decide (x6_1 < 0) = true := decide_eq_true c91
              clear c91
              replace H := Option.bind_eq_some_iff.mp H
              obtain ⟨t148, A920, H⟩ := H
              replace H : (if t148 = 0 then (some (t147 == (x5_1.size : Int))) else (some false)) = some r := H
              have A92 := Aside0.mk A920
              clear A920
              by_cases c93 : t148 = 0
              · rw [if_pos c93] at H
                have c93b0 : (t148 == 0) = true := beq_iff_eq.mpr c93
                have c93b1 : (t148 != 0) = false := bne_eq_false_iff_eq.mpr c93
                clear c93
                obtain rfl := Option.some.inj H
                go_wp2_with (first | ((with_reducible refine gate_callee (f := 20) rfl ?_); refine goesL_ (some 74) rfl rfl Try.func20 (by kernel_rfl) rfl #[.string x5_1] rfl (by (try simp only [List.map_toArray, List.map_cons, List.map_nil]); first | done | rfl | (simp only [List.length_drop, List.length_take]; rfl)) ?_; (with_reducible refine (text_Check.calls kj2 x5_1 t146 t147 _ A90.out).mono ?_); rintro e w94 ⟨rfl, hb⟩; refine ⟨_, rfl, ?_⟩; have n0_ := Aside0.mk (below_step (by repeat (first | (with_reducible first | exact HB.out | apply below_alloc | apply pw_below_drewN | apply below_drew1) | exact HB.out)) hb); clear HB; have HB := n0_; clear n0_; (try clear hb); (try clear hb2); (try clear hk); (try clear hi)) | ((with_reducible refine gate_callee (f := 21) rfl ?_); refine goesL_ (some 80) rfl rfl Try.func21 (by kernel_rfl) rfl #[.int .i64 t146] rfl (by (try simp only [List.map_toArray, List.map_cons, List.map_nil]); first | done | rfl | (simp only [List.length_drop, List.length_take]; rfl)) ?_; (with_reducible refine (rosterlaw01_num.calls t146 t148 _ A92.out).mono ?_); rintro e w' ⟨rfl, ⟨nd, rfl⟩⟩; refine ⟨_, rfl, ?_⟩))
                go_ret
                exact ⟨by first | rfl | (simp [errW_none, errW_some] <;> rfl) | (simp [*, errW_none, errW_some] <;> rfl), by repeat (first | (with_reducible first | exact HB.out | apply below_alloc | apply pw_below_drewN | apply below_drew1) | exact HB.out)⟩
              · rw [if_neg c93] at H
                have c93b0 : (t148 == 0) = false := beq_eq_false_iff_ne.mpr c93
                have c93b1 : (t148 != 0) = true := bne_iff_ne.mpr c93
                obtain rfl := Option.some.inj H
                go_wp2_with (first | ((with_reducible refine gate_callee (f := 20) rfl ?_); refine goesL_ (some 74) rfl rfl Try.func20 (by kernel_rfl) rfl #[.string x5_1] rfl (by (try simp only [List.map_toArray, List.map_cons, List.map_nil]); first | done | rfl | (simp only [List.length_drop, List.length_take]; rfl)) ?_; (with_reducible refine (text_Check.calls kj2 x5_1 t146 t147 _ A90.out).mono ?_); rintro e w95 ⟨rfl, hb⟩; refine ⟨_, rfl, ?_⟩; have n0_ := Aside0.mk (below_step (by repeat (first | (with_reducible first | exact HB.out | apply below_alloc | apply pw_below_drewN | apply below_drew1) | exact HB.out)) hb); clear HB; have HB := n0_; clear n0_; (try clear hb); (try clear hb2); (try clear hk); (try clear hi)) | ((with_reducible refine gate_callee (f := 21) rfl ?_); refine goesL_ (some 80) rfl rfl Try.func21 (by kernel_rfl) rfl #[.int .i64 t146] rfl (by (try simp only [List.map_toArray, List.map_cons, List.map_nil]); first | done | rfl | (simp only [List.length_drop, List.length_take]; rfl)) ?_; (with_reducible refine (rosterlaw01_num.calls t146 t148 _ A92.out).mono ?_); rintro e w' ⟨rfl, ⟨nd, rfl⟩⟩; refine ⟨_, rfl, ?_⟩))
                go_ret
                exact ⟨by first | rfl | (simp [errW_none, errW_some] <;> rfl) | (simp [*, errW_none, errW_some] <;> rfl), by repeat (first | (with_reducible first | exact HB.out | apply below_alloc | apply pw_below_drewN | apply below_drew1) | exact HB.out)⟩
            · rw [if_neg c91] at H
              have c91b0 : decide (x6_1 < 0) = false := decide_eq_false c91
              clear c91
              replace H := Option.bind_eq_some_iff.mp H
              obtain ⟨t149, A960, H⟩ := H
              replace H : (if t149 = 10 then (some (t147 == x6_1)) else (some false)) = some r := H
              have A96 := Aside0.mk A960
              clear A960
              by_cases c97 : t149 = 10
              · rw [if_pos c97] at H
                have c97b0 : (t149 == 10) = true := beq_iff_eq.mpr c97
                have c97b1 : (t149 != 10) = false := bne_eq_false_iff_eq.mpr c97
                clear c97
                obtain rfl := Option.some.inj H
                go_wp2_with (first | ((with_reducible refine gate_callee (f := 20) rfl ?_); refine goesL_ (some 74) rfl rfl Try.func20 (by kernel_rfl) rfl #[.string x5_1] rfl (by (try simp only [List.map_toArray, List.map_cons, List.map_nil]); first | done | rfl | (simp only [List.length_drop, List.length_take]; rfl)) ?_; (with_reducible refine (text_Check.calls kj2 x5_1 t146 t147 _ A90.out).mono ?_); rintro e w98 ⟨rfl, hb⟩; refine ⟨_, rfl, ?_⟩; have n0_ := Aside0.mk (below_step (by repeat (first | (with_reducible first | exact HB.out | apply below_alloc | apply pw_below_drewN | apply below_drew1) | exact HB.out)) hb); clear HB; have HB := n0_; clear n0_; (try clear hb); (try clear hb2); (try clear hk); (try clear hi)) | ((with_reducible refine gate_callee (f := 21) rfl ?_); refine goesL_ (some 89) rfl rfl Try.func21 (by kernel_rfl) rfl #[.int .i64 t146] rfl (by (try simp only [List.map_toArray, List.map_cons, List.map_nil]); first | done | rfl | (simp only [List.length_drop, List.length_take]; rfl)) ?_; (with_reducible refine (rosterlaw01_num.calls t146 t149 _ A96.out).mono ?_); rintro e w' ⟨rfl, ⟨nd, rfl⟩⟩; refine ⟨_, rfl, ?_⟩))
                go_ret
                exact ⟨by first | rfl | (simp [errW_none, errW_some] <;> rfl) | (simp [*, errW_none, errW_some] <;> rfl), by repeat (first | (with_reducible first | exact HB.out | apply below_alloc | apply pw_below_drewN | apply below_drew1) | exact HB.out)⟩
              · rw [if_neg c97] at H
                have c97b0 : (t149 == 10) = false := beq_eq_false_iff_ne.mpr c97
                have c97b1 : (t149 != 10) = true := bne_iff_ne.mpr c97
                obtain rfl := Option.some.inj H
                go_wp2_with (first | ((with_reducible refine gate_callee (f := 20) rfl ?_); refine goesL_ (some 74) rfl rfl Try.func20 (by kernel_rfl) rfl #[.string x5_1] rfl (by (try simp only [List.map_toArray, List.map_cons, List.map_nil]); first | done | rfl | (simp only [List.length_drop, List.length_take]; rfl)) ?_; (with_reducible refine (text_Check.calls kj2 x5_1 t146 t147 _ A90.out).mono ?_); rintro e w99 ⟨rfl, hb⟩; refine ⟨_, rfl, ?_⟩; have n0_ := Aside0.mk (below_step (by repeat (first | (with_reducible first | exact HB.out | apply below_alloc | apply pw_below_drewN | apply below_drew1) | exact HB.out)) hb); clear HB; have HB := n0_; clear n0_; (try clear hb); (try clear hb2); (try clear hk); (try clear hi)) | ((with_reducible refine gate_callee (f := 21) rfl ?_); refine goesL_ (some 89) rfl rfl Try.func21 (by kernel_rfl) rfl #[.int .i64 t146] rfl (by (try simp only [List.map_toArray, List.map_cons, List.map_nil]); first | done | rfl | (simp only [List.length_drop, List.length_take]; rfl)) ?_; (with_reducible refine (rosterlaw01_num.calls t146 t149 _ A96.out).mono ?_); rintro e w' ⟨rfl, ⟨nd, rfl⟩⟩; refine ⟨_, rfl, ?_⟩))
                go_ret
                exact ⟨by first | rfl | (simp [errW_none, errW_some] <;> rfl) | (simp [*, errW_none, errW_some] <;> rfl), by repeat (first | (with_reducible first | exact HB.out | apply below_alloc | apply pw_below_drewN | apply below_drew1) | exact HB.out)⟩

/-- THE ONE PURE STATEMENT of rosterlaw01_TextPoints: yours. -/
def rosterlaw01_TextPoints.Pure : Prop := ∀ (l0 : List Int) (l1 : List Int), l0.length ≤ maxLen → l0.length * 8 ≤ 140737488351232 → (∀ x ∈ l0, (Lit.int .i64 x).wf = true) → l1.length ≤ maxLen → l1.length * 8 ≤ 140737488351232 → (∀ x ∈ l1, (Lit.int .i64 x).wf = true) → ∃ k, rosterlaw01_TextPoints.f k l0 l1 = some true
theorem rosterlaw01_TextPoints.walk (P : rosterlaw01_TextPoints.Pure) (a0 : Option Addr) (len0 cap0 : Nat) (z0 : List Int) (a1 : Option Addr) (len1 cap1 : Nat) (z1 : List Int) (w : World) (w0 : (a0 = none ∧ len0 = 0 ∧ cap0 = 0 ∧ z0 = []) ∨ ∃ x, a0 = some x ∧ len0 ≤ cap0 ∧ cap0 ≤ maxLen ∧ z0.length = cap0 ∧ (∀ i, i < z0.length → w.cell? (x.add i) = some (.int .i64 (z0.getD i 0))) ∧ ∀ n ∈ z0, (Lit.int .i64 n).wf = true) (y0 : len0 * 8 ≤ 140737488351232) (w1 : (a1 = none ∧ len1 = 0 ∧ cap1 = 0 ∧ z1 = []) ∨ ∃ x, a1 = some x ∧ len1 ≤ cap1 ∧ cap1 ≤ maxLen ∧ z1.length = cap1 ∧ (∀ i, i < z1.length → w.cell? (x.add i) = some (.int .i64 (z1.getD i 0))) ∧ ∀ n ∈ z1, (Lit.int .i64 n).wf = true) (y1 : len1 * 8 ≤ 140737488351232) :
    Calls Try.prog 6 #[.slice a0 len0 cap0, .slice a1 len1 cap1] w fun e w' => e = .returned (.bool true) ∧ Below w.heap.size w w' := by
  obtain ⟨l0, rfl, hr0, hm0, hw0, hc0⟩ := ReadsInt.ofRowC w0
  obtain ⟨l1, rfl, hr1, hm1, hw1, hc1⟩ := ReadsInt.ofRowC w1
  obtain ⟨k, h⟩ := P l0 l1 hm0 y0 hw0 hm1 y1 hw1
  refine (rosterlaw01_TextPoints.calls k _ _ l0 _ _ l1 true w (Kd.C_of_reads (d := (0 : Int)) (h1 := fun _ => rfl) hr0) hc0 (Kd.C_of_reads (d := (0 : Int)) (h1 := fun _ => rfl) hr1) hc1 h).mono ?_
  rintro e w' ⟨rfl, hd⟩
  exact ⟨rfl, hd⟩

end Go.Proofs.Ytjkhdiphcgpbfaa.PTextPoints

-- PRINTED BY print.sh 35421559b90ae4d0a3588c463048766b98c2df88dd9212a6774a882060cdf62d: not written by this session
import Derived.Test.YtjkhdiphcgpbfaaPTextJoinx0
import Derived.Test.YtjkhdiphcgpbfaaPTextJoinx2
namespace Go.Proofs.Ytjkhdiphcgpbfaa.PTextJoin
open Go.RowKit Go.Proofs.YtjkhdiphcgpbfaaW.PrintWords Go.Proofs.YtjkhdiphcgpbfaaW.PrintLast Go.Proofs.YtjkhdiphcgpbfaaW.PrintMore
attribute [local go_sem] max2_int min2_int max_two min_two max_three min_three max_four min_four   -- for this text's walks alone
set_option linter.unusedVariables false
set_option linter.unusedSimpArgs false

/-! ### rosterlaw01_TextJoin: function 7 -/
mutual
def rosterlaw01_TextJoin.j0 : Nat → ByteArray → Int → Int → Int → Int → Int → Int → Bool → Option (Bool)
  | 0, _, _, _, _, _, _, _, _ => none
  | k + 1, x0, x5, x6, x7, x8, x9, x10, x47 => if x47 = true then (some false) else (if 0 ≤ x6 then (if x6 ≤ (x0.size : Int) then ((text_Check.f k (x0.extract 0 (x6 : Int).toNat)).bind fun bt117 => ((rosterlaw01_num.f bt117.1).bind fun t119 => (if t119 = 0 then (rosterlaw01_TextJoin.j1 k x0 x5 x6 x7 x8 x9 x10 (bt117.2 != x6)) else (rosterlaw01_TextJoin.j1 k x0 x5 x6 x7 x8 x9 x10 true)))) else (none)) else (none))
def rosterlaw01_TextJoin.j1 : Nat → ByteArray → Int → Int → Int → Int → Int → Int → Bool → Option (Bool)
  | 0, _, _, _, _, _, _, _, _ => none
  | k + 1, x0, x5, x6, x7, x8, x9, x10, x62 => if x62 = true then (some false) else ((rosterlaw01_num.f x5).bind fun t120 => (if t120 = 0 then (if x6 = (x0.size : Int) then ((rosterlaw01_num.f x9).bind fun t121 => ((rosterlaw01_num.f x7).bind fun t122 => (if t121 = t122 then (some (x10 == (wrap64 (x6 + x8)))) else (some false)))) else (some false)) else ((rosterlaw01_num.f x5).bind fun t123 => (if t123 = 10 then (rosterlaw01_TextJoin.j2 k x0 x6 x9 x10 (x6 == (x0.size : Int))) else (rosterlaw01_TextJoin.j2 k x0 x6 x9 x10 true)))))
def rosterlaw01_TextJoin.j2 : Nat → ByteArray → Int → Int → Int → Bool → Option (Bool)
  | 0, _, _, _, _, _ => none
  | k + 1, x0, x6, x9, x10, x92 => if x92 = true then (some false) else (if (wrap64 (x6 + 4)) ≤ (x0.size : Int) then ((rosterlaw01_num.f x9).bind fun t124 => (if t124 = 10 then (some (x10 == x6)) else (some false))) else (some true))
end
def rosterlaw01_TextJoin.f (k : Nat) (a0 : ByteArray) (a1 : ByteArray) : Option (Bool) := (text_Check.f k a0).bind fun bt111 => ((text_Check.f k a1).bind fun bt113 => (if a0.size + a1.size ≤ 9223372036854775807 then ((text_Check.f k (a0 ++ a1)).bind fun bt115 => (if bt111.2 < 0 then (rosterlaw01_TextJoin.j0 k a0 bt111.1 bt111.2 bt113.1 bt113.2 bt115.1 bt115.2 true) else (if bt111.2 > (a0.size : Int) then (rosterlaw01_TextJoin.j0 k a0 bt111.1 bt111.2 bt113.1 bt113.2 bt115.1 bt115.2 true) else (if bt113.2 < 0 then (rosterlaw01_TextJoin.j0 k a0 bt111.1 bt111.2 bt113.1 bt113.2 bt115.1 bt115.2 true) else (rosterlaw01_TextJoin.j0 k a0 bt111.1 bt111.2 bt113.1 bt113.2 bt115.1 bt115.2 (decide (bt113.2 > (a1.size : Int)))))))) else (none)))
theorem rosterlaw01_TextJoin.mono_l : ∀ k, (∀ y0 y1 y2 y3 y4 y5 y6 y7, LeO (rosterlaw01_TextJoin.j0 k y0 y1 y2 y3 y4 y5 y6 y7) (rosterlaw01_TextJoin.j0 (k + 1) y0 y1 y2 y3 y4 y5 y6 y7)) ∧ (∀ y0 y1 y2 y3 y4 y5 y6 y7, LeO (rosterlaw01_TextJoin.j1 k y0 y1 y2 y3 y4 y5 y6 y7) (rosterlaw01_TextJoin.j1 (k + 1) y0 y1 y2 y3 y4 y5 y6 y7)) ∧ (∀ y0 y1 y2 y3 y4, LeO (rosterlaw01_TextJoin.j2 k y0 y1 y2 y3 y4) (rosterlaw01_TextJoin.j2 (k + 1) y0 y1 y2 y3 y4))
  | 0 => ⟨fun _ _ _ _ _ _ _ _ r h => by simp [rosterlaw01_TextJoin.j0] at h, fun _ _ _ _ _ _ _ _ r h => by simp [rosterlaw01_TextJoin.j1] at h, fun _ _ _ _ _ r h => by simp [rosterlaw01_TextJoin.j2] at h⟩
  | k + 1 => by
    obtain ⟨ih0, ih1, ih2⟩ := rosterlaw01_TextJoin.mono_l k
    refine ⟨?_, ?_, ?_⟩
    · intro y0 y1 y2 y3 y4 y5 y6 y7
      unfold rosterlaw01_TextJoin.j0
      repeat' first
      | (with_reducible exact ih0 _ _ _ _ _ _ _ _)
      | (with_reducible exact ih1 _ _ _ _ _ _ _ _)
      | (with_reducible exact ih2 _ _ _ _ _)
      | (with_reducible exact text_Check.mono _ _)
      | (with_reducible exact LeO.refl _)
      | (with_reducible exact LeO.none _)
      | (with_reducible refine LeO.ite ?_ ?_)
      | (with_reducible refine LeO.bind ?_ (fun _ => ?_))
      | exact ih0 _ _ _ _ _ _ _ _
      | exact ih1 _ _ _ _ _ _ _ _
      | exact ih2 _ _ _ _ _
      | exact text_Check.mono _ _
      | exact LeO.none _
      | refine LeO.ite ?_ ?_
      | refine LeO.bind ?_ (fun _ => ?_)
    · intro y0 y1 y2 y3 y4 y5 y6 y7
      unfold rosterlaw01_TextJoin.j1
      repeat' first
      | (with_reducible exact ih0 _ _ _ _ _ _ _ _)
      | (with_reducible exact ih1 _ _ _ _ _ _ _ _)
      | (with_reducible exact ih2 _ _ _ _ _)
      | (with_reducible exact text_Check.mono _ _)
      | (with_reducible exact LeO.refl _)
      | (with_reducible exact LeO.none _)
      | (with_reducible refine LeO.ite ?_ ?_)
      | (with_reducible refine LeO.bind ?_ (fun _ => ?_))
      | exact ih0 _ _ _ _ _ _ _ _
      | exact ih1 _ _ _ _ _ _ _ _
      | exact ih2 _ _ _ _ _
      | exact text_Check.mono _ _
      | exact LeO.none _
      | refine LeO.ite ?_ ?_
      | refine LeO.bind ?_ (fun _ => ?_)
    · intro y0 y1 y2 y3 y4
      unfold rosterlaw01_TextJoin.j2
      repeat' first
      | (with_reducible exact ih0 _ _ _ _ _ _ _ _)
      | (with_reducible exact ih1 _ _ _ _ _ _ _ _)
      | (with_reducible exact ih2 _ _ _ _ _)
      | (with_reducible exact text_Check.mono _ _)
      | (with_reducible exact LeO.refl _)
      | (with_reducible exact LeO.none _)
      | (with_reducible refine LeO.ite ?_ ?_)
      | (with_reducible refine LeO.bind ?_ (fun _ => ?_))
      | exact ih0 _ _ _ _ _ _ _ _
      | exact ih1 _ _ _ _ _ _ _ _
      | exact ih2 _ _ _ _ _
      | exact text_Check.mono _ _
      | exact LeO.none _
      | refine LeO.ite ?_ ?_
      | refine LeO.bind ?_ (fun _ => ?_)
theorem rosterlaw01_TextJoin.mono : ∀ a0 a1 k, LeO (rosterlaw01_TextJoin.f k a0 a1) (rosterlaw01_TextJoin.f (k + 1) a0 a1) := by
  intro a0 a1 k
  obtain ⟨ih0, ih1, ih2⟩ := rosterlaw01_TextJoin.mono_l k
  unfold rosterlaw01_TextJoin.f
  repeat' first
      | (with_reducible exact ih0 _ _ _ _ _ _ _ _)
      | (with_reducible exact ih1 _ _ _ _ _ _ _ _)
      | (with_reducible exact ih2 _ _ _ _ _)
      | (with_reducible exact text_Check.mono _ _)
      | (with_reducible exact LeO.refl _)
      | (with_reducible exact LeO.none _)
      | (with_reducible refine LeO.ite ?_ ?_)
      | (with_reducible refine LeO.bind ?_ (fun _ => ?_))
      | exact ih0 _ _ _ _ _ _ _ _
      | exact ih1 _ _ _ _ _ _ _ _
      | exact ih2 _ _ _ _ _
      | exact text_Check.mono _ _
      | exact LeO.none _
      | refine LeO.ite ?_ ?_
      | refine LeO.bind ?_ (fun _ => ?_)
set_option maxHeartbeats 8000000 in
set_option maxRecDepth 100000 in
theorem rosterlaw01_TextJoin.calls (k : Nat) (a0 : ByteArray) (a1 : ByteArray) (r : Bool) (w : World) (h : rosterlaw01_TextJoin.f k a0 a1 = some r) :
    Calls Try.prog 7 #[.string a0, .string a1] w fun e w' => e = .returned (.bool r) ∧ Below w.heap.size w w' := by
  have HB := Aside0.mk (Below.refl w.heap.size w)
  have H : ((text_Check.f k a0).bind fun bt111 => ((text_Check.f k a1).bind fun bt113 => (if a0.size + a1.size ≤ 9223372036854775807 then ((text_Check.f k (a0 ++ a1)).bind fun bt115 => (if bt111.2 < 0 then (rosterlaw01_TextJoin.j0 k a0 bt111.1 bt111.2 bt113.1 bt113.2 bt115.1 bt115.2 true) else (if bt111.2 > (a0.size : Int) then (rosterlaw01_TextJoin.j0 k a0 bt111.1 bt111.2 bt113.1 bt113.2 bt115.1 bt115.2 true) else (if bt113.2 < 0 then (rosterlaw01_TextJoin.j0 k a0 bt111.1 bt111.2 bt113.1 bt113.2 bt115.1 bt115.2 true) else (rosterlaw01_TextJoin.j0 k a0 bt111.1 bt111.2 bt113.1 bt113.2 bt115.1 bt115.2 (decide (bt113.2 > (a1.size : Int)))))))) else (none)))) = some r := h
  clear h
  replace H := Option.bind_eq_some_iff.mp H
  obtain ⟨⟨t111, t112⟩, A30, H⟩ := H
  replace H : ((text_Check.f k a1).bind fun bt113 => (if a0.size + a1.size ≤ 9223372036854775807 then ((text_Check.f k (a0 ++ a1)).bind fun bt115 => (if t112 < 0 then (rosterlaw01_TextJoin.j0 k a0 t111 t112 bt113.1 bt113.2 bt115.1 bt115.2 true) else (if t112 > (a0.size : Int) then (rosterlaw01_TextJoin.j0 k a0 t111 t112 bt113.1 bt113.2 bt115.1 bt115.2 true) else (if bt113.2 < 0 then (rosterlaw01_TextJoin.j0 k a0 t111 t112 bt113.1 bt113.2 bt115.1 bt115.2 true) else (rosterlaw01_TextJoin.j0 k a0 t111 t112 bt113.1 bt113.2 bt115.1 bt115.2 (decide (bt113.2 > (a1.size : Int)))))))) else (none))) = some r := H
  have A3 := Aside0.mk A30
  clear A30
  replace H := Option.bind_eq_some_iff.mp H
  obtain ⟨⟨t113, t114⟩, A40, H⟩ := H
  replace H : (if a0.size + a1.size ≤ 9223372036854775807 then ((text_Check.f k (a0 ++ a1)).bind fun bt115 => (if t112 < 0 then (rosterlaw01_TextJoin.j0 k a0 t111 t112 t113 t114 bt115.1 bt115.2 true) else (if t112 > (a0.size : Int) then (rosterlaw01_TextJoin.j0 k a0 t111 t112 t113 t114 bt115.1 bt115.2 true) else (if t114 < 0 then (rosterlaw01_TextJoin.j0 k a0 t111 t112 t113 t114 bt115.1 bt115.2 true) else (rosterlaw01_TextJoin.j0 k a0 t111 t112 t113 t114 bt115.1 bt115.2 (decide (t114 > (a1.size : Int)))))))) else (none)) = some r := H
  have A4 := Aside0.mk A40
  clear A40
  by_cases c5 : a0.size + a1.size ≤ 9223372036854775807
  · rw [if_pos c5] at H
    have c5b0 := eq_true c5
    have c5b1 : decide (a0.size + a1.size ≤ 9223372036854775807) = true := decide_eq_true c5
    try have c5b2 : (9223372036854775807 < a0.size + a1.size) = False := eq_false (Nat.not_lt.2 c5)
    replace H := Option.bind_eq_some_iff.mp H
    obtain ⟨⟨t115, t116⟩, A60, H⟩ := H
    replace H : (if t112 < 0 then (rosterlaw01_TextJoin.j0 k a0 t111 t112 t113 t114 t115 t116 true) else (if t112 > (a0.size : Int) then (rosterlaw01_TextJoin.j0 k a0 t111 t112 t113 t114 t115 t116 true) else (if t114 < 0 then (rosterlaw01_TextJoin.j0 k a0 t111 t112 t113 t114 t115 t116 true) else (rosterlaw01_TextJoin.j0 k a0 t111 t112 t113 t114 t115 t116 (decide (t114 > (a1.size : Int))))))) = some r := H
    have A6 := Aside0.mk A60
    clear A60
    have HC7 := Aside0.mk H
    clear H
    go_enter Try.func7, Try.ntmps7
    go_upto_region 4 with (first | ((with_reducible refine gate_callee (f := 20) rfl ?_); refine goesL_ (some 15) rfl rfl Try.func20 (by kernel_rfl) rfl #[.string a0] rfl (by (try simp only [List.map_toArray, List.map_cons, List.map_nil]); first | done | rfl | (simp only [List.length_drop, List.length_take]; rfl)) ?_; (with_reducible refine (text_Check.calls k a0 t111 t112 _ A3.out).mono ?_); rintro e w8 ⟨rfl, hb⟩; refine ⟨_, rfl, ?_⟩; have n0_ := Aside0.mk (below_step (by repeat (first | (with_reducible first | exact HB.out | apply below_alloc | apply pw_below_drewN | apply below_drew1) | exact HB.out)) hb); clear HB; have HB := n0_; clear n0_; (try clear hb); (try clear hb2); (try clear hk); (try clear hi)) | ((with_reducible refine gate_callee (f := 20) rfl ?_); refine goesL_ (some 20) rfl rfl Try.func20 (by kernel_rfl) rfl #[.string a1] rfl (by (try simp only [List.map_toArray, List.map_cons, List.map_nil]); first | done | rfl | (simp only [List.length_drop, List.length_take]; rfl)) ?_; (with_reducible refine (text_Check.calls k a1 t113 t114 _ A4.out).mono ?_); rintro e w9 ⟨rfl, hb⟩; refine ⟨_, rfl, ?_⟩; have n0_ := Aside0.mk (below_step (by repeat (first | (with_reducible first | exact HB.out | apply below_alloc | apply pw_below_drewN | apply below_drew1) | exact HB.out)) hb); clear HB; have HB := n0_; clear n0_; (try clear hb); (try clear hb2); (try clear hk); (try clear hi)) | ((with_reducible refine gate_callee (f := 20) rfl ?_); refine goesL_ (some 27) rfl rfl Try.func20 (by kernel_rfl) rfl #[.string (a0 ++ a1)] rfl (by (try simp only [List.map_toArray, List.map_cons, List.map_nil]); first | done | rfl | (simp only [List.length_drop, List.length_take]; rfl)) ?_; (with_reducible refine (text_Check.calls k (a0 ++ a1) t115 t116 _ A6.out).mono ?_); rintro e w10 ⟨rfl, hb⟩; refine ⟨_, rfl, ?_⟩; have n0_ := Aside0.mk (below_step (by repeat (first | (with_reducible first | exact HB.out | apply below_alloc | apply pw_below_drewN | apply below_drew1) | exact HB.out)) hb); clear HB; have HB := n0_; clear n0_; (try clear hb); (try clear hb2); (try clear hk); (try clear hi)))
    (try simp only [Act.put, List.setIfInBounds_toArray, List.set_cons_zero, List.set_cons_succ])
    go_cut [47] (fun v47 wc => ∃ (kq : Nat) (x47_6 : Bool), v47 = .bool x47_6 ∧ Aside0 (rosterlaw01_TextJoin.j0 kq a0 t111 t112 t113 t114 t115 t116 x47_6 = some r) ∧ Aside0 (kq ≤ k) ∧ Aside0 (Below w.heap.size w wc))
    case first =>
      have H := HC7.out
      clear HC7
      by_cases c11 : t112 < 0
      · rw [if_pos c11] at H
        have c11b0 : decide (t112 < 0) = true := decide_eq_true c11
        clear c11
        (first | rw [c11b0] | (simp only [i64_w, i32_w]; rw [c11b0]) | skip)
        have H' := Aside0.mk H
        clear H
        go_wp2
        go_meet
        case rel => exact ⟨_, (true), (by first | rfl | (simp; done) | (simp [*]; done)), H', ⟨by first | omega | exact Nat.le_refl _⟩, ⟨by repeat (first | (with_reducible first | exact HB.out | apply below_alloc | apply pw_below_drewN | apply below_drew1) | exact HB.out)⟩⟩
      · rw [if_neg c11] at H
        have c11b0 : decide (t112 < 0) = false := decide_eq_false c11
        clear c11
        (first | rw [c11b0] | (simp only [i64_w, i32_w]; rw [c11b0]) | skip)
        by_cases c12 : t112 > (a0.size : Int)
        · rw [if_pos c12] at H
          have c12b0 : decide ((a0.size : Int) < t112) = true := decide_eq_true c12
          clear c12
          have H' := Aside0.mk H
          clear H
          go_wp2
          go_meet
          case rel => exact ⟨_, (true), (by first | rfl | (simp; done) | (simp [*]; done)), H', ⟨by first | omega | exact Nat.le_refl _⟩, ⟨by repeat (first | (with_reducible first | exact HB.out | apply below_alloc | apply pw_below_drewN | apply below_drew1) | exact HB.out)⟩⟩
        · rw [if_neg c12] at H
          have c12b0 : decide ((a0.size : Int) < t112) = false := decide_eq_false c12
          clear c12
          by_cases c13 : t114 < 0
          · rw [if_pos c13] at H
            have c13b0 : decide (t114 < 0) = true := decide_eq_true c13
            clear c13
            have H' := Aside0.mk H
            clear H
            go_wp2
            go_meet
            case rel => exact ⟨_, (true), (by first | rfl | (simp; done) | (simp [*]; done)), H', ⟨by first | omega | exact Nat.le_refl _⟩, ⟨by repeat (first | (with_reducible first | exact HB.out | apply below_alloc | apply pw_below_drewN | apply below_drew1) | exact HB.out)⟩⟩
          · rw [if_neg c13] at H
            have c13b0 : decide (t114 < 0) = false := decide_eq_false c13
            clear c13
            have H' := Aside0.mk H
            clear H
            go_wp2
            go_meet
            case rel => exact ⟨_, (decide (t114 > (a1.size : Int))), (by first | rfl | (simp; done) | (simp [*]; done)), H', ⟨by first | omega | exact Nat.le_refl _⟩, ⟨by repeat (first | (with_reducible first | exact HB.out | apply below_alloc | apply pw_below_drewN | apply below_drew1) | exact HB.out)⟩⟩
    case rest =>
      clear HC7
      try clear c1
      try clear c2
      try clear p2
      try clear c5
      try clear c5b0
      try clear c5b1
      try clear c5b2
      try clear c7
      try clear c11
      try clear c11b0
      try clear c12
      try clear c12b0
      try clear c13
      try clear c13b0
      obtain ⟨kq, x47_6, rfl, HA, HJ6, HB⟩ := hcut
      cases kq with
      | zero => exact absurd HA.out (by simp [rosterlaw01_TextJoin.j0])
      | succ kj6 =>
        have H := HA.out
        clear HA
        simp only [rosterlaw01_TextJoin.j0] at H
        by_cases c14 : x47_6 = true
        · subst c14
          have H1 : (some false) = some r := by rw [if_pos rfl] at H; exact H
          clear H
          have H := H1
          clear H1
          obtain rfl := Option.some.inj H
          go_wp2
          go_ret
          exact ⟨by first | rfl | (simp [errW_none, errW_some] <;> rfl) | (simp [*, errW_none, errW_some] <;> rfl), by repeat (first | (with_reducible first | exact HB.out | apply below_alloc | apply pw_below_drewN | apply below_drew1) | exact HB.out)⟩
        · replace c14 := Bool.eq_false_iff.mpr c14
          subst c14
          have H1 : (if 0 ≤ t112 then (if t112 ≤ (a0.size : Int) then ((text_Check.f kj6 (a0.extract 0 (t112 : Int).toNat)).bind fun bt117 => ((rosterlaw01_num.f bt117.1).bind fun t119 => (if t119 = 0 then (rosterlaw01_TextJoin.j1 kj6 a0 t111 t112 t113 t114 t115 t116 (bt117.2 != t112)) else (rosterlaw01_TextJoin.j1 kj6 a0 t111 t112 t113 t114 t115 t116 true)))) else (none)) else (none)) = some r := by rw [if_neg (show ¬ (false = true) by decide)] at H; exact H
          clear H
          have H := H1
          clear H1
          by_cases c15 : 0 ≤ t112
          · rw [if_pos c15] at H
            have c15b0 := eq_true c15
            have c15b1 : decide (0 ≤ t112) = true := decide_eq_true c15
            clear c15
            by_cases c16 : t112 ≤ (a0.size : Int)
            · rw [if_pos c16] at H
              have c16b0 := eq_true c16
              have c16b1 : decide (t112 ≤ (a0.size : Int)) = true := decide_eq_true c16
              clear c16
              replace H := Option.bind_eq_some_iff.mp H
              obtain ⟨⟨t117, t118⟩, A170, H⟩ := H
              replace H : ((rosterlaw01_num.f t117).bind fun t119 => (if t119 = 0 then (rosterlaw01_TextJoin.j1 kj6 a0 t111 t112 t113 t114 t115 t116 (t118 != t112)) else (rosterlaw01_TextJoin.j1 kj6 a0 t111 t112 t113 t114 t115 t116 true))) = some r := H
              have A17 := Aside0.mk A170
              clear A170
              have HC18 := Aside0.mk H
              clear H
              go_upto_region 7 with (first | ((with_reducible refine gate_callee (f := 20) rfl ?_); refine goesL_ (some 52) rfl rfl Try.func20 (by kernel_rfl) rfl #[.string (a0.extract 0 (t112 : Int).toNat)] rfl (by (try simp only [List.map_toArray, List.map_cons, List.map_nil]); first | done | rfl | (simp only [List.length_drop, List.length_take]; rfl)) ?_; (with_reducible refine (text_Check.calls kj6 (a0.extract 0 (t112 : Int).toNat) t117 t118 _ A17.out).mono ?_); rintro e w19 ⟨rfl, hb⟩; refine ⟨_, rfl, ?_⟩; have n0_ := Aside0.mk (below_step (by repeat (first | (with_reducible first | exact HB.out | apply below_alloc | apply pw_below_drewN | apply below_drew1) | exact HB.out)) hb); clear HB; have HB := n0_; clear n0_; (try clear hb); (try clear hb2); (try clear hk); (try clear hi)))
              (try simp only [Act.put, List.setIfInBounds_toArray, List.set_cons_zero, List.set_cons_succ])
              go_cut [62] (fun v62 wc => ∃ (kq : Nat) (x62_17 : Bool), v62 = .bool x62_17 ∧ Aside0 (rosterlaw01_TextJoin.j1 kq a0 t111 t112 t113 t114 t115 t116 x62_17 = some r) ∧ Aside0 (kq ≤ kj6) ∧ Aside0 (Below w.heap.size w wc))
              case first =>
                have H := HC18.out
                clear HC18
                replace H := Option.bind_eq_some_iff.mp H
                obtain ⟨t119, A200, H⟩ := H
                replace H : (if t119 = 0 then (rosterlaw01_TextJoin.j1 kj6 a0 t111 t112 t113 t114 t115 t116 (t118 != t112)) else (rosterlaw01_TextJoin.j1 kj6 a0 t111 t112 t113 t114 t115 t116 true)) = some r := H
                have A20 := Aside0.mk A200
                clear A200
                by_cases c21 : t119 = 0
                · rw [if_pos c21] at H
                  have c21b0 : (t119 == 0) = true := beq_iff_eq.mpr c21
                  have c21b1 : (t119 != 0) = false := bne_eq_false_iff_eq.mpr c21
                  clear c21
                  (first | rw [c21b0] | (simp only [i64_w, i32_w]; rw [c21b0]) | skip)
                  have H' := Aside0.mk H
                  clear H
                  go_wp2_with (first | ((with_reducible refine gate_callee (f := 21) rfl ?_); refine goesL_ (some 56) rfl rfl Try.func21 (by kernel_rfl) rfl #[.int .i64 t117] rfl (by (try simp only [List.map_toArray, List.map_cons, List.map_nil]); first | done | rfl | (simp only [List.length_drop, List.length_take]; rfl)) ?_; (with_reducible refine (rosterlaw01_num.calls t117 t119 _ A20.out).mono ?_); rintro e w' ⟨rfl, ⟨nd, rfl⟩⟩; refine ⟨_, rfl, ?_⟩))
                  go_meet
                  case rel => exact ⟨_, ((t118 != t112)), (by first | rfl | (simp; done) | (simp [*]; done)), H', ⟨by have := HJ6.out; first | omega | exact Nat.le_refl _⟩, ⟨by repeat (first | (with_reducible first | exact HB.out | apply below_alloc | apply pw_below_drewN | apply below_drew1) | exact HB.out)⟩⟩
                · rw [if_neg c21] at H
                  have c21b0 : (t119 == 0) = false := beq_eq_false_iff_ne.mpr c21
                  have c21b1 : (t119 != 0) = true := bne_iff_ne.mpr c21
                  (first | rw [c21b0] | (simp only [i64_w, i32_w]; rw [c21b0]) | skip)
                  have H' := Aside0.mk H
                  clear H
                  go_wp2_with (first | ((with_reducible refine gate_callee (f := 21) rfl ?_); refine goesL_ (some 56) rfl rfl Try.func21 (by kernel_rfl) rfl #[.int .i64 t117] rfl (by (try simp only [List.map_toArray, List.map_cons, List.map_nil]); first | done | rfl | (simp only [List.length_drop, List.length_take]; rfl)) ?_; (with_reducible refine (rosterlaw01_num.calls t117 t119 _ A20.out).mono ?_); rintro e w' ⟨rfl, ⟨nd, rfl⟩⟩; refine ⟨_, rfl, ?_⟩))
                  go_meet
                  case rel => exact ⟨_, (true), (by first | rfl | (simp; done) | (simp [*]; done)), H', ⟨by have := HJ6.out; first | omega | exact Nat.le_refl _⟩, ⟨by repeat (first | (with_reducible first | exact HB.out | apply below_alloc | apply pw_below_drewN | apply below_drew1) | exact HB.out)⟩⟩
              case rest =>
                clear HC18
                try clear c1
                try clear c2
                try clear p2
                try clear c5
                try clear c5b0
                try clear c5b1
                try clear c5b2
                try clear c7
                try clear c11
                try clear c11b0
                try clear c12
                try clear c12b0
                try clear c13
                try clear c13b0
                try clear c14
                try clear c15
                try clear c15b0
                try clear c15b1
                try clear c16
                try clear c16b0
                try clear c16b1
                try clear c20
                try clear c21
                try clear c21b0
                try clear c21b1
                try clear p2
                obtain ⟨kq, x62_17, rfl, HA, HJ17, HB⟩ := hcut
                cases kq with
                | zero => exact absurd HA.out (by simp [rosterlaw01_TextJoin.j1])
                | succ kj17 =>
                  have H := HA.out
                  clear HA
                  simp only [rosterlaw01_TextJoin.j1] at H
                  by_cases c22 : x62_17 = true
                  · subst c22
                    have H1 : (some false) = some r := by rw [if_pos rfl] at H; exact H
                    clear H
                    have H := H1
                    clear H1
                    obtain rfl := Option.some.inj H
                    go_wp2
                    go_ret
                    exact ⟨by first | rfl | (simp [errW_none, errW_some] <;> rfl) | (simp [*, errW_none, errW_some] <;> rfl), by repeat (first | (with_reducible first | exact HB.out | apply below_alloc | apply pw_below_drewN | apply below_drew1) | exact HB.out)⟩
                  · replace c22 := Bool.eq_false_iff.mpr c22
                    subst c22
                    have H1 : ((rosterlaw01_num.f t111).bind fun t120 => (if t120 = 0 then (if t112 = (a0.size : Int) then ((rosterlaw01_num.f t115).bind fun t121 => ((rosterlaw01_num.f t113).bind fun t122 => (if t121 = t122 then (some (t116 == (wrap64 (t112 + t114)))) else (some false)))) else (some false)) else ((rosterlaw01_num.f t111).bind fun t123 => (if t123 = 10 then (rosterlaw01_TextJoin.j2 kj17 a0 t112 t115 t116 (t112 == (a0.size : Int))) else (rosterlaw01_TextJoin.j2 kj17 a0 t112 t115 t116 true))))) = some r := by rw [if_neg (show ¬ (false = true) by decide)] at H; exact H
                    clear H
                    have H := H1
                    clear H1
                    replace H := Option.bind_eq_some_iff.mp H
                    obtain ⟨t120, A230, H⟩ := H
                    replace H : (if t120 = 0 then (if t112 = (a0.size : Int) then ((rosterlaw01_num.f t115).bind fun t121 => ((rosterlaw01_num.f t113).bind fun t122 => (if t121 = t122 then (some (t116 == (wrap64 (t112 + t114)))) else (some false)))) else (some false)) else ((rosterlaw01_num.f t111).bind fun t123 => (if t123 = 10 then (rosterlaw01_TextJoin.j2 kj17 a0 t112 t115 t116 (t112 == (a0.size : Int))) else (rosterlaw01_TextJoin.j2 kj17 a0 t112 t115 t116 true)))) = some r := H
                    have A23 := Aside0.mk A230
                    clear A230
                    by_cases c24 : t120 = 0
                    · rw [if_pos c24] at H
                      have c24b0 : (t120 == 0) = true := beq_iff_eq.mpr c24
                      have c24b1 : (t120 != 0) = false := bne_eq_false_iff_eq.mpr c24
                      clear c24
                      by_cases c25 : t112 = (a0.size : Int)
                      · rw [if_pos c25] at H
                        have c25b0 : (t112 == (a0.size : Int)) = true := beq_iff_eq.mpr c25
                        have c25b1 : (t112 != (a0.size : Int)) = false := bne_eq_false_iff_eq.mpr c25
                        clear c25
                        replace H := Option.bind_eq_some_iff.mp H
                        obtain ⟨t121, A260, H⟩ := H
                        replace H : ((rosterlaw01_num.f t113).bind fun t122 => (if t121 = t122 then (some (t116 == (wrap64 (t112 + t114)))) else (some false))) = some r := H
                        have A26 := Aside0.mk A260
                        clear A260
                        replace H := Option.bind_eq_some_iff.mp H
                        obtain ⟨t122, A270, H⟩ := H
                        replace H : (if t121 = t122 then (some (t116 == (wrap64 (t112 + t114)))) else (some false)) = some r := H
                        have A27 := Aside0.mk A270
                        clear A270
                        by_cases c28 : t121 = t122
                        · rw [if_pos c28] at H
                          have c28b0 : (t121 == t122) = true := beq_iff_eq.mpr c28
                          have c28b1 : (t121 != t122) = false := bne_eq_false_iff_eq.mpr c28
                          clear c28
                          obtain rfl := Option.some.inj H
                          go_wp2_with (first | ((with_reducible refine gate_callee (f := 21) rfl ?_); refine goesL_ (some 64) rfl rfl Try.func21 (by kernel_rfl) rfl #[.int .i64 t111] rfl (by (try simp only [List.map_toArray, List.map_cons, List.map_nil]); first | done | rfl | (simp only [List.length_drop, List.length_take]; rfl)) ?_; (with_reducible refine (rosterlaw01_num.calls t111 t120 _ A23.out).mono ?_); rintro e w' ⟨rfl, ⟨nd, rfl⟩⟩; refine ⟨_, rfl, ?_⟩) | (go_at_call 21; (with_reducible refine (rosterlaw01_num.calls t115 t121 _ A26.out).mono ?_); rintro e w' ⟨rfl, ⟨nd, rfl⟩⟩) | (go_at_call 21; (with_reducible refine (rosterlaw01_num.calls t113 t122 _ A27.out).mono ?_); rintro e w' ⟨rfl, ⟨nd, rfl⟩⟩))
                          go_ret
                          exact ⟨by first | rfl | (simp [errW_none, errW_some] <;> rfl) | (simp [*, errW_none, errW_some] <;> rfl), by repeat (first | (with_reducible first | exact HB.out | apply below_alloc | apply pw_below_drewN | apply below_drew1) | exact HB.out)⟩
                        · rw [if_neg c28] at H
                          have c28b0 : (t121 == t122) = false := beq_eq_false_iff_ne.mpr c28
                          have c28b1 : (t121 != t122) = true := bne_iff_ne.mpr c28
                          obtain rfl := Option.some.inj H
                          go_wp2_with (first | ((with_reducible refine gate_callee (f := 21) rfl ?_); refine goesL_ (some 64) rfl rfl Try.func21 (by kernel_rfl) rfl #[.int .i64 t111] rfl (by (try simp only [List.map_toArray, List.map_cons, List.map_nil]); first | done | rfl | (simp only [List.length_drop, List.length_take]; rfl)) ?_; (with_reducible refine (rosterlaw01_num.calls t111 t120 _ A23.out).mono ?_); rintro e w' ⟨rfl, ⟨nd, rfl⟩⟩; refine ⟨_, rfl, ?_⟩) | (go_at_call 21; (with_reducible refine (rosterlaw01_num.calls t115 t121 _ A26.out).mono ?_); rintro e w' ⟨rfl, ⟨nd, rfl⟩⟩) | (go_at_call 21; (with_reducible refine (rosterlaw01_num.calls t113 t122 _ A27.out).mono ?_); rintro e w' ⟨rfl, ⟨nd, rfl⟩⟩))
                          go_ret
                          exact ⟨by first | rfl | (simp [errW_none, errW_some] <;> rfl) | (simp [*, errW_none, errW_some] <;> rfl), by repeat (first | (with_reducible first | exact HB.out | apply below_alloc | apply pw_below_drewN | apply below_drew1) | exact HB.out)⟩
                      · rw [if_neg c25] at H
                        have c25b0 : (t112 == (a0.size : Int)) = false := beq_eq_false_iff_ne.mpr c25
                        have c25b1 : (t112 != (a0.size : Int)) = true := bne_iff_ne.mpr c25
                        obtain rfl := Option.some.inj H
                        go_wp2_with (first | ((with_reducible refine gate_callee (f := 21) rfl ?_); refine goesL_ (some 64) rfl rfl Try.func21 (by kernel_rfl) rfl #[.int .i64 t111] rfl (by (try simp only [List.map_toArray, List.map_cons, List.map_nil]); first | done | rfl | (simp only [List.length_drop, List.length_take]; rfl)) ?_; (with_reducible refine (rosterlaw01_num.calls t111 t120 _ A23.out).mono ?_); rintro e w' ⟨rfl, ⟨nd, rfl⟩⟩; refine ⟨_, rfl, ?_⟩))
                        go_ret
                        exact ⟨by first | rfl | (simp [errW_none, errW_some] <;> rfl) | (simp [*, errW_none, errW_some] <;> rfl), by repeat (first | (with_reducible first | exact HB.out | apply below_alloc | apply pw_below_drewN | apply below_drew1) | exact HB.out)⟩
                    · rw [if_neg c24] at H
                      have c24b0 : (t120 == 0) = false := beq_eq_false_iff_ne.mpr c24
                      have c24b1 : (t120 != 0) = true := bne_iff_ne.mpr c24
                      have HC29 := Aside0.mk H
                      clear H
                      go_upto_region 11 with (first | ((with_reducible refine gate_callee (f := 21) rfl ?_); refine goesL_ (some 64) rfl rfl Try.func21 (by kernel_rfl) rfl #[.int .i64 t111] rfl (by (try simp only [List.map_toArray, List.map_cons, List.map_nil]); first | done | rfl | (simp only [List.length_drop, List.length_take]; rfl)) ?_; (with_reducible refine (rosterlaw01_num.calls t111 t120 _ A23.out).mono ?_); rintro e w' ⟨rfl, ⟨nd, rfl⟩⟩; refine ⟨_, rfl, ?_⟩))
                      (try simp only [Act.put, List.setIfInBounds_toArray, List.set_cons_zero, List.set_cons_succ])
                      go_cut [92] (fun v92 wc => ∃ (kq : Nat) (x92_28 : Bool), v92 = .bool x92_28 ∧ Aside0 (rosterlaw01_TextJoin.j2 kq a0 t112 t115 t116 x92_28 = some r) ∧ Aside0 (kq ≤ kj17) ∧ Aside0 (Below w.heap.size w wc))
                      case first =>
                        have H := HC29.out
                        clear HC29
                        replace H := Option.bind_eq_some_iff.mp H
                        obtain ⟨t123, A300, H⟩ := H
                        replace H : (if t123 = 10 then (rosterlaw01_TextJoin.j2 kj17 a0 t112 t115 t116 (t112 == (a0.size : Int))) else (rosterlaw01_TextJoin.j2 kj17 a0 t112 t115 t116 true)) = some r := H
                        have A30 := Aside0.mk A300
                        clear A300
                        by_cases c31 : t123 = 10
                        · rw [if_pos c31] at H
                          have c31b0 : (t123 == 10) = true := beq_iff_eq.mpr c31
                          have c31b1 : (t123 != 10) = false := bne_eq_false_iff_eq.mpr c31
                          clear c31
                          (first | rw [c31b0] | (simp only [i64_w, i32_w]; rw [c31b0]) | skip)
                          have H' := Aside0.mk H
                          clear H
                          go_wp2_with (first | ((with_reducible refine gate_callee (f := 21) rfl ?_); refine goesL_ (some 85) rfl rfl Try.func21 (by kernel_rfl) rfl #[.int .i64 t111] rfl (by (try simp only [List.map_toArray, List.map_cons, List.map_nil]); first | done | rfl | (simp only [List.length_drop, List.length_take]; rfl)) ?_; (with_reducible refine (rosterlaw01_num.calls t111 t123 _ A30.out).mono ?_); rintro e w' ⟨rfl, ⟨nd, rfl⟩⟩; refine ⟨_, rfl, ?_⟩))
                          go_meet
                          case rel => exact ⟨_, ((t112 == (a0.size : Int))), (by first | rfl | (simp; done) | (simp [*]; done)), H', ⟨by have := HJ6.out; have := HJ17.out; first | omega | exact Nat.le_refl _⟩, ⟨by repeat (first | (with_reducible first | exact HB.out | apply below_alloc | apply pw_below_drewN | apply below_drew1) | exact HB.out)⟩⟩
                        · rw [if_neg c31] at H
                          have c31b0 : (t123 == 10) = false := beq_eq_false_iff_ne.mpr c31
                          have c31b1 : (t123 != 10) = true := bne_iff_ne.mpr c31
                          (first | rw [c31b0] | (simp only [i64_w, i32_w]; rw [c31b0]) | skip)
                          have H' := Aside0.mk H
                          clear H
                          go_wp2_with (first | ((with_reducible refine gate_callee (f := 21) rfl ?_); refine goesL_ (some 85) rfl rfl Try.func21 (by kernel_rfl) rfl #[.int .i64 t111] rfl (by (try simp only [List.map_toArray, List.map_cons, List.map_nil]); first | done | rfl | (simp only [List.length_drop, List.length_take]; rfl)) ?_; (with_reducible refine (rosterlaw01_num.calls t111 t123 _ A30.out).mono ?_); rintro e w' ⟨rfl, ⟨nd, rfl⟩⟩; refine ⟨_, rfl, ?_⟩))
                          go_meet
                          case rel => exact ⟨_, (true), (by first | rfl | (simp; done) | (simp [*]; done)), H', ⟨by have := HJ6.out; have := HJ17.out; first | omega | exact Nat.le_refl _⟩, ⟨by repeat (first | (with_reducible first | exact HB.out | apply below_alloc | apply pw_below_drewN | apply below_drew1) | exact HB.out)⟩⟩
                      case rest =>
                        clear HC29
                        try clear c1
                        try clear c2
                        try clear p2
                        try clear c3
                        try clear c5
                        try clear c5b0
                        try clear c5b1
                        try clear c5b2
                        try clear p6
                        try clear c7
                        try clear c11
                        try clear c11b0
                        try clear c12
                        try clear c12b0
                        try clear c13
                        try clear c13b0
                        try clear c14
                        try clear c15
                        try clear c15b0
                        try clear c15b1
                        try clear c16
                        try clear c16b0
                        try clear c16b1
                        try clear c20
                        try clear c21
                        try clear c21b0
                        try clear c21b1
                        try clear c22
                        try clear c24
                        try clear c24b0
                        try clear c24b1
                        try clear c25
                        try clear c25b0
                        try clear c25b1
                        try clear c28
                        try clear c28b0
                        try clear c28b1
                        try clear c31
                        try clear c31b0
                        try clear c31b1
                        try clear p2
                        obtain ⟨kq, x92_28, rfl, HA, HJ28, HB⟩ := hcut
                        cases kq with
                        | zero => exact absurd HA.out (by simp [rosterlaw01_TextJoin.j2])
                        | succ kj28 =>
                          have H := HA.out
                          clear HA
                          simp only [rosterlaw01_TextJoin.j2] at H
                          by_cases c32 : x92_28 = true
                          · subst c32
                            have H1 : (some false) = some r := by rw [if_pos rfl] at H; exact H
                            clear H
                            have H := H1
                            clear H1
                            obtain rfl := Option.some.inj H
                            go_wp2
                            go_ret
                            exact ⟨by first | rfl | (simp [errW_none, errW_some] <;> rfl) | (simp [*, errW_none, errW_some] <;> rfl), by repeat (first | (with_reducible first | exact HB.out | apply below_alloc | apply pw_below_drewN | apply below_drew1) | exact HB.out)⟩
                          · replace c32 := Bool.eq_false_iff.mpr c32
                            subst c32
                            have H1 : (if (wrap64 (t112 + 4)) ≤ (a0.size : Int) then ((rosterlaw01_num.f t115).bind fun t124 => (if t124 = 10 then (some (t116 == t112)) else (some false))) else (some true)) = some r := by rw [if_neg (show ¬ (false = true) by decide)] at H; exact H
                            clear H
                            have H := H1
                            clear H1
                            by_cases c33 : (wrap64 (t112 + 4)) ≤ (a0.size : Int)
                            · rw [if_pos c33] at H
                              have c33b0 : decide ((wrap64 (t112 + 4)) ≤ (a0.size : Int)) = true := decide_eq_true c33
                              clear c33
                              replace H := Option.bind_eq_some_iff.mp H
                              obtain ⟨t124, A340, H⟩ := H
                              replace H : (if t124 = 10 then (some (t116 == t112)) else (some false)) = some r := H
                              have A34 := Aside0.mk A340
                              clear A340
                              by_cases c35 : t124 = 10
                              · rw [if_pos c35] at H
                                have c35b0 : (t124 == 10) = true := beq_iff_eq.mpr c35
                                have c35b1 : (t124 != 10) = false := bne_eq_false_iff_eq.mpr c35
                                clear c35
                                obtain rfl := Option.some.inj H
                                go_wp2_with (first | ((with_reducible refine gate_callee (f := 21) rfl ?_); refine goesL_ (some 99) rfl rfl Try.func21 (by kernel_rfl) rfl #[.int .i64 t115] rfl (by (try simp only [List.map_toArray, List.map_cons, List.map_nil]); first | done | rfl | (simp only [List.length_drop, List.length_take]; rfl)) ?_; (with_reducible refine (rosterlaw01_num.calls t115 t124 _ A34.out).mono ?_); rintro e w' ⟨rfl, ⟨nd, rfl⟩⟩; refine ⟨_, rfl, ?_⟩))
                                go_ret
                                exact ⟨by first | rfl | (simp [errW_none, errW_some] <;> rfl) | (simp [*, errW_none, errW_some] <;> rfl), by repeat (first | (with_reducible first | exact HB.out | apply below_alloc | apply pw_below_drewN | apply below_drew1) | exact HB.out)⟩
                              · rw [if_neg c35] at H
                                have c35b0 : (t124 == 10) = false := beq_eq_false_iff_ne.mpr c35
                                have c35b1 : (t124 != 10) = true := bne_iff_ne.mpr c35
                                obtain rfl := Option.some.inj H
                                go_wp2_with (first | ((with_reducible refine gate_callee (f := 21) rfl ?_); refine goesL_ (some 99) rfl rfl Try.func21 (by kernel_rfl) rfl #[.int .i64 t115] rfl (by (try simp only [List.map_toArray, List.map_cons, List.map_nil]); first | done | rfl | (simp only [List.length_drop, List.length_take]; rfl)) ?_; (with_reducible refine (rosterlaw01_num.calls t115 t124 _ A34.out).mono ?_); rintro e w' ⟨rfl, ⟨nd, rfl⟩⟩; refine ⟨_, rfl, ?_⟩))
                                go_ret
                                exact ⟨by first | rfl | (simp [errW_none, errW_some] <;> rfl) | (simp [*, errW_none, errW_some] <;> rfl), by repeat (first | (with_reducible first | exact HB.out | apply below_alloc | apply pw_below_drewN | apply below_drew1) | exact HB.out)⟩
                            · rw [if_neg c33] at H
                              have c33b0 : decide ((wrap64 (t112 + 4)) ≤ (a0.size : Int)) = false := decide_eq_false c33
                              clear c33
                              obtain rfl := Option.some.inj H
                              go_wp2
                              go_ret
                              exact ⟨by first | rfl | (simp [errW_none, errW_some] <;> rfl) | (simp [*, errW_none, errW_some] <;> rfl), by repeat (first | (with_reducible first | exact HB.out | apply below_alloc | apply pw_below_drewN | apply below_drew1) | exact HB.out)⟩
            · rw [if_neg c16] at H
              exact absurd H (by simp)
          · rw [if_neg c15] at H
            exact absurd H (by simp)
  · rw [if_neg c5] at H
    exact absurd H (by simp)

/-- THE ONE PURE STATEMENT of rosterlaw01_TextJoin: yours. -/
def rosterlaw01_TextJoin.Pure : Prop := ∀ (a0 : ByteArray) (a1 : ByteArray), a0.size ≤ 140737488351232 → a1.size ≤ 140737488351232 → ∃ k, rosterlaw01_TextJoin.f k a0 a1 = some true
theorem rosterlaw01_TextJoin.walk (P : rosterlaw01_TextJoin.Pure) (a0 : ByteArray) (a1 : ByteArray) (w : World) (w0 : a0.size ≤ 140737488351232) (w1 : a1.size ≤ 140737488351232) :
    Calls Try.prog 7 #[.string a0, .string a1] w fun e w' => e = .returned (.bool true) ∧ Below w.heap.size w w' := by
  obtain ⟨k, h⟩ := P a0 a1 w0 w1
  refine (rosterlaw01_TextJoin.calls k a0 a1 true w h).mono ?_
  rintro e w' ⟨rfl, hd⟩
  exact ⟨rfl, hd⟩

end Go.Proofs.Ytjkhdiphcgpbfaa.PTextJoin

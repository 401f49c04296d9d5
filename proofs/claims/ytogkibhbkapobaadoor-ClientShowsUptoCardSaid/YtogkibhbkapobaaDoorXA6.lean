-- PRINTED by print.py (a twelfth state) out of the translation. Not trusted: Lean checks it.
import Derived.Test.YtogkibhbkapobaaDoorXA0
namespace Go.Proofs.YtogkibhbkapobaaDoor.XA
open Go.Proofs.YtogkibhbkapobaaDoor.XG
open Go.Proofs.YtogkibhbkapobaaDoor.XS
attribute [local go_sem] Go.Proofs.YtogkibhbkapobaaDoor.XW.u8_wrap
open Go.RowKit Go.Proofs.YtogkibhbkapobaaDoorW.PrintWords Go.Proofs.YtogkibhbkapobaaDoorW.PrintLast Go.Proofs.YtogkibhbkapobaaDoorW.PrintMore
attribute [local go_sem] max2_int min2_int max_two min_two max_three min_three max_four min_four   -- for this text's walks alone
set_option linter.unusedVariables false
set_option linter.unusedSimpArgs false

/-! ### text_Base64: function 20 -/
def text_Base64.l0 : Nat → ByteArray → List Int → Option (ByteArray)
  | 0, _, _ => none
  | k + 1, x0, x3 => if (x0.size : Int) ≥ 3 then (if 0 < (x0.size : Int) then (if 0 ≤ ((bt x0 0) / 4) then (if ((bt x0 0) / 4) < 64 then (if 1 < (x0.size : Int) then (if 0 ≤ (Go.bits .or .u8 (((Go.bits .and .u8 (bt x0 0) 3) * 16) % 256) ((bt x0 1) / 16)) then (if (Go.bits .or .u8 (((Go.bits .and .u8 (bt x0 0) 3) * 16) % 256) ((bt x0 1) / 16)) < 64 then (if 2 < (x0.size : Int) then (if 0 ≤ (Go.bits .or .u8 (((Go.bits .and .u8 (bt x0 1) 15) * 4) % 256) ((bt x0 2) / 64)) then (if (Go.bits .or .u8 (((Go.bits .and .u8 (bt x0 1) 15) * 4) % 256) ((bt x0 2) / 64)) < 64 then (if 0 ≤ (Go.bits .and .u8 (bt x0 2) 63) then (if (Go.bits .and .u8 (bt x0 2) 63) < 64 then ((some (([rd let64L ((bt x0 0) / 4), rd let64L (Go.bits .or .u8 (((Go.bits .and .u8 (bt x0 0) 3) * 16) % 256) ((bt x0 1) / 16)), rd let64L (Go.bits .or .u8 (((Go.bits .and .u8 (bt x0 1) 15) * 4) % 256) ((bt x0 2) / 64)), rd let64L (Go.bits .and .u8 (bt x0 2) 63)] : List Int) : List Int)).bind fun y168 => (if x3.length + y168.length < 140737488355328 then (if 3 ≤ (x0.size : Int) then (text_Base64.l0 k (x0.extract 3 x0.size) (x3 ++ y168)) else (none)) else (none))) else (none)) else (none)) else (none)) else (none)) else (none)) else (none)) else (none)) else (none)) else (none)) else (none)) else (none)) else (if (x0.size : Int) = 2 then (if 0 < (x0.size : Int) then (if 0 ≤ ((bt x0 0) / 4) then (if ((bt x0 0) / 4) < 64 then (if 1 < (x0.size : Int) then (if 0 ≤ (Go.bits .or .u8 (((Go.bits .and .u8 (bt x0 0) 3) * 16) % 256) ((bt x0 1) / 16)) then (if (Go.bits .or .u8 (((Go.bits .and .u8 (bt x0 0) 3) * 16) % 256) ((bt x0 1) / 16)) < 64 then (if 0 ≤ (((Go.bits .and .u8 (bt x0 1) 15) * 4) % 256) then (if (((Go.bits .and .u8 (bt x0 1) 15) * 4) % 256) < 64 then ((some (([rd let64L ((bt x0 0) / 4), rd let64L (Go.bits .or .u8 (((Go.bits .and .u8 (bt x0 0) 3) * 16) % 256) ((bt x0 1) / 16)), rd let64L (((Go.bits .and .u8 (bt x0 1) 15) * 4) % 256), 61] : List Int) : List Int)).bind fun y177 => (if x3.length + y177.length < 140737488355328 then (some (strOfNums (x3 ++ y177))) else (none))) else (none)) else (none)) else (none)) else (none)) else (none)) else (none)) else (none)) else (none)) else (if (x0.size : Int) = 1 then (if 0 < (x0.size : Int) then (if 0 ≤ ((bt x0 0) / 4) then (if ((bt x0 0) / 4) < 64 then (if 0 ≤ (((Go.bits .and .u8 (bt x0 0) 3) * 16) % 256) then (if (((Go.bits .and .u8 (bt x0 0) 3) * 16) % 256) < 64 then ((some (([rd let64L ((bt x0 0) / 4), rd let64L (((Go.bits .and .u8 (bt x0 0) 3) * 16) % 256), 61, 61] : List Int) : List Int)).bind fun y185 => (if x3.length + y185.length < 140737488355328 then (some (strOfNums (x3 ++ y185))) else (none))) else (none)) else (none)) else (none)) else (none)) else (none)) else (some (strOfNums x3))))
def text_Base64.f (k : Nat) (a0 : ByteArray) : Option (ByteArray) := if 0 ≤ (wrap64 ((wrap64 (Int.tdiv (wrap64 ((a0.size : Int) + 2)) 3)) * 4)) then (if (wrap64 ((wrap64 (Int.tdiv (wrap64 ((a0.size : Int) + 2)) 3)) * 4) : Int).toNat ≤ 281474976710656 then (text_Base64.l0 k a0 (([] : List Int))) else (none)) else (none)
theorem text_Base64.mono_l : ∀ k, (∀ y0 y1, LeO (text_Base64.l0 k y0 y1) (text_Base64.l0 (k + 1) y0 y1))
  | 0 => fun _ _ r h => by simp [text_Base64.l0] at h
  | k + 1 => by
    have ih0 := text_Base64.mono_l k
    · intro y0 y1
      unfold text_Base64.l0
      repeat' first
      | (with_reducible exact ih0 _ _)
      | (with_reducible exact LeO.refl _)
      | (with_reducible exact LeO.none _)
      | (with_reducible refine LeO.ite ?_ ?_)
      | (with_reducible refine LeO.bind ?_ (fun _ => ?_))
      | exact ih0 _ _
      | exact LeO.none _
      | refine LeO.ite ?_ ?_
      | refine LeO.bind ?_ (fun _ => ?_)
theorem text_Base64.mono : ∀ a0 k, LeO (text_Base64.f k a0) (text_Base64.f (k + 1) a0) := by
  intro a0 k
  have ih0 := text_Base64.mono_l k
  unfold text_Base64.f
  repeat' first
      | (with_reducible exact ih0 _ _)
      | (with_reducible exact LeO.refl _)
      | (with_reducible exact LeO.none _)
      | (with_reducible refine LeO.ite ?_ ?_)
      | (with_reducible refine LeO.bind ?_ (fun _ => ?_))
      | exact ih0 _ _
      | exact LeO.none _
      | refine LeO.ite ?_ ?_
      | refine LeO.bind ?_ (fun _ => ?_)
def text_Base64.T4 : Bool × List (List Nat × List Nat) := (true, [([], []), ([], []), ([1], [1]), ([2], [2]), ([3], [3]), ([4], [4]), ([], []), ([6], [6]), ([7], [7]), ([8], [8]), ([], []), ([10], [10]), ([11], [11]), ([9, 12], [9, 12]), ([13], [13]), ([14], [14]), ([], []), ([16], [16]), ([17], [17]), ([18], [18]), ([], []), ([20], [20]), ([21], [21]), ([19, 22], [19, 22]), ([23], [23]), ([24], [24]), ([], []), ([26], [26]), ([27], [27]), ([28], [28]), ([29], [29]), ([5, 15, 25, 30], [5, 15, 25, 30]), ([0, 31], [0, 31]), ([32, 32, 0, 1, 2, 3, 4, 5, 6, 7, 8, 9, 10, 11, 12, 13, 14, 15, 16, 17, 18, 19, 20, 21, 22, 23, 24, 25, 26, 27, 28, 29, 30, 31, 32], [0, 32])])
def text_Base64.B4 : List Nat := [0, 0, 2, 6, 14, 30, 0, 64, 192, 448, 0, 1024, 3072, 8128, 16320, 32704, 0, 65536, 196608, 458752, 0, 1048576, 3145728, 8323072, 16711680, 33488896, 0, 67108864, 201326592, 469762048, 1006632960, 2147483646, 4294967295, 8589934591]
theorem text_Base64.tab4 : rtab .any (opsOf Tryd.f20 4) = text_Base64.T4 := by kernel_rfl
theorem text_Base64.bits4 : waitsOk text_Base64.T4.2 text_Base64.B4 = true := by kernel_rfl
def text_Base64.T7 : Bool × List (List Nat × List Nat) := (true, [([], []), ([], []), ([1], [1]), ([2], [2]), ([3], [3]), ([4], [4]), ([], []), ([6], [6]), ([7], [7]), ([8], [8]), ([], []), ([10], [10]), ([11], [11]), ([9, 12], [9, 12]), ([13], [13]), ([14], [14]), ([], []), ([16], [16]), ([17], [17]), ([18], [18]), ([19], [19]), ([20], [20]), ([5, 15, 21], [5, 15, 21]), ([0, 22], [0, 22]), ([23, 23, 0, 1, 2, 3, 4, 5, 6, 7, 8, 9, 10, 11, 12, 13, 14, 15, 16, 17, 18, 19, 20, 21, 22, 23], [0, 23])])
def text_Base64.B7 : List Nat := [0, 0, 2, 6, 14, 30, 0, 64, 192, 448, 0, 1024, 3072, 8128, 16320, 32704, 0, 65536, 196608, 458752, 983040, 2031616, 4194302, 8388607, 16777215]
theorem text_Base64.tab7 : rtab .any (opsOf Tryd.f20 7) = text_Base64.T7 := by kernel_rfl
theorem text_Base64.bits7 : waitsOk text_Base64.T7.2 text_Base64.B7 = true := by kernel_rfl
def text_Base64.T9 : Bool × List (List Nat × List Nat) := (true, [([], []), ([], []), ([1], [1]), ([2], [2]), ([3], [3]), ([4], [4]), ([], []), ([6], [6]), ([7], [7]), ([8], [8]), ([9], [9]), ([10], [10]), ([5, 11], [5, 11]), ([0, 12], [0, 12]), ([13, 13, 0, 1, 2, 3, 4, 5, 6, 7, 8, 9, 10, 11, 12, 13], [0, 13])])
def text_Base64.B9 : List Nat := [0, 0, 2, 6, 14, 30, 0, 64, 192, 448, 960, 1984, 4094, 8191, 16383]
theorem text_Base64.tab9 : rtab .any (opsOf Tryd.f20 9) = text_Base64.T9 := by kernel_rfl
theorem text_Base64.bits9 : waitsOk text_Base64.T9.2 text_Base64.B9 = true := by kernel_rfl
set_option maxHeartbeats 8000000 in
set_option maxRecDepth 100000 in
theorem text_Base64.calls (k : Nat) (a0 : ByteArray) (r : ByteArray) (w : World) (hG : Tabs w) (h : text_Base64.f k a0 = some r) :
    Calls Tryd.prog 20 #[.string a0] w fun e w' => e = .returned (.string r) ∧ Below w.heap.size w w' := by
  have HRG1 := Aside0.mk (Tabs_1 hG)
  have HB := Aside0.mk (Below.refl w.heap.size w)
  have H : (if 0 ≤ (wrap64 ((wrap64 (Int.tdiv (wrap64 ((a0.size : Int) + 2)) 3)) * 4)) then (if (wrap64 ((wrap64 (Int.tdiv (wrap64 ((a0.size : Int) + 2)) 3)) * 4) : Int).toNat ≤ 281474976710656 then (text_Base64.l0 k a0 (([] : List Int))) else (none)) else (none)) = some r := h
  clear h
  obtain ⟨ji2, hji2⟩ : ∃ j_ : Int, (wrap64 ((wrap64 (Int.tdiv (wrap64 ((a0.size : Int) + 2)) 3)) * 4)) = j_ := ⟨_, rfl⟩
  replace H : (if 0 ≤ (ji2) then (if (ji2 : Int).toNat ≤ 281474976710656 then (text_Base64.l0 k a0 (([] : List Int))) else (none)) else (none)) = some r := by first | (rw [hji2] at H; exact H) | (simp only [hji2] at H ⊢; exact H)
  have hji2w : (IntKind.i64.wrap ((wrap64 (Int.tdiv (wrap64 ((a0.size : Int) + 2)) 3)) * 4)) = ji2 := (i64_w _).trans hji2
  by_cases c3 : 0 ≤ (ji2)
  · rw [if_pos c3] at H
    have c3b0 := eq_true c3
    have c3b1 : decide (0 ≤ (ji2)) = true := decide_eq_true c3
    clear c3
    by_cases c4 : (ji2 : Int).toNat ≤ 281474976710656
    · rw [if_pos c4] at H
      have c4b0 := eq_true c4
      have c4b1 : decide ((ji2 : Int).toNat ≤ 281474976710656) = true := decide_eq_true c4
      clear c4
      obtain ⟨y161, hy161⟩ : ∃ y_ : List Int, y_ = (([] : List Int)) := ⟨_, rfl⟩
      replace H : (text_Base64.l0 k a0 y161) = some r := by first | (rw [hy161]; with_reducible exact H) | (have H2_ := (Option.bind_some _ _).symm.trans H; rw [hy161]; with_reducible exact H2_) | (have H2_ := (Option.bind_some _ _).symm.trans H; with_reducible exact H2_) | with_reducible exact H | (rw [hy161]; exact H) | exact H
      have Ny161 := Aside0.mk hy161
      clear hy161
      have H' := Aside0.mk H
      clear H
      go_enter Tryd.func20, Tryd.ntmps20
      go_wp2_with (first | ((with_reducible refine gate_dst (N := 9) rfl ?_); refine Go.Proofs.YtogkibhbkapobaaDoor.XW.R_makecap (Kd.int .u8) _ 5 rfl (N := 9) rfl 42 _ _ rfl ji2 rfl rfl Tryd.underlying42 (.int .u8 0) 1 info5 (by decide) (by omega) (ok := fun _ => True) trivial (of_decide_eq_true (by first | (with_reducible assumption) | assumption)) (Nat.le_trans (Nat.mul_le_mul_right _ (of_decide_eq_true (by first | (with_reducible assumption) | assumption) : ji2.toNat ≤ 281474976710656)) (by omega)) (Below.refl _ _) (Nat.le_refl _) ?_; intro v162 w5 ho6 hb hg_ hnew_; clear hg_ hnew_; (first | rw [← Ny161.out] at ho6 | (simp only [Int.reduceToNat] at ho6; rw [← Ny161.out] at ho6)); have n0_ := Aside0.mk (Kd.R_lower ho6 (below_size (by repeat (first | (with_reducible first | exact HB.out | apply below_alloc | apply pw_below_drewN | apply below_drew1) | exact HB.out)))); have n1_ := Aside0.mk (below_step (by repeat (first | (with_reducible first | exact HB.out | apply below_alloc | apply pw_below_drewN | apply below_drew1) | exact HB.out)) hb); clear HB; have HO163 := n0_; have HB := n1_; clear n0_ n1_; clear hb ho6))
      go_loopg [0, 3] k (fun kq v0 v3 w' => ∃ (x0_1 : ByteArray) (x3_1 : List Int), v0 = .string x0_1 ∧ Aside0 (text_Base64.l0 kq x0_1 x3_1 = some r) ∧ Aside0 (kq ≤ k) ∧ Aside0 (Kd.R (Kd.int .u8) 5 w' w.heap.size (fun _ => True) v3 x3_1) ∧ Aside0 (Below w.heap.size w w'))
      case atStart => exact ⟨(a0), (y161), (by first | rfl | (simp; done) | (simp [*]; done)), H', ⟨Nat.le_refl _⟩, ⟨by (with_reducible repeat (first | apply Kd.R_alloc | apply Kd.R_drewN | apply Kd.R_drew)); exact HO163.out⟩, ⟨by repeat (first | (with_reducible first | exact HB.out | apply below_alloc | apply pw_below_drewN | apply below_drew1) | exact HB.out)⟩⟩
      case round =>
        clear H'
        try clear c2
        try clear p2
        try clear c3
        try clear c3b0
        try clear c3b1
        try clear c4
        try clear c4b0
        try clear c4b1
        try clear p6
        obtain ⟨x0_1, x3_1, rfl, HA, HK1, HO_3, HB⟩ := hrel
        cases gk with
        | zero => exact absurd HA.out (by simp [text_Base64.l0])
        | succ k1 =>
          have H := HA.out
          clear HA
          simp only [text_Base64.l0] at H
          by_cases c7 : (x0_1.size : Int) ≥ 3
          · rw [if_pos c7] at H
            have c7b0 : decide (3 ≤ (x0_1.size : Int)) = true := decide_eq_true c7
            have c7b1 : decide (3 ≤ x0_1.size) = true := decide_eq_true (by omega)
            clear c7
            by_cases c8 : 0 < (x0_1.size : Int)
            · rw [if_pos c8] at H
              have c8b0 : decide (0 < (x0_1.size : Int)) = true := decide_eq_true c8
              have c8b1 : decide (0 < x0_1.size) = true := decide_eq_true (by omega)
              clear c8
              obtain ⟨ji10, hji10⟩ : ∃ j_ : Int, ((bt x0_1 0) / 4) = j_ := ⟨_, rfl⟩
              replace H : (if 0 ≤ (ji10) then (if (ji10) < 64 then (if 1 < (x0_1.size : Int) then (if 0 ≤ (Go.bits .or .u8 (((Go.bits .and .u8 (bt x0_1 0) 3) * 16) % 256) ((bt x0_1 1) / 16)) then (if (Go.bits .or .u8 (((Go.bits .and .u8 (bt x0_1 0) 3) * 16) % 256) ((bt x0_1 1) / 16)) < 64 then (if 2 < (x0_1.size : Int) then (if 0 ≤ (Go.bits .or .u8 (((Go.bits .and .u8 (bt x0_1 1) 15) * 4) % 256) ((bt x0_1 2) / 64)) then (if (Go.bits .or .u8 (((Go.bits .and .u8 (bt x0_1 1) 15) * 4) % 256) ((bt x0_1 2) / 64)) < 64 then (if 0 ≤ (Go.bits .and .u8 (bt x0_1 2) 63) then (if (Go.bits .and .u8 (bt x0_1 2) 63) < 64 then ((some (([rd let64L (ji10), rd let64L (Go.bits .or .u8 (((Go.bits .and .u8 (bt x0_1 0) 3) * 16) % 256) ((bt x0_1 1) / 16)), rd let64L (Go.bits .or .u8 (((Go.bits .and .u8 (bt x0_1 1) 15) * 4) % 256) ((bt x0_1 2) / 64)), rd let64L (Go.bits .and .u8 (bt x0_1 2) 63)] : List Int) : List Int)).bind fun y168 => (if x3_1.length + y168.length < 140737488355328 then (if 3 ≤ (x0_1.size : Int) then (text_Base64.l0 k1 (x0_1.extract 3 x0_1.size) (x3_1 ++ y168)) else (none)) else (none))) else (none)) else (none)) else (none)) else (none)) else (none)) else (none)) else (none)) else (none)) else (none)) else (none)) = some r := by first | (rw [hji10] at H; exact H) | (simp only [hji10] at H ⊢; exact H)
              by_cases c11 : 0 ≤ (ji10)
              · rw [if_pos c11] at H
                have c11b0 : decide (0 ≤ (ji10)) = true := decide_eq_true c11
                clear c11
                by_cases c12 : (ji10) < 64
                · rw [if_pos c12] at H
                  have c12b0 : decide ((ji10) < 64) = true := decide_eq_true c12
                  clear c12
                  by_cases c14 : 1 < (x0_1.size : Int)
                  · rw [if_pos c14] at H
                    have c14b0 : decide (1 < (x0_1.size : Int)) = true := decide_eq_true c14
                    have c14b1 : decide (1 < x0_1.size) = true := decide_eq_true (by omega)
                    clear c14
                    obtain ⟨ji16, hji16⟩ : ∃ j_ : Int, (Go.bits .or .u8 (((Go.bits .and .u8 (bt x0_1 0) 3) * 16) % 256) ((bt x0_1 1) / 16)) = j_ := ⟨_, rfl⟩
                    replace H : (if 0 ≤ (ji16) then (if (ji16) < 64 then (if 2 < (x0_1.size : Int) then (if 0 ≤ (Go.bits .or .u8 (((Go.bits .and .u8 (bt x0_1 1) 15) * 4) % 256) ((bt x0_1 2) / 64)) then (if (Go.bits .or .u8 (((Go.bits .and .u8 (bt x0_1 1) 15) * 4) % 256) ((bt x0_1 2) / 64)) < 64 then (if 0 ≤ (Go.bits .and .u8 (bt x0_1 2) 63) then (if (Go.bits .and .u8 (bt x0_1 2) 63) < 64 then ((some (([rd let64L (ji10), rd let64L (ji16), rd let64L (Go.bits .or .u8 (((Go.bits .and .u8 (bt x0_1 1) 15) * 4) % 256) ((bt x0_1 2) / 64)), rd let64L (Go.bits .and .u8 (bt x0_1 2) 63)] : List Int) : List Int)).bind fun y168 => (if x3_1.length + y168.length < 140737488355328 then (if 3 ≤ (x0_1.size : Int) then (text_Base64.l0 k1 (x0_1.extract 3 x0_1.size) (x3_1 ++ y168)) else (none)) else (none))) else (none)) else (none)) else (none)) else (none)) else (none)) else (none)) else (none)) = some r := by first | (rw [hji16] at H; exact H) | (simp only [hji16] at H ⊢; exact H)
                    by_cases c17 : 0 ≤ (ji16)
                    · rw [if_pos c17] at H
                      have c17b0 : decide (0 ≤ (ji16)) = true := decide_eq_true c17
                      clear c17
                      by_cases c18 : (ji16) < 64
                      · rw [if_pos c18] at H
                        have c18b0 : decide ((ji16) < 64) = true := decide_eq_true c18
                        clear c18
                        by_cases c20 : 2 < (x0_1.size : Int)
                        · rw [if_pos c20] at H
                          have c20b0 : decide (2 < (x0_1.size : Int)) = true := decide_eq_true c20
                          have c20b1 : decide (2 < x0_1.size) = true := decide_eq_true (by omega)
                          clear c20
                          obtain ⟨ji22, hji22⟩ : ∃ j_ : Int, (Go.bits .or .u8 (((Go.bits .and .u8 (bt x0_1 1) 15) * 4) % 256) ((bt x0_1 2) / 64)) = j_ := ⟨_, rfl⟩
                          replace H : (if 0 ≤ (ji22) then (if (ji22) < 64 then (if 0 ≤ (Go.bits .and .u8 (bt x0_1 2) 63) then (if (Go.bits .and .u8 (bt x0_1 2) 63) < 64 then ((some (([rd let64L (ji10), rd let64L (ji16), rd let64L (ji22), rd let64L (Go.bits .and .u8 (bt x0_1 2) 63)] : List Int) : List Int)).bind fun y168 => (if x3_1.length + y168.length < 140737488355328 then (if 3 ≤ (x0_1.size : Int) then (text_Base64.l0 k1 (x0_1.extract 3 x0_1.size) (x3_1 ++ y168)) else (none)) else (none))) else (none)) else (none)) else (none)) else (none)) = some r := by first | (rw [hji22] at H; exact H) | (simp only [hji22] at H ⊢; exact H)
                          by_cases c23 : 0 ≤ (ji22)
                          · rw [if_pos c23] at H
                            have c23b0 : decide (0 ≤ (ji22)) = true := decide_eq_true c23
                            clear c23
                            by_cases c24 : (ji22) < 64
                            · rw [if_pos c24] at H
                              have c24b0 : decide ((ji22) < 64) = true := decide_eq_true c24
                              clear c24
                              by_cases c26 : 0 ≤ (Go.bits .and .u8 (bt x0_1 2) 63)
                              · rw [if_pos c26] at H
                                have c26b0 : decide (0 ≤ (Go.bits .and .u8 (bt x0_1 2) 63)) = true := decide_eq_true c26
                                clear c26
                                by_cases c27 : (Go.bits .and .u8 (bt x0_1 2) 63) < 64
                                · rw [if_pos c27] at H
                                  have c27b0 : decide ((Go.bits .and .u8 (bt x0_1 2) 63) < 64) = true := decide_eq_true c27
                                  clear c27
                                  obtain ⟨y168, hy168⟩ : ∃ y_ : List Int, y_ = (([rd let64L (ji10), rd let64L (ji16), rd let64L (ji22), rd let64L (Go.bits .and .u8 (bt x0_1 2) 63)] : List Int)) := ⟨_, rfl⟩
                                  replace H : (if x3_1.length + y168.length < 140737488355328 then (if 3 ≤ (x0_1.size : Int) then (text_Base64.l0 k1 (x0_1.extract 3 x0_1.size) (x3_1 ++ y168)) else (none)) else (none)) = some r := by first | (rw [hy168]; with_reducible exact H) | (have H2_ := (Option.bind_some _ _).symm.trans H; rw [hy168]; with_reducible exact H2_) | (have H2_ := (Option.bind_some _ _).symm.trans H; with_reducible exact H2_) | with_reducible exact H | (rw [hy168]; exact H) | exact H
                                  have Ny168 := Aside0.mk hy168
                                  clear hy168
                                  by_cases c28 : x3_1.length + y168.length < 140737488355328
                                  · rw [if_pos c28] at H
                                    have LMc28 := Aside0.mk c28
                                    clear c28
                                    obtain ⟨y171, hy171⟩ : ∃ y_ : List Int, y_ = (x3_1 ++ y168) := ⟨_, rfl⟩
                                    replace H : (if 3 ≤ (x0_1.size : Int) then (text_Base64.l0 k1 (x0_1.extract 3 x0_1.size) y171) else (none)) = some r := by first | (rw [hy171]; with_reducible exact H) | (have H2_ := (Option.bind_some _ _).symm.trans H; rw [hy171]; with_reducible exact H2_) | (have H2_ := (Option.bind_some _ _).symm.trans H; with_reducible exact H2_) | with_reducible exact H | (rw [hy171]; exact H) | exact H
                                    have Ny171 := Aside0.mk hy171
                                    clear hy171
                                    by_cases c29 : 3 ≤ (x0_1.size : Int)
                                    · rw [if_pos c29] at H
                                      have c29b0 := eq_true c29
                                      have c29b1 : decide (3 ≤ (x0_1.size : Int)) = true := decide_eq_true c29
                                      clear c29
                                      have H' := Aside0.mk H
                                      clear H
                                      try go_wp2
                                      have n0_ := Aside0.mk (Kd.R_drew HO_3.out)
                                      have n1_ := Aside0.mk (below_drew1 HB.out)
                                      clear HO_3
                                      clear HB
                                      have HO_3 := n0_
                                      have HB := n1_
                                      clear n0_ n1_
                                      have p9 : 0 ≤ (0 : Int) := (by omega)
                                      have q9 : 0 < x0_1.size := (by have : (0 : Int) < (x0_1.size : Int) := of_decide_eq_true (by first | (with_reducible assumption) | assumption); omega)
                                      have hx9 : ∀ h : 0 < x0_1.size, ((x0_1[0]'h).toNat : Int) = bt x0_1 0 := bt_at x0_1 0
                                      clear p9
                                      have qi9 : (0 < (x0_1.size : Int)) = True := eq_true (of_decide_eq_true (by first | (with_reducible assumption) | assumption))
                                      replace q9 := eq_true q9
                                      have p164 : 0 ≤ ((ji10) : Int) := of_decide_eq_true (by first | (with_reducible assumption) | assumption)
                                      have q164 : (ji10) < (let64L.length : Int) := of_decide_eq_true (by first | (with_reducible assumption) | assumption)
                                      have ql164 : (((ji10) : Int) < (64 : Int)) = True := eq_true (of_decide_eq_true (by first | (with_reducible assumption) | assumption))
                                      obtain ⟨ad164, e164, hx164_0⟩ := Kd.at_int HRG1.out (ji10) p164 q164
                                      have hw164_0 := hx164_0
                                      obtain rfl : (⟨1, 0, none⟩ : Addr) = ad164 := (by injection e164)
                                      (first | simp only [add_plain] at hw164_0 | simp only [add_at] at hw164_0 | simp only [Addr.add, Nat.zero_add] at hw164_0 | skip)
                                      (first | simp only [add_plain] at hx164_0 | simp only [add_at] at hx164_0 | simp only [Addr.add, Nat.zero_add] at hx164_0 | skip)
                                      replace hx164_0 := (HB.out.cell (World.block_lt_of_cell? w _ hx164_0)).trans hx164_0
                                      replace p164 := eq_true p164
                                      replace q164 := eq_true q164
                                      have p13 : 0 ≤ (0 : Int) := (by omega)
                                      have q13 : 0 < x0_1.size := (by have : (0 : Int) < (x0_1.size : Int) := of_decide_eq_true (by first | (with_reducible assumption) | assumption); omega)
                                      have hx13 : ∀ h : 0 < x0_1.size, ((x0_1[0]'h).toNat : Int) = bt x0_1 0 := bt_at x0_1 0
                                      clear p13
                                      have qi13 : (0 < (x0_1.size : Int)) = True := eq_true (of_decide_eq_true (by first | (with_reducible assumption) | assumption))
                                      replace q13 := eq_true q13
                                      have p15 : 0 ≤ (1 : Int) := (by omega)
                                      have q15 : 1 < x0_1.size := (by have : (1 : Int) < (x0_1.size : Int) := of_decide_eq_true (by first | (with_reducible assumption) | assumption); omega)
                                      have hx15 : ∀ h : 1 < x0_1.size, ((x0_1[1]'h).toNat : Int) = bt x0_1 1 := bt_at x0_1 1
                                      clear p15
                                      have qi15 : (1 < (x0_1.size : Int)) = True := eq_true (of_decide_eq_true (by first | (with_reducible assumption) | assumption))
                                      replace q15 := eq_true q15
                                      have p165 : 0 ≤ ((ji16) : Int) := of_decide_eq_true (by first | (with_reducible assumption) | assumption)
                                      have q165 : (ji16) < (let64L.length : Int) := of_decide_eq_true (by first | (with_reducible assumption) | assumption)
                                      have ql165 : (((ji16) : Int) < (64 : Int)) = True := eq_true (of_decide_eq_true (by first | (with_reducible assumption) | assumption))
                                      obtain ⟨ad165, e165, hx165_0⟩ := Kd.at_int HRG1.out (ji16) p165 q165
                                      have hw165_0 := hx165_0
                                      obtain rfl : (⟨1, 0, none⟩ : Addr) = ad165 := (by injection e165)
                                      (first | simp only [add_plain] at hw165_0 | simp only [add_at] at hw165_0 | simp only [Addr.add, Nat.zero_add] at hw165_0 | skip)
                                      (first | simp only [add_plain] at hx165_0 | simp only [add_at] at hx165_0 | simp only [Addr.add, Nat.zero_add] at hx165_0 | skip)
                                      replace hx165_0 := (HB.out.cell (World.block_lt_of_cell? w _ hx165_0)).trans hx165_0
                                      replace p165 := eq_true p165
                                      replace q165 := eq_true q165
                                      have p19 : 0 ≤ (1 : Int) := (by omega)
                                      have q19 : 1 < x0_1.size := (by have : (1 : Int) < (x0_1.size : Int) := of_decide_eq_true (by first | (with_reducible assumption) | assumption); omega)
                                      have hx19 : ∀ h : 1 < x0_1.size, ((x0_1[1]'h).toNat : Int) = bt x0_1 1 := bt_at x0_1 1
                                      clear p19
                                      have qi19 : (1 < (x0_1.size : Int)) = True := eq_true (of_decide_eq_true (by first | (with_reducible assumption) | assumption))
                                      replace q19 := eq_true q19
                                      have p21 : 0 ≤ (2 : Int) := (by omega)
                                      have q21 : 2 < x0_1.size := (by have : (2 : Int) < (x0_1.size : Int) := of_decide_eq_true (by first | (with_reducible assumption) | assumption); omega)
                                      have hx21 : ∀ h : 2 < x0_1.size, ((x0_1[2]'h).toNat : Int) = bt x0_1 2 := bt_at x0_1 2
                                      clear p21
                                      have qi21 : (2 < (x0_1.size : Int)) = True := eq_true (of_decide_eq_true (by first | (with_reducible assumption) | assumption))
                                      replace q21 := eq_true q21
                                      have p166 : 0 ≤ ((ji22) : Int) := of_decide_eq_true (by first | (with_reducible assumption) | assumption)
                                      have q166 : (ji22) < (let64L.length : Int) := of_decide_eq_true (by first | (with_reducible assumption) | assumption)
                                      have ql166 : (((ji22) : Int) < (64 : Int)) = True := eq_true (of_decide_eq_true (by first | (with_reducible assumption) | assumption))
                                      obtain ⟨ad166, e166, hx166_0⟩ := Kd.at_int HRG1.out (ji22) p166 q166
                                      have hw166_0 := hx166_0
                                      obtain rfl : (⟨1, 0, none⟩ : Addr) = ad166 := (by injection e166)
                                      (first | simp only [add_plain] at hw166_0 | simp only [add_at] at hw166_0 | simp only [Addr.add, Nat.zero_add] at hw166_0 | skip)
                                      (first | simp only [add_plain] at hx166_0 | simp only [add_at] at hx166_0 | simp only [Addr.add, Nat.zero_add] at hx166_0 | skip)
                                      replace hx166_0 := (HB.out.cell (World.block_lt_of_cell? w _ hx166_0)).trans hx166_0
                                      replace p166 := eq_true p166
                                      replace q166 := eq_true q166
                                      have p25 : 0 ≤ (2 : Int) := (by omega)
                                      have q25 : 2 < x0_1.size := (by have : (2 : Int) < (x0_1.size : Int) := of_decide_eq_true (by first | (with_reducible assumption) | assumption); omega)
                                      have hx25 : ∀ h : 2 < x0_1.size, ((x0_1[2]'h).toNat : Int) = bt x0_1 2 := bt_at x0_1 2
                                      clear p25
                                      have qi25 : (2 < (x0_1.size : Int)) = True := eq_true (of_decide_eq_true (by first | (with_reducible assumption) | assumption))
                                      replace q25 := eq_true q25
                                      have p167 : 0 ≤ ((Go.bits .and .u8 (bt x0_1 2) 63) : Int) := of_decide_eq_true (by first | (with_reducible assumption) | assumption)
                                      have q167 : (Go.bits .and .u8 (bt x0_1 2) 63) < (let64L.length : Int) := of_decide_eq_true (by first | (with_reducible assumption) | assumption)
                                      have ql167 : (((Go.bits .and .u8 (bt x0_1 2) 63) : Int) < (64 : Int)) = True := eq_true (of_decide_eq_true (by first | (with_reducible assumption) | assumption))
                                      obtain ⟨ad167, e167, hx167_0⟩ := Kd.at_int HRG1.out (Go.bits .and .u8 (bt x0_1 2) 63) p167 q167
                                      have hw167_0 := hx167_0
                                      obtain rfl : (⟨1, 0, none⟩ : Addr) = ad167 := (by injection e167)
                                      (first | simp only [add_plain] at hw167_0 | simp only [add_at] at hw167_0 | simp only [Addr.add, Nat.zero_add] at hw167_0 | skip)
                                      (first | simp only [add_plain] at hx167_0 | simp only [add_at] at hx167_0 | simp only [Addr.add, Nat.zero_add] at hx167_0 | skip)
                                      replace hx167_0 := (HB.out.cell (World.block_lt_of_cell? w _ hx167_0)).trans hx167_0
                                      replace p167 := eq_true p167
                                      replace q167 := eq_true q167
                                      refine start_ (n := 34) (S := fun w' => w'.cell? ⟨1, ((ji10)).toNat, none⟩ = some (.int .u8 (rd let64L (ji10))) ∧ w'.cell? ⟨1, ((ji16)).toNat, none⟩ = some (.int .u8 (rd let64L (ji16))) ∧ w'.cell? ⟨1, ((ji22)).toNat, none⟩ = some (.int .u8 (rd let64L (ji22))) ∧ w'.cell? ⟨1, ((Go.bits .and .u8 (bt x0_1 2) 63)).toNat, none⟩ = some (.int .u8 (rd let64L (Go.bits .and .u8 (bt x0_1 2) 63)))) (ds := []) #[false, false, false, false, false, false, false, false, false, false, false, false, false, false, false, false, false, false, false, false, false, false, false, false, false, false, false, false, false, false, false, false, false, false] (by kernel_rfl) rfl rfl ⟨((HB.out.cell (World.block_lt_of_cell? w _ hw164_0)).trans hw164_0), ((HB.out.cell (World.block_lt_of_cell? w _ hw165_0)).trans hw165_0), ((HB.out.cell (World.block_lt_of_cell? w _ hw166_0)).trans hw166_0), ((HB.out.cell (World.block_lt_of_cell? w _ hw167_0)).trans hw167_0)⟩ (fun hHeld => ?_); refine with_tabW text_Base64.tab4 text_Base64.bits4 (fun HT_ HW_ => ?_)
                                      generalize wr.drew = w30 at HO_3 HB hx164_0 hx165_0 hx166_0 hx167_0 hHeld ⊢
                                      refine pure_ (i := 0) (N := some 15) (v := ?_) (a' := ?_) #[true, false, false, false, false, false, false, false, false, false, false, false, false, false, false, false, false, false, false, false, false, false, false, false, false, false, false, false, false, false, false, false, false, false] rfl rfl (any_of HT_.out (by kernel_rfl)) (fun _ _ _ h => h) (Or.inl ⟨by rfl, ?_⟩) ?_ ?_
                                      rotate_left
                                      · intro w'
                                        go_simp
                                        with_reducible rfl
                                      rotate_left
                                      · simp only [Act.put, List.setIfInBounds_toArray, List.set_cons_zero, List.set_cons_succ, i64_w, i32_w]
                                        rfl
                                      refine pure_ (i := 1) (N := some 16) (v := ?_) (a' := ?_) #[true, true, false, false, false, false, false, false, false, false, false, false, false, false, false, false, false, false, false, false, false, false, false, false, false, false, false, false, false, false, false, false, false, false] rfl rfl (any_of HT_.out (by kernel_rfl)) (fun _ _ _ h => h) (Or.inl ⟨by rfl, ?_⟩) ?_ ?_
                                      rotate_left
                                      · intro w'
                                        go_simp
                                        with_reducible rfl
                                      rotate_left
                                      · simp only [Act.put, List.setIfInBounds_toArray, List.set_cons_zero, List.set_cons_succ, i64_w, i32_w]
                                        rfl
                                      refine pure_ (i := 6) (N := some 21) (v := ?_) (a' := ?_) #[true, true, false, false, false, false, true, false, false, false, false, false, false, false, false, false, false, false, false, false, false, false, false, false, false, false, false, false, false, false, false, false, false, false] rfl rfl (any_of HT_.out (by kernel_rfl)) (fun _ _ _ h => h) (Or.inl ⟨by rfl, ?_⟩) ?_ ?_
                                      rotate_left
                                      · intro w'
                                        go_simp
                                        with_reducible rfl
                                      rotate_left
                                      · simp only [Act.put, List.setIfInBounds_toArray, List.set_cons_zero, List.set_cons_succ, i64_w, i32_w]
                                        rfl
                                      refine pure_ (i := 10) (N := some 25) (v := ?_) (a' := ?_) #[true, true, false, false, false, false, true, false, false, false, true, false, false, false, false, false, false, false, false, false, false, false, false, false, false, false, false, false, false, false, false, false, false, false] rfl rfl (any_of HT_.out (by kernel_rfl)) (fun _ _ _ h => h) (Or.inl ⟨by rfl, ?_⟩) ?_ ?_
                                      rotate_left
                                      · intro w'
                                        go_simp
                                        with_reducible rfl
                                      rotate_left
                                      · simp only [Act.put, List.setIfInBounds_toArray, List.set_cons_zero, List.set_cons_succ, i64_w, i32_w]
                                        rfl
                                      refine pure_ (i := 16) (N := some 31) (v := ?_) (a' := ?_) #[true, true, false, false, false, false, true, false, false, false, true, false, false, false, false, false, true, false, false, false, false, false, false, false, false, false, false, false, false, false, false, false, false, false] rfl rfl (any_of HT_.out (by kernel_rfl)) (fun _ _ _ h => h) (Or.inl ⟨by rfl, ?_⟩) ?_ ?_
                                      rotate_left
                                      · intro w'
                                        go_simp
                                        with_reducible rfl
                                      rotate_left
                                      · simp only [Act.put, List.setIfInBounds_toArray, List.set_cons_zero, List.set_cons_succ, i64_w, i32_w]
                                        rfl
                                      refine pure_ (i := 20) (N := some 35) (v := ?_) (a' := ?_) #[true, true, false, false, false, false, true, false, false, false, true, false, false, false, false, false, true, false, false, false, true, false, false, false, false, false, false, false, false, false, false, false, false, false] rfl rfl (any_of HT_.out (by kernel_rfl)) (fun _ _ _ h => h) (Or.inl ⟨by rfl, ?_⟩) ?_ ?_
                                      rotate_left
                                      · intro w'
                                        go_simp
                                        with_reducible rfl
                                      rotate_left
                                      · simp only [Act.put, List.setIfInBounds_toArray, List.set_cons_zero, List.set_cons_succ, i64_w, i32_w]
                                        rfl
                                      refine pure_ (i := 26) (N := some 41) (v := ?_) (a' := ?_) #[true, true, false, false, false, false, true, false, false, false, true, false, false, false, false, false, true, false, false, false, true, false, false, false, false, false, true, false, false, false, false, false, false, false] rfl rfl (any_of HT_.out (by kernel_rfl)) (fun _ _ _ h => h) (Or.inl ⟨by rfl, ?_⟩) ?_ ?_
                                      rotate_left
                                      · intro w'
                                        go_simp
                                        with_reducible rfl
                                      rotate_left
                                      · simp only [Act.put, List.setIfInBounds_toArray, List.set_cons_zero, List.set_cons_succ, i64_w, i32_w]
                                        rfl
                                      refine take_ (i := 2) (N := some 17) (v := ?_) (a' := ?_) #[true, true, true, false, false, false, true, false, false, false, true, false, false, false, false, false, true, false, false, false, true, false, false, false, false, false, true, false, false, false, false, false, false, false] rfl rfl (take_ofW HT_.out HW_.out (by kernel_rfl)) (fun _ _ _ h => h) (Or.inl ⟨by rfl, ?_⟩) hHeld ?_ ?_
                                      rotate_left
                                      · rintro w' ⟨s0, s1, s2, s3⟩
                                        go_simp
                                        with_reducible rfl
                                      rotate_left
                                      · simp only [Act.put, List.setIfInBounds_toArray, List.set_cons_zero, List.set_cons_succ, i64_w, i32_w]
                                        rfl
                                      refine pure_ (i := 3) (N := some 18) (v := ?_) (a' := ?_) #[true, true, true, true, false, false, true, false, false, false, true, false, false, false, false, false, true, false, false, false, true, false, false, false, false, false, true, false, false, false, false, false, false, false] rfl rfl (any_of HT_.out (by kernel_rfl)) (fun _ _ _ h => h) (Or.inl ⟨by rfl, ?_⟩) ?_ ?_
                                      rotate_left
                                      · intro w'
                                        go_simp
                                        with_reducible rfl
                                      rotate_left
                                      · simp only [Act.put, List.setIfInBounds_toArray, List.set_cons_zero, List.set_cons_succ, i64_w, i32_w]
                                        rfl
                                      refine pure_ (i := 4) (N := some 19) (v := ?_) (a' := ?_) #[true, true, true, true, true, false, true, false, false, false, true, false, false, false, false, false, true, false, false, false, true, false, false, false, false, false, true, false, false, false, false, false, false, false] rfl rfl (any_of HT_.out (by kernel_rfl)) (fun _ _ _ h => h) (Or.inl ⟨by rfl, ?_⟩) ?_ ?_
                                      rotate_left
                                      · intro w'
                                        go_simp
                                        with_reducible rfl
                                      rotate_left
                                      · simp only [Act.put, List.setIfInBounds_toArray, List.set_cons_zero, List.set_cons_succ, i64_w, i32_w]
                                        rfl
                                      refine take_ (i := 5) (N := some 20) (v := ?_) (a' := ?_) #[true, true, true, true, true, true, true, false, false, false, true, false, false, false, false, false, true, false, false, false, true, false, false, false, false, false, true, false, false, false, false, false, false, false] rfl rfl (take_ofW HT_.out HW_.out (by kernel_rfl)) (fun _ _ _ h => h) (Or.inl ⟨by rfl, ?_⟩) hHeld ?_ ?_
                                      rotate_left
                                      · rintro w' ⟨s0, s1, s2, s3⟩
                                        go_simp
                                        with_reducible rfl
                                      rotate_left
                                      · simp only [Act.put, List.setIfInBounds_toArray, List.set_cons_zero, List.set_cons_succ, i64_w, i32_w]
                                        rfl
                                      refine take_ (i := 7) (N := some 22) (v := ?_) (a' := ?_) #[true, true, true, true, true, true, true, true, false, false, true, false, false, false, false, false, true, false, false, false, true, false, false, false, false, false, true, false, false, false, false, false, false, false] rfl rfl (take_ofW HT_.out HW_.out (by kernel_rfl)) (fun _ _ _ h => h) (Or.inl ⟨by rfl, ?_⟩) hHeld ?_ ?_
                                      rotate_left
                                      · rintro w' ⟨s0, s1, s2, s3⟩
                                        go_simp
                                        with_reducible rfl
                                      rotate_left
                                      · simp only [Act.put, List.setIfInBounds_toArray, List.set_cons_zero, List.set_cons_succ, i64_w, i32_w]
                                        rfl
                                      refine pure_ (i := 8) (N := some 23) (v := ?_) (a' := ?_) #[true, true, true, true, true, true, true, true, true, false, true, false, false, false, false, false, true, false, false, false, true, false, false, false, false, false, true, false, false, false, false, false, false, false] rfl rfl (any_of HT_.out (by kernel_rfl)) (fun _ _ _ h => h) (Or.inl ⟨by rfl, ?_⟩) ?_ ?_
                                      rotate_left
                                      · intro w'
                                        go_simp
                                        with_reducible rfl
                                      rotate_left
                                      · simp only [Act.put, List.setIfInBounds_toArray, List.set_cons_zero, List.set_cons_succ, i64_w, i32_w]
                                        rfl
                                      refine pure_ (i := 9) (N := some 24) (v := ?_) (a' := ?_) #[true, true, true, true, true, true, true, true, true, true, true, false, false, false, false, false, true, false, false, false, true, false, false, false, false, false, true, false, false, false, false, false, false, false] rfl rfl (any_of HT_.out (by kernel_rfl)) (fun _ _ _ h => h) (Or.inl ⟨by rfl, ?_⟩) ?_ ?_
                                      rotate_left
                                      · intro w'
                                        go_simp
                                        with_reducible rfl
                                      rotate_left
                                      · simp only [Act.put, List.setIfInBounds_toArray, List.set_cons_zero, List.set_cons_succ, i64_w, i32_w]
                                        rfl
                                      refine take_ (i := 11) (N := some 26) (v := ?_) (a' := ?_) #[true, true, true, true, true, true, true, true, true, true, true, true, false, false, false, false, true, false, false, false, true, false, false, false, false, false, true, false, false, false, false, false, false, false] rfl rfl (take_ofW HT_.out HW_.out (by kernel_rfl)) (fun _ _ _ h => h) (Or.inl ⟨by rfl, ?_⟩) hHeld ?_ ?_
                                      rotate_left
                                      · rintro w' ⟨s0, s1, s2, s3⟩
                                        go_simp
                                        with_reducible rfl
                                      rotate_left
                                      · simp only [Act.put, List.setIfInBounds_toArray, List.set_cons_zero, List.set_cons_succ, i64_w, i32_w]
                                        rfl
                                      refine pure_ (i := 12) (N := some 27) (v := ?_) (a' := ?_) #[true, true, true, true, true, true, true, true, true, true, true, true, true, false, false, false, true, false, false, false, true, false, false, false, false, false, true, false, false, false, false, false, false, false] rfl rfl (any_of HT_.out (by kernel_rfl)) (fun _ _ _ h => h) (Or.inl ⟨by rfl, ?_⟩) ?_ ?_
                                      rotate_left
                                      · intro w'
                                        go_simp
                                        with_reducible rfl
                                      rotate_left
                                      · simp only [Act.put, List.setIfInBounds_toArray, List.set_cons_zero, List.set_cons_succ, i64_w, i32_w]
                                        rfl
                                      refine pure_ (i := 13) (N := some 28) (v := ?_) (a' := ?_) #[true, true, true, true, true, true, true, true, true, true, true, true, true, true, false, false, true, false, false, false, true, false, false, false, false, false, true, false, false, false, false, false, false, false] rfl rfl (any_of HT_.out (by kernel_rfl)) (fun _ _ _ h => h) (Or.inl ⟨by rfl, ?_⟩) ?_ ?_
                                      rotate_left
                                      · intro w'
                                        go_simp
                                        with_reducible rfl
                                      rotate_left
                                      · simp only [Act.put, List.setIfInBounds_toArray, List.set_cons_zero, List.set_cons_succ, i64_w, i32_w]
                                        rfl
                                      refine pure_ (i := 14) (N := some 29) (v := ?_) (a' := ?_) #[true, true, true, true, true, true, true, true, true, true, true, true, true, true, true, false, true, false, false, false, true, false, false, false, false, false, true, false, false, false, false, false, false, false] rfl rfl (any_of HT_.out (by kernel_rfl)) (fun _ _ _ h => h) (Or.inl ⟨by rfl, ?_⟩) ?_ ?_
                                      rotate_left
                                      · intro w'
                                        go_simp
                                        with_reducible rfl
                                      rotate_left
                                      · simp only [Act.put, List.setIfInBounds_toArray, List.set_cons_zero, List.set_cons_succ, i64_w, i32_w]
                                        rfl
                                      refine take_ (i := 15) (N := some 30) (v := ?_) (a' := ?_) #[true, true, true, true, true, true, true, true, true, true, true, true, true, true, true, true, true, false, false, false, true, false, false, false, false, false, true, false, false, false, false, false, false, false] rfl rfl (take_ofW HT_.out HW_.out (by kernel_rfl)) (fun _ _ _ h => h) (Or.inl ⟨by rfl, ?_⟩) hHeld ?_ ?_
                                      rotate_left
                                      · rintro w' ⟨s0, s1, s2, s3⟩
                                        go_simp
                                        with_reducible rfl
                                      rotate_left
                                      · simp only [Act.put, List.setIfInBounds_toArray, List.set_cons_zero, List.set_cons_succ, i64_w, i32_w]
                                        rfl
                                      refine take_ (i := 17) (N := some 32) (v := ?_) (a' := ?_) #[true, true, true, true, true, true, true, true, true, true, true, true, true, true, true, true, true, true, false, false, true, false, false, false, false, false, true, false, false, false, false, false, false, false] rfl rfl (take_ofW HT_.out HW_.out (by kernel_rfl)) (fun _ _ _ h => h) (Or.inl ⟨by rfl, ?_⟩) hHeld ?_ ?_
                                      rotate_left
                                      · rintro w' ⟨s0, s1, s2, s3⟩
                                        go_simp
                                        with_reducible rfl
                                      rotate_left
                                      · simp only [Act.put, List.setIfInBounds_toArray, List.set_cons_zero, List.set_cons_succ, i64_w, i32_w]
                                        rfl
                                      refine pure_ (i := 18) (N := some 33) (v := ?_) (a' := ?_) #[true, true, true, true, true, true, true, true, true, true, true, true, true, true, true, true, true, true, true, false, true, false, false, false, false, false, true, false, false, false, false, false, false, false] rfl rfl (any_of HT_.out (by kernel_rfl)) (fun _ _ _ h => h) (Or.inl ⟨by rfl, ?_⟩) ?_ ?_
                                      rotate_left
                                      · intro w'
                                        go_simp
                                        with_reducible rfl
                                      rotate_left
                                      · simp only [Act.put, List.setIfInBounds_toArray, List.set_cons_zero, List.set_cons_succ, i64_w, i32_w]
                                        rfl
                                      refine pure_ (i := 19) (N := some 34) (v := ?_) (a' := ?_) #[true, true, true, true, true, true, true, true, true, true, true, true, true, true, true, true, true, true, true, true, true, false, false, false, false, false, true, false, false, false, false, false, false, false] rfl rfl (any_of HT_.out (by kernel_rfl)) (fun _ _ _ h => h) (Or.inl ⟨by rfl, ?_⟩) ?_ ?_
                                      rotate_left
                                      · intro w'
                                        go_simp
                                        with_reducible rfl
                                      rotate_left
                                      · simp only [Act.put, List.setIfInBounds_toArray, List.set_cons_zero, List.set_cons_succ, i64_w, i32_w]
                                        rfl
                                      refine take_ (i := 21) (N := some 36) (v := ?_) (a' := ?_) #[true, true, true, true, true, true, true, true, true, true, true, true, true, true, true, true, true, true, true, true, true, true, false, false, false, false, true, false, false, false, false, false, false, false] rfl rfl (take_ofW HT_.out HW_.out (by kernel_rfl)) (fun _ _ _ h => h) (Or.inl ⟨by rfl, ?_⟩) hHeld ?_ ?_
                                      rotate_left
                                      · rintro w' ⟨s0, s1, s2, s3⟩
                                        go_simp
                                        with_reducible rfl
                                      rotate_left
                                      · simp only [Act.put, List.setIfInBounds_toArray, List.set_cons_zero, List.set_cons_succ, i64_w, i32_w]
                                        rfl
                                      refine pure_ (i := 22) (N := some 37) (v := ?_) (a' := ?_) #[true, true, true, true, true, true, true, true, true, true, true, true, true, true, true, true, true, true, true, true, true, true, true, false, false, false, true, false, false, false, false, false, false, false] rfl rfl (any_of HT_.out (by kernel_rfl)) (fun _ _ _ h => h) (Or.inl ⟨by rfl, ?_⟩) ?_ ?_
                                      rotate_left
                                      · intro w'
                                        go_simp
                                        with_reducible rfl
                                      rotate_left
                                      · simp only [Act.put, List.setIfInBounds_toArray, List.set_cons_zero, List.set_cons_succ, i64_w, i32_w]
                                        rfl
                                      refine pure_ (i := 23) (N := some 38) (v := ?_) (a' := ?_) #[true, true, true, true, true, true, true, true, true, true, true, true, true, true, true, true, true, true, true, true, true, true, true, true, false, false, true, false, false, false, false, false, false, false] rfl rfl (any_of HT_.out (by kernel_rfl)) (fun _ _ _ h => h) (Or.inl ⟨by rfl, ?_⟩) ?_ ?_
                                      rotate_left
                                      · intro w'
                                        go_simp
                                        with_reducible rfl
                                      rotate_left
                                      · simp only [Act.put, List.setIfInBounds_toArray, List.set_cons_zero, List.set_cons_succ, i64_w, i32_w]
                                        rfl
                                      refine pure_ (i := 24) (N := some 39) (v := ?_) (a' := ?_) #[true, true, true, true, true, true, true, true, true, true, true, true, true, true, true, true, true, true, true, true, true, true, true, true, true, false, true, false, false, false, false, false, false, false] rfl rfl (any_of HT_.out (by kernel_rfl)) (fun _ _ _ h => h) (Or.inl ⟨by rfl, ?_⟩) ?_ ?_
                                      rotate_left
                                      · intro w'
                                        go_simp
                                        with_reducible rfl
                                      rotate_left
                                      · simp only [Act.put, List.setIfInBounds_toArray, List.set_cons_zero, List.set_cons_succ, i64_w, i32_w]
                                        rfl
                                      refine take_ (i := 25) (N := some 40) (v := ?_) (a' := ?_) #[true, true, true, true, true, true, true, true, true, true, true, true, true, true, true, true, true, true, true, true, true, true, true, true, true, true, true, false, false, false, false, false, false, false] rfl rfl (take_ofW HT_.out HW_.out (by kernel_rfl)) (fun _ _ _ h => h) (Or.inl ⟨by rfl, ?_⟩) hHeld ?_ ?_
                                      rotate_left
                                      · rintro w' ⟨s0, s1, s2, s3⟩
                                        go_simp
                                        with_reducible rfl
                                      rotate_left
                                      · simp only [Act.put, List.setIfInBounds_toArray, List.set_cons_zero, List.set_cons_succ, i64_w, i32_w]
                                        rfl
                                      refine take_ (i := 27) (N := some 42) (v := ?_) (a' := ?_) #[true, true, true, true, true, true, true, true, true, true, true, true, true, true, true, true, true, true, true, true, true, true, true, true, true, true, true, true, false, false, false, false, false, false] rfl rfl (take_ofW HT_.out HW_.out (by kernel_rfl)) (fun _ _ _ h => h) (Or.inl ⟨by rfl, ?_⟩) hHeld ?_ ?_
                                      rotate_left
                                      · rintro w' ⟨s0, s1, s2, s3⟩
                                        go_simp
                                        with_reducible rfl
                                      rotate_left
                                      · simp only [Act.put, List.setIfInBounds_toArray, List.set_cons_zero, List.set_cons_succ, i64_w, i32_w]
                                        rfl
                                      refine pure_ (i := 28) (N := some 43) (v := ?_) (a' := ?_) #[true, true, true, true, true, true, true, true, true, true, true, true, true, true, true, true, true, true, true, true, true, true, true, true, true, true, true, true, true, false, false, false, false, false] rfl rfl (any_of HT_.out (by kernel_rfl)) (fun _ _ _ h => h) (Or.inl ⟨by rfl, ?_⟩) ?_ ?_
                                      rotate_left
                                      · intro w'
                                        go_simp
                                        with_reducible rfl
                                      rotate_left
                                      · simp only [Act.put, List.setIfInBounds_toArray, List.set_cons_zero, List.set_cons_succ, i64_w, i32_w]
                                        rfl
                                      refine pure_ (i := 29) (N := some 44) (v := ?_) (a' := ?_) #[true, true, true, true, true, true, true, true, true, true, true, true, true, true, true, true, true, true, true, true, true, true, true, true, true, true, true, true, true, true, false, false, false, false] rfl rfl (any_of HT_.out (by kernel_rfl)) (fun _ _ _ h => h) (Or.inl ⟨by rfl, ?_⟩) ?_ ?_
                                      rotate_left
                                      · intro w'
                                        go_simp
                                        with_reducible rfl
                                      rotate_left
                                      · simp only [Act.put, List.setIfInBounds_toArray, List.set_cons_zero, List.set_cons_succ, i64_w, i32_w]
                                        rfl
                                      refine take_ (i := 30) (N := some 45) (v := ?_) (a' := ?_) #[true, true, true, true, true, true, true, true, true, true, true, true, true, true, true, true, true, true, true, true, true, true, true, true, true, true, true, true, true, true, true, false, false, false] rfl rfl (take_ofW HT_.out HW_.out (by kernel_rfl)) (fun _ _ _ h => h) (Or.inl ⟨by rfl, ?_⟩) hHeld ?_ ?_
                                      rotate_left
                                      · rintro w' ⟨s0, s1, s2, s3⟩
                                        go_simp
                                        with_reducible rfl
                                      rotate_left
                                      · simp only [Act.put, List.setIfInBounds_toArray, List.set_cons_zero, List.set_cons_succ, i64_w, i32_w]
                                        rfl
                                      refine one_ (i := 31) (N := some 46) #[true, true, true, true, true, true, true, true, true, true, true, true, true, true, true, true, true, true, true, true, true, true, true, true, true, true, true, true, true, true, true, true, false, false] rfl rfl (one_of HT_.out (by kernel_rfl)) (by decide) (fun K hK => ?_)
                                      refine Kd.R_lit_step (Kd.int .u8) _ 5 ?hg (N := 46) ?hd (xs := ([rd let64L (ji10), rd let64L (ji16), rd let64L (ji22), rd let64L (Go.bits .and .u8 (bt x0_1 2) 63)] : List Int)) (inner := [.int .u8 (rd let64L (ji10)), .int .u8 (rd let64L (ji16)), .int .u8 (rd let64L (ji22)), .int .u8 (rd let64L (Go.bits .and .u8 (bt x0_1 2) 63))]) (ok := fun _ => True) (okp := fun _ => True) ?hr ?hp (fun _ hk => hk) trivial (Below.refl _ _) (Nat.le_refl _) (by simp) ?_; (case hd => rfl); (case hg => rfl); (case hr => first | (go_simp; done) | (go_simp; rfl)); (case hp => exact (Reps.one (show Kd.M (Kd.int .u8) _ _ _ (rd let64L (ji10)) [.int .u8 (rd let64L (ji10))] from rfl) (Reps.one (show Kd.M (Kd.int .u8) _ _ _ (rd let64L (ji16)) [.int .u8 (rd let64L (ji16))] from rfl) (Reps.one (show Kd.M (Kd.int .u8) _ _ _ (rd let64L (ji22)) [.int .u8 (rd let64L (ji22))] from rfl) (Reps.one (show Kd.M (Kd.int .u8) _ _ _ (rd let64L (Go.bits .and .u8 (bt x0_1 2) 63)) [.int .u8 (rd let64L (Go.bits .and .u8 (bt x0_1 2) 63))] from rfl) (Reps.none _ _))))))
                                      intro v169 w31 ho32 hb hg_ hnew_
                                      clear hg_ hnew_
                                      (first | rw [← Ny168.out] at ho32 | (simp only [Int.reduceToNat] at ho32; rw [← Ny168.out] at ho32))
                                      have n0_ := Aside0.mk (Kd.R_elder' (by (with_reducible repeat (first | apply Kd.R_alloc | apply Kd.R_drewN | apply Kd.R_drew)); exact HO_3.out) (Kd.R_base ho32) hb)
                                      have n1_ := Aside0.mk (Kd.R_lower (Kd.R_new' ho32 (Kd.R_lt (by (with_reducible repeat (first | apply Kd.R_alloc | apply Kd.R_drewN | apply Kd.R_drew)); exact HO_3.out))) (below_size (by repeat (first | (with_reducible first | exact HB.out | apply below_alloc | apply pw_below_drewN | apply below_drew1) | exact HB.out))))
                                      have n2_ := Aside0.mk (below_step (by repeat (first | (with_reducible first | exact HB.out | apply below_alloc | apply pw_below_drewN | apply below_drew1) | exact HB.out)) hb)
                                      clear HO_3
                                      clear HB
                                      have HO_3 := n0_
                                      have HO170 := n1_
                                      have HB := n2_
                                      clear n0_ n1_ n2_
                                      clear hb ho32
                                      obtain ⟨Ao34, co34, eo34⟩ := Kd.R_slice HO170.out
                                      (first | subst eo34 | (injection eo34 with f1_ f2_ f3_; have f4_ := f1_.symm; have f5_ := f3_.symm; clear f1_ f2_ f3_; subst f4_; subst f5_))
                                      refine hK.out _ _ ⟨((HB.out.cell (World.block_lt_of_cell? w _ hw164_0)).trans hw164_0), ((HB.out.cell (World.block_lt_of_cell? w _ hw165_0)).trans hw165_0), ((HB.out.cell (World.block_lt_of_cell? w _ hw166_0)).trans hw166_0), ((HB.out.cell (World.block_lt_of_cell? w _ hw167_0)).trans hw167_0)⟩ (fun hHeld => ?_)
                                      clear hK K
                                      refine norm_ (a' := ?_) ?_ ?_
                                      rotate_left
                                      · show Act.put _ (some 46) _ = _
                                        simp only [Act.put, List.setIfInBounds_toArray, List.set_cons_zero, List.set_cons_succ, i64_w, i32_w]
                                        rfl
                                      refine one_ (i := 32) (N := some 47) #[true, true, true, true, true, true, true, true, true, true, true, true, true, true, true, true, true, true, true, true, true, true, true, true, true, true, true, true, true, true, true, true, true, false] rfl rfl (one_of HT_.out (by kernel_rfl)) (by decide) (fun K hK => ?_)
                                      refine Kd.R_append_rows_step (Kd.int .u8) (w0 := w) w.heap.size (by rfl) (.tmp 15) (.tmp 46) 42 5 (.int .u8 0) 1 rfl Tryd.underlying42 info5 rfl (by decide) (by omega) u3 x3_1 y168 _ _ _ (fun k_ => some k_ ≠ (.slice Ao34 y168.length co34 : Value).ownBlock) (fun _ => False) rfl rfl ?aO ?aR (fun _ _ h => h) (fun _ h => h.elim) ?aF ?aB ?aS ?aL ?_
                                      (case aR => repeat (first | exact (Kd.R_reads' HO170.out).2.2 | (with_reducible refine Kd.C_alloc ?_ _) | (with_reducible refine Kd.C_drewN ?_ _) | (with_reducible refine Kd.C_drew ?_)))
                                      (case aB => exact (by repeat (first | (with_reducible first | exact HB.out | apply below_alloc | apply pw_below_drewN | apply below_drew1) | exact HB.out)))
                                      (case aF => exact (fun k_ hk => Kd.fresh' (Kd.R_lt (by (with_reducible repeat (first | apply Kd.R_alloc | apply Kd.R_drewN | apply Kd.R_drew)); exact HO170.out)) k_ hk))
                                      (case aO => exact (by (with_reducible repeat (first | apply Kd.R_alloc | apply Kd.R_drewN | apply Kd.R_drew)); exact Kd.R_mono HO_3.out (fun _ hk => hk.2)))
                                      (case aS => exact (below_size (by repeat (first | (with_reducible first | exact HB.out | apply below_alloc | apply pw_below_drewN | apply below_drew1) | exact HB.out))))
                                      (case aL => have := LMc28.out; omega)
                                      intro v172 w33 ho hb hg hat
                                      rw [← Ny171.out] at ho
                                      have n0_ := Aside0.mk (Kd.R_after (ok := (fun _ => True)) (by (with_reducible repeat (first | apply Kd.R_alloc | apply Kd.R_drewN | apply Kd.R_drew)); exact HO170.out) hg hat)
                                      have n1_ := Aside0.mk (hb)
                                      have n2_ := Aside0.mk (ho)
                                      clear HO170
                                      clear HB
                                      clear HO_3
                                      have HO170 := n0_
                                      have HB := n1_
                                      have HO173 := n2_
                                      clear n0_ n1_ n2_
                                      clear ho hb hg hat
                                      refine hK.out _ _ ⟨((HB.out.cell (World.block_lt_of_cell? w _ hw164_0)).trans hw164_0), ((HB.out.cell (World.block_lt_of_cell? w _ hw165_0)).trans hw165_0), ((HB.out.cell (World.block_lt_of_cell? w _ hw166_0)).trans hw166_0), ((HB.out.cell (World.block_lt_of_cell? w _ hw167_0)).trans hw167_0)⟩ (fun hHeld => ?_)
                                      clear hK K
                                      refine norm_ (a' := ?_) ?_ ?_
                                      rotate_left
                                      · show Act.put _ (some 47) _ = _
                                        simp only [Act.put, List.setIfInBounds_toArray, List.set_cons_zero, List.set_cons_succ, i64_w, i32_w]
                                        rfl
                                      refine pure_ (i := 33) (N := some 3) (v := ?_) (a' := ?_) #[true, true, true, true, true, true, true, true, true, true, true, true, true, true, true, true, true, true, true, true, true, true, true, true, true, true, true, true, true, true, true, true, true, true] rfl rfl (any_of HT_.out (by kernel_rfl)) (fun _ _ _ h => h) (Or.inl ⟨by rfl, ?_⟩) ?_ ?_
                                      rotate_left
                                      · intro w'
                                        go_simp
                                        with_reducible rfl
                                      rotate_left
                                      · simp only [Act.put, List.setIfInBounds_toArray, List.set_cons_zero, List.set_cons_succ, i64_w, i32_w]
                                        rfl
                                      refine done_ (done_of HT_.out (by kernel_rfl)) ?_
                                      try go_wp2
                                      go_roundg k1
                                      case measure => have := HK1.out; omega
                                      case rel => exact ⟨(x0_1.extract 3 x0_1.size), (y171), (by first | rfl | (simp; done) | (simp [*]; done)), H', ⟨by have := HK1.out; omega⟩, ⟨by (with_reducible repeat (first | apply Kd.R_alloc | apply Kd.R_drewN | apply Kd.R_drew)); exact Kd.R_mono HO173.out (fun _ hk => trivial)⟩, ⟨by repeat (first | (with_reducible first | exact HB.out | apply below_alloc | apply pw_below_drewN | apply below_drew1) | exact HB.out)⟩⟩
                                    · rw [if_neg c29] at H
                                      exact absurd H (by simp)
                                  · rw [if_neg c28] at H
                                    exact absurd H (by simp)
                                · rw [if_neg c27] at H
                                  exact absurd H (by simp)
                              · rw [if_neg c26] at H
                                exact absurd H (by simp)
                            · rw [if_neg c24] at H
                              exact absurd H (by simp)
                          · rw [if_neg c23] at H
                            exact absurd H (by simp)
                        · rw [if_neg c20] at H
                          exact absurd H (by simp)
                      · rw [if_neg c18] at H
                        exact absurd H (by simp)
                    · rw [if_neg c17] at H
                      exact absurd H (by simp)
                  · rw [if_neg c14] at H
                    exact absurd H (by simp)
                · rw [if_neg c12] at H
                  exact absurd H (by simp)
              · rw [if_neg c11] at H
                exact absurd H (by simp)
            · rw [if_neg c8] at H
              exact absurd H (by simp)
          · rw [if_neg c7] at H
            have c7b0 : decide (3 ≤ (x0_1.size : Int)) = false := decide_eq_false c7
            have c7b1 : decide (3 ≤ x0_1.size) = false := decide_eq_false (by omega)
            clear c7
            by_cases c35 : (x0_1.size : Int) = 2
            · rw [if_pos c35] at H
              have c35b0 : ((x0_1.size : Int) == 2) = true := beq_iff_eq.mpr c35
              have c35b1 : ((x0_1.size : Int) != 2) = false := bne_eq_false_iff_eq.mpr c35
              clear c35
              by_cases c36 : 0 < (x0_1.size : Int)
              · rw [if_pos c36] at H
                have c36b0 : decide (0 < (x0_1.size : Int)) = true := decide_eq_true c36
                have c36b1 : decide (0 < x0_1.size) = true := decide_eq_true (by omega)
                clear c36
                obtain ⟨ji38, hji38⟩ : ∃ j_ : Int, ((bt x0_1 0) / 4) = j_ := ⟨_, rfl⟩
                replace H : (if 0 ≤ (ji38) then (if (ji38) < 64 then (if 1 < (x0_1.size : Int) then (if 0 ≤ (Go.bits .or .u8 (((Go.bits .and .u8 (bt x0_1 0) 3) * 16) % 256) ((bt x0_1 1) / 16)) then (if (Go.bits .or .u8 (((Go.bits .and .u8 (bt x0_1 0) 3) * 16) % 256) ((bt x0_1 1) / 16)) < 64 then (if 0 ≤ (((Go.bits .and .u8 (bt x0_1 1) 15) * 4) % 256) then (if (((Go.bits .and .u8 (bt x0_1 1) 15) * 4) % 256) < 64 then ((some (([rd let64L (ji38), rd let64L (Go.bits .or .u8 (((Go.bits .and .u8 (bt x0_1 0) 3) * 16) % 256) ((bt x0_1 1) / 16)), rd let64L (((Go.bits .and .u8 (bt x0_1 1) 15) * 4) % 256), 61] : List Int) : List Int)).bind fun y177 => (if x3_1.length + y177.length < 140737488355328 then (some (strOfNums (x3_1 ++ y177))) else (none))) else (none)) else (none)) else (none)) else (none)) else (none)) else (none)) else (none)) = some r := by first | (rw [hji38] at H; exact H) | (simp only [hji38] at H ⊢; exact H)
                by_cases c39 : 0 ≤ (ji38)
                · rw [if_pos c39] at H
                  have c39b0 : decide (0 ≤ (ji38)) = true := decide_eq_true c39
                  clear c39
                  by_cases c40 : (ji38) < 64
                  · rw [if_pos c40] at H
                    have c40b0 : decide ((ji38) < 64) = true := decide_eq_true c40
                    clear c40
                    by_cases c42 : 1 < (x0_1.size : Int)
                    · rw [if_pos c42] at H
                      have c42b0 : decide (1 < (x0_1.size : Int)) = true := decide_eq_true c42
                      have c42b1 : decide (1 < x0_1.size) = true := decide_eq_true (by omega)
                      clear c42
                      obtain ⟨ji44, hji44⟩ : ∃ j_ : Int, (Go.bits .or .u8 (((Go.bits .and .u8 (bt x0_1 0) 3) * 16) % 256) ((bt x0_1 1) / 16)) = j_ := ⟨_, rfl⟩
                      replace H : (if 0 ≤ (ji44) then (if (ji44) < 64 then (if 0 ≤ (((Go.bits .and .u8 (bt x0_1 1) 15) * 4) % 256) then (if (((Go.bits .and .u8 (bt x0_1 1) 15) * 4) % 256) < 64 then ((some (([rd let64L (ji38), rd let64L (ji44), rd let64L (((Go.bits .and .u8 (bt x0_1 1) 15) * 4) % 256), 61] : List Int) : List Int)).bind fun y177 => (if x3_1.length + y177.length < 140737488355328 then (some (strOfNums (x3_1 ++ y177))) else (none))) else (none)) else (none)) else (none)) else (none)) = some r := by first | (rw [hji44] at H; exact H) | (simp only [hji44] at H ⊢; exact H)
                      by_cases c45 : 0 ≤ (ji44)
                      · rw [if_pos c45] at H
                        have c45b0 : decide (0 ≤ (ji44)) = true := decide_eq_true c45
                        clear c45
                        by_cases c46 : (ji44) < 64
                        · rw [if_pos c46] at H
                          have c46b0 : decide ((ji44) < 64) = true := decide_eq_true c46
                          clear c46
                          obtain ⟨ji48, hji48⟩ : ∃ j_ : Int, (((Go.bits .and .u8 (bt x0_1 1) 15) * 4) % 256) = j_ := ⟨_, rfl⟩
                          replace H : (if 0 ≤ (ji48) then (if (ji48) < 64 then ((some (([rd let64L (ji38), rd let64L (ji44), rd let64L (ji48), 61] : List Int) : List Int)).bind fun y177 => (if x3_1.length + y177.length < 140737488355328 then (some (strOfNums (x3_1 ++ y177))) else (none))) else (none)) else (none)) = some r := by first | (rw [hji48] at H; exact H) | (simp only [hji48] at H ⊢; exact H)
                          by_cases c49 : 0 ≤ (ji48)
                          · rw [if_pos c49] at H
                            have c49b0 : decide (0 ≤ (ji48)) = true := decide_eq_true c49
                            clear c49
                            by_cases c50 : (ji48) < 64
                            · rw [if_pos c50] at H
                              have c50b0 : decide ((ji48) < 64) = true := decide_eq_true c50
                              clear c50
                              obtain ⟨y177, hy177⟩ : ∃ y_ : List Int, y_ = (([rd let64L (ji38), rd let64L (ji44), rd let64L (ji48), 61] : List Int)) := ⟨_, rfl⟩
                              replace H : (if x3_1.length + y177.length < 140737488355328 then (some (strOfNums (x3_1 ++ y177))) else (none)) = some r := by first | (rw [hy177]; with_reducible exact H) | (have H2_ := (Option.bind_some _ _).symm.trans H; rw [hy177]; with_reducible exact H2_) | (have H2_ := (Option.bind_some _ _).symm.trans H; with_reducible exact H2_) | with_reducible exact H | (rw [hy177]; exact H) | exact H
                              have Ny177 := Aside0.mk hy177
                              clear hy177
                              by_cases c51 : x3_1.length + y177.length < 140737488355328
                              · rw [if_pos c51] at H
                                have LMc51 := Aside0.mk c51
                                clear c51
                                obtain ⟨y180, hy180⟩ : ∃ y_ : List Int, y_ = (x3_1 ++ y177) := ⟨_, rfl⟩
                                replace H : (some (strOfNums y180)) = some r := by first | (rw [hy180]; with_reducible exact H) | (have H2_ := (Option.bind_some _ _).symm.trans H; rw [hy180]; with_reducible exact H2_) | (have H2_ := (Option.bind_some _ _).symm.trans H; with_reducible exact H2_) | with_reducible exact H | (rw [hy180]; exact H) | exact H
                                have Ny180 := Aside0.mk hy180
                                clear hy180
                                obtain rfl := Option.some.inj H
                                try go_wp2
                                have n0_ := Aside0.mk (Kd.R_drew HO_3.out)
                                have n1_ := Aside0.mk (below_drew1 HB.out)
                                clear HO_3
                                clear HB
                                have HO_3 := n0_
                                have HB := n1_
                                clear n0_ n1_
                                have p37 : 0 ≤ (0 : Int) := (by omega)
                                have q37 : 0 < x0_1.size := (by have : (0 : Int) < (x0_1.size : Int) := of_decide_eq_true (by first | (with_reducible assumption) | assumption); omega)
                                have hx37 : ∀ h : 0 < x0_1.size, ((x0_1[0]'h).toNat : Int) = bt x0_1 0 := bt_at x0_1 0
                                clear p37
                                have qi37 : (0 < (x0_1.size : Int)) = True := eq_true (of_decide_eq_true (by first | (with_reducible assumption) | assumption))
                                replace q37 := eq_true q37
                                have p174 : 0 ≤ ((ji38) : Int) := of_decide_eq_true (by first | (with_reducible assumption) | assumption)
                                have q174 : (ji38) < (let64L.length : Int) := of_decide_eq_true (by first | (with_reducible assumption) | assumption)
                                have ql174 : (((ji38) : Int) < (64 : Int)) = True := eq_true (of_decide_eq_true (by first | (with_reducible assumption) | assumption))
                                obtain ⟨ad174, e174, hx174_0⟩ := Kd.at_int HRG1.out (ji38) p174 q174
                                have hw174_0 := hx174_0
                                obtain rfl : (⟨1, 0, none⟩ : Addr) = ad174 := (by injection e174)
                                (first | simp only [add_plain] at hw174_0 | simp only [add_at] at hw174_0 | simp only [Addr.add, Nat.zero_add] at hw174_0 | skip)
                                (first | simp only [add_plain] at hx174_0 | simp only [add_at] at hx174_0 | simp only [Addr.add, Nat.zero_add] at hx174_0 | skip)
                                replace hx174_0 := (HB.out.cell (World.block_lt_of_cell? w _ hx174_0)).trans hx174_0
                                replace p174 := eq_true p174
                                replace q174 := eq_true q174
                                have p41 : 0 ≤ (0 : Int) := (by omega)
                                have q41 : 0 < x0_1.size := (by have : (0 : Int) < (x0_1.size : Int) := of_decide_eq_true (by first | (with_reducible assumption) | assumption); omega)
                                have hx41 : ∀ h : 0 < x0_1.size, ((x0_1[0]'h).toNat : Int) = bt x0_1 0 := bt_at x0_1 0
                                clear p41
                                have qi41 : (0 < (x0_1.size : Int)) = True := eq_true (of_decide_eq_true (by first | (with_reducible assumption) | assumption))
                                replace q41 := eq_true q41
                                have p43 : 0 ≤ (1 : Int) := (by omega)
                                have q43 : 1 < x0_1.size := (by have : (1 : Int) < (x0_1.size : Int) := of_decide_eq_true (by first | (with_reducible assumption) | assumption); omega)
                                have hx43 : ∀ h : 1 < x0_1.size, ((x0_1[1]'h).toNat : Int) = bt x0_1 1 := bt_at x0_1 1
                                clear p43
                                have qi43 : (1 < (x0_1.size : Int)) = True := eq_true (of_decide_eq_true (by first | (with_reducible assumption) | assumption))
                                replace q43 := eq_true q43
                                have p175 : 0 ≤ ((ji44) : Int) := of_decide_eq_true (by first | (with_reducible assumption) | assumption)
                                have q175 : (ji44) < (let64L.length : Int) := of_decide_eq_true (by first | (with_reducible assumption) | assumption)
                                have ql175 : (((ji44) : Int) < (64 : Int)) = True := eq_true (of_decide_eq_true (by first | (with_reducible assumption) | assumption))
                                obtain ⟨ad175, e175, hx175_0⟩ := Kd.at_int HRG1.out (ji44) p175 q175
                                have hw175_0 := hx175_0
                                obtain rfl : (⟨1, 0, none⟩ : Addr) = ad175 := (by injection e175)
                                (first | simp only [add_plain] at hw175_0 | simp only [add_at] at hw175_0 | simp only [Addr.add, Nat.zero_add] at hw175_0 | skip)
                                (first | simp only [add_plain] at hx175_0 | simp only [add_at] at hx175_0 | simp only [Addr.add, Nat.zero_add] at hx175_0 | skip)
                                replace hx175_0 := (HB.out.cell (World.block_lt_of_cell? w _ hx175_0)).trans hx175_0
                                replace p175 := eq_true p175
                                replace q175 := eq_true q175
                                have p47 : 0 ≤ (1 : Int) := (by omega)
                                have q47 : 1 < x0_1.size := (by have : (1 : Int) < (x0_1.size : Int) := of_decide_eq_true (by first | (with_reducible assumption) | assumption); omega)
                                have hx47 : ∀ h : 1 < x0_1.size, ((x0_1[1]'h).toNat : Int) = bt x0_1 1 := bt_at x0_1 1
                                clear p47
                                have qi47 : (1 < (x0_1.size : Int)) = True := eq_true (of_decide_eq_true (by first | (with_reducible assumption) | assumption))
                                replace q47 := eq_true q47
                                have p176 : 0 ≤ ((ji48) : Int) := of_decide_eq_true (by first | (with_reducible assumption) | assumption)
                                have q176 : (ji48) < (let64L.length : Int) := of_decide_eq_true (by first | (with_reducible assumption) | assumption)
                                have ql176 : (((ji48) : Int) < (64 : Int)) = True := eq_true (of_decide_eq_true (by first | (with_reducible assumption) | assumption))
                                obtain ⟨ad176, e176, hx176_0⟩ := Kd.at_int HRG1.out (ji48) p176 q176
                                have hw176_0 := hx176_0
                                obtain rfl : (⟨1, 0, none⟩ : Addr) = ad176 := (by injection e176)
                                (first | simp only [add_plain] at hw176_0 | simp only [add_at] at hw176_0 | simp only [Addr.add, Nat.zero_add] at hw176_0 | skip)
                                (first | simp only [add_plain] at hx176_0 | simp only [add_at] at hx176_0 | simp only [Addr.add, Nat.zero_add] at hx176_0 | skip)
                                replace hx176_0 := (HB.out.cell (World.block_lt_of_cell? w _ hx176_0)).trans hx176_0
                                replace p176 := eq_true p176
                                replace q176 := eq_true q176
                                refine start_ (n := 25) (S := fun w' => w'.cell? ⟨1, ((ji38)).toNat, none⟩ = some (.int .u8 (rd let64L (ji38))) ∧ w'.cell? ⟨1, ((ji44)).toNat, none⟩ = some (.int .u8 (rd let64L (ji44))) ∧ w'.cell? ⟨1, ((ji48)).toNat, none⟩ = some (.int .u8 (rd let64L (ji48)))) (ds := []) #[false, false, false, false, false, false, false, false, false, false, false, false, false, false, false, false, false, false, false, false, false, false, false, false, false] (by kernel_rfl) rfl rfl ⟨((HB.out.cell (World.block_lt_of_cell? w _ hw174_0)).trans hw174_0), ((HB.out.cell (World.block_lt_of_cell? w _ hw175_0)).trans hw175_0), ((HB.out.cell (World.block_lt_of_cell? w _ hw176_0)).trans hw176_0)⟩ (fun hHeld => ?_); refine with_tabW text_Base64.tab7 text_Base64.bits7 (fun HT_ HW_ => ?_)
                                generalize wr.drew = w52 at HO_3 HB hx174_0 hx175_0 hx176_0 hHeld ⊢
                                refine pure_ (i := 0) (N := some 52) (v := ?_) (a' := ?_) #[true, false, false, false, false, false, false, false, false, false, false, false, false, false, false, false, false, false, false, false, false, false, false, false, false] rfl rfl (any_of HT_.out (by kernel_rfl)) (fun _ _ _ h => h) (Or.inl ⟨by rfl, ?_⟩) ?_ ?_
                                rotate_left
                                · intro w'
                                  go_simp
                                  with_reducible rfl
                                rotate_left
                                · simp only [Act.put, List.setIfInBounds_toArray, List.set_cons_zero, List.set_cons_succ, i64_w, i32_w]
                                  rfl
                                refine pure_ (i := 1) (N := some 53) (v := ?_) (a' := ?_) #[true, true, false, false, false, false, false, false, false, false, false, false, false, false, false, false, false, false, false, false, false, false, false, false, false] rfl rfl (any_of HT_.out (by kernel_rfl)) (fun _ _ _ h => h) (Or.inl ⟨by rfl, ?_⟩) ?_ ?_
                                rotate_left
                                · intro w'
                                  go_simp
                                  with_reducible rfl
                                rotate_left
                                · simp only [Act.put, List.setIfInBounds_toArray, List.set_cons_zero, List.set_cons_succ, i64_w, i32_w]
                                  rfl
                                refine pure_ (i := 6) (N := some 58) (v := ?_) (a' := ?_) #[true, true, false, false, false, false, true, false, false, false, false, false, false, false, false, false, false, false, false, false, false, false, false, false, false] rfl rfl (any_of HT_.out (by kernel_rfl)) (fun _ _ _ h => h) (Or.inl ⟨by rfl, ?_⟩) ?_ ?_
                                rotate_left
                                · intro w'
                                  go_simp
                                  with_reducible rfl
                                rotate_left
                                · simp only [Act.put, List.setIfInBounds_toArray, List.set_cons_zero, List.set_cons_succ, i64_w, i32_w]
                                  rfl
                                refine pure_ (i := 10) (N := some 62) (v := ?_) (a' := ?_) #[true, true, false, false, false, false, true, false, false, false, true, false, false, false, false, false, false, false, false, false, false, false, false, false, false] rfl rfl (any_of HT_.out (by kernel_rfl)) (fun _ _ _ h => h) (Or.inl ⟨by rfl, ?_⟩) ?_ ?_
                                rotate_left
                                · intro w'
                                  go_simp
                                  with_reducible rfl
                                rotate_left
                                · simp only [Act.put, List.setIfInBounds_toArray, List.set_cons_zero, List.set_cons_succ, i64_w, i32_w]
                                  rfl
                                refine pure_ (i := 16) (N := some 68) (v := ?_) (a' := ?_) #[true, true, false, false, false, false, true, false, false, false, true, false, false, false, false, false, true, false, false, false, false, false, false, false, false] rfl rfl (any_of HT_.out (by kernel_rfl)) (fun _ _ _ h => h) (Or.inl ⟨by rfl, ?_⟩) ?_ ?_
                                rotate_left
                                · intro w'
                                  go_simp
                                  with_reducible rfl
                                rotate_left
                                · simp only [Act.put, List.setIfInBounds_toArray, List.set_cons_zero, List.set_cons_succ, i64_w, i32_w]
                                  rfl
                                refine take_ (i := 2) (N := some 54) (v := ?_) (a' := ?_) #[true, true, true, false, false, false, true, false, false, false, true, false, false, false, false, false, true, false, false, false, false, false, false, false, false] rfl rfl (take_ofW HT_.out HW_.out (by kernel_rfl)) (fun _ _ _ h => h) (Or.inl ⟨by rfl, ?_⟩) hHeld ?_ ?_
                                rotate_left
                                · rintro w' ⟨s0, s1, s2⟩
                                  go_simp
                                  with_reducible rfl
                                rotate_left
                                · simp only [Act.put, List.setIfInBounds_toArray, List.set_cons_zero, List.set_cons_succ, i64_w, i32_w]
                                  rfl
                                refine pure_ (i := 3) (N := some 55) (v := ?_) (a' := ?_) #[true, true, true, true, false, false, true, false, false, false, true, false, false, false, false, false, true, false, false, false, false, false, false, false, false] rfl rfl (any_of HT_.out (by kernel_rfl)) (fun _ _ _ h => h) (Or.inl ⟨by rfl, ?_⟩) ?_ ?_
                                rotate_left
                                · intro w'
                                  go_simp
                                  with_reducible rfl
                                rotate_left
                                · simp only [Act.put, List.setIfInBounds_toArray, List.set_cons_zero, List.set_cons_succ, i64_w, i32_w]
                                  rfl
                                refine pure_ (i := 4) (N := some 56) (v := ?_) (a' := ?_) #[true, true, true, true, true, false, true, false, false, false, true, false, false, false, false, false, true, false, false, false, false, false, false, false, false] rfl rfl (any_of HT_.out (by kernel_rfl)) (fun _ _ _ h => h) (Or.inl ⟨by rfl, ?_⟩) ?_ ?_
                                rotate_left
                                · intro w'
                                  go_simp
                                  with_reducible rfl
                                rotate_left
                                · simp only [Act.put, List.setIfInBounds_toArray, List.set_cons_zero, List.set_cons_succ, i64_w, i32_w]
                                  rfl
                                refine take_ (i := 5) (N := some 57) (v := ?_) (a' := ?_) #[true, true, true, true, true, true, true, false, false, false, true, false, false, false, false, false, true, false, false, false, false, false, false, false, false] rfl rfl (take_ofW HT_.out HW_.out (by kernel_rfl)) (fun _ _ _ h => h) (Or.inl ⟨by rfl, ?_⟩) hHeld ?_ ?_
                                rotate_left
                                · rintro w' ⟨s0, s1, s2⟩
                                  go_simp
                                  with_reducible rfl
                                rotate_left
                                · simp only [Act.put, List.setIfInBounds_toArray, List.set_cons_zero, List.set_cons_succ, i64_w, i32_w]
                                  rfl
                                refine take_ (i := 7) (N := some 59) (v := ?_) (a' := ?_) #[true, true, true, true, true, true, true, true, false, false, true, false, false, false, false, false, true, false, false, false, false, false, false, false, false] rfl rfl (take_ofW HT_.out HW_.out (by kernel_rfl)) (fun _ _ _ h => h) (Or.inl ⟨by rfl, ?_⟩) hHeld ?_ ?_
                                rotate_left
                                · rintro w' ⟨s0, s1, s2⟩
                                  go_simp
                                  with_reducible rfl
                                rotate_left
                                · simp only [Act.put, List.setIfInBounds_toArray, List.set_cons_zero, List.set_cons_succ, i64_w, i32_w]
                                  rfl
                                refine pure_ (i := 8) (N := some 60) (v := ?_) (a' := ?_) #[true, true, true, true, true, true, true, true, true, false, true, false, false, false, false, false, true, false, false, false, false, false, false, false, false] rfl rfl (any_of HT_.out (by kernel_rfl)) (fun _ _ _ h => h) (Or.inl ⟨by rfl, ?_⟩) ?_ ?_
                                rotate_left
                                · intro w'
                                  go_simp
                                  with_reducible rfl
                                rotate_left
                                · simp only [Act.put, List.setIfInBounds_toArray, List.set_cons_zero, List.set_cons_succ, i64_w, i32_w]
                                  rfl
                                refine pure_ (i := 9) (N := some 61) (v := ?_) (a' := ?_) #[true, true, true, true, true, true, true, true, true, true, true, false, false, false, false, false, true, false, false, false, false, false, false, false, false] rfl rfl (any_of HT_.out (by kernel_rfl)) (fun _ _ _ h => h) (Or.inl ⟨by rfl, ?_⟩) ?_ ?_
                                rotate_left
                                · intro w'
                                  go_simp
                                  with_reducible rfl
                                rotate_left
                                · simp only [Act.put, List.setIfInBounds_toArray, List.set_cons_zero, List.set_cons_succ, i64_w, i32_w]
                                  rfl
                                refine take_ (i := 11) (N := some 63) (v := ?_) (a' := ?_) #[true, true, true, true, true, true, true, true, true, true, true, true, false, false, false, false, true, false, false, false, false, false, false, false, false] rfl rfl (take_ofW HT_.out HW_.out (by kernel_rfl)) (fun _ _ _ h => h) (Or.inl ⟨by rfl, ?_⟩) hHeld ?_ ?_
                                rotate_left
                                · rintro w' ⟨s0, s1, s2⟩
                                  go_simp
                                  with_reducible rfl
                                rotate_left
                                · simp only [Act.put, List.setIfInBounds_toArray, List.set_cons_zero, List.set_cons_succ, i64_w, i32_w]
                                  rfl
                                refine pure_ (i := 12) (N := some 64) (v := ?_) (a' := ?_) #[true, true, true, true, true, true, true, true, true, true, true, true, true, false, false, false, true, false, false, false, false, false, false, false, false] rfl rfl (any_of HT_.out (by kernel_rfl)) (fun _ _ _ h => h) (Or.inl ⟨by rfl, ?_⟩) ?_ ?_
                                rotate_left
                                · intro w'
                                  go_simp
                                  with_reducible rfl
                                rotate_left
                                · simp only [Act.put, List.setIfInBounds_toArray, List.set_cons_zero, List.set_cons_succ, i64_w, i32_w]
                                  rfl
                                refine pure_ (i := 13) (N := some 65) (v := ?_) (a' := ?_) #[true, true, true, true, true, true, true, true, true, true, true, true, true, true, false, false, true, false, false, false, false, false, false, false, false] rfl rfl (any_of HT_.out (by kernel_rfl)) (fun _ _ _ h => h) (Or.inl ⟨by rfl, ?_⟩) ?_ ?_
                                rotate_left
                                · intro w'
                                  go_simp
                                  with_reducible rfl
                                rotate_left
                                · simp only [Act.put, List.setIfInBounds_toArray, List.set_cons_zero, List.set_cons_succ, i64_w, i32_w]
                                  rfl
                                refine pure_ (i := 14) (N := some 66) (v := ?_) (a' := ?_) #[true, true, true, true, true, true, true, true, true, true, true, true, true, true, true, false, true, false, false, false, false, false, false, false, false] rfl rfl (any_of HT_.out (by kernel_rfl)) (fun _ _ _ h => h) (Or.inl ⟨by rfl, ?_⟩) ?_ ?_
                                rotate_left
                                · intro w'
                                  go_simp
                                  with_reducible rfl
                                rotate_left
                                · simp only [Act.put, List.setIfInBounds_toArray, List.set_cons_zero, List.set_cons_succ, i64_w, i32_w]
                                  rfl
                                refine take_ (i := 15) (N := some 67) (v := ?_) (a' := ?_) #[true, true, true, true, true, true, true, true, true, true, true, true, true, true, true, true, true, false, false, false, false, false, false, false, false] rfl rfl (take_ofW HT_.out HW_.out (by kernel_rfl)) (fun _ _ _ h => h) (Or.inl ⟨by rfl, ?_⟩) hHeld ?_ ?_
                                rotate_left
                                · rintro w' ⟨s0, s1, s2⟩
                                  go_simp
                                  with_reducible rfl
                                rotate_left
                                · simp only [Act.put, List.setIfInBounds_toArray, List.set_cons_zero, List.set_cons_succ, i64_w, i32_w]
                                  rfl
                                refine take_ (i := 17) (N := some 69) (v := ?_) (a' := ?_) #[true, true, true, true, true, true, true, true, true, true, true, true, true, true, true, true, true, true, false, false, false, false, false, false, false] rfl rfl (take_ofW HT_.out HW_.out (by kernel_rfl)) (fun _ _ _ h => h) (Or.inl ⟨by rfl, ?_⟩) hHeld ?_ ?_
                                rotate_left
                                · rintro w' ⟨s0, s1, s2⟩
                                  go_simp
                                  with_reducible rfl
                                rotate_left
                                · simp only [Act.put, List.setIfInBounds_toArray, List.set_cons_zero, List.set_cons_succ, i64_w, i32_w]
                                  rfl
                                refine pure_ (i := 18) (N := some 70) (v := ?_) (a' := ?_) #[true, true, true, true, true, true, true, true, true, true, true, true, true, true, true, true, true, true, true, false, false, false, false, false, false] rfl rfl (any_of HT_.out (by kernel_rfl)) (fun _ _ _ h => h) (Or.inl ⟨by rfl, ?_⟩) ?_ ?_
                                rotate_left
                                · intro w'
                                  go_simp
                                  with_reducible rfl
                                rotate_left
                                · simp only [Act.put, List.setIfInBounds_toArray, List.set_cons_zero, List.set_cons_succ, i64_w, i32_w]
                                  rfl
                                refine pure_ (i := 19) (N := some 71) (v := ?_) (a' := ?_) #[true, true, true, true, true, true, true, true, true, true, true, true, true, true, true, true, true, true, true, true, false, false, false, false, false] rfl rfl (any_of HT_.out (by kernel_rfl)) (fun _ _ _ h => h) (Or.inl ⟨by rfl, ?_⟩) ?_ ?_
                                rotate_left
                                · intro w'
                                  go_simp
                                  with_reducible rfl
                                rotate_left
                                · simp only [Act.put, List.setIfInBounds_toArray, List.set_cons_zero, List.set_cons_succ, i64_w, i32_w]
                                  rfl
                                refine pure_ (i := 20) (N := some 72) (v := ?_) (a' := ?_) #[true, true, true, true, true, true, true, true, true, true, true, true, true, true, true, true, true, true, true, true, true, false, false, false, false] rfl rfl (any_of HT_.out (by kernel_rfl)) (fun _ _ _ h => h) (Or.inl ⟨by rfl, ?_⟩) ?_ ?_
                                rotate_left
                                · intro w'
                                  go_simp
                                  with_reducible rfl
                                rotate_left
                                · simp only [Act.put, List.setIfInBounds_toArray, List.set_cons_zero, List.set_cons_succ, i64_w, i32_w]
                                  rfl
                                refine take_ (i := 21) (N := some 73) (v := ?_) (a' := ?_) #[true, true, true, true, true, true, true, true, true, true, true, true, true, true, true, true, true, true, true, true, true, true, false, false, false] rfl rfl (take_ofW HT_.out HW_.out (by kernel_rfl)) (fun _ _ _ h => h) (Or.inl ⟨by rfl, ?_⟩) hHeld ?_ ?_
                                rotate_left
                                · rintro w' ⟨s0, s1, s2⟩
                                  go_simp
                                  with_reducible rfl
                                rotate_left
                                · simp only [Act.put, List.setIfInBounds_toArray, List.set_cons_zero, List.set_cons_succ, i64_w, i32_w]
                                  rfl
                                refine one_ (i := 22) (N := some 74) #[true, true, true, true, true, true, true, true, true, true, true, true, true, true, true, true, true, true, true, true, true, true, true, false, false] rfl rfl (one_of HT_.out (by kernel_rfl)) (by decide) (fun K hK => ?_)
                                refine Kd.R_lit_step (Kd.int .u8) _ 5 ?hg (N := 74) ?hd (xs := ([rd let64L (ji38), rd let64L (ji44), rd let64L (ji48), 61] : List Int)) (inner := [.int .u8 (rd let64L (ji38)), .int .u8 (rd let64L (ji44)), .int .u8 (rd let64L (ji48)), .int .u8 61]) (ok := fun _ => True) (okp := fun _ => True) ?hr ?hp (fun _ hk => hk) trivial (Below.refl _ _) (Nat.le_refl _) (by simp) ?_; (case hd => rfl); (case hg => rfl); (case hr => first | (go_simp; done) | (go_simp; rfl)); (case hp => exact (Reps.one (show Kd.M (Kd.int .u8) _ _ _ (rd let64L (ji38)) [.int .u8 (rd let64L (ji38))] from rfl) (Reps.one (show Kd.M (Kd.int .u8) _ _ _ (rd let64L (ji44)) [.int .u8 (rd let64L (ji44))] from rfl) (Reps.one (show Kd.M (Kd.int .u8) _ _ _ (rd let64L (ji48)) [.int .u8 (rd let64L (ji48))] from rfl) (Reps.one (show Kd.M (Kd.int .u8) _ _ _ 61 [.int .u8 61] from rfl) (Reps.none _ _))))))
                                intro v178 w53 ho54 hb hg_ hnew_
                                clear hg_ hnew_
                                (first | rw [← Ny177.out] at ho54 | (simp only [Int.reduceToNat] at ho54; rw [← Ny177.out] at ho54))
                                have n0_ := Aside0.mk (Kd.R_elder' (by (with_reducible repeat (first | apply Kd.R_alloc | apply Kd.R_drewN | apply Kd.R_drew)); exact HO_3.out) (Kd.R_base ho54) hb)
                                have n1_ := Aside0.mk (Kd.R_lower (Kd.R_new' ho54 (Kd.R_lt (by (with_reducible repeat (first | apply Kd.R_alloc | apply Kd.R_drewN | apply Kd.R_drew)); exact HO_3.out))) (below_size (by repeat (first | (with_reducible first | exact HB.out | apply below_alloc | apply pw_below_drewN | apply below_drew1) | exact HB.out))))
                                have n2_ := Aside0.mk (below_step (by repeat (first | (with_reducible first | exact HB.out | apply below_alloc | apply pw_below_drewN | apply below_drew1) | exact HB.out)) hb)
                                clear HO_3
                                clear HB
                                have HO_3 := n0_
                                have HO179 := n1_
                                have HB := n2_
                                clear n0_ n1_ n2_
                                clear hb ho54
                                obtain ⟨Ao56, co56, eo56⟩ := Kd.R_slice HO179.out
                                (first | subst eo56 | (injection eo56 with f1_ f2_ f3_; have f4_ := f1_.symm; have f5_ := f3_.symm; clear f1_ f2_ f3_; subst f4_; subst f5_))
                                refine hK.out _ _ ⟨((HB.out.cell (World.block_lt_of_cell? w _ hw174_0)).trans hw174_0), ((HB.out.cell (World.block_lt_of_cell? w _ hw175_0)).trans hw175_0), ((HB.out.cell (World.block_lt_of_cell? w _ hw176_0)).trans hw176_0)⟩ (fun hHeld => ?_)
                                clear hK K
                                refine norm_ (a' := ?_) ?_ ?_
                                rotate_left
                                · show Act.put _ (some 74) _ = _
                                  simp only [Act.put, List.setIfInBounds_toArray, List.set_cons_zero, List.set_cons_succ, i64_w, i32_w]
                                  rfl
                                refine one_ (i := 23) (N := some 75) #[true, true, true, true, true, true, true, true, true, true, true, true, true, true, true, true, true, true, true, true, true, true, true, true, false] rfl rfl (one_of HT_.out (by kernel_rfl)) (by decide) (fun K hK => ?_)
                                refine Kd.R_append_rows_step (Kd.int .u8) (w0 := w) w.heap.size (by rfl) (.tmp 52) (.tmp 74) 42 5 (.int .u8 0) 1 rfl Tryd.underlying42 info5 rfl (by decide) (by omega) u3 x3_1 y177 _ _ _ (fun k_ => some k_ ≠ (.slice Ao56 y177.length co56 : Value).ownBlock) (fun _ => False) rfl rfl ?aO ?aR (fun _ _ h => h) (fun _ h => h.elim) ?aF ?aB ?aS ?aL ?_
                                (case aR => repeat (first | exact (Kd.R_reads' HO179.out).2.2 | (with_reducible refine Kd.C_alloc ?_ _) | (with_reducible refine Kd.C_drewN ?_ _) | (with_reducible refine Kd.C_drew ?_)))
                                (case aB => exact (by repeat (first | (with_reducible first | exact HB.out | apply below_alloc | apply pw_below_drewN | apply below_drew1) | exact HB.out)))
                                (case aF => exact (fun k_ hk => Kd.fresh' (Kd.R_lt (by (with_reducible repeat (first | apply Kd.R_alloc | apply Kd.R_drewN | apply Kd.R_drew)); exact HO179.out)) k_ hk))
                                (case aO => exact (by (with_reducible repeat (first | apply Kd.R_alloc | apply Kd.R_drewN | apply Kd.R_drew)); exact Kd.R_mono HO_3.out (fun _ hk => hk.2)))
                                (case aS => exact (below_size (by repeat (first | (with_reducible first | exact HB.out | apply below_alloc | apply pw_below_drewN | apply below_drew1) | exact HB.out))))
                                (case aL => have := LMc51.out; omega)
                                intro v181 w55 ho hb hg hat
                                rw [← Ny180.out] at ho
                                have n0_ := Aside0.mk (Kd.R_after (ok := (fun _ => True)) (by (with_reducible repeat (first | apply Kd.R_alloc | apply Kd.R_drewN | apply Kd.R_drew)); exact HO179.out) hg hat)
                                have n1_ := Aside0.mk (hb)
                                have n2_ := Aside0.mk (ho)
                                clear HO179
                                clear HB
                                clear HO_3
                                have HO179 := n0_
                                have HB := n1_
                                have HO182 := n2_
                                clear n0_ n1_ n2_
                                clear ho hb hg hat
                                refine hK.out _ _ ⟨((HB.out.cell (World.block_lt_of_cell? w _ hw174_0)).trans hw174_0), ((HB.out.cell (World.block_lt_of_cell? w _ hw175_0)).trans hw175_0), ((HB.out.cell (World.block_lt_of_cell? w _ hw176_0)).trans hw176_0)⟩ (fun hHeld => ?_)
                                clear hK K
                                refine norm_ (a' := ?_) ?_ ?_
                                rotate_left
                                · show Act.put _ (some 75) _ = _
                                  simp only [Act.put, List.setIfInBounds_toArray, List.set_cons_zero, List.set_cons_succ, i64_w, i32_w]
                                  rfl
                                refine pure_ (i := 24) (N := some 3) (v := ?_) (a' := ?_) #[true, true, true, true, true, true, true, true, true, true, true, true, true, true, true, true, true, true, true, true, true, true, true, true, true] rfl rfl (any_of HT_.out (by kernel_rfl)) (fun _ _ _ h => h) (Or.inl ⟨by rfl, ?_⟩) ?_ ?_
                                rotate_left
                                · intro w'
                                  go_simp
                                  with_reducible rfl
                                rotate_left
                                · simp only [Act.put, List.setIfInBounds_toArray, List.set_cons_zero, List.set_cons_succ, i64_w, i32_w]
                                  rfl
                                refine done_ (done_of HT_.out (by kernel_rfl)) ?_
                                have hcv57 := own_string (P := Tryd.prog) Tryd.underlying42 Tryd.underlying5 Tryd.underlying9 (Kd.own_of_R HO182.out)
                                try go_wp2
                                go_ret
                                exact ⟨by first | rfl | (simp [errW_none, errW_some] <;> rfl) | (simp only [← hji2, ← hji38, ← hji44, ← hji48]; first | rfl | (simp [errW_none, errW_some] <;> rfl)) | (simp [*, errW_none, errW_some] <;> rfl), by repeat (first | (with_reducible first | exact HB.out | apply below_alloc | apply pw_below_drewN | apply below_drew1) | exact HB.out)⟩
                              · rw [if_neg c51] at H
                                exact absurd H (by simp)
                            · rw [if_neg c50] at H
                              exact absurd H (by simp)
                          · rw [if_neg c49] at H
                            exact absurd H (by simp)
                        · rw [if_neg c46] at H
                          exact absurd H (by simp)
                      · rw [if_neg c45] at H
                        exact absurd H (by simp)
                    · rw [if_neg c42] at H
                      exact absurd H (by simp)
                  · rw [if_neg c40] at H
                    exact absurd H (by simp)
                · rw [if_neg c39] at H
                  exact absurd H (by simp)
              · rw [if_neg c36] at H
                exact absurd H (by simp)
            · rw [if_neg c35] at H
              have c35b0 : ((x0_1.size : Int) == 2) = false := beq_eq_false_iff_ne.mpr c35
              have c35b1 : ((x0_1.size : Int) != 2) = true := bne_iff_ne.mpr c35
              by_cases c58 : (x0_1.size : Int) = 1
              · rw [if_pos c58] at H
                have c58b0 : ((x0_1.size : Int) == 1) = true := beq_iff_eq.mpr c58
                have c58b1 : ((x0_1.size : Int) != 1) = false := bne_eq_false_iff_eq.mpr c58
                clear c58
                by_cases c59 : 0 < (x0_1.size : Int)
                · rw [if_pos c59] at H
                  have c59b0 : decide (0 < (x0_1.size : Int)) = true := decide_eq_true c59
                  have c59b1 : decide (0 < x0_1.size) = true := decide_eq_true (by omega)
                  clear c59
                  obtain ⟨ji61, hji61⟩ : ∃ j_ : Int, ((bt x0_1 0) / 4) = j_ := ⟨_, rfl⟩
                  replace H : (if 0 ≤ (ji61) then (if (ji61) < 64 then (if 0 ≤ (((Go.bits .and .u8 (bt x0_1 0) 3) * 16) % 256) then (if (((Go.bits .and .u8 (bt x0_1 0) 3) * 16) % 256) < 64 then ((some (([rd let64L (ji61), rd let64L (((Go.bits .and .u8 (bt x0_1 0) 3) * 16) % 256), 61, 61] : List Int) : List Int)).bind fun y185 => (if x3_1.length + y185.length < 140737488355328 then (some (strOfNums (x3_1 ++ y185))) else (none))) else (none)) else (none)) else (none)) else (none)) = some r := by first | (rw [hji61] at H; exact H) | (simp only [hji61] at H ⊢; exact H)
                  by_cases c62 : 0 ≤ (ji61)
                  · rw [if_pos c62] at H
                    have c62b0 : decide (0 ≤ (ji61)) = true := decide_eq_true c62
                    clear c62
                    by_cases c63 : (ji61) < 64
                    · rw [if_pos c63] at H
                      have c63b0 : decide ((ji61) < 64) = true := decide_eq_true c63
                      clear c63
                      obtain ⟨ji65, hji65⟩ : ∃ j_ : Int, (((Go.bits .and .u8 (bt x0_1 0) 3) * 16) % 256) = j_ := ⟨_, rfl⟩
                      replace H : (if 0 ≤ (ji65) then (if (ji65) < 64 then ((some (([rd let64L (ji61), rd let64L (ji65), 61, 61] : List Int) : List Int)).bind fun y185 => (if x3_1.length + y185.length < 140737488355328 then (some (strOfNums (x3_1 ++ y185))) else (none))) else (none)) else (none)) = some r := by first | (rw [hji65] at H; exact H) | (simp only [hji65] at H ⊢; exact H)
                      by_cases c66 : 0 ≤ (ji65)
                      · rw [if_pos c66] at H
                        have c66b0 : decide (0 ≤ (ji65)) = true := decide_eq_true c66
                        clear c66
                        by_cases c67 : (ji65) < 64
                        · rw [if_pos c67] at H
                          have c67b0 : decide ((ji65) < 64) = true := decide_eq_true c67
                          clear c67
                          obtain ⟨y185, hy185⟩ : ∃ y_ : List Int, y_ = (([rd let64L (ji61), rd let64L (ji65), 61, 61] : List Int)) := ⟨_, rfl⟩
                          replace H : (if x3_1.length + y185.length < 140737488355328 then (some (strOfNums (x3_1 ++ y185))) else (none)) = some r := by first | (rw [hy185]; with_reducible exact H) | (have H2_ := (Option.bind_some _ _).symm.trans H; rw [hy185]; with_reducible exact H2_) | (have H2_ := (Option.bind_some _ _).symm.trans H; with_reducible exact H2_) | with_reducible exact H | (rw [hy185]; exact H) | exact H
                          have Ny185 := Aside0.mk hy185
                          clear hy185
                          by_cases c68 : x3_1.length + y185.length < 140737488355328
                          · rw [if_pos c68] at H
                            have LMc68 := Aside0.mk c68
                            clear c68
                            obtain ⟨y188, hy188⟩ : ∃ y_ : List Int, y_ = (x3_1 ++ y185) := ⟨_, rfl⟩
                            replace H : (some (strOfNums y188)) = some r := by first | (rw [hy188]; with_reducible exact H) | (have H2_ := (Option.bind_some _ _).symm.trans H; rw [hy188]; with_reducible exact H2_) | (have H2_ := (Option.bind_some _ _).symm.trans H; with_reducible exact H2_) | with_reducible exact H | (rw [hy188]; exact H) | exact H
                            have Ny188 := Aside0.mk hy188
                            clear hy188
                            obtain rfl := Option.some.inj H
                            try go_wp2
                            have n0_ := Aside0.mk (Kd.R_drew HO_3.out)
                            have n1_ := Aside0.mk (below_drew1 HB.out)
                            clear HO_3
                            clear HB
                            have HO_3 := n0_
                            have HB := n1_
                            clear n0_ n1_
                            have p60 : 0 ≤ (0 : Int) := (by omega)
                            have q60 : 0 < x0_1.size := (by have : (0 : Int) < (x0_1.size : Int) := of_decide_eq_true (by first | (with_reducible assumption) | assumption); omega)
                            have hx60 : ∀ h : 0 < x0_1.size, ((x0_1[0]'h).toNat : Int) = bt x0_1 0 := bt_at x0_1 0
                            clear p60
                            have qi60 : (0 < (x0_1.size : Int)) = True := eq_true (of_decide_eq_true (by first | (with_reducible assumption) | assumption))
                            replace q60 := eq_true q60
                            have p183 : 0 ≤ ((ji61) : Int) := of_decide_eq_true (by first | (with_reducible assumption) | assumption)
                            have q183 : (ji61) < (let64L.length : Int) := of_decide_eq_true (by first | (with_reducible assumption) | assumption)
                            have ql183 : (((ji61) : Int) < (64 : Int)) = True := eq_true (of_decide_eq_true (by first | (with_reducible assumption) | assumption))
                            obtain ⟨ad183, e183, hx183_0⟩ := Kd.at_int HRG1.out (ji61) p183 q183
                            have hw183_0 := hx183_0
                            obtain rfl : (⟨1, 0, none⟩ : Addr) = ad183 := (by injection e183)
                            (first | simp only [add_plain] at hw183_0 | simp only [add_at] at hw183_0 | simp only [Addr.add, Nat.zero_add] at hw183_0 | skip)
                            (first | simp only [add_plain] at hx183_0 | simp only [add_at] at hx183_0 | simp only [Addr.add, Nat.zero_add] at hx183_0 | skip)
                            replace hx183_0 := (HB.out.cell (World.block_lt_of_cell? w _ hx183_0)).trans hx183_0
                            replace p183 := eq_true p183
                            replace q183 := eq_true q183
                            have p64 : 0 ≤ (0 : Int) := (by omega)
                            have q64 : 0 < x0_1.size := (by have : (0 : Int) < (x0_1.size : Int) := of_decide_eq_true (by first | (with_reducible assumption) | assumption); omega)
                            have hx64 : ∀ h : 0 < x0_1.size, ((x0_1[0]'h).toNat : Int) = bt x0_1 0 := bt_at x0_1 0
                            clear p64
                            have qi64 : (0 < (x0_1.size : Int)) = True := eq_true (of_decide_eq_true (by first | (with_reducible assumption) | assumption))
                            replace q64 := eq_true q64
                            have p184 : 0 ≤ ((ji65) : Int) := of_decide_eq_true (by first | (with_reducible assumption) | assumption)
                            have q184 : (ji65) < (let64L.length : Int) := of_decide_eq_true (by first | (with_reducible assumption) | assumption)
                            have ql184 : (((ji65) : Int) < (64 : Int)) = True := eq_true (of_decide_eq_true (by first | (with_reducible assumption) | assumption))
                            obtain ⟨ad184, e184, hx184_0⟩ := Kd.at_int HRG1.out (ji65) p184 q184
                            have hw184_0 := hx184_0
                            obtain rfl : (⟨1, 0, none⟩ : Addr) = ad184 := (by injection e184)
                            (first | simp only [add_plain] at hw184_0 | simp only [add_at] at hw184_0 | simp only [Addr.add, Nat.zero_add] at hw184_0 | skip)
                            (first | simp only [add_plain] at hx184_0 | simp only [add_at] at hx184_0 | simp only [Addr.add, Nat.zero_add] at hx184_0 | skip)
                            replace hx184_0 := (HB.out.cell (World.block_lt_of_cell? w _ hx184_0)).trans hx184_0
                            replace p184 := eq_true p184
                            replace q184 := eq_true q184
                            refine start_ (n := 15) (S := fun w' => w'.cell? ⟨1, ((ji61)).toNat, none⟩ = some (.int .u8 (rd let64L (ji61))) ∧ w'.cell? ⟨1, ((ji65)).toNat, none⟩ = some (.int .u8 (rd let64L (ji65)))) (ds := []) #[false, false, false, false, false, false, false, false, false, false, false, false, false, false, false] (by kernel_rfl) rfl rfl ⟨((HB.out.cell (World.block_lt_of_cell? w _ hw183_0)).trans hw183_0), ((HB.out.cell (World.block_lt_of_cell? w _ hw184_0)).trans hw184_0)⟩ (fun hHeld => ?_); refine with_tabW text_Base64.tab9 text_Base64.bits9 (fun HT_ HW_ => ?_)
                            generalize wr.drew = w69 at HO_3 HB hx183_0 hx184_0 hHeld ⊢
                            refine pure_ (i := 0) (N := some 78) (v := ?_) (a' := ?_) #[true, false, false, false, false, false, false, false, false, false, false, false, false, false, false] rfl rfl (any_of HT_.out (by kernel_rfl)) (fun _ _ _ h => h) (Or.inl ⟨by rfl, ?_⟩) ?_ ?_
                            rotate_left
                            · intro w'
                              go_simp
                              with_reducible rfl
                            rotate_left
                            · simp only [Act.put, List.setIfInBounds_toArray, List.set_cons_zero, List.set_cons_succ, i64_w, i32_w]
                              rfl
                            refine pure_ (i := 1) (N := some 79) (v := ?_) (a' := ?_) #[true, true, false, false, false, false, false, false, false, false, false, false, false, false, false] rfl rfl (any_of HT_.out (by kernel_rfl)) (fun _ _ _ h => h) (Or.inl ⟨by rfl, ?_⟩) ?_ ?_
                            rotate_left
                            · intro w'
                              go_simp
                              with_reducible rfl
                            rotate_left
                            · simp only [Act.put, List.setIfInBounds_toArray, List.set_cons_zero, List.set_cons_succ, i64_w, i32_w]
                              rfl
                            refine pure_ (i := 6) (N := some 84) (v := ?_) (a' := ?_) #[true, true, false, false, false, false, true, false, false, false, false, false, false, false, false] rfl rfl (any_of HT_.out (by kernel_rfl)) (fun _ _ _ h => h) (Or.inl ⟨by rfl, ?_⟩) ?_ ?_
                            rotate_left
                            · intro w'
                              go_simp
                              with_reducible rfl
                            rotate_left
                            · simp only [Act.put, List.setIfInBounds_toArray, List.set_cons_zero, List.set_cons_succ, i64_w, i32_w]
                              rfl
                            refine take_ (i := 2) (N := some 80) (v := ?_) (a' := ?_) #[true, true, true, false, false, false, true, false, false, false, false, false, false, false, false] rfl rfl (take_ofW HT_.out HW_.out (by kernel_rfl)) (fun _ _ _ h => h) (Or.inl ⟨by rfl, ?_⟩) hHeld ?_ ?_
                            rotate_left
                            · rintro w' ⟨s0, s1⟩
                              go_simp
                              with_reducible rfl
                            rotate_left
                            · simp only [Act.put, List.setIfInBounds_toArray, List.set_cons_zero, List.set_cons_succ, i64_w, i32_w]
                              rfl
                            refine pure_ (i := 3) (N := some 81) (v := ?_) (a' := ?_) #[true, true, true, true, false, false, true, false, false, false, false, false, false, false, false] rfl rfl (any_of HT_.out (by kernel_rfl)) (fun _ _ _ h => h) (Or.inl ⟨by rfl, ?_⟩) ?_ ?_
                            rotate_left
                            · intro w'
                              go_simp
                              with_reducible rfl
                            rotate_left
                            · simp only [Act.put, List.setIfInBounds_toArray, List.set_cons_zero, List.set_cons_succ, i64_w, i32_w]
                              rfl
                            refine pure_ (i := 4) (N := some 82) (v := ?_) (a' := ?_) #[true, true, true, true, true, false, true, false, false, false, false, false, false, false, false] rfl rfl (any_of HT_.out (by kernel_rfl)) (fun _ _ _ h => h) (Or.inl ⟨by rfl, ?_⟩) ?_ ?_
                            rotate_left
                            · intro w'
                              go_simp
                              with_reducible rfl
                            rotate_left
                            · simp only [Act.put, List.setIfInBounds_toArray, List.set_cons_zero, List.set_cons_succ, i64_w, i32_w]
                              rfl
                            refine take_ (i := 5) (N := some 83) (v := ?_) (a' := ?_) #[true, true, true, true, true, true, true, false, false, false, false, false, false, false, false] rfl rfl (take_ofW HT_.out HW_.out (by kernel_rfl)) (fun _ _ _ h => h) (Or.inl ⟨by rfl, ?_⟩) hHeld ?_ ?_
                            rotate_left
                            · rintro w' ⟨s0, s1⟩
                              go_simp
                              with_reducible rfl
                            rotate_left
                            · simp only [Act.put, List.setIfInBounds_toArray, List.set_cons_zero, List.set_cons_succ, i64_w, i32_w]
                              rfl
                            refine take_ (i := 7) (N := some 85) (v := ?_) (a' := ?_) #[true, true, true, true, true, true, true, true, false, false, false, false, false, false, false] rfl rfl (take_ofW HT_.out HW_.out (by kernel_rfl)) (fun _ _ _ h => h) (Or.inl ⟨by rfl, ?_⟩) hHeld ?_ ?_
                            rotate_left
                            · rintro w' ⟨s0, s1⟩
                              go_simp
                              with_reducible rfl
                            rotate_left
                            · simp only [Act.put, List.setIfInBounds_toArray, List.set_cons_zero, List.set_cons_succ, i64_w, i32_w]
                              rfl
                            refine pure_ (i := 8) (N := some 86) (v := ?_) (a' := ?_) #[true, true, true, true, true, true, true, true, true, false, false, false, false, false, false] rfl rfl (any_of HT_.out (by kernel_rfl)) (fun _ _ _ h => h) (Or.inl ⟨by rfl, ?_⟩) ?_ ?_
                            rotate_left
                            · intro w'
                              go_simp
                              with_reducible rfl
                            rotate_left
                            · simp only [Act.put, List.setIfInBounds_toArray, List.set_cons_zero, List.set_cons_succ, i64_w, i32_w]
                              rfl
                            refine pure_ (i := 9) (N := some 87) (v := ?_) (a' := ?_) #[true, true, true, true, true, true, true, true, true, true, false, false, false, false, false] rfl rfl (any_of HT_.out (by kernel_rfl)) (fun _ _ _ h => h) (Or.inl ⟨by rfl, ?_⟩) ?_ ?_
                            rotate_left
                            · intro w'
                              go_simp
                              with_reducible rfl
                            rotate_left
                            · simp only [Act.put, List.setIfInBounds_toArray, List.set_cons_zero, List.set_cons_succ, i64_w, i32_w]
                              rfl
                            refine pure_ (i := 10) (N := some 88) (v := ?_) (a' := ?_) #[true, true, true, true, true, true, true, true, true, true, true, false, false, false, false] rfl rfl (any_of HT_.out (by kernel_rfl)) (fun _ _ _ h => h) (Or.inl ⟨by rfl, ?_⟩) ?_ ?_
                            rotate_left
                            · intro w'
                              go_simp
                              with_reducible rfl
                            rotate_left
                            · simp only [Act.put, List.setIfInBounds_toArray, List.set_cons_zero, List.set_cons_succ, i64_w, i32_w]
                              rfl
                            refine take_ (i := 11) (N := some 89) (v := ?_) (a' := ?_) #[true, true, true, true, true, true, true, true, true, true, true, true, false, false, false] rfl rfl (take_ofW HT_.out HW_.out (by kernel_rfl)) (fun _ _ _ h => h) (Or.inl ⟨by rfl, ?_⟩) hHeld ?_ ?_
                            rotate_left
                            · rintro w' ⟨s0, s1⟩
                              go_simp
                              with_reducible rfl
                            rotate_left
                            · simp only [Act.put, List.setIfInBounds_toArray, List.set_cons_zero, List.set_cons_succ, i64_w, i32_w]
                              rfl
                            refine one_ (i := 12) (N := some 90) #[true, true, true, true, true, true, true, true, true, true, true, true, true, false, false] rfl rfl (one_of HT_.out (by kernel_rfl)) (by decide) (fun K hK => ?_)
                            refine Kd.R_lit_step (Kd.int .u8) _ 5 ?hg (N := 90) ?hd (xs := ([rd let64L (ji61), rd let64L (ji65), 61, 61] : List Int)) (inner := [.int .u8 (rd let64L (ji61)), .int .u8 (rd let64L (ji65)), .int .u8 61, .int .u8 61]) (ok := fun _ => True) (okp := fun _ => True) ?hr ?hp (fun _ hk => hk) trivial (Below.refl _ _) (Nat.le_refl _) (by simp) ?_; (case hd => rfl); (case hg => rfl); (case hr => first | (go_simp; done) | (go_simp; rfl)); (case hp => exact (Reps.one (show Kd.M (Kd.int .u8) _ _ _ (rd let64L (ji61)) [.int .u8 (rd let64L (ji61))] from rfl) (Reps.one (show Kd.M (Kd.int .u8) _ _ _ (rd let64L (ji65)) [.int .u8 (rd let64L (ji65))] from rfl) (Reps.one (show Kd.M (Kd.int .u8) _ _ _ 61 [.int .u8 61] from rfl) (Reps.one (show Kd.M (Kd.int .u8) _ _ _ 61 [.int .u8 61] from rfl) (Reps.none _ _))))))
                            intro v186 w70 ho71 hb hg_ hnew_
                            clear hg_ hnew_
                            (first | rw [← Ny185.out] at ho71 | (simp only [Int.reduceToNat] at ho71; rw [← Ny185.out] at ho71))
                            have n0_ := Aside0.mk (Kd.R_elder' (by (with_reducible repeat (first | apply Kd.R_alloc | apply Kd.R_drewN | apply Kd.R_drew)); exact HO_3.out) (Kd.R_base ho71) hb)
                            have n1_ := Aside0.mk (Kd.R_lower (Kd.R_new' ho71 (Kd.R_lt (by (with_reducible repeat (first | apply Kd.R_alloc | apply Kd.R_drewN | apply Kd.R_drew)); exact HO_3.out))) (below_size (by repeat (first | (with_reducible first | exact HB.out | apply below_alloc | apply pw_below_drewN | apply below_drew1) | exact HB.out))))
                            have n2_ := Aside0.mk (below_step (by repeat (first | (with_reducible first | exact HB.out | apply below_alloc | apply pw_below_drewN | apply below_drew1) | exact HB.out)) hb)
                            clear HO_3
                            clear HB
                            have HO_3 := n0_
                            have HO187 := n1_
                            have HB := n2_
                            clear n0_ n1_ n2_
                            clear hb ho71
                            obtain ⟨Ao73, co73, eo73⟩ := Kd.R_slice HO187.out
                            (first | subst eo73 | (injection eo73 with f1_ f2_ f3_; have f4_ := f1_.symm; have f5_ := f3_.symm; clear f1_ f2_ f3_; subst f4_; subst f5_))
                            refine hK.out _ _ ⟨((HB.out.cell (World.block_lt_of_cell? w _ hw183_0)).trans hw183_0), ((HB.out.cell (World.block_lt_of_cell? w _ hw184_0)).trans hw184_0)⟩ (fun hHeld => ?_)
                            clear hK K
                            refine norm_ (a' := ?_) ?_ ?_
                            rotate_left
                            · show Act.put _ (some 90) _ = _
                              simp only [Act.put, List.setIfInBounds_toArray, List.set_cons_zero, List.set_cons_succ, i64_w, i32_w]
                              rfl
                            refine one_ (i := 13) (N := some 91) #[true, true, true, true, true, true, true, true, true, true, true, true, true, true, false] rfl rfl (one_of HT_.out (by kernel_rfl)) (by decide) (fun K hK => ?_)
                            refine Kd.R_append_rows_step (Kd.int .u8) (w0 := w) w.heap.size (by rfl) (.tmp 78) (.tmp 90) 42 5 (.int .u8 0) 1 rfl Tryd.underlying42 info5 rfl (by decide) (by omega) u3 x3_1 y185 _ _ _ (fun k_ => some k_ ≠ (.slice Ao73 y185.length co73 : Value).ownBlock) (fun _ => False) rfl rfl ?aO ?aR (fun _ _ h => h) (fun _ h => h.elim) ?aF ?aB ?aS ?aL ?_
                            (case aR => repeat (first | exact (Kd.R_reads' HO187.out).2.2 | (with_reducible refine Kd.C_alloc ?_ _) | (with_reducible refine Kd.C_drewN ?_ _) | (with_reducible refine Kd.C_drew ?_)))
                            (case aB => exact (by repeat (first | (with_reducible first | exact HB.out | apply below_alloc | apply pw_below_drewN | apply below_drew1) | exact HB.out)))
                            (case aF => exact (fun k_ hk => Kd.fresh' (Kd.R_lt (by (with_reducible repeat (first | apply Kd.R_alloc | apply Kd.R_drewN | apply Kd.R_drew)); exact HO187.out)) k_ hk))
                            (case aO => exact (by (with_reducible repeat (first | apply Kd.R_alloc | apply Kd.R_drewN | apply Kd.R_drew)); exact Kd.R_mono HO_3.out (fun _ hk => hk.2)))
                            (case aS => exact (below_size (by repeat (first | (with_reducible first | exact HB.out | apply below_alloc | apply pw_below_drewN | apply below_drew1) | exact HB.out))))
                            (case aL => have := LMc68.out; omega)
                            intro v189 w72 ho hb hg hat
                            rw [← Ny188.out] at ho
                            have n0_ := Aside0.mk (Kd.R_after (ok := (fun _ => True)) (by (with_reducible repeat (first | apply Kd.R_alloc | apply Kd.R_drewN | apply Kd.R_drew)); exact HO187.out) hg hat)
                            have n1_ := Aside0.mk (hb)
                            have n2_ := Aside0.mk (ho)
                            clear HO187
                            clear HB
                            clear HO_3
                            have HO187 := n0_
                            have HB := n1_
                            have HO190 := n2_
                            clear n0_ n1_ n2_
                            clear ho hb hg hat
                            refine hK.out _ _ ⟨((HB.out.cell (World.block_lt_of_cell? w _ hw183_0)).trans hw183_0), ((HB.out.cell (World.block_lt_of_cell? w _ hw184_0)).trans hw184_0)⟩ (fun hHeld => ?_)
                            clear hK K
                            refine norm_ (a' := ?_) ?_ ?_
                            rotate_left
                            · show Act.put _ (some 91) _ = _
                              simp only [Act.put, List.setIfInBounds_toArray, List.set_cons_zero, List.set_cons_succ, i64_w, i32_w]
                              rfl
                            refine pure_ (i := 14) (N := some 3) (v := ?_) (a' := ?_) #[true, true, true, true, true, true, true, true, true, true, true, true, true, true, true] rfl rfl (any_of HT_.out (by kernel_rfl)) (fun _ _ _ h => h) (Or.inl ⟨by rfl, ?_⟩) ?_ ?_
                            rotate_left
                            · intro w'
                              go_simp
                              with_reducible rfl
                            rotate_left
                            · simp only [Act.put, List.setIfInBounds_toArray, List.set_cons_zero, List.set_cons_succ, i64_w, i32_w]
                              rfl
                            refine done_ (done_of HT_.out (by kernel_rfl)) ?_
                            have hcv74 := own_string (P := Tryd.prog) Tryd.underlying42 Tryd.underlying5 Tryd.underlying9 (Kd.own_of_R HO190.out)
                            try go_wp2
                            go_ret
                            exact ⟨by first | rfl | (simp [errW_none, errW_some] <;> rfl) | (simp only [← hji2, ← hji61, ← hji65]; first | rfl | (simp [errW_none, errW_some] <;> rfl)) | (simp [*, errW_none, errW_some] <;> rfl), by repeat (first | (with_reducible first | exact HB.out | apply below_alloc | apply pw_below_drewN | apply below_drew1) | exact HB.out)⟩
                          · rw [if_neg c68] at H
                            exact absurd H (by simp)
                        · rw [if_neg c67] at H
                          exact absurd H (by simp)
                      · rw [if_neg c66] at H
                        exact absurd H (by simp)
                    · rw [if_neg c63] at H
                      exact absurd H (by simp)
                  · rw [if_neg c62] at H
                    exact absurd H (by simp)
                · rw [if_neg c59] at H
                  exact absurd H (by simp)
              · rw [if_neg c58] at H
                have c58b0 : ((x0_1.size : Int) == 1) = false := beq_eq_false_iff_ne.mpr c58
                have c58b1 : ((x0_1.size : Int) != 1) = true := bne_iff_ne.mpr c58
                obtain rfl := Option.some.inj H
                have hcv75 := own_string (P := Tryd.prog) Tryd.underlying42 Tryd.underlying5 Tryd.underlying9 (Kd.own_of_R HO_3.out)
                go_wp2
                go_ret
                exact ⟨by first | rfl | (simp [errW_none, errW_some] <;> rfl) | (simp only [← hji2]; first | rfl | (simp [errW_none, errW_some] <;> rfl)) | (simp [*, errW_none, errW_some] <;> rfl), by repeat (first | (with_reducible first | exact HB.out | apply below_alloc | apply pw_below_drewN | apply below_drew1) | exact HB.out)⟩
    · rw [if_neg c4] at H
      exact absurd H (by simp)
  · rw [if_neg c3] at H
    exact absurd H (by simp)

end Go.Proofs.YtogkibhbkapobaaDoor.XA

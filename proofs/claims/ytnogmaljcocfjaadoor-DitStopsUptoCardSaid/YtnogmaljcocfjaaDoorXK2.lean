-- PRINTED by print.py (a twelfth state) out of the translation. Not trusted: Lean checks it.
import Derived.Test.YtnogmaljcocfjaaDoorXK0
import Derived.Test.YtnogmaljcocfjaaDoorXK1
namespace Go.Proofs.YtnogmaljcocfjaaDoor.XK
open Go.Proofs.YtnogmaljcocfjaaDoor.XE
open Go.RowKit Go.Proofs.YtnogmaljcocfjaaDoorW.PrintWords Go.Proofs.YtnogmaljcocfjaaDoorW.PrintLast Go.Proofs.YtnogmaljcocfjaaDoorW.PrintMore
attribute [local go_sem] max2_int min2_int max_two min_two max_three min_three max_four min_four   -- for this text's walks alone
set_option linter.unusedVariables false
set_option linter.unusedSimpArgs false

/-! ### rosterlaw09_front: function 31 -/
def rosterlaw09_front.f (k : Nat) (l0 : List ByteArray) (l1 : List ByteArray) : Option (Bool) := if (l0.length : Int) ≤ (l1.length : Int) then (if 0 ≤ (l0.length : Int) then ((rosterlaw09_sameTexts.f k l0 (l1.take ((l0.length : Int) : Int).toNat)).bind fun t116 => (some t116)) else (none)) else (some false)
theorem rosterlaw09_front.mono : ∀ a0 a1 k, LeO (rosterlaw09_front.f k a0 a1) (rosterlaw09_front.f (k + 1) a0 a1) := by
  intro a0 a1 k
  unfold rosterlaw09_front.f
  repeat' first
      | (with_reducible exact rosterlaw09_sameTexts.mono _ _ _)
      | (with_reducible exact LeO.refl _)
      | (with_reducible exact LeO.none _)
      | (with_reducible refine LeO.ite ?_ ?_)
      | (with_reducible refine LeO.bind ?_ (fun _ => ?_))
      | exact rosterlaw09_sameTexts.mono _ _ _
      | exact LeO.none _
      | refine LeO.ite ?_ ?_
      | refine LeO.bind ?_ (fun _ => ?_)
set_option maxHeartbeats 8000000 in
set_option maxRecDepth 100000 in
theorem rosterlaw09_front.calls (k : Nat) (A0 : Option Addr) (c0 : Nat) (l0 : List ByteArray) (A1 : Option Addr) (c1 : Nat) (l1 : List ByteArray) (r : Bool) (w : World) (hr0 : Kd.C Kd.string w A0 l0.length l0) (hc0 : l0.length ≤ c0) (hr1 : Kd.C Kd.string w A1 l1.length l1) (hc1 : l1.length ≤ c1) (h : rosterlaw09_front.f k l0 l1 = some r) :
    Calls Tryd.prog 31 #[.slice A0 l0.length c0, .slice A1 l1.length c1] w fun e w' => e = .returned (.bool r) ∧ Drawn0 w w' := by
  have HR0 := Aside0.mk hr0
  have HC0 := Aside0.mk hc0
  clear hr0 hc0
  have HR1 := Aside0.mk hr1
  have HC1 := Aside0.mk hc1
  clear hr1 hc1
  have H : (if (l0.length : Int) ≤ (l1.length : Int) then (if 0 ≤ (l0.length : Int) then ((rosterlaw09_sameTexts.f k l0 (l1.take ((l0.length : Int) : Int).toNat)).bind fun t116 => (some t116)) else (none)) else (some false)) = some r := h
  clear h
  by_cases c3 : (l0.length : Int) ≤ (l1.length : Int)
  · rw [if_pos c3] at H
    have c3b0 : decide ((l0.length : Int) ≤ (l1.length : Int)) = true := decide_eq_true c3
    have c3b1 : decide (l0.length ≤ l1.length) = true := decide_eq_true (Int.ofNat_le.mp c3)
    clear c3
    by_cases c4 : 0 ≤ (l0.length : Int)
    · rw [if_pos c4] at H
      have c4b0 := eq_true c4
      have c4b1 : decide (0 ≤ (l0.length : Int)) = true := decide_eq_true c4
      clear c4
      have c5b0 := eq_true (of_decide_eq_true (by first | (with_reducible assumption) | assumption) : (l0.length : Int) ≤ (l1.length : Int))
      replace H := Option.bind_eq_some_iff.mp H
      obtain ⟨t116, A60, H⟩ := H
      replace H : (some t116) = some r := H
      have A6 := Aside0.mk A60
      clear A60
      obtain rfl := Option.some.inj H
      obtain ⟨i07, hi07, _, hsz7, _⟩ := info_parts info9
      obtain ⟨hcut7, hA7, hC7⟩ := print_take_of (P := Tryd.prog) Value.string (⟨#[]⟩ : ByteArray) 39 9 .i64 Tryd.underlying39 hi07 hsz7 A1 c1 l1 (l0.length : Int) (of_decide_eq_true (by first | (with_reducible assumption) | assumption)) (of_decide_eq_true (by first | (with_reducible assumption) | assumption)) HC1.out
      have HR115 := Aside0.mk (Kd.C_of_reads (h1 := fun _ => rfl) (hA7 _ (Kd.reads_of_C HR1.out)))
      have HC115 := Aside0.mk hC7
      clear hA7 hC7 hi07 hsz7
      go_enter Tryd.func31, Tryd.ntmps31
      go_wp2_with (first | (go_at_call 41; refine calls_of_args (args' := #[.slice A0 l0.length c0, .slice A1 (l1.take ((l0.length : Int) : Int).toNat).length c1]) (by first | (rw [show (l1.take ((l0.length : Int) : Int).toNat).length = (l0.length : Int).toNat from (by rw [List.length_take]; have h_ : ((l0.length : Int) : Int) ≤ (l1.length : Int) := of_decide_eq_true (by first | (with_reducible assumption) | assumption); omega)] <;> rfl) | rfl | (simp; done) | (simp; omega)) ?_; (with_reducible refine (rosterlaw09_sameTexts.calls k _ _ l0 _ _ (l1.take ((l0.length : Int) : Int).toNat) t116 _ ?side1 ?side2 ?side3 ?side4 A6.out).mono ?_); (case side1 => repeat (first | exact HR0.out | (with_reducible refine Kd.C_alloc ?_ _) | (with_reducible refine Kd.C_drewN ?_ _) | (with_reducible refine Kd.C_drew ?_))); (case side2 => exact HC0.out); (case side3 => repeat (first | exact HR115.out | (with_reducible refine Kd.C_alloc ?_ _) | (with_reducible refine Kd.C_drewN ?_ _) | (with_reducible refine Kd.C_drew ?_))); (case side4 => exact HC115.out); rintro e w' ⟨rfl, ⟨nd, rfl⟩⟩))
      go_ret
      exact ⟨by first | rfl | (simp; done) | (simp [*]; done), by repeat (first | exact Drawn0.refl _ | apply Drawn0.step)⟩
    · rw [if_neg c4] at H
      exact absurd H (by simp)
  · rw [if_neg c3] at H
    have c3b0 : decide ((l0.length : Int) ≤ (l1.length : Int)) = false := decide_eq_false c3
    have c3b1 : decide (l0.length ≤ l1.length) = false := decide_eq_false (fun h => c3 (Int.ofNat_le.mpr h))
    clear c3
    obtain rfl := Option.some.inj H
    go_enter Tryd.func31, Tryd.ntmps31
    go_wp2
    go_ret
    exact ⟨by first | rfl | (simp; done) | (simp [*]; done), by repeat (first | exact Drawn0.refl _ | apply Drawn0.step)⟩

/-! ### rosterlaw09_longer: function 23 -/
def rosterlaw09_longer.f (l0 : List ByteArray) (a1 : ByteArray) : Option (List ByteArray) := (some (([] : List ByteArray) : List ByteArray)).bind fun y117 => (if y117.length + l0.length < 8796093022208 then ((some (y117 ++ l0 : List ByteArray)).bind fun y120 => (if y120.length < 8796093022208 then (some (y120 ++ [a1])) else (none))) else (none))
set_option maxHeartbeats 8000000 in
set_option maxRecDepth 100000 in
theorem rosterlaw09_longer.calls (A0 : Option Addr) (c0 : Nat) (l0 : List ByteArray) (a1 : ByteArray) (r : List ByteArray) (w : World) (hr0 : Kd.C Kd.string w A0 l0.length l0) (hc0 : l0.length ≤ c0) (h : rosterlaw09_longer.f l0 a1 = some r) :
    Calls Tryd.prog 23 #[.slice A0 l0.length c0, .string a1] w fun e w' => ∃ v0_ : Value, e = .returned (v0_) ∧ Kd.R Kd.string 9 w' w.heap.size (fun _ => True) v0_ r ∧ Below w.heap.size w w' := by
  have HR0 := Aside0.mk hr0
  have HC0 := Aside0.mk hc0
  clear hr0 hc0
  have HB := Aside0.mk (Below.refl w.heap.size w)
  have H : ((some (([] : List ByteArray) : List ByteArray)).bind fun y117 => (if y117.length + l0.length < 8796093022208 then ((some (y117 ++ l0 : List ByteArray)).bind fun y120 => (if y120.length < 8796093022208 then (some (y120 ++ [a1])) else (none))) else (none))) = some r := h
  clear h
  obtain ⟨y117, hy117⟩ : ∃ y_ : List ByteArray, y_ = (([] : List ByteArray)) := ⟨_, rfl⟩
  replace H : (if y117.length + l0.length < 8796093022208 then ((some (y117 ++ l0 : List ByteArray)).bind fun y120 => (if y120.length < 8796093022208 then (some (y120 ++ [a1])) else (none))) else (none)) = some r := by first | (rw [hy117]; with_reducible exact H) | (have H2_ := (Option.bind_some _ _).symm.trans H; rw [hy117]; with_reducible exact H2_) | (have H2_ := (Option.bind_some _ _).symm.trans H; with_reducible exact H2_) | with_reducible exact H | (rw [hy117]; exact H) | exact H
  have Ny117 := Aside0.mk hy117
  clear hy117
  by_cases c3 : y117.length + l0.length < 8796093022208
  · rw [if_pos c3] at H
    have LMc3 := Aside0.mk c3
    clear c3
    obtain ⟨y120, hy120⟩ : ∃ y_ : List ByteArray, y_ = (y117 ++ l0) := ⟨_, rfl⟩
    replace H : (if y120.length < 8796093022208 then (some (y120 ++ [a1])) else (none)) = some r := by first | (rw [hy120]; with_reducible exact H) | (have H2_ := (Option.bind_some _ _).symm.trans H; rw [hy120]; with_reducible exact H2_) | (have H2_ := (Option.bind_some _ _).symm.trans H; with_reducible exact H2_) | with_reducible exact H | (rw [hy120]; exact H) | exact H
    have Ny120 := Aside0.mk hy120
    clear hy120
    by_cases c4 : y120.length < 8796093022208
    · rw [if_pos c4] at H
      have LMc4 := Aside0.mk c4
      clear c4
      obtain ⟨y123, hy123⟩ : ∃ y_ : List ByteArray, y_ = (y120 ++ [a1]) := ⟨_, rfl⟩
      replace H : (some y123) = some r := by first | (rw [hy123]; with_reducible exact H) | (have H2_ := (Option.bind_some _ _).symm.trans H; rw [hy123]; with_reducible exact H2_) | (have H2_ := (Option.bind_some _ _).symm.trans H; with_reducible exact H2_) | with_reducible exact H | (rw [hy123]; exact H) | exact H
      have Ny123 := Aside0.mk hy123
      clear hy123
      obtain rfl := Option.some.inj H
      go_enter Tryd.func23, Tryd.ntmps23
      go_wp2_with (first | ((with_reducible refine gate_dst (N := 6) rfl ?_); refine Kd.R_lit Kd.string _ 9 ?hg (N := 6) ?hd (xs := ([] : List ByteArray)) (inner := []) (ok := fun _ => True) (okp := fun _ => True) ?hr ?hp (fun _ hk => hk) trivial (Below.refl _ _) (Nat.le_refl _) (by simp) ?_; (case hd => rfl); (case hg => rfl); (case hr => first | (go_simp; done) | (go_simp; rfl)); (case hp => exact (Reps.none _ _)); intro v118 w5 ho6 hb hg_ hnew_; clear hg_ hnew_; (first | rw [← Ny117.out] at ho6 | (simp only [Int.reduceToNat] at ho6; rw [← Ny117.out] at ho6)); have n0_ := Aside0.mk (Kd.R_lower ho6 (below_size (by repeat (first | (with_reducible first | exact HB.out | apply below_alloc | apply pw_below_drewN | apply below_drew1) | exact HB.out)))); have n1_ := Aside0.mk (below_step (by repeat (first | (with_reducible first | exact HB.out | apply below_alloc | apply pw_below_drewN | apply below_drew1) | exact HB.out)) hb); clear HB; have HO119 := n0_; have HB := n1_; clear n0_ n1_; clear hb ho6) | ((with_reducible refine gate_builtin (b := .append) (xs := #[.tmp 6, .tmp 7]) rfl ?_); at_builtin; refine Kd.R_append_rows Kd.string (w0 := w) w.heap.size rfl (.tmp 6) (.tmp 7) 39 9 (.string ⟨#[]⟩) 16 rfl Tryd.underlying39 info9 rfl (by decide) (by omega) v118 y117 l0 _ _ _ (fun _ => True) (fun _ => False) rfl rfl ?aO ?aR (fun _ _ h => h) (fun _ h => h.elim) ?aF ?aB ?aS ?aL ?_; (case aR => repeat (first | exact (Kd.C_below HR0.out HB.out) | (with_reducible refine Kd.C_alloc ?_ _) | (with_reducible refine Kd.C_drewN ?_ _) | (with_reducible refine Kd.C_drew ?_))); (case aB => exact (by repeat (first | (with_reducible first | exact HB.out | apply below_alloc | apply pw_below_drewN | apply below_drew1) | exact HB.out))); (case aF => exact (fun _ _ => trivial)); (case aO => exact (by (with_reducible repeat (first | apply Kd.R_alloc | apply Kd.R_drewN | apply Kd.R_drew)); exact HO119.out)); (case aS => exact (below_size (by repeat (first | (with_reducible first | exact HB.out | apply below_alloc | apply pw_below_drewN | apply below_drew1) | exact HB.out)))); (case aL => have := LMc3.out; omega); intro v121 w7 ho hb hg hat; rw [← Ny120.out] at ho; have n0_ := Aside0.mk (hb); have n1_ := Aside0.mk (ho); clear HB; clear HO119; have HB := n0_; have HO122 := n1_; clear n0_ n1_; clear ho hb hg hat) | ((with_reducible refine gate_builtin (b := .append) (xs := #[.tmp 9, .tmp 11]) rfl ?_); at_builtin; refine Kd.R_append Kd.string (w0 := w) w.heap.size rfl (.tmp 9) (.tmp 11) 39 9 (.string ⟨#[]⟩) 16 rfl Tryd.underlying39 info9 rfl (by decide) (by omega) v121 y120 a1 [.string a1] (fun _ => True) (fun _ => False) rfl rfl ?aP (fun _ hk => hk.elim) ?aF ?aO ?aB ?aS ?aL ?_; (case aP => exact rfl); (case aB => exact (by repeat (first | (with_reducible first | exact HB.out | apply below_alloc | apply pw_below_drewN | apply below_drew1) | exact HB.out))); (case aF => exact (fun _ _ => trivial)); (case aO => exact (by (with_reducible repeat (first | apply Kd.R_alloc | apply Kd.R_drewN | apply Kd.R_drew)); exact HO122.out)); (case aS => exact (below_size (by repeat (first | (with_reducible first | exact HB.out | apply below_alloc | apply pw_below_drewN | apply below_drew1) | exact HB.out)))); (case aL => have := LMc4.out; omega); intro v124 w8 ho hb hg hat; rw [← Ny123.out] at ho; have n0_ := Aside0.mk (hb); have n1_ := Aside0.mk (ho); clear HB; clear HO122; have HB := n0_; have HO125 := n1_; clear n0_ n1_; clear ho hb hg hat))
      go_ret
      exact ⟨_, by first | rfl | (simp [errW_none, errW_some] <;> rfl) | (simp [*, errW_none, errW_some] <;> rfl), by (with_reducible repeat (first | apply Kd.R_alloc | apply Kd.R_drewN | apply Kd.R_drew)); exact HO125.out, by repeat (first | (with_reducible first | exact HB.out | apply below_alloc | apply pw_below_drewN | apply below_drew1) | exact HB.out)⟩
    · rw [if_neg c4] at H
      exact absurd H (by simp)
  · rw [if_neg c3] at H
    exact absurd H (by simp)

/-! ### rosterlaw09_sameEntry: function 26 -/
mutual
def rosterlaw09_sameEntry.j0 : Nat → Bool → Int → ByteArray → List ByteArray → List (S74) → Int → ByteArray → List ByteArray → List (S74) → Option (Bool)
  | 0, _, _, _, _, _, _, _, _, _ => none
  | k + 1, x36, x127000, x127001, x127002, x127003, x128000, x128001, x128002, x128003 => if x36 = true then (some false) else (rosterlaw09_sameEntry.l0 k 0 x127000 x127001 x127002 x127003 x128000 x128001 x128002 x128003)
def rosterlaw09_sameEntry.l0 : Nat → Int → Int → ByteArray → List ByteArray → List (S74) → Int → ByteArray → List ByteArray → List (S74) → Option (Bool)
  | 0, _, _, _, _, _, _, _, _, _ => none
  | k + 1, x5, x127000, x127001, x127002, x127003, x128000, x128001, x128002, x128003 => if x5 < (x127003.length : Int) then (if 0 ≤ x5 then (if x5 < (x128003.length : Int) then (if ((rd_T74 x127003 x5).f0).toList = ((rd_T74 x128003 x5).f0).toList then (if ((rd_T74 x127003 x5).f1).toList = ((rd_T74 x128003 x5).f1).toList then ((rosterlaw09_sameTexts.f k ((rd_T74 x127003 x5).f2) ((rd_T74 x128003 x5).f2)).bind fun t133 => (if t133 = true then (rosterlaw09_sameEntry.l0 k (wrap64 (x5 + 1)) x127000 x127001 x127002 x127003 x128000 x128001 x128002 x128003) else (some false))) else (some false)) else (some false)) else (none)) else (none)) else (some true)
end
def rosterlaw09_sameEntry.f (k : Nat) (a0_0 : Int) (a0_1 : ByteArray) (l0_2 : List ByteArray) (l0_3 : List (S74)) (a1_0 : Int) (a1_1 : ByteArray) (l1_2 : List ByteArray) (l1_3 : List (S74)) : Option (Bool) := if a0_0 = a1_0 then (if a0_1.toList = a1_1.toList then ((rosterlaw09_sameTexts.f k l0_2 l1_2).bind fun t128 => (if t128 = true then (rosterlaw09_sameEntry.j0 k ((l0_3.length : Int) != (l1_3.length : Int)) a0_0 a0_1 l0_2 l0_3 a1_0 a1_1 l1_2 l1_3) else (rosterlaw09_sameEntry.j0 k true a0_0 a0_1 l0_2 l0_3 a1_0 a1_1 l1_2 l1_3))) else (rosterlaw09_sameEntry.j0 k true a0_0 a0_1 l0_2 l0_3 a1_0 a1_1 l1_2 l1_3)) else (rosterlaw09_sameEntry.j0 k true a0_0 a0_1 l0_2 l0_3 a1_0 a1_1 l1_2 l1_3)
theorem rosterlaw09_sameEntry.mono_l : ∀ k, (∀ y0 y1 y2 y3 y4 y5 y6 y7 y8, LeO (rosterlaw09_sameEntry.j0 k y0 y1 y2 y3 y4 y5 y6 y7 y8) (rosterlaw09_sameEntry.j0 (k + 1) y0 y1 y2 y3 y4 y5 y6 y7 y8)) ∧ (∀ y0 y1 y2 y3 y4 y5 y6 y7 y8, LeO (rosterlaw09_sameEntry.l0 k y0 y1 y2 y3 y4 y5 y6 y7 y8) (rosterlaw09_sameEntry.l0 (k + 1) y0 y1 y2 y3 y4 y5 y6 y7 y8))
  | 0 => ⟨fun _ _ _ _ _ _ _ _ _ r h => by simp [rosterlaw09_sameEntry.j0] at h, fun _ _ _ _ _ _ _ _ _ r h => by simp [rosterlaw09_sameEntry.l0] at h⟩
  | k + 1 => by
    obtain ⟨ih0, ih1⟩ := rosterlaw09_sameEntry.mono_l k
    refine ⟨?_, ?_⟩
    · intro y0 y1 y2 y3 y4 y5 y6 y7 y8
      unfold rosterlaw09_sameEntry.j0
      repeat' first
      | (with_reducible exact ih0 _ _ _ _ _ _ _ _ _)
      | (with_reducible exact ih1 _ _ _ _ _ _ _ _ _)
      | (with_reducible exact rosterlaw09_sameTexts.mono _ _ _)
      | (with_reducible exact LeO.refl _)
      | (with_reducible exact LeO.none _)
      | (with_reducible refine LeO.ite ?_ ?_)
      | (with_reducible refine LeO.bind ?_ (fun _ => ?_))
      | exact ih0 _ _ _ _ _ _ _ _ _
      | exact ih1 _ _ _ _ _ _ _ _ _
      | exact rosterlaw09_sameTexts.mono _ _ _
      | exact LeO.none _
      | refine LeO.ite ?_ ?_
      | refine LeO.bind ?_ (fun _ => ?_)
    · intro y0 y1 y2 y3 y4 y5 y6 y7 y8
      unfold rosterlaw09_sameEntry.l0
      repeat' first
      | (with_reducible exact ih0 _ _ _ _ _ _ _ _ _)
      | (with_reducible exact ih1 _ _ _ _ _ _ _ _ _)
      | (with_reducible exact rosterlaw09_sameTexts.mono _ _ _)
      | (with_reducible exact LeO.refl _)
      | (with_reducible exact LeO.none _)
      | (with_reducible refine LeO.ite ?_ ?_)
      | (with_reducible refine LeO.bind ?_ (fun _ => ?_))
      | exact ih0 _ _ _ _ _ _ _ _ _
      | exact ih1 _ _ _ _ _ _ _ _ _
      | exact rosterlaw09_sameTexts.mono _ _ _
      | exact LeO.none _
      | refine LeO.ite ?_ ?_
      | refine LeO.bind ?_ (fun _ => ?_)
theorem rosterlaw09_sameEntry.mono : ∀ a0 a1 a2 a3 a4 a5 a6 a7 k, LeO (rosterlaw09_sameEntry.f k a0 a1 a2 a3 a4 a5 a6 a7) (rosterlaw09_sameEntry.f (k + 1) a0 a1 a2 a3 a4 a5 a6 a7) := by
  intro a0 a1 a2 a3 a4 a5 a6 a7 k
  obtain ⟨ih0, ih1⟩ := rosterlaw09_sameEntry.mono_l k
  unfold rosterlaw09_sameEntry.f
  repeat' first
      | (with_reducible exact ih0 _ _ _ _ _ _ _ _ _)
      | (with_reducible exact ih1 _ _ _ _ _ _ _ _ _)
      | (with_reducible exact rosterlaw09_sameTexts.mono _ _ _)
      | (with_reducible exact LeO.refl _)
      | (with_reducible exact LeO.none _)
      | (with_reducible refine LeO.ite ?_ ?_)
      | (with_reducible refine LeO.bind ?_ (fun _ => ?_))
      | exact ih0 _ _ _ _ _ _ _ _ _
      | exact ih1 _ _ _ _ _ _ _ _ _
      | exact rosterlaw09_sameTexts.mono _ _ _
      | exact LeO.none _
      | refine LeO.ite ?_ ?_
      | refine LeO.bind ?_ (fun _ => ?_)
set_option maxHeartbeats 8000000 in
set_option maxRecDepth 100000 in
theorem rosterlaw09_sameEntry.calls (k : Nat) (a0_0 : Int) (a0_1 : ByteArray) (A0_2 : Option Addr) (c0_2 : Nat) (l0_2 : List ByteArray) (A0_3 : Option Addr) (c0_3 : Nat) (l0_3 : List (S74)) (a1_0 : Int) (a1_1 : ByteArray) (A1_2 : Option Addr) (c1_2 : Nat) (l1_2 : List ByteArray) (A1_3 : Option Addr) (c1_3 : Nat) (l1_3 : List (S74)) (r : Bool) (w : World) (hr0_2 : Kd.C Kd.string w A0_2 l0_2.length l0_2) (hc0_2 : l0_2.length ≤ c0_2) (hr0_3 : Kd.C k74 w A0_3 l0_3.length l0_3) (hc0_3 : l0_3.length ≤ c0_3) (hr1_2 : Kd.C Kd.string w A1_2 l1_2.length l1_2) (hc1_2 : l1_2.length ≤ c1_2) (hr1_3 : Kd.C k74 w A1_3 l1_3.length l1_3) (hc1_3 : l1_3.length ≤ c1_3) (h : rosterlaw09_sameEntry.f k a0_0 a0_1 l0_2 l0_3 a1_0 a1_1 l1_2 l1_3 = some r) :
    Calls Tryd.prog 26 #[.agg #[.int .i64 a0_0, .string a0_1, .slice A0_2 l0_2.length c0_2, .slice A0_3 l0_3.length c0_3], .agg #[.int .i64 a1_0, .string a1_1, .slice A1_2 l1_2.length c1_2, .slice A1_3 l1_3.length c1_3]] w fun e w' => e = .returned (.bool r) ∧ Below w.heap.size w w' := by
  have hu45 := Tryd.underlying45
  have hu74 := Tryd.underlying74
  have HR0_2 := Aside0.mk hr0_2
  have HC0_2 := Aside0.mk hc0_2
  clear hr0_2 hc0_2
  have HR0_3 := Aside0.mk hr0_3
  have HC0_3 := Aside0.mk hc0_3
  clear hr0_3 hc0_3
  have HR1_2 := Aside0.mk hr1_2
  have HC1_2 := Aside0.mk hc1_2
  clear hr1_2 hc1_2
  have HR1_3 := Aside0.mk hr1_3
  have HC1_3 := Aside0.mk hc1_3
  clear hr1_3 hc1_3
  have HB := Aside0.mk (Below.refl w.heap.size w)
  have H : (if a0_0 = a1_0 then (if a0_1.toList = a1_1.toList then ((rosterlaw09_sameTexts.f k l0_2 l1_2).bind fun t128 => (if t128 = true then (rosterlaw09_sameEntry.j0 k ((l0_3.length : Int) != (l1_3.length : Int)) a0_0 a0_1 l0_2 l0_3 a1_0 a1_1 l1_2 l1_3) else (rosterlaw09_sameEntry.j0 k true a0_0 a0_1 l0_2 l0_3 a1_0 a1_1 l1_2 l1_3))) else (rosterlaw09_sameEntry.j0 k true a0_0 a0_1 l0_2 l0_3 a1_0 a1_1 l1_2 l1_3)) else (rosterlaw09_sameEntry.j0 k true a0_0 a0_1 l0_2 l0_3 a1_0 a1_1 l1_2 l1_3)) = some r := h
  clear h
  have HC3 := Aside0.mk H
  clear H
  go_enter Tryd.func26, Tryd.ntmps26
  go_upto_region 1 with (first | ((with_reducible refine gate_dst (N := 2) rfl ?_); (try (refine gate_guard (by rfl) ?_; dsimp only)); refine box_event ?hg (N := 2) ?hd (cs := #[.int .i64 a0_0, .string a0_1, .slice A0_2 l0_2.length c0_2, .slice A0_3 l0_3.length c0_3]) (t := 45) ?hr ?_; (case hd => rfl); (case hg => rfl); (case hr => first | (go_simp; done) | (go_simp; rfl)); intro gb126 hg w4 hbox hb; have n0_ := Aside0.mk (below_step (by repeat (first | (with_reducible first | exact HB.out | apply below_alloc | apply pw_below_drewN | apply below_drew1) | exact HB.out)) hb); have n1_ := Aside0.mk (hbox); have n2_ := Aside0.mk ((by rw [hg]; exact (below_size (by repeat (first | (with_reducible first | exact HB.out | apply below_alloc | apply pw_below_drewN | apply below_drew1) | exact HB.out))) : w.heap.size ≤ gb126)); have n3_ := Aside0.mk ((by rw [hg]; exact (below_size (by repeat (first | (with_reducible first | exact HB.out | apply below_alloc | apply pw_below_drewN | apply below_drew1) | exact HB.out))) : w.heap.size ≤ gb126)); clear HB; have HB := n0_; have BK126 := n1_; have GW126 := n2_; have GE126 := n3_; clear n0_ n1_ n2_ n3_; clear hb hbox hg) | ((with_reducible refine gate_dst (N := 3) rfl ?_); (try (refine gate_guard (by rfl) ?_; dsimp only)); refine box_event ?hg (N := 3) ?hd (cs := #[.int .i64 a1_0, .string a1_1, .slice A1_2 l1_2.length c1_2, .slice A1_3 l1_3.length c1_3]) (t := 45) ?hr ?_; (case hd => rfl); (case hg => rfl); (case hr => first | (go_simp; done) | (go_simp; rfl)); intro gb127 hg w5 hbox hb; have n0_ := Aside0.mk (blk_below (g := gb126) (o := .cells #[.int .i64 a0_0, .string a0_1, .slice A0_2 l0_2.length c0_2, .slice A0_3 l0_3.length c0_3] 45 (0, 0)) (by (with_reducible repeat (first | refine blk_drewN ?_ _ | refine blk_drew ?_ | refine blk_alloc ?_ _)); exact BK126.out) hb); have n1_ := Aside0.mk (below_step (by repeat (first | (with_reducible first | exact HB.out | apply below_alloc | apply pw_below_drewN | apply below_drew1 | refine below_set ?_ GE126.out) | exact HB.out)) hb); have n2_ := Aside0.mk (hbox); have n3_ := Aside0.mk ((by rw [hg]; exact (below_size (by repeat (first | (with_reducible first | exact HB.out | apply below_alloc | apply pw_below_drewN | apply below_drew1 | refine below_set ?_ GE126.out) | exact HB.out))) : w.heap.size ≤ gb127)); have n4_ := Aside0.mk ((by rw [hg]; exact (below_size (by repeat (first | (with_reducible first | exact HB.out | apply below_alloc | apply pw_below_drewN | apply below_drew1 | refine below_set ?_ GE126.out) | exact HB.out))) : w.heap.size ≤ gb127)); have n5_ := Aside0.mk ((by rw [hg]; exact Nat.ne_of_lt (blk_lt (g := gb126) (o := .cells #[.int .i64 a0_0, .string a0_1, .slice A0_2 l0_2.length c0_2, .slice A0_3 l0_3.length c0_3] 45 (0, 0)) (by (with_reducible repeat (first | refine blk_drewN ?_ _ | refine blk_drew ?_ | refine blk_alloc ?_ _)); exact BK126.out)) : gb126 ≠ gb127)); have n6_ := Aside0.mk ((by rw [hg]; exact Nat.ne_of_gt (blk_lt (g := gb126) (o := .cells #[.int .i64 a0_0, .string a0_1, .slice A0_2 l0_2.length c0_2, .slice A0_3 l0_3.length c0_3] 45 (0, 0)) (by (with_reducible repeat (first | refine blk_drewN ?_ _ | refine blk_drew ?_ | refine blk_alloc ?_ _)); exact BK126.out)) : gb127 ≠ gb126)); clear BK126; clear HB; have BK126 := n0_; have HB := n1_; have BK127 := n2_; have GW127 := n3_; have GE127 := n4_; have NB126_127 := n5_; have NB127_126 := n6_; clear n0_ n1_ n2_ n3_ n4_ n5_ n6_; clear hb hbox hg))
  (try simp only [Act.put, List.setIfInBounds_toArray, List.set_cons_zero, List.set_cons_succ])
  go_cut [36] (fun v36 wc => ∃ (kq : Nat) (x36_2 : Bool), v36 = .bool x36_2 ∧ Aside0 (rosterlaw09_sameEntry.j0 kq x36_2 a0_0 a0_1 l0_2 l0_3 a1_0 a1_1 l1_2 l1_3 = some r) ∧ Aside0 (kq ≤ k) ∧ Aside0 (wc.heap[gb126]? = some (.cells #[.int .i64 a0_0, .string a0_1, (.slice A0_2 l0_2.length c0_2), (.slice A0_3 l0_3.length c0_3)] 45 (0, 0))) ∧ Aside0 (wc.heap[gb127]? = some (.cells #[.int .i64 a1_0, .string a1_1, (.slice A1_2 l1_2.length c1_2), (.slice A1_3 l1_3.length c1_3)] 45 (0, 0))) ∧ Aside0 (Below w.heap.size w wc))
  case first =>
    have H := HC3.out
    clear HC3
    by_cases c6 : a0_0 = a1_0
    · rw [if_pos c6] at H
      have c6b0 : (a0_0 == a1_0) = true := beq_iff_eq.mpr c6
      have c6b1 : (a0_0 != a1_0) = false := bne_eq_false_iff_eq.mpr c6
      clear c6
      (first | rw [c6b0] | (simp only [i64_w, i32_w]; rw [c6b0]) | skip)
      by_cases c7 : a0_1.toList = a1_1.toList
      · rw [if_pos c7] at H
        have c7b0 : (a0_1.toList == a1_1.toList) = true := beq_iff_eq.mpr c7
        have c7b1 : (a0_1.toList != a1_1.toList) = false := bne_eq_false_iff_eq.mpr c7
        clear c7
        replace H := Option.bind_eq_some_iff.mp H
        obtain ⟨t128, A80, H⟩ := H
        replace H : (if t128 = true then (rosterlaw09_sameEntry.j0 k ((l0_3.length : Int) != (l1_3.length : Int)) a0_0 a0_1 l0_2 l0_3 a1_0 a1_1 l1_2 l1_3) else (rosterlaw09_sameEntry.j0 k true a0_0 a0_1 l0_2 l0_3 a1_0 a1_1 l1_2 l1_3)) = some r := H
        have A8 := Aside0.mk A80
        clear A80
        by_cases c9 : t128 = true
        · subst c9
          have H1 : (rosterlaw09_sameEntry.j0 k ((l0_3.length : Int) != (l1_3.length : Int)) a0_0 a0_1 l0_2 l0_3 a1_0 a1_1 l1_2 l1_3) = some r := by rw [if_pos rfl] at H; exact H
          clear H
          have H := H1
          clear H1
          have H' := Aside0.mk H
          clear H
          have hnb10 := NB126_127.out
          have hnc10 := NB127_126.out
          have hcz11_0 : w5.cell? ⟨gb126, 0, none⟩ = some (.int .i64 a0_0) := (blk_cell BK126.out 0).trans rfl
          have hcz11_1 : w5.cell? ⟨gb126, 1, none⟩ = some (.string a0_1) := (blk_cell BK126.out 1).trans rfl
          have hcz11_2 : w5.cell? ⟨gb126, 2, none⟩ = some (.slice A0_2 l0_2.length c0_2) := (blk_cell BK126.out 2).trans rfl
          have hcz11_3 : w5.cell? ⟨gb126, 3, none⟩ = some (.slice A0_3 l0_3.length c0_3) := (blk_cell BK126.out 3).trans rfl
          have hfz11_0 := blk_frozen BK126.out 0
          have hfz11_1 := blk_frozen BK126.out 1
          have hfz11_2 := blk_frozen BK126.out 2
          have hfz11_3 := blk_frozen BK126.out 3
          have hcz12_0 : w5.cell? ⟨gb127, 0, none⟩ = some (.int .i64 a1_0) := (blk_cell BK127.out 0).trans rfl
          have hcz12_1 : w5.cell? ⟨gb127, 1, none⟩ = some (.string a1_1) := (blk_cell BK127.out 1).trans rfl
          have hcz12_2 : w5.cell? ⟨gb127, 2, none⟩ = some (.slice A1_2 l1_2.length c1_2) := (blk_cell BK127.out 2).trans rfl
          have hcz12_3 : w5.cell? ⟨gb127, 3, none⟩ = some (.slice A1_3 l1_3.length c1_3) := (blk_cell BK127.out 3).trans rfl
          have hfz12_0 := blk_frozen BK127.out 0
          have hfz12_1 := blk_frozen BK127.out 1
          have hfz12_2 := blk_frozen BK127.out 2
          have hfz12_3 := blk_frozen BK127.out 3
          go_wp2_with (first | (go_at_call 41; (with_reducible refine (rosterlaw09_sameTexts.calls k _ _ l0_2 _ _ l1_2 true _ ?side1 ?side2 ?side3 ?side4 A8.out).mono ?_); (case side1 => repeat (first | exact (Kd.C_below HR0_2.out HB.out) | (with_reducible refine Kd.C_alloc ?_ _) | (with_reducible refine Kd.C_drewN ?_ _) | (with_reducible refine Kd.C_drew ?_))); (case side2 => exact HC0_2.out); (case side3 => repeat (first | exact (Kd.C_below HR1_2.out HB.out) | (with_reducible refine Kd.C_alloc ?_ _) | (with_reducible refine Kd.C_drewN ?_ _) | (with_reducible refine Kd.C_drew ?_))); (case side4 => exact HC1_2.out); rintro e w' ⟨rfl, ⟨nd, rfl⟩⟩))
          go_meet
          case rel => exact ⟨_, (((l0_3.length : Int) != (l1_3.length : Int))), (by first | rfl | (simp; done) | (simp [*]; done)), H', ⟨by first | omega | exact Nat.le_refl _⟩, ⟨by (with_reducible repeat (first | refine blk_drewN ?_ _ | refine blk_drew ?_ | refine blk_alloc ?_ _)); exact BK126.out⟩, ⟨by (with_reducible repeat (first | refine blk_drewN ?_ _ | refine blk_drew ?_ | refine blk_alloc ?_ _)); exact BK127.out⟩, ⟨by repeat (first | (with_reducible first | exact HB.out | apply below_alloc | apply pw_below_drewN | apply below_drew1 | refine below_set ?_ GE126.out | refine below_set ?_ GE127.out) | exact HB.out)⟩⟩
        · replace c9 := Bool.eq_false_iff.mpr c9
          subst c9
          have H1 : (rosterlaw09_sameEntry.j0 k true a0_0 a0_1 l0_2 l0_3 a1_0 a1_1 l1_2 l1_3) = some r := by rw [if_neg (show ¬ (false = true) by decide)] at H; exact H
          clear H
          have H := H1
          clear H1
          have H' := Aside0.mk H
          clear H
          have hnb13 := NB126_127.out
          have hnc13 := NB127_126.out
          have hcz14_0 : w5.cell? ⟨gb126, 0, none⟩ = some (.int .i64 a0_0) := (blk_cell BK126.out 0).trans rfl
          have hcz14_1 : w5.cell? ⟨gb126, 1, none⟩ = some (.string a0_1) := (blk_cell BK126.out 1).trans rfl
          have hcz14_2 : w5.cell? ⟨gb126, 2, none⟩ = some (.slice A0_2 l0_2.length c0_2) := (blk_cell BK126.out 2).trans rfl
          have hcz14_3 : w5.cell? ⟨gb126, 3, none⟩ = some (.slice A0_3 l0_3.length c0_3) := (blk_cell BK126.out 3).trans rfl
          have hfz14_0 := blk_frozen BK126.out 0
          have hfz14_1 := blk_frozen BK126.out 1
          have hfz14_2 := blk_frozen BK126.out 2
          have hfz14_3 := blk_frozen BK126.out 3
          have hcz15_0 : w5.cell? ⟨gb127, 0, none⟩ = some (.int .i64 a1_0) := (blk_cell BK127.out 0).trans rfl
          have hcz15_1 : w5.cell? ⟨gb127, 1, none⟩ = some (.string a1_1) := (blk_cell BK127.out 1).trans rfl
          have hcz15_2 : w5.cell? ⟨gb127, 2, none⟩ = some (.slice A1_2 l1_2.length c1_2) := (blk_cell BK127.out 2).trans rfl
          have hcz15_3 : w5.cell? ⟨gb127, 3, none⟩ = some (.slice A1_3 l1_3.length c1_3) := (blk_cell BK127.out 3).trans rfl
          have hfz15_0 := blk_frozen BK127.out 0
          have hfz15_1 := blk_frozen BK127.out 1
          have hfz15_2 := blk_frozen BK127.out 2
          have hfz15_3 := blk_frozen BK127.out 3
          go_wp2_with (first | (go_at_call 41; (with_reducible refine (rosterlaw09_sameTexts.calls k _ _ l0_2 _ _ l1_2 false _ ?side1 ?side2 ?side3 ?side4 A8.out).mono ?_); (case side1 => repeat (first | exact (Kd.C_below HR0_2.out HB.out) | (with_reducible refine Kd.C_alloc ?_ _) | (with_reducible refine Kd.C_drewN ?_ _) | (with_reducible refine Kd.C_drew ?_))); (case side2 => exact HC0_2.out); (case side3 => repeat (first | exact (Kd.C_below HR1_2.out HB.out) | (with_reducible refine Kd.C_alloc ?_ _) | (with_reducible refine Kd.C_drewN ?_ _) | (with_reducible refine Kd.C_drew ?_))); (case side4 => exact HC1_2.out); rintro e w' ⟨rfl, ⟨nd, rfl⟩⟩))
          go_meet
          case rel => exact ⟨_, (true), (by first | rfl | (simp; done) | (simp [*]; done)), H', ⟨by first | omega | exact Nat.le_refl _⟩, ⟨by (with_reducible repeat (first | refine blk_drewN ?_ _ | refine blk_drew ?_ | refine blk_alloc ?_ _)); exact BK126.out⟩, ⟨by (with_reducible repeat (first | refine blk_drewN ?_ _ | refine blk_drew ?_ | refine blk_alloc ?_ _)); exact BK127.out⟩, ⟨by repeat (first | (with_reducible first | exact HB.out | apply below_alloc | apply pw_below_drewN | apply below_drew1 | refine below_set ?_ GE126.out | refine below_set ?_ GE127.out) | exact HB.out)⟩⟩
      · rw [if_neg c7] at H
        have c7b0 : (a0_1.toList == a1_1.toList) = false := beq_eq_false_iff_ne.mpr c7
        have c7b1 : (a0_1.toList != a1_1.toList) = true := bne_iff_ne.mpr c7
        have H' := Aside0.mk H
        clear H
        have hnb16 := NB126_127.out
        have hnc16 := NB127_126.out
        have hcz17_0 : w5.cell? ⟨gb126, 0, none⟩ = some (.int .i64 a0_0) := (blk_cell BK126.out 0).trans rfl
        have hcz17_1 : w5.cell? ⟨gb126, 1, none⟩ = some (.string a0_1) := (blk_cell BK126.out 1).trans rfl
        have hcz17_2 : w5.cell? ⟨gb126, 2, none⟩ = some (.slice A0_2 l0_2.length c0_2) := (blk_cell BK126.out 2).trans rfl
        have hcz17_3 : w5.cell? ⟨gb126, 3, none⟩ = some (.slice A0_3 l0_3.length c0_3) := (blk_cell BK126.out 3).trans rfl
        have hfz17_0 := blk_frozen BK126.out 0
        have hfz17_1 := blk_frozen BK126.out 1
        have hfz17_2 := blk_frozen BK126.out 2
        have hfz17_3 := blk_frozen BK126.out 3
        have hcz18_0 : w5.cell? ⟨gb127, 0, none⟩ = some (.int .i64 a1_0) := (blk_cell BK127.out 0).trans rfl
        have hcz18_1 : w5.cell? ⟨gb127, 1, none⟩ = some (.string a1_1) := (blk_cell BK127.out 1).trans rfl
        have hcz18_2 : w5.cell? ⟨gb127, 2, none⟩ = some (.slice A1_2 l1_2.length c1_2) := (blk_cell BK127.out 2).trans rfl
        have hcz18_3 : w5.cell? ⟨gb127, 3, none⟩ = some (.slice A1_3 l1_3.length c1_3) := (blk_cell BK127.out 3).trans rfl
        have hfz18_0 := blk_frozen BK127.out 0
        have hfz18_1 := blk_frozen BK127.out 1
        have hfz18_2 := blk_frozen BK127.out 2
        have hfz18_3 := blk_frozen BK127.out 3
        go_wp2
        go_meet
        case rel => exact ⟨_, (true), (by first | rfl | (simp; done) | (simp [*]; done)), H', ⟨by first | omega | exact Nat.le_refl _⟩, ⟨by (with_reducible repeat (first | refine blk_drewN ?_ _ | refine blk_drew ?_ | refine blk_alloc ?_ _)); exact BK126.out⟩, ⟨by (with_reducible repeat (first | refine blk_drewN ?_ _ | refine blk_drew ?_ | refine blk_alloc ?_ _)); exact BK127.out⟩, ⟨by repeat (first | (with_reducible first | exact HB.out | apply below_alloc | apply pw_below_drewN | apply below_drew1 | refine below_set ?_ GE126.out | refine below_set ?_ GE127.out) | exact HB.out)⟩⟩
    · rw [if_neg c6] at H
      have c6b0 : (a0_0 == a1_0) = false := beq_eq_false_iff_ne.mpr c6
      have c6b1 : (a0_0 != a1_0) = true := bne_iff_ne.mpr c6
      (first | rw [c6b0] | (simp only [i64_w, i32_w]; rw [c6b0]) | skip)
      have H' := Aside0.mk H
      clear H
      have hnb19 := NB126_127.out
      have hnc19 := NB127_126.out
      have hcz20_0 : w5.cell? ⟨gb126, 0, none⟩ = some (.int .i64 a0_0) := (blk_cell BK126.out 0).trans rfl
      have hcz20_1 : w5.cell? ⟨gb126, 1, none⟩ = some (.string a0_1) := (blk_cell BK126.out 1).trans rfl
      have hcz20_2 : w5.cell? ⟨gb126, 2, none⟩ = some (.slice A0_2 l0_2.length c0_2) := (blk_cell BK126.out 2).trans rfl
      have hcz20_3 : w5.cell? ⟨gb126, 3, none⟩ = some (.slice A0_3 l0_3.length c0_3) := (blk_cell BK126.out 3).trans rfl
      have hfz20_0 := blk_frozen BK126.out 0
      have hfz20_1 := blk_frozen BK126.out 1
      have hfz20_2 := blk_frozen BK126.out 2
      have hfz20_3 := blk_frozen BK126.out 3
      have hcz21_0 : w5.cell? ⟨gb127, 0, none⟩ = some (.int .i64 a1_0) := (blk_cell BK127.out 0).trans rfl
      have hcz21_1 : w5.cell? ⟨gb127, 1, none⟩ = some (.string a1_1) := (blk_cell BK127.out 1).trans rfl
      have hcz21_2 : w5.cell? ⟨gb127, 2, none⟩ = some (.slice A1_2 l1_2.length c1_2) := (blk_cell BK127.out 2).trans rfl
      have hcz21_3 : w5.cell? ⟨gb127, 3, none⟩ = some (.slice A1_3 l1_3.length c1_3) := (blk_cell BK127.out 3).trans rfl
      have hfz21_0 := blk_frozen BK127.out 0
      have hfz21_1 := blk_frozen BK127.out 1
      have hfz21_2 := blk_frozen BK127.out 2
      have hfz21_3 := blk_frozen BK127.out 3
      go_wp2
      go_meet
      case rel => exact ⟨_, (true), (by first | rfl | (simp; done) | (simp [*]; done)), H', ⟨by first | omega | exact Nat.le_refl _⟩, ⟨by (with_reducible repeat (first | refine blk_drewN ?_ _ | refine blk_drew ?_ | refine blk_alloc ?_ _)); exact BK126.out⟩, ⟨by (with_reducible repeat (first | refine blk_drewN ?_ _ | refine blk_drew ?_ | refine blk_alloc ?_ _)); exact BK127.out⟩, ⟨by repeat (first | (with_reducible first | exact HB.out | apply below_alloc | apply pw_below_drewN | apply below_drew1 | refine below_set ?_ GE126.out | refine below_set ?_ GE127.out) | exact HB.out)⟩⟩
  case rest =>
    clear HC3
    try clear c1
    try clear c2
    try clear p2
    try clear c6
    try clear c6b0
    try clear c6b1
    try clear c7
    try clear c7b0
    try clear c7b1
    try clear c9
    try clear c10
    try clear c13
    try clear c16
    try clear c19
    try clear hcz11_0
    try clear hcz11_1
    try clear hcz11_2
    try clear hcz11_3
    try clear hcz12_0
    try clear hcz12_1
    try clear hcz12_2
    try clear hcz12_3
    try clear hcz14_0
    try clear hcz14_1
    try clear hcz14_2
    try clear hcz14_3
    try clear hcz15_0
    try clear hcz15_1
    try clear hcz15_2
    try clear hcz15_3
    try clear hcz17_0
    try clear hcz17_1
    try clear hcz17_2
    try clear hcz17_3
    try clear hcz18_0
    try clear hcz18_1
    try clear hcz18_2
    try clear hcz18_3
    try clear hcz20_0
    try clear hcz20_1
    try clear hcz20_2
    try clear hcz20_3
    try clear hcz21_0
    try clear hcz21_1
    try clear hcz21_2
    try clear hcz21_3
    try clear hfz11_0
    try clear hfz11_1
    try clear hfz11_2
    try clear hfz11_3
    try clear hfz12_0
    try clear hfz12_1
    try clear hfz12_2
    try clear hfz12_3
    try clear hfz14_0
    try clear hfz14_1
    try clear hfz14_2
    try clear hfz14_3
    try clear hfz15_0
    try clear hfz15_1
    try clear hfz15_2
    try clear hfz15_3
    try clear hfz17_0
    try clear hfz17_1
    try clear hfz17_2
    try clear hfz17_3
    try clear hfz18_0
    try clear hfz18_1
    try clear hfz18_2
    try clear hfz18_3
    try clear hfz20_0
    try clear hfz20_1
    try clear hfz20_2
    try clear hfz20_3
    try clear hfz21_0
    try clear hfz21_1
    try clear hfz21_2
    try clear hfz21_3
    obtain ⟨kq, x36_2, rfl, HA, HJ2, BK126, BK127, HB⟩ := hcut
    cases kq with
    | zero => exact absurd HA.out (by simp [rosterlaw09_sameEntry.j0])
    | succ kj2 =>
      have H := HA.out
      clear HA
      simp only [rosterlaw09_sameEntry.j0] at H
      by_cases c22 : x36_2 = true
      · subst c22
        have H1 : (some false) = some r := by rw [if_pos rfl] at H; exact H
        clear H
        have H := H1
        clear H1
        obtain rfl := Option.some.inj H
        go_wp2
        go_ret
        exact ⟨by first | rfl | (simp [errW_none, errW_some] <;> rfl) | (simp [*, errW_none, errW_some] <;> rfl), by repeat (first | (with_reducible first | exact HB.out | apply below_alloc | apply pw_below_drewN | apply below_drew1 | refine below_set ?_ GE126.out | refine below_set ?_ GE127.out) | exact HB.out)⟩
      · replace c22 := Bool.eq_false_iff.mpr c22
        subst c22
        have H1 : (rosterlaw09_sameEntry.l0 kj2 0 a0_0 a0_1 l0_2 l0_3 a1_0 a1_1 l1_2 l1_3) = some r := by rw [if_neg (show ¬ (false = true) by decide)] at H; exact H
        clear H
        have H := H1
        clear H1
        have H' := Aside0.mk H
        clear H
        go_wp2
        go_loopg [5] kj2 (fun kq v5 w' => ∃ (x5_2 : Int), v5 = .int .i64 x5_2 ∧ Aside0 (rosterlaw09_sameEntry.l0 kq x5_2 a0_0 a0_1 l0_2 l0_3 a1_0 a1_1 l1_2 l1_3 = some r) ∧ Aside0 (kq ≤ kj2) ∧ Aside0 (w'.heap[gb126]? = some (.cells #[.int .i64 a0_0, .string a0_1, (.slice A0_2 l0_2.length c0_2), (.slice A0_3 l0_3.length c0_3)] 45 (0, 0))) ∧ Aside0 (w'.heap[gb127]? = some (.cells #[.int .i64 a1_0, .string a1_1, (.slice A1_2 l1_2.length c1_2), (.slice A1_3 l1_3.length c1_3)] 45 (0, 0))) ∧ Aside0 (Below w.heap.size w w'))
        case atStart => exact ⟨(0), (by first | rfl | (simp; done) | (simp [*]; done)), H', ⟨Nat.le_refl _⟩, ⟨by (with_reducible repeat (first | refine blk_drewN ?_ _ | refine blk_drew ?_ | refine blk_alloc ?_ _)); exact BK126.out⟩, ⟨by (with_reducible repeat (first | refine blk_drewN ?_ _ | refine blk_drew ?_ | refine blk_alloc ?_ _)); exact BK127.out⟩, ⟨by repeat (first | (with_reducible first | exact HB.out | apply below_alloc | apply pw_below_drewN | apply below_drew1 | refine below_set ?_ GE126.out | refine below_set ?_ GE127.out) | exact HB.out)⟩⟩
        case round =>
          clear H'
          try clear c1
          try clear c2
          try clear p2
          try clear c6
          try clear c6b0
          try clear c6b1
          try clear c7
          try clear c7b0
          try clear c7b1
          try clear c9
          try clear c10
          try clear c13
          try clear c16
          try clear c19
          try clear c22
          try clear hcz11_0
          try clear hcz11_1
          try clear hcz11_2
          try clear hcz11_3
          try clear hcz12_0
          try clear hcz12_1
          try clear hcz12_2
          try clear hcz12_3
          try clear hcz14_0
          try clear hcz14_1
          try clear hcz14_2
          try clear hcz14_3
          try clear hcz15_0
          try clear hcz15_1
          try clear hcz15_2
          try clear hcz15_3
          try clear hcz17_0
          try clear hcz17_1
          try clear hcz17_2
          try clear hcz17_3
          try clear hcz18_0
          try clear hcz18_1
          try clear hcz18_2
          try clear hcz18_3
          try clear hcz20_0
          try clear hcz20_1
          try clear hcz20_2
          try clear hcz20_3
          try clear hcz21_0
          try clear hcz21_1
          try clear hcz21_2
          try clear hcz21_3
          try clear hfz11_0
          try clear hfz11_1
          try clear hfz11_2
          try clear hfz11_3
          try clear hfz12_0
          try clear hfz12_1
          try clear hfz12_2
          try clear hfz12_3
          try clear hfz14_0
          try clear hfz14_1
          try clear hfz14_2
          try clear hfz14_3
          try clear hfz15_0
          try clear hfz15_1
          try clear hfz15_2
          try clear hfz15_3
          try clear hfz17_0
          try clear hfz17_1
          try clear hfz17_2
          try clear hfz17_3
          try clear hfz18_0
          try clear hfz18_1
          try clear hfz18_2
          try clear hfz18_3
          try clear hfz20_0
          try clear hfz20_1
          try clear hfz20_2
          try clear hfz20_3
          try clear hfz21_0
          try clear hfz21_1
          try clear hfz21_2
          try clear hfz21_3
          try clear p2
          obtain ⟨x5_2, rfl, HA, HK2, BK126, BK127, HB⟩ := hrel
          cases gk with
          | zero => exact absurd HA.out (by simp [rosterlaw09_sameEntry.l0])
          | succ k2 =>
            have H := HA.out
            clear HA
            simp only [rosterlaw09_sameEntry.l0] at H
            by_cases c23 : x5_2 < (l0_3.length : Int)
            · rw [if_pos c23] at H
              have c23b0 : decide (x5_2 < (l0_3.length : Int)) = true := decide_eq_true c23
              clear c23
              by_cases c24 : 0 ≤ x5_2
              · rw [if_pos c24] at H
                have c24b0 : decide (0 ≤ x5_2) = true := decide_eq_true c24
                clear c24
                by_cases c25 : x5_2 < (l1_3.length : Int)
                · rw [if_pos c25] at H
                  have c25b0 : decide (x5_2 < (l1_3.length : Int)) = true := decide_eq_true c25
                  clear c25
                  by_cases c26 : ((rd_T74 l0_3 x5_2).f0).toList = ((rd_T74 l1_3 x5_2).f0).toList
                  · rw [if_pos c26] at H
                    have c26b0 : (((rd_T74 l0_3 x5_2).f0).toList == ((rd_T74 l1_3 x5_2).f0).toList) = true := beq_iff_eq.mpr c26
                    have c26b1 : (((rd_T74 l0_3 x5_2).f0).toList != ((rd_T74 l1_3 x5_2).f0).toList) = false := bne_eq_false_iff_eq.mpr c26
                    clear c26
                    by_cases c27 : ((rd_T74 l0_3 x5_2).f1).toList = ((rd_T74 l1_3 x5_2).f1).toList
                    · rw [if_pos c27] at H
                      have c27b0 : (((rd_T74 l0_3 x5_2).f1).toList == ((rd_T74 l1_3 x5_2).f1).toList) = true := beq_iff_eq.mpr c27
                      have c27b1 : (((rd_T74 l0_3 x5_2).f1).toList != ((rd_T74 l1_3 x5_2).f1).toList) = false := bne_eq_false_iff_eq.mpr c27
                      clear c27
                      replace H := Option.bind_eq_some_iff.mp H
                      obtain ⟨t133, A280, H⟩ := H
                      replace H : (if t133 = true then (rosterlaw09_sameEntry.l0 k2 (wrap64 (x5_2 + 1)) a0_0 a0_1 l0_2 l0_3 a1_0 a1_1 l1_2 l1_3) else (some false)) = some r := H
                      have A28 := Aside0.mk A280
                      clear A280
                      by_cases c29 : t133 = true
                      · subst c29
                        have H1 : (rosterlaw09_sameEntry.l0 k2 (wrap64 (x5_2 + 1)) a0_0 a0_1 l0_2 l0_3 a1_0 a1_1 l1_2 l1_3) = some r := by rw [if_pos rfl] at H; exact H
                        clear H
                        have H := H1
                        clear H1
                        have H' := Aside0.mk H
                        clear H
                        have hnb30 := NB126_127.out
                        have hnc30 := NB127_126.out
                        have hcz31_0 : wr.cell? ⟨gb126, 0, none⟩ = some (.int .i64 a0_0) := (blk_cell BK126.out 0).trans rfl
                        have hcz31_1 : wr.cell? ⟨gb126, 1, none⟩ = some (.string a0_1) := (blk_cell BK126.out 1).trans rfl
                        have hcz31_2 : wr.cell? ⟨gb126, 2, none⟩ = some (.slice A0_2 l0_2.length c0_2) := (blk_cell BK126.out 2).trans rfl
                        have hcz31_3 : wr.cell? ⟨gb126, 3, none⟩ = some (.slice A0_3 l0_3.length c0_3) := (blk_cell BK126.out 3).trans rfl
                        have hfz31_0 := blk_frozen BK126.out 0
                        have hfz31_1 := blk_frozen BK126.out 1
                        have hfz31_2 := blk_frozen BK126.out 2
                        have hfz31_3 := blk_frozen BK126.out 3
                        have p129 : 0 ≤ (x5_2 : Int) := of_decide_eq_true (by first | (with_reducible assumption) | assumption)
                        have q129 : x5_2 < (l0_3.length : Int) := of_decide_eq_true (by first | (with_reducible assumption) | assumption)
                        obtain ⟨ad129, A129_2, c129_2, e129, hx129_0, hx129_1, hx129_2, hl129_2, hi129_2⟩ := at_T74 HR0_3.out x5_2 p129 q129
                        cases e129
                        replace hx129_0 := (HB.out.cell (World.block_lt_of_cell? w _ hx129_0)).trans hx129_0
                        replace hx129_1 := (HB.out.cell (World.block_lt_of_cell? w _ hx129_1)).trans hx129_1
                        replace hx129_2 := (HB.out.cell (World.block_lt_of_cell? w _ hx129_2)).trans hx129_2
                        have HR129_2 := Aside0.mk hi129_2
                        have HC129_2 := Aside0.mk hl129_2
                        clear hi129_2 hl129_2
                        replace p129 := eq_true p129
                        replace q129 := eq_true q129
                        go_wp2_with (first | ((with_reducible refine gate_dst (N := 6) rfl ?_); (try (refine gate_guard (by rfl) ?_; dsimp only)); refine box_event ?hg (N := 6) ?hd (cs := #[.string (⟨#[]⟩ : ByteArray), .string (⟨#[]⟩ : ByteArray), .slice none 0 0]) (t := 74) ?hr ?_; (case hd => rfl); (case hg => rfl); (case hr => first | (go_simp; done) | (go_simp; rfl)); intro gb130 hg w32 hbox hb; have n0_ := Aside0.mk (blk_below (g := gb126) (o := .cells #[.int .i64 a0_0, .string a0_1, .slice A0_2 l0_2.length c0_2, .slice (some ad129) l0_3.length c0_3] 45 (0, 0)) (by (with_reducible repeat (first | refine blk_drewN ?_ _ | refine blk_drew ?_ | refine blk_alloc ?_ _)); exact BK126.out) hb); have n1_ := Aside0.mk (blk_below (g := gb127) (o := .cells #[.int .i64 a1_0, .string a1_1, .slice A1_2 l1_2.length c1_2, .slice A1_3 l1_3.length c1_3] 45 (0, 0)) (by (with_reducible repeat (first | refine blk_drewN ?_ _ | refine blk_drew ?_ | refine blk_alloc ?_ _)); exact BK127.out) hb); have n2_ := Aside0.mk (below_step (by repeat (first | (with_reducible first | exact HB.out | apply below_alloc | apply pw_below_drewN | apply below_drew1 | refine below_set ?_ GE126.out | refine below_set ?_ GE127.out) | exact HB.out)) hb); have n3_ := Aside0.mk (hbox); have n4_ := Aside0.mk ((by rw [hg]; exact (below_size (by repeat (first | (with_reducible first | exact HB.out | apply below_alloc | apply pw_below_drewN | apply below_drew1 | refine below_set ?_ GE126.out | refine below_set ?_ GE127.out) | exact HB.out))) : w.heap.size ≤ gb130)); have n5_ := Aside0.mk ((by rw [hg]; exact (below_size (by repeat (first | (with_reducible first | exact HB.out | apply below_alloc | apply pw_below_drewN | apply below_drew1 | refine below_set ?_ GE126.out | refine below_set ?_ GE127.out) | exact HB.out))) : w.heap.size ≤ gb130)); have n6_ := Aside0.mk ((by rw [hg]; exact Nat.ne_of_lt (blk_lt (g := gb126) (o := .cells #[.int .i64 a0_0, .string a0_1, .slice A0_2 l0_2.length c0_2, .slice (some ad129) l0_3.length c0_3] 45 (0, 0)) (by (with_reducible repeat (first | refine blk_drewN ?_ _ | refine blk_drew ?_ | refine blk_alloc ?_ _)); exact BK126.out)) : gb126 ≠ gb130)); have n7_ := Aside0.mk ((by rw [hg]; exact Nat.ne_of_gt (blk_lt (g := gb126) (o := .cells #[.int .i64 a0_0, .string a0_1, .slice A0_2 l0_2.length c0_2, .slice (some ad129) l0_3.length c0_3] 45 (0, 0)) (by (with_reducible repeat (first | refine blk_drewN ?_ _ | refine blk_drew ?_ | refine blk_alloc ?_ _)); exact BK126.out)) : gb130 ≠ gb126)); have n8_ := Aside0.mk ((by rw [hg]; exact Nat.ne_of_lt (blk_lt (g := gb127) (o := .cells #[.int .i64 a1_0, .string a1_1, .slice A1_2 l1_2.length c1_2, .slice A1_3 l1_3.length c1_3] 45 (0, 0)) (by (with_reducible repeat (first | refine blk_drewN ?_ _ | refine blk_drew ?_ | refine blk_alloc ?_ _)); exact BK127.out)) : gb127 ≠ gb130)); have n9_ := Aside0.mk ((by rw [hg]; exact Nat.ne_of_gt (blk_lt (g := gb127) (o := .cells #[.int .i64 a1_0, .string a1_1, .slice A1_2 l1_2.length c1_2, .slice A1_3 l1_3.length c1_3] 45 (0, 0)) (by (with_reducible repeat (first | refine blk_drewN ?_ _ | refine blk_drew ?_ | refine blk_alloc ?_ _)); exact BK127.out)) : gb130 ≠ gb127)); clear BK126; clear BK127; clear HB; have BK126 := n0_; have BK127 := n1_; have HB := n2_; have BK130 := n3_; have GW130 := n4_; have GE130 := n5_; have NB126_130 := n6_; have NB130_126 := n7_; have NB127_130 := n8_; have NB130_127 := n9_; clear n0_ n1_ n2_ n3_ n4_ n5_ n6_ n7_ n8_ n9_; clear hb hbox hg; have hnb33 := NB130_126.out; have hnc33 := NB126_130.out; have hnb34 := NB130_127.out; have hnc34 := NB127_130.out; have hcz35_0 : w32.cell? ⟨gb130, 0, none⟩ = some (.string (⟨#[]⟩ : ByteArray)) := (blk_cell BK130.out 0).trans rfl; have hcz35_1 : w32.cell? ⟨gb130, 1, none⟩ = some (.string (⟨#[]⟩ : ByteArray)) := (blk_cell BK130.out 1).trans rfl; have hcz35_2 : w32.cell? ⟨gb130, 2, none⟩ = some (.slice none 0 0) := (blk_cell BK130.out 2).trans rfl; have hfz35_0 := blk_frozen BK130.out 0; have hfz35_1 := blk_frozen BK130.out 1; have hfz35_2 := blk_frozen BK130.out 2; have hcz36_0 : w32.cell? ⟨gb127, 0, none⟩ = some (.int .i64 a1_0) := (blk_cell BK127.out 0).trans rfl; have hcz36_1 : w32.cell? ⟨gb127, 1, none⟩ = some (.string a1_1) := (blk_cell BK127.out 1).trans rfl; have hcz36_2 : w32.cell? ⟨gb127, 2, none⟩ = some (.slice A1_2 l1_2.length c1_2) := (blk_cell BK127.out 2).trans rfl; have hcz36_3 : w32.cell? ⟨gb127, 3, none⟩ = some (.slice A1_3 l1_3.length c1_3) := (blk_cell BK127.out 3).trans rfl; have hfz36_0 := blk_frozen BK127.out 0; have hfz36_1 := blk_frozen BK127.out 1; have hfz36_2 := blk_frozen BK127.out 2; have hfz36_3 := blk_frozen BK127.out 3; have p131 : 0 ≤ (x5_2 : Int) := of_decide_eq_true (by first | (with_reducible assumption) | assumption); have q131 : x5_2 < (l1_3.length : Int) := of_decide_eq_true (by first | (with_reducible assumption) | assumption); obtain ⟨ad131, A131_2, c131_2, e131, hx131_0, hx131_1, hx131_2, hl131_2, hi131_2⟩ := at_T74 HR1_3.out x5_2 p131 q131; cases e131; have hn131_0 : ad131.block ≠ gb130 := Nat.ne_of_lt (Nat.lt_of_lt_of_le (by have := World.block_lt_of_cell? _ _ hx131_0; first | rwa [add_block] at this | exact this) GW130.out); have hn131_1 : ad131.block ≠ gb130 := Nat.ne_of_lt (Nat.lt_of_lt_of_le (by have := World.block_lt_of_cell? _ _ hx131_0; first | rwa [add_block] at this | exact this) GW130.out); have hn131_2 : ad131.block ≠ gb130 := Nat.ne_of_lt (Nat.lt_of_lt_of_le (by have := World.block_lt_of_cell? _ _ hx131_0; first | rwa [add_block] at this | exact this) GW130.out); replace hx131_0 := (HB.out.cell (World.block_lt_of_cell? w _ hx131_0)).trans hx131_0; replace hx131_1 := (HB.out.cell (World.block_lt_of_cell? w _ hx131_1)).trans hx131_1; replace hx131_2 := (HB.out.cell (World.block_lt_of_cell? w _ hx131_2)).trans hx131_2; have HR131_2 := Aside0.mk hi131_2; have HC131_2 := Aside0.mk hl131_2; clear hi131_2 hl131_2; replace hx131_0 := (cell_far (p := ⟨gb130, 0, none⟩) (by first | (rw [add_block]; exact hn131_0) | (show (Addr.add _ _).block ≠ _; rw [add_block]; exact hn131_0) | exact hn131_0) (.string ((rd_T74 l0_3 x5_2).f0))).trans hx131_0; replace hx131_1 := (cell_far (p := ⟨gb130, 0, none⟩) (by first | (rw [add_block]; exact hn131_0) | (show (Addr.add _ _).block ≠ _; rw [add_block]; exact hn131_0) | exact hn131_0) (.string ((rd_T74 l0_3 x5_2).f0))).trans hx131_1; replace hx131_2 := (cell_far (p := ⟨gb130, 0, none⟩) (by first | (rw [add_block]; exact hn131_0) | (show (Addr.add _ _).block ≠ _; rw [add_block]; exact hn131_0) | exact hn131_0) (.string ((rd_T74 l0_3 x5_2).f0))).trans hx131_2; replace hx131_0 := (cell_far (p := ⟨gb130, 1, none⟩) (by first | (rw [add_block]; exact hn131_1) | (show (Addr.add _ _).block ≠ _; rw [add_block]; exact hn131_1) | exact hn131_1) (.string ((rd_T74 l0_3 x5_2).f1))).trans hx131_0; replace hx131_1 := (cell_far (p := ⟨gb130, 1, none⟩) (by first | (rw [add_block]; exact hn131_1) | (show (Addr.add _ _).block ≠ _; rw [add_block]; exact hn131_1) | exact hn131_1) (.string ((rd_T74 l0_3 x5_2).f1))).trans hx131_1; replace hx131_2 := (cell_far (p := ⟨gb130, 1, none⟩) (by first | (rw [add_block]; exact hn131_1) | (show (Addr.add _ _).block ≠ _; rw [add_block]; exact hn131_1) | exact hn131_1) (.string ((rd_T74 l0_3 x5_2).f1))).trans hx131_2; replace hx131_0 := (cell_far (p := ⟨gb130, 2, none⟩) (by first | (rw [add_block]; exact hn131_2) | (show (Addr.add _ _).block ≠ _; rw [add_block]; exact hn131_2) | exact hn131_2) (.slice A129_2 ((rd_T74 l0_3 x5_2).f2).length c129_2)).trans hx131_0; replace hx131_1 := (cell_far (p := ⟨gb130, 2, none⟩) (by first | (rw [add_block]; exact hn131_2) | (show (Addr.add _ _).block ≠ _; rw [add_block]; exact hn131_2) | exact hn131_2) (.slice A129_2 ((rd_T74 l0_3 x5_2).f2).length c129_2)).trans hx131_1; replace hx131_2 := (cell_far (p := ⟨gb130, 2, none⟩) (by first | (rw [add_block]; exact hn131_2) | (show (Addr.add _ _).block ≠ _; rw [add_block]; exact hn131_2) | exact hn131_2) (.slice A129_2 ((rd_T74 l0_3 x5_2).f2).length c129_2)).trans hx131_2; clear hn131_0; clear hn131_1; clear hn131_2; replace p131 := eq_true p131; replace q131 := eq_true q131) | ((with_reducible refine gate_dst (N := 7) rfl ?_); (try (refine gate_guard (by rfl) ?_; dsimp only)); refine box_event ?hg (N := 7) ?hd (cs := #[.string (⟨#[]⟩ : ByteArray), .string (⟨#[]⟩ : ByteArray), .slice none 0 0]) (t := 74) ?hr ?_; (case hd => rfl); (case hg => rfl); (case hr => first | (go_simp; done) | (go_simp; rfl)); intro gb132 hg w37 hbox hb; have n0_ := Aside0.mk (blk_below (g := gb126) (o := .cells #[.int .i64 a0_0, .string a0_1, .slice A0_2 l0_2.length c0_2, .slice (some ad129) l0_3.length c0_3] 45 (0, 0)) (by (with_reducible repeat (first | refine blk_drewN ?_ _ | refine blk_drew ?_ | refine blk_alloc ?_ _)); refine blk_far ?_ NB126_130.out _; (with_reducible repeat (first | refine blk_drewN ?_ _ | refine blk_drew ?_ | refine blk_alloc ?_ _)); refine blk_far ?_ NB126_130.out _; (with_reducible repeat (first | refine blk_drewN ?_ _ | refine blk_drew ?_ | refine blk_alloc ?_ _)); refine blk_far ?_ NB126_130.out _; (with_reducible repeat (first | refine blk_drewN ?_ _ | refine blk_drew ?_ | refine blk_alloc ?_ _)); exact BK126.out) hb); have n1_ := Aside0.mk (blk_below (g := gb127) (o := .cells #[.int .i64 a1_0, .string a1_1, .slice A1_2 l1_2.length c1_2, .slice (some ad131) l1_3.length c1_3] 45 (0, 0)) (by (with_reducible repeat (first | refine blk_drewN ?_ _ | refine blk_drew ?_ | refine blk_alloc ?_ _)); refine blk_far ?_ NB127_130.out _; (with_reducible repeat (first | refine blk_drewN ?_ _ | refine blk_drew ?_ | refine blk_alloc ?_ _)); refine blk_far ?_ NB127_130.out _; (with_reducible repeat (first | refine blk_drewN ?_ _ | refine blk_drew ?_ | refine blk_alloc ?_ _)); refine blk_far ?_ NB127_130.out _; (with_reducible repeat (first | refine blk_drewN ?_ _ | refine blk_drew ?_ | refine blk_alloc ?_ _)); exact BK127.out) hb); have n2_ := Aside0.mk (blk_below (g := gb130) (o := .cells #[.string ((rd_T74 l0_3 x5_2).f0), .string ((rd_T74 l0_3 x5_2).f1), .slice A129_2 ((rd_T74 l0_3 x5_2).f2).length c129_2] 74 (0, 0)) (by (with_reducible repeat (first | refine blk_drewN ?_ _ | refine blk_drew ?_ | refine blk_alloc ?_ _)); refine blk_put (cs := #[.string ((rd_T74 l0_3 x5_2).f0), .string ((rd_T74 l0_3 x5_2).f1), .slice none 0 0]) ?_ 2 _ rfl; (with_reducible repeat (first | refine blk_drewN ?_ _ | refine blk_drew ?_ | refine blk_alloc ?_ _)); refine blk_put (cs := #[.string ((rd_T74 l0_3 x5_2).f0), .string (⟨#[]⟩ : ByteArray), .slice none 0 0]) ?_ 1 _ rfl; (with_reducible repeat (first | refine blk_drewN ?_ _ | refine blk_drew ?_ | refine blk_alloc ?_ _)); refine blk_put (cs := #[.string (⟨#[]⟩ : ByteArray), .string (⟨#[]⟩ : ByteArray), .slice none 0 0]) ?_ 0 _ rfl; (with_reducible repeat (first | refine blk_drewN ?_ _ | refine blk_drew ?_ | refine blk_alloc ?_ _)); exact BK130.out) hb); have n3_ := Aside0.mk (below_step (by repeat (first | (with_reducible first | exact HB.out | apply below_alloc | apply pw_below_drewN | apply below_drew1 | refine below_set ?_ GE126.out | refine below_set ?_ GE127.out | refine below_set ?_ GE130.out) | exact HB.out)) hb); have n4_ := Aside0.mk (hbox); have n5_ := Aside0.mk ((by rw [hg]; exact (below_size (by repeat (first | (with_reducible first | exact HB.out | apply below_alloc | apply pw_below_drewN | apply below_drew1 | refine below_set ?_ GE126.out | refine below_set ?_ GE127.out | refine below_set ?_ GE130.out) | exact HB.out))) : w.heap.size ≤ gb132)); have n6_ := Aside0.mk ((by rw [hg]; exact (below_size (by repeat (first | (with_reducible first | exact HB.out | apply below_alloc | apply pw_below_drewN | apply below_drew1 | refine below_set ?_ GE126.out | refine below_set ?_ GE127.out | refine below_set ?_ GE130.out) | exact HB.out))) : w.heap.size ≤ gb132)); have n7_ := Aside0.mk ((by rw [hg]; exact Nat.ne_of_lt (blk_lt (g := gb126) (o := .cells #[.int .i64 a0_0, .string a0_1, .slice A0_2 l0_2.length c0_2, .slice (some ad129) l0_3.length c0_3] 45 (0, 0)) (by (with_reducible repeat (first | refine blk_drewN ?_ _ | refine blk_drew ?_ | refine blk_alloc ?_ _)); refine blk_far ?_ NB126_130.out _; (with_reducible repeat (first | refine blk_drewN ?_ _ | refine blk_drew ?_ | refine blk_alloc ?_ _)); refine blk_far ?_ NB126_130.out _; (with_reducible repeat (first | refine blk_drewN ?_ _ | refine blk_drew ?_ | refine blk_alloc ?_ _)); refine blk_far ?_ NB126_130.out _; (with_reducible repeat (first | refine blk_drewN ?_ _ | refine blk_drew ?_ | refine blk_alloc ?_ _)); exact BK126.out)) : gb126 ≠ gb132)); have n8_ := Aside0.mk ((by rw [hg]; exact Nat.ne_of_gt (blk_lt (g := gb126) (o := .cells #[.int .i64 a0_0, .string a0_1, .slice A0_2 l0_2.length c0_2, .slice (some ad129) l0_3.length c0_3] 45 (0, 0)) (by (with_reducible repeat (first | refine blk_drewN ?_ _ | refine blk_drew ?_ | refine blk_alloc ?_ _)); refine blk_far ?_ NB126_130.out _; (with_reducible repeat (first | refine blk_drewN ?_ _ | refine blk_drew ?_ | refine blk_alloc ?_ _)); refine blk_far ?_ NB126_130.out _; (with_reducible repeat (first | refine blk_drewN ?_ _ | refine blk_drew ?_ | refine blk_alloc ?_ _)); refine blk_far ?_ NB126_130.out _; (with_reducible repeat (first | refine blk_drewN ?_ _ | refine blk_drew ?_ | refine blk_alloc ?_ _)); exact BK126.out)) : gb132 ≠ gb126)); have n9_ := Aside0.mk ((by rw [hg]; exact Nat.ne_of_lt (blk_lt (g := gb127) (o := .cells #[.int .i64 a1_0, .string a1_1, .slice A1_2 l1_2.length c1_2, .slice (some ad131) l1_3.length c1_3] 45 (0, 0)) (by (with_reducible repeat (first | refine blk_drewN ?_ _ | refine blk_drew ?_ | refine blk_alloc ?_ _)); refine blk_far ?_ NB127_130.out _; (with_reducible repeat (first | refine blk_drewN ?_ _ | refine blk_drew ?_ | refine blk_alloc ?_ _)); refine blk_far ?_ NB127_130.out _; (with_reducible repeat (first | refine blk_drewN ?_ _ | refine blk_drew ?_ | refine blk_alloc ?_ _)); refine blk_far ?_ NB127_130.out _; (with_reducible repeat (first | refine blk_drewN ?_ _ | refine blk_drew ?_ | refine blk_alloc ?_ _)); exact BK127.out)) : gb127 ≠ gb132)); have n10_ := Aside0.mk ((by rw [hg]; exact Nat.ne_of_gt (blk_lt (g := gb127) (o := .cells #[.int .i64 a1_0, .string a1_1, .slice A1_2 l1_2.length c1_2, .slice (some ad131) l1_3.length c1_3] 45 (0, 0)) (by (with_reducible repeat (first | refine blk_drewN ?_ _ | refine blk_drew ?_ | refine blk_alloc ?_ _)); refine blk_far ?_ NB127_130.out _; (with_reducible repeat (first | refine blk_drewN ?_ _ | refine blk_drew ?_ | refine blk_alloc ?_ _)); refine blk_far ?_ NB127_130.out _; (with_reducible repeat (first | refine blk_drewN ?_ _ | refine blk_drew ?_ | refine blk_alloc ?_ _)); refine blk_far ?_ NB127_130.out _; (with_reducible repeat (first | refine blk_drewN ?_ _ | refine blk_drew ?_ | refine blk_alloc ?_ _)); exact BK127.out)) : gb132 ≠ gb127)); have n11_ := Aside0.mk ((by rw [hg]; exact Nat.ne_of_lt (blk_lt (g := gb130) (o := .cells #[.string ((rd_T74 l0_3 x5_2).f0), .string ((rd_T74 l0_3 x5_2).f1), .slice A129_2 ((rd_T74 l0_3 x5_2).f2).length c129_2] 74 (0, 0)) (by (with_reducible repeat (first | refine blk_drewN ?_ _ | refine blk_drew ?_ | refine blk_alloc ?_ _)); refine blk_put (cs := #[.string ((rd_T74 l0_3 x5_2).f0), .string ((rd_T74 l0_3 x5_2).f1), .slice none 0 0]) ?_ 2 _ rfl; (with_reducible repeat (first | refine blk_drewN ?_ _ | refine blk_drew ?_ | refine blk_alloc ?_ _)); refine blk_put (cs := #[.string ((rd_T74 l0_3 x5_2).f0), .string (⟨#[]⟩ : ByteArray), .slice none 0 0]) ?_ 1 _ rfl; (with_reducible repeat (first | refine blk_drewN ?_ _ | refine blk_drew ?_ | refine blk_alloc ?_ _)); refine blk_put (cs := #[.string (⟨#[]⟩ : ByteArray), .string (⟨#[]⟩ : ByteArray), .slice none 0 0]) ?_ 0 _ rfl; (with_reducible repeat (first | refine blk_drewN ?_ _ | refine blk_drew ?_ | refine blk_alloc ?_ _)); exact BK130.out)) : gb130 ≠ gb132)); have n12_ := Aside0.mk ((by rw [hg]; exact Nat.ne_of_gt (blk_lt (g := gb130) (o := .cells #[.string ((rd_T74 l0_3 x5_2).f0), .string ((rd_T74 l0_3 x5_2).f1), .slice A129_2 ((rd_T74 l0_3 x5_2).f2).length c129_2] 74 (0, 0)) (by (with_reducible repeat (first | refine blk_drewN ?_ _ | refine blk_drew ?_ | refine blk_alloc ?_ _)); refine blk_put (cs := #[.string ((rd_T74 l0_3 x5_2).f0), .string ((rd_T74 l0_3 x5_2).f1), .slice none 0 0]) ?_ 2 _ rfl; (with_reducible repeat (first | refine blk_drewN ?_ _ | refine blk_drew ?_ | refine blk_alloc ?_ _)); refine blk_put (cs := #[.string ((rd_T74 l0_3 x5_2).f0), .string (⟨#[]⟩ : ByteArray), .slice none 0 0]) ?_ 1 _ rfl; (with_reducible repeat (first | refine blk_drewN ?_ _ | refine blk_drew ?_ | refine blk_alloc ?_ _)); refine blk_put (cs := #[.string (⟨#[]⟩ : ByteArray), .string (⟨#[]⟩ : ByteArray), .slice none 0 0]) ?_ 0 _ rfl; (with_reducible repeat (first | refine blk_drewN ?_ _ | refine blk_drew ?_ | refine blk_alloc ?_ _)); exact BK130.out)) : gb132 ≠ gb130)); clear BK126; clear BK127; clear BK130; clear HB; have BK126 := n0_; have BK127 := n1_; have BK130 := n2_; have HB := n3_; have BK132 := n4_; have GW132 := n5_; have GE132 := n6_; have NB126_132 := n7_; have NB132_126 := n8_; have NB127_132 := n9_; have NB132_127 := n10_; have NB130_132 := n11_; have NB132_130 := n12_; clear n0_ n1_ n2_ n3_ n4_ n5_ n6_ n7_ n8_ n9_ n10_ n11_ n12_; clear hb hbox hg; have hnb38 := NB132_126.out; have hnc38 := NB126_132.out; have hnb39 := NB132_127.out; have hnc39 := NB127_132.out; have hnb40 := NB132_130.out; have hnc40 := NB130_132.out; have hcz41_0 : w37.cell? ⟨gb132, 0, none⟩ = some (.string (⟨#[]⟩ : ByteArray)) := (blk_cell BK132.out 0).trans rfl; have hcz41_1 : w37.cell? ⟨gb132, 1, none⟩ = some (.string (⟨#[]⟩ : ByteArray)) := (blk_cell BK132.out 1).trans rfl; have hcz41_2 : w37.cell? ⟨gb132, 2, none⟩ = some (.slice none 0 0) := (blk_cell BK132.out 2).trans rfl; have hfz41_0 := blk_frozen BK132.out 0; have hfz41_1 := blk_frozen BK132.out 1; have hfz41_2 := blk_frozen BK132.out 2; have hcz42_0 : w37.cell? ⟨gb130, 0, none⟩ = some (.string ((rd_T74 l0_3 x5_2).f0)) := (blk_cell BK130.out 0).trans rfl; have hcz42_1 : w37.cell? ⟨gb130, 1, none⟩ = some (.string ((rd_T74 l0_3 x5_2).f1)) := (blk_cell BK130.out 1).trans rfl; have hcz42_2 : w37.cell? ⟨gb130, 2, none⟩ = some (.slice A129_2 ((rd_T74 l0_3 x5_2).f2).length c129_2) := (blk_cell BK130.out 2).trans rfl; have hfz42_0 := blk_frozen BK130.out 0; have hfz42_1 := blk_frozen BK130.out 1; have hfz42_2 := blk_frozen BK130.out 2) | (go_at_call 41; (with_reducible refine (rosterlaw09_sameTexts.calls k2 _ _ ((rd_T74 l0_3 x5_2).f2) _ _ ((rd_T74 l1_3 x5_2).f2) true _ ?side1 ?side2 ?side3 ?side4 A28.out).mono ?_); (case side1 => exact Kd.C_below HR129_2.out (by repeat (first | (with_reducible first | exact HB.out | apply below_alloc | apply pw_below_drewN | apply below_drew1 | refine below_set ?_ GE126.out | refine below_set ?_ GE127.out | refine below_set ?_ GE130.out | refine below_set ?_ GE132.out) | exact HB.out))); (case side2 => exact HC129_2.out); (case side3 => exact Kd.C_below HR131_2.out (by repeat (first | (with_reducible first | exact HB.out | apply below_alloc | apply pw_below_drewN | apply below_drew1 | refine below_set ?_ GE126.out | refine below_set ?_ GE127.out | refine below_set ?_ GE130.out | refine below_set ?_ GE132.out) | exact HB.out))); (case side4 => exact HC131_2.out); rintro e w' ⟨rfl, ⟨nd, rfl⟩⟩))
                        go_roundg k2
                        case measure => have := HJ2.out; have := HK2.out; omega
                        case rel => exact ⟨(wrap64 (x5_2 + 1)), (by first | rfl | (simp; done) | (simp [*]; done)), H', ⟨by have := HJ2.out; have := HK2.out; omega⟩, ⟨by (with_reducible repeat (first | refine blk_drewN ?_ _ | refine blk_drew ?_ | refine blk_alloc ?_ _)); refine blk_far ?_ NB126_132.out _; (with_reducible repeat (first | refine blk_drewN ?_ _ | refine blk_drew ?_ | refine blk_alloc ?_ _)); refine blk_far ?_ NB126_132.out _; (with_reducible repeat (first | refine blk_drewN ?_ _ | refine blk_drew ?_ | refine blk_alloc ?_ _)); refine blk_far ?_ NB126_132.out _; (with_reducible repeat (first | refine blk_drewN ?_ _ | refine blk_drew ?_ | refine blk_alloc ?_ _)); exact BK126.out⟩, ⟨by (with_reducible repeat (first | refine blk_drewN ?_ _ | refine blk_drew ?_ | refine blk_alloc ?_ _)); refine blk_far ?_ NB127_132.out _; (with_reducible repeat (first | refine blk_drewN ?_ _ | refine blk_drew ?_ | refine blk_alloc ?_ _)); refine blk_far ?_ NB127_132.out _; (with_reducible repeat (first | refine blk_drewN ?_ _ | refine blk_drew ?_ | refine blk_alloc ?_ _)); refine blk_far ?_ NB127_132.out _; (with_reducible repeat (first | refine blk_drewN ?_ _ | refine blk_drew ?_ | refine blk_alloc ?_ _)); exact BK127.out⟩, ⟨by repeat (first | (with_reducible first | exact HB.out | apply below_alloc | apply pw_below_drewN | apply below_drew1 | refine below_set ?_ GE126.out | refine below_set ?_ GE127.out | refine below_set ?_ GE130.out | refine below_set ?_ GE132.out) | exact HB.out)⟩⟩
                      · replace c29 := Bool.eq_false_iff.mpr c29
                        subst c29
                        have H1 : (some false) = some r := by rw [if_neg (show ¬ (false = true) by decide)] at H; exact H
                        clear H
                        have H := H1
                        clear H1
                        obtain rfl := Option.some.inj H
                        have hnb43 := NB126_127.out
                        have hnc43 := NB127_126.out
                        have hcz44_0 : wr.cell? ⟨gb126, 0, none⟩ = some (.int .i64 a0_0) := (blk_cell BK126.out 0).trans rfl
                        have hcz44_1 : wr.cell? ⟨gb126, 1, none⟩ = some (.string a0_1) := (blk_cell BK126.out 1).trans rfl
                        have hcz44_2 : wr.cell? ⟨gb126, 2, none⟩ = some (.slice A0_2 l0_2.length c0_2) := (blk_cell BK126.out 2).trans rfl
                        have hcz44_3 : wr.cell? ⟨gb126, 3, none⟩ = some (.slice A0_3 l0_3.length c0_3) := (blk_cell BK126.out 3).trans rfl
                        have hfz44_0 := blk_frozen BK126.out 0
                        have hfz44_1 := blk_frozen BK126.out 1
                        have hfz44_2 := blk_frozen BK126.out 2
                        have hfz44_3 := blk_frozen BK126.out 3
                        have p129 : 0 ≤ (x5_2 : Int) := of_decide_eq_true (by first | (with_reducible assumption) | assumption)
                        have q129 : x5_2 < (l0_3.length : Int) := of_decide_eq_true (by first | (with_reducible assumption) | assumption)
                        obtain ⟨ad129, A129_2, c129_2, e129, hx129_0, hx129_1, hx129_2, hl129_2, hi129_2⟩ := at_T74 HR0_3.out x5_2 p129 q129
                        cases e129
                        replace hx129_0 := (HB.out.cell (World.block_lt_of_cell? w _ hx129_0)).trans hx129_0
                        replace hx129_1 := (HB.out.cell (World.block_lt_of_cell? w _ hx129_1)).trans hx129_1
                        replace hx129_2 := (HB.out.cell (World.block_lt_of_cell? w _ hx129_2)).trans hx129_2
                        have HR129_2 := Aside0.mk hi129_2
                        have HC129_2 := Aside0.mk hl129_2
                        clear hi129_2 hl129_2
                        replace p129 := eq_true p129
                        replace q129 := eq_true q129
                        go_wp2_with (first | ((with_reducible refine gate_dst (N := 6) rfl ?_); (try (refine gate_guard (by rfl) ?_; dsimp only)); refine box_event ?hg (N := 6) ?hd (cs := #[.string (⟨#[]⟩ : ByteArray), .string (⟨#[]⟩ : ByteArray), .slice none 0 0]) (t := 74) ?hr ?_; (case hd => rfl); (case hg => rfl); (case hr => first | (go_simp; done) | (go_simp; rfl)); intro gb130 hg w45 hbox hb; have n0_ := Aside0.mk (blk_below (g := gb126) (o := .cells #[.int .i64 a0_0, .string a0_1, .slice A0_2 l0_2.length c0_2, .slice (some ad129) l0_3.length c0_3] 45 (0, 0)) (by (with_reducible repeat (first | refine blk_drewN ?_ _ | refine blk_drew ?_ | refine blk_alloc ?_ _)); exact BK126.out) hb); have n1_ := Aside0.mk (blk_below (g := gb127) (o := .cells #[.int .i64 a1_0, .string a1_1, .slice A1_2 l1_2.length c1_2, .slice A1_3 l1_3.length c1_3] 45 (0, 0)) (by (with_reducible repeat (first | refine blk_drewN ?_ _ | refine blk_drew ?_ | refine blk_alloc ?_ _)); exact BK127.out) hb); have n2_ := Aside0.mk (below_step (by repeat (first | (with_reducible first | exact HB.out | apply below_alloc | apply pw_below_drewN | apply below_drew1 | refine below_set ?_ GE126.out | refine below_set ?_ GE127.out) | exact HB.out)) hb); have n3_ := Aside0.mk (hbox); have n4_ := Aside0.mk ((by rw [hg]; exact (below_size (by repeat (first | (with_reducible first | exact HB.out | apply below_alloc | apply pw_below_drewN | apply below_drew1 | refine below_set ?_ GE126.out | refine below_set ?_ GE127.out) | exact HB.out))) : w.heap.size ≤ gb130)); have n5_ := Aside0.mk ((by rw [hg]; exact (below_size (by repeat (first | (with_reducible first | exact HB.out | apply below_alloc | apply pw_below_drewN | apply below_drew1 | refine below_set ?_ GE126.out | refine below_set ?_ GE127.out) | exact HB.out))) : w.heap.size ≤ gb130)); have n6_ := Aside0.mk ((by rw [hg]; exact Nat.ne_of_lt (blk_lt (g := gb126) (o := .cells #[.int .i64 a0_0, .string a0_1, .slice A0_2 l0_2.length c0_2, .slice (some ad129) l0_3.length c0_3] 45 (0, 0)) (by (with_reducible repeat (first | refine blk_drewN ?_ _ | refine blk_drew ?_ | refine blk_alloc ?_ _)); exact BK126.out)) : gb126 ≠ gb130)); have n7_ := Aside0.mk ((by rw [hg]; exact Nat.ne_of_gt (blk_lt (g := gb126) (o := .cells #[.int .i64 a0_0, .string a0_1, .slice A0_2 l0_2.length c0_2, .slice (some ad129) l0_3.length c0_3] 45 (0, 0)) (by (with_reducible repeat (first | refine blk_drewN ?_ _ | refine blk_drew ?_ | refine blk_alloc ?_ _)); exact BK126.out)) : gb130 ≠ gb126)); have n8_ := Aside0.mk ((by rw [hg]; exact Nat.ne_of_lt (blk_lt (g := gb127) (o := .cells #[.int .i64 a1_0, .string a1_1, .slice A1_2 l1_2.length c1_2, .slice A1_3 l1_3.length c1_3] 45 (0, 0)) (by (with_reducible repeat (first | refine blk_drewN ?_ _ | refine blk_drew ?_ | refine blk_alloc ?_ _)); exact BK127.out)) : gb127 ≠ gb130)); have n9_ := Aside0.mk ((by rw [hg]; exact Nat.ne_of_gt (blk_lt (g := gb127) (o := .cells #[.int .i64 a1_0, .string a1_1, .slice A1_2 l1_2.length c1_2, .slice A1_3 l1_3.length c1_3] 45 (0, 0)) (by (with_reducible repeat (first | refine blk_drewN ?_ _ | refine blk_drew ?_ | refine blk_alloc ?_ _)); exact BK127.out)) : gb130 ≠ gb127)); clear BK126; clear BK127; clear HB; have BK126 := n0_; have BK127 := n1_; have HB := n2_; have BK130 := n3_; have GW130 := n4_; have GE130 := n5_; have NB126_130 := n6_; have NB130_126 := n7_; have NB127_130 := n8_; have NB130_127 := n9_; clear n0_ n1_ n2_ n3_ n4_ n5_ n6_ n7_ n8_ n9_; clear hb hbox hg; have hnb46 := NB130_126.out; have hnc46 := NB126_130.out; have hnb47 := NB130_127.out; have hnc47 := NB127_130.out; have hcz48_0 : w45.cell? ⟨gb130, 0, none⟩ = some (.string (⟨#[]⟩ : ByteArray)) := (blk_cell BK130.out 0).trans rfl; have hcz48_1 : w45.cell? ⟨gb130, 1, none⟩ = some (.string (⟨#[]⟩ : ByteArray)) := (blk_cell BK130.out 1).trans rfl; have hcz48_2 : w45.cell? ⟨gb130, 2, none⟩ = some (.slice none 0 0) := (blk_cell BK130.out 2).trans rfl; have hfz48_0 := blk_frozen BK130.out 0; have hfz48_1 := blk_frozen BK130.out 1; have hfz48_2 := blk_frozen BK130.out 2; have hcz49_0 : w45.cell? ⟨gb127, 0, none⟩ = some (.int .i64 a1_0) := (blk_cell BK127.out 0).trans rfl; have hcz49_1 : w45.cell? ⟨gb127, 1, none⟩ = some (.string a1_1) := (blk_cell BK127.out 1).trans rfl; have hcz49_2 : w45.cell? ⟨gb127, 2, none⟩ = some (.slice A1_2 l1_2.length c1_2) := (blk_cell BK127.out 2).trans rfl; have hcz49_3 : w45.cell? ⟨gb127, 3, none⟩ = some (.slice A1_3 l1_3.length c1_3) := (blk_cell BK127.out 3).trans rfl; have hfz49_0 := blk_frozen BK127.out 0; have hfz49_1 := blk_frozen BK127.out 1; have hfz49_2 := blk_frozen BK127.out 2; have hfz49_3 := blk_frozen BK127.out 3; have p131 : 0 ≤ (x5_2 : Int) := of_decide_eq_true (by first | (with_reducible assumption) | assumption); have q131 : x5_2 < (l1_3.length : Int) := of_decide_eq_true (by first | (with_reducible assumption) | assumption); obtain ⟨ad131, A131_2, c131_2, e131, hx131_0, hx131_1, hx131_2, hl131_2, hi131_2⟩ := at_T74 HR1_3.out x5_2 p131 q131; cases e131; have hn131_0 : ad131.block ≠ gb130 := Nat.ne_of_lt (Nat.lt_of_lt_of_le (by have := World.block_lt_of_cell? _ _ hx131_0; first | rwa [add_block] at this | exact this) GW130.out); have hn131_1 : ad131.block ≠ gb130 := Nat.ne_of_lt (Nat.lt_of_lt_of_le (by have := World.block_lt_of_cell? _ _ hx131_0; first | rwa [add_block] at this | exact this) GW130.out); have hn131_2 : ad131.block ≠ gb130 := Nat.ne_of_lt (Nat.lt_of_lt_of_le (by have := World.block_lt_of_cell? _ _ hx131_0; first | rwa [add_block] at this | exact this) GW130.out); replace hx131_0 := (HB.out.cell (World.block_lt_of_cell? w _ hx131_0)).trans hx131_0; replace hx131_1 := (HB.out.cell (World.block_lt_of_cell? w _ hx131_1)).trans hx131_1; replace hx131_2 := (HB.out.cell (World.block_lt_of_cell? w _ hx131_2)).trans hx131_2; have HR131_2 := Aside0.mk hi131_2; have HC131_2 := Aside0.mk hl131_2; clear hi131_2 hl131_2; replace hx131_0 := (cell_far (p := ⟨gb130, 0, none⟩) (by first | (rw [add_block]; exact hn131_0) | (show (Addr.add _ _).block ≠ _; rw [add_block]; exact hn131_0) | exact hn131_0) (.string ((rd_T74 l0_3 x5_2).f0))).trans hx131_0; replace hx131_1 := (cell_far (p := ⟨gb130, 0, none⟩) (by first | (rw [add_block]; exact hn131_0) | (show (Addr.add _ _).block ≠ _; rw [add_block]; exact hn131_0) | exact hn131_0) (.string ((rd_T74 l0_3 x5_2).f0))).trans hx131_1; replace hx131_2 := (cell_far (p := ⟨gb130, 0, none⟩) (by first | (rw [add_block]; exact hn131_0) | (show (Addr.add _ _).block ≠ _; rw [add_block]; exact hn131_0) | exact hn131_0) (.string ((rd_T74 l0_3 x5_2).f0))).trans hx131_2; replace hx131_0 := (cell_far (p := ⟨gb130, 1, none⟩) (by first | (rw [add_block]; exact hn131_1) | (show (Addr.add _ _).block ≠ _; rw [add_block]; exact hn131_1) | exact hn131_1) (.string ((rd_T74 l0_3 x5_2).f1))).trans hx131_0; replace hx131_1 := (cell_far (p := ⟨gb130, 1, none⟩) (by first | (rw [add_block]; exact hn131_1) | (show (Addr.add _ _).block ≠ _; rw [add_block]; exact hn131_1) | exact hn131_1) (.string ((rd_T74 l0_3 x5_2).f1))).trans hx131_1; replace hx131_2 := (cell_far (p := ⟨gb130, 1, none⟩) (by first | (rw [add_block]; exact hn131_1) | (show (Addr.add _ _).block ≠ _; rw [add_block]; exact hn131_1) | exact hn131_1) (.string ((rd_T74 l0_3 x5_2).f1))).trans hx131_2; replace hx131_0 := (cell_far (p := ⟨gb130, 2, none⟩) (by first | (rw [add_block]; exact hn131_2) | (show (Addr.add _ _).block ≠ _; rw [add_block]; exact hn131_2) | exact hn131_2) (.slice A129_2 ((rd_T74 l0_3 x5_2).f2).length c129_2)).trans hx131_0; replace hx131_1 := (cell_far (p := ⟨gb130, 2, none⟩) (by first | (rw [add_block]; exact hn131_2) | (show (Addr.add _ _).block ≠ _; rw [add_block]; exact hn131_2) | exact hn131_2) (.slice A129_2 ((rd_T74 l0_3 x5_2).f2).length c129_2)).trans hx131_1; replace hx131_2 := (cell_far (p := ⟨gb130, 2, none⟩) (by first | (rw [add_block]; exact hn131_2) | (show (Addr.add _ _).block ≠ _; rw [add_block]; exact hn131_2) | exact hn131_2) (.slice A129_2 ((rd_T74 l0_3 x5_2).f2).length c129_2)).trans hx131_2; clear hn131_0; clear hn131_1; clear hn131_2; replace p131 := eq_true p131; replace q131 := eq_true q131) | ((with_reducible refine gate_dst (N := 7) rfl ?_); (try (refine gate_guard (by rfl) ?_; dsimp only)); refine box_event ?hg (N := 7) ?hd (cs := #[.string (⟨#[]⟩ : ByteArray), .string (⟨#[]⟩ : ByteArray), .slice none 0 0]) (t := 74) ?hr ?_; (case hd => rfl); (case hg => rfl); (case hr => first | (go_simp; done) | (go_simp; rfl)); intro gb132 hg w50 hbox hb; have n0_ := Aside0.mk (blk_below (g := gb126) (o := .cells #[.int .i64 a0_0, .string a0_1, .slice A0_2 l0_2.length c0_2, .slice (some ad129) l0_3.length c0_3] 45 (0, 0)) (by (with_reducible repeat (first | refine blk_drewN ?_ _ | refine blk_drew ?_ | refine blk_alloc ?_ _)); refine blk_far ?_ NB126_130.out _; (with_reducible repeat (first | refine blk_drewN ?_ _ | refine blk_drew ?_ | refine blk_alloc ?_ _)); refine blk_far ?_ NB126_130.out _; (with_reducible repeat (first | refine blk_drewN ?_ _ | refine blk_drew ?_ | refine blk_alloc ?_ _)); refine blk_far ?_ NB126_130.out _; (with_reducible repeat (first | refine blk_drewN ?_ _ | refine blk_drew ?_ | refine blk_alloc ?_ _)); exact BK126.out) hb); have n1_ := Aside0.mk (blk_below (g := gb127) (o := .cells #[.int .i64 a1_0, .string a1_1, .slice A1_2 l1_2.length c1_2, .slice (some ad131) l1_3.length c1_3] 45 (0, 0)) (by (with_reducible repeat (first | refine blk_drewN ?_ _ | refine blk_drew ?_ | refine blk_alloc ?_ _)); refine blk_far ?_ NB127_130.out _; (with_reducible repeat (first | refine blk_drewN ?_ _ | refine blk_drew ?_ | refine blk_alloc ?_ _)); refine blk_far ?_ NB127_130.out _; (with_reducible repeat (first | refine blk_drewN ?_ _ | refine blk_drew ?_ | refine blk_alloc ?_ _)); refine blk_far ?_ NB127_130.out _; (with_reducible repeat (first | refine blk_drewN ?_ _ | refine blk_drew ?_ | refine blk_alloc ?_ _)); exact BK127.out) hb); have n2_ := Aside0.mk (blk_below (g := gb130) (o := .cells #[.string ((rd_T74 l0_3 x5_2).f0), .string ((rd_T74 l0_3 x5_2).f1), .slice A129_2 ((rd_T74 l0_3 x5_2).f2).length c129_2] 74 (0, 0)) (by (with_reducible repeat (first | refine blk_drewN ?_ _ | refine blk_drew ?_ | refine blk_alloc ?_ _)); refine blk_put (cs := #[.string ((rd_T74 l0_3 x5_2).f0), .string ((rd_T74 l0_3 x5_2).f1), .slice none 0 0]) ?_ 2 _ rfl; (with_reducible repeat (first | refine blk_drewN ?_ _ | refine blk_drew ?_ | refine blk_alloc ?_ _)); refine blk_put (cs := #[.string ((rd_T74 l0_3 x5_2).f0), .string (⟨#[]⟩ : ByteArray), .slice none 0 0]) ?_ 1 _ rfl; (with_reducible repeat (first | refine blk_drewN ?_ _ | refine blk_drew ?_ | refine blk_alloc ?_ _)); refine blk_put (cs := #[.string (⟨#[]⟩ : ByteArray), .string (⟨#[]⟩ : ByteArray), .slice none 0 0]) ?_ 0 _ rfl; (with_reducible repeat (first | refine blk_drewN ?_ _ | refine blk_drew ?_ | refine blk_alloc ?_ _)); exact BK130.out) hb); have n3_ := Aside0.mk (below_step (by repeat (first | (with_reducible first | exact HB.out | apply below_alloc | apply pw_below_drewN | apply below_drew1 | refine below_set ?_ GE126.out | refine below_set ?_ GE127.out | refine below_set ?_ GE130.out) | exact HB.out)) hb); have n4_ := Aside0.mk (hbox); have n5_ := Aside0.mk ((by rw [hg]; exact (below_size (by repeat (first | (with_reducible first | exact HB.out | apply below_alloc | apply pw_below_drewN | apply below_drew1 | refine below_set ?_ GE126.out | refine below_set ?_ GE127.out | refine below_set ?_ GE130.out) | exact HB.out))) : w.heap.size ≤ gb132)); have n6_ := Aside0.mk ((by rw [hg]; exact (below_size (by repeat (first | (with_reducible first | exact HB.out | apply below_alloc | apply pw_below_drewN | apply below_drew1 | refine below_set ?_ GE126.out | refine below_set ?_ GE127.out | refine below_set ?_ GE130.out) | exact HB.out))) : w.heap.size ≤ gb132)); have n7_ := Aside0.mk ((by rw [hg]; exact Nat.ne_of_lt (blk_lt (g := gb126) (o := .cells #[.int .i64 a0_0, .string a0_1, .slice A0_2 l0_2.length c0_2, .slice (some ad129) l0_3.length c0_3] 45 (0, 0)) (by (with_reducible repeat (first | refine blk_drewN ?_ _ | refine blk_drew ?_ | refine blk_alloc ?_ _)); refine blk_far ?_ NB126_130.out _; (with_reducible repeat (first | refine blk_drewN ?_ _ | refine blk_drew ?_ | refine blk_alloc ?_ _)); refine blk_far ?_ NB126_130.out _; (with_reducible repeat (first | refine blk_drewN ?_ _ | refine blk_drew ?_ | refine blk_alloc ?_ _)); refine blk_far ?_ NB126_130.out _; (with_reducible repeat (first | refine blk_drewN ?_ _ | refine blk_drew ?_ | refine blk_alloc ?_ _)); exact BK126.out)) : gb126 ≠ gb132)); have n8_ := Aside0.mk ((by rw [hg]; exact Nat.ne_of_gt (blk_lt (g := gb126) (o := .cells #[.int .i64 a0_0, .string a0_1, .slice A0_2 l0_2.length c0_2, .slice (some ad129) l0_3.length c0_3] 45 (0, 0)) (by (with_reducible repeat (first | refine blk_drewN ?_ _ | refine blk_drew ?_ | refine blk_alloc ?_ _)); refine blk_far ?_ NB126_130.out _; (with_reducible repeat (first | refine blk_drewN ?_ _ | refine blk_drew ?_ | refine blk_alloc ?_ _)); refine blk_far ?_ NB126_130.out _; (with_reducible repeat (first | refine blk_drewN ?_ _ | refine blk_drew ?_ | refine blk_alloc ?_ _)); refine blk_far ?_ NB126_130.out _; (with_reducible repeat (first | refine blk_drewN ?_ _ | refine blk_drew ?_ | refine blk_alloc ?_ _)); exact BK126.out)) : gb132 ≠ gb126)); have n9_ := Aside0.mk ((by rw [hg]; exact Nat.ne_of_lt (blk_lt (g := gb127) (o := .cells #[.int .i64 a1_0, .string a1_1, .slice A1_2 l1_2.length c1_2, .slice (some ad131) l1_3.length c1_3] 45 (0, 0)) (by (with_reducible repeat (first | refine blk_drewN ?_ _ | refine blk_drew ?_ | refine blk_alloc ?_ _)); refine blk_far ?_ NB127_130.out _; (with_reducible repeat (first | refine blk_drewN ?_ _ | refine blk_drew ?_ | refine blk_alloc ?_ _)); refine blk_far ?_ NB127_130.out _; (with_reducible repeat (first | refine blk_drewN ?_ _ | refine blk_drew ?_ | refine blk_alloc ?_ _)); refine blk_far ?_ NB127_130.out _; (with_reducible repeat (first | refine blk_drewN ?_ _ | refine blk_drew ?_ | refine blk_alloc ?_ _)); exact BK127.out)) : gb127 ≠ gb132)); have n10_ := Aside0.mk ((by rw [hg]; exact Nat.ne_of_gt (blk_lt (g := gb127) (o := .cells #[.int .i64 a1_0, .string a1_1, .slice A1_2 l1_2.length c1_2, .slice (some ad131) l1_3.length c1_3] 45 (0, 0)) (by (with_reducible repeat (first | refine blk_drewN ?_ _ | refine blk_drew ?_ | refine blk_alloc ?_ _)); refine blk_far ?_ NB127_130.out _; (with_reducible repeat (first | refine blk_drewN ?_ _ | refine blk_drew ?_ | refine blk_alloc ?_ _)); refine blk_far ?_ NB127_130.out _; (with_reducible repeat (first | refine blk_drewN ?_ _ | refine blk_drew ?_ | refine blk_alloc ?_ _)); refine blk_far ?_ NB127_130.out _; (with_reducible repeat (first | refine blk_drewN ?_ _ | refine blk_drew ?_ | refine blk_alloc ?_ _)); exact BK127.out)) : gb132 ≠ gb127)); have n11_ := Aside0.mk ((by rw [hg]; exact Nat.ne_of_lt (blk_lt (g := gb130) (o := .cells #[.string ((rd_T74 l0_3 x5_2).f0), .string ((rd_T74 l0_3 x5_2).f1), .slice A129_2 ((rd_T74 l0_3 x5_2).f2).length c129_2] 74 (0, 0)) (by (with_reducible repeat (first | refine blk_drewN ?_ _ | refine blk_drew ?_ | refine blk_alloc ?_ _)); refine blk_put (cs := #[.string ((rd_T74 l0_3 x5_2).f0), .string ((rd_T74 l0_3 x5_2).f1), .slice none 0 0]) ?_ 2 _ rfl; (with_reducible repeat (first | refine blk_drewN ?_ _ | refine blk_drew ?_ | refine blk_alloc ?_ _)); refine blk_put (cs := #[.string ((rd_T74 l0_3 x5_2).f0), .string (⟨#[]⟩ : ByteArray), .slice none 0 0]) ?_ 1 _ rfl; (with_reducible repeat (first | refine blk_drewN ?_ _ | refine blk_drew ?_ | refine blk_alloc ?_ _)); refine blk_put (cs := #[.string (⟨#[]⟩ : ByteArray), .string (⟨#[]⟩ : ByteArray), .slice none 0 0]) ?_ 0 _ rfl; (with_reducible repeat (first | refine blk_drewN ?_ _ | refine blk_drew ?_ | refine blk_alloc ?_ _)); exact BK130.out)) : gb130 ≠ gb132)); have n12_ := Aside0.mk ((by rw [hg]; exact Nat.ne_of_gt (blk_lt (g := gb130) (o := .cells #[.string ((rd_T74 l0_3 x5_2).f0), .string ((rd_T74 l0_3 x5_2).f1), .slice A129_2 ((rd_T74 l0_3 x5_2).f2).length c129_2] 74 (0, 0)) (by (with_reducible repeat (first | refine blk_drewN ?_ _ | refine blk_drew ?_ | refine blk_alloc ?_ _)); refine blk_put (cs := #[.string ((rd_T74 l0_3 x5_2).f0), .string ((rd_T74 l0_3 x5_2).f1), .slice none 0 0]) ?_ 2 _ rfl; (with_reducible repeat (first | refine blk_drewN ?_ _ | refine blk_drew ?_ | refine blk_alloc ?_ _)); refine blk_put (cs := #[.string ((rd_T74 l0_3 x5_2).f0), .string (⟨#[]⟩ : ByteArray), .slice none 0 0]) ?_ 1 _ rfl; (with_reducible repeat (first | refine blk_drewN ?_ _ | refine blk_drew ?_ | refine blk_alloc ?_ _)); refine blk_put (cs := #[.string (⟨#[]⟩ : ByteArray), .string (⟨#[]⟩ : ByteArray), .slice none 0 0]) ?_ 0 _ rfl; (with_reducible repeat (first | refine blk_drewN ?_ _ | refine blk_drew ?_ | refine blk_alloc ?_ _)); exact BK130.out)) : gb132 ≠ gb130)); clear BK126; clear BK127; clear BK130; clear HB; have BK126 := n0_; have BK127 := n1_; have BK130 := n2_; have HB := n3_; have BK132 := n4_; have GW132 := n5_; have GE132 := n6_; have NB126_132 := n7_; have NB132_126 := n8_; have NB127_132 := n9_; have NB132_127 := n10_; have NB130_132 := n11_; have NB132_130 := n12_; clear n0_ n1_ n2_ n3_ n4_ n5_ n6_ n7_ n8_ n9_ n10_ n11_ n12_; clear hb hbox hg; have hnb51 := NB132_126.out; have hnc51 := NB126_132.out; have hnb52 := NB132_127.out; have hnc52 := NB127_132.out; have hnb53 := NB132_130.out; have hnc53 := NB130_132.out; have hcz54_0 : w50.cell? ⟨gb132, 0, none⟩ = some (.string (⟨#[]⟩ : ByteArray)) := (blk_cell BK132.out 0).trans rfl; have hcz54_1 : w50.cell? ⟨gb132, 1, none⟩ = some (.string (⟨#[]⟩ : ByteArray)) := (blk_cell BK132.out 1).trans rfl; have hcz54_2 : w50.cell? ⟨gb132, 2, none⟩ = some (.slice none 0 0) := (blk_cell BK132.out 2).trans rfl; have hfz54_0 := blk_frozen BK132.out 0; have hfz54_1 := blk_frozen BK132.out 1; have hfz54_2 := blk_frozen BK132.out 2; have hcz55_0 : w50.cell? ⟨gb130, 0, none⟩ = some (.string ((rd_T74 l0_3 x5_2).f0)) := (blk_cell BK130.out 0).trans rfl; have hcz55_1 : w50.cell? ⟨gb130, 1, none⟩ = some (.string ((rd_T74 l0_3 x5_2).f1)) := (blk_cell BK130.out 1).trans rfl; have hcz55_2 : w50.cell? ⟨gb130, 2, none⟩ = some (.slice A129_2 ((rd_T74 l0_3 x5_2).f2).length c129_2) := (blk_cell BK130.out 2).trans rfl; have hfz55_0 := blk_frozen BK130.out 0; have hfz55_1 := blk_frozen BK130.out 1; have hfz55_2 := blk_frozen BK130.out 2) | (go_at_call 41; (with_reducible refine (rosterlaw09_sameTexts.calls k2 _ _ ((rd_T74 l0_3 x5_2).f2) _ _ ((rd_T74 l1_3 x5_2).f2) false _ ?side1 ?side2 ?side3 ?side4 A28.out).mono ?_); (case side1 => exact Kd.C_below HR129_2.out (by repeat (first | (with_reducible first | exact HB.out | apply below_alloc | apply pw_below_drewN | apply below_drew1 | refine below_set ?_ GE126.out | refine below_set ?_ GE127.out | refine below_set ?_ GE130.out | refine below_set ?_ GE132.out) | exact HB.out))); (case side2 => exact HC129_2.out); (case side3 => exact Kd.C_below HR131_2.out (by repeat (first | (with_reducible first | exact HB.out | apply below_alloc | apply pw_below_drewN | apply below_drew1 | refine below_set ?_ GE126.out | refine below_set ?_ GE127.out | refine below_set ?_ GE130.out | refine below_set ?_ GE132.out) | exact HB.out))); (case side4 => exact HC131_2.out); rintro e w' ⟨rfl, ⟨nd, rfl⟩⟩))
                        go_ret
                        exact ⟨by first | rfl | (simp [errW_none, errW_some] <;> rfl) | (simp [*, errW_none, errW_some] <;> rfl), by repeat (first | (with_reducible first | exact HB.out | apply below_alloc | apply pw_below_drewN | apply below_drew1 | refine below_set ?_ GE126.out | refine below_set ?_ GE127.out | refine below_set ?_ GE130.out | refine below_set ?_ GE132.out) | exact HB.out)⟩
                    · rw [if_neg c27] at H
                      have c27b0 : (((rd_T74 l0_3 x5_2).f1).toList == ((rd_T74 l1_3 x5_2).f1).toList) = false := beq_eq_false_iff_ne.mpr c27
                      have c27b1 : (((rd_T74 l0_3 x5_2).f1).toList != ((rd_T74 l1_3 x5_2).f1).toList) = true := bne_iff_ne.mpr c27
                      obtain rfl := Option.some.inj H
                      have hnb56 := NB126_127.out
                      have hnc56 := NB127_126.out
                      have hcz57_0 : wr.cell? ⟨gb126, 0, none⟩ = some (.int .i64 a0_0) := (blk_cell BK126.out 0).trans rfl
                      have hcz57_1 : wr.cell? ⟨gb126, 1, none⟩ = some (.string a0_1) := (blk_cell BK126.out 1).trans rfl
                      have hcz57_2 : wr.cell? ⟨gb126, 2, none⟩ = some (.slice A0_2 l0_2.length c0_2) := (blk_cell BK126.out 2).trans rfl
                      have hcz57_3 : wr.cell? ⟨gb126, 3, none⟩ = some (.slice A0_3 l0_3.length c0_3) := (blk_cell BK126.out 3).trans rfl
                      have hfz57_0 := blk_frozen BK126.out 0
                      have hfz57_1 := blk_frozen BK126.out 1
                      have hfz57_2 := blk_frozen BK126.out 2
                      have hfz57_3 := blk_frozen BK126.out 3
                      have p129 : 0 ≤ (x5_2 : Int) := of_decide_eq_true (by first | (with_reducible assumption) | assumption)
                      have q129 : x5_2 < (l0_3.length : Int) := of_decide_eq_true (by first | (with_reducible assumption) | assumption)
                      obtain ⟨ad129, A129_2, c129_2, e129, hx129_0, hx129_1, hx129_2, hl129_2, hi129_2⟩ := at_T74 HR0_3.out x5_2 p129 q129
                      cases e129
                      replace hx129_0 := (HB.out.cell (World.block_lt_of_cell? w _ hx129_0)).trans hx129_0
                      replace hx129_1 := (HB.out.cell (World.block_lt_of_cell? w _ hx129_1)).trans hx129_1
                      replace hx129_2 := (HB.out.cell (World.block_lt_of_cell? w _ hx129_2)).trans hx129_2
                      have HR129_2 := Aside0.mk hi129_2
                      have HC129_2 := Aside0.mk hl129_2
                      clear hi129_2 hl129_2
                      replace p129 := eq_true p129
                      replace q129 := eq_true q129
                      go_wp2_with (first | ((with_reducible refine gate_dst (N := 6) rfl ?_); (try (refine gate_guard (by rfl) ?_; dsimp only)); refine box_event ?hg (N := 6) ?hd (cs := #[.string (⟨#[]⟩ : ByteArray), .string (⟨#[]⟩ : ByteArray), .slice none 0 0]) (t := 74) ?hr ?_; (case hd => rfl); (case hg => rfl); (case hr => first | (go_simp; done) | (go_simp; rfl)); intro gb130 hg w58 hbox hb; have n0_ := Aside0.mk (blk_below (g := gb126) (o := .cells #[.int .i64 a0_0, .string a0_1, .slice A0_2 l0_2.length c0_2, .slice (some ad129) l0_3.length c0_3] 45 (0, 0)) (by (with_reducible repeat (first | refine blk_drewN ?_ _ | refine blk_drew ?_ | refine blk_alloc ?_ _)); exact BK126.out) hb); have n1_ := Aside0.mk (blk_below (g := gb127) (o := .cells #[.int .i64 a1_0, .string a1_1, .slice A1_2 l1_2.length c1_2, .slice A1_3 l1_3.length c1_3] 45 (0, 0)) (by (with_reducible repeat (first | refine blk_drewN ?_ _ | refine blk_drew ?_ | refine blk_alloc ?_ _)); exact BK127.out) hb); have n2_ := Aside0.mk (below_step (by repeat (first | (with_reducible first | exact HB.out | apply below_alloc | apply pw_below_drewN | apply below_drew1 | refine below_set ?_ GE126.out | refine below_set ?_ GE127.out) | exact HB.out)) hb); have n3_ := Aside0.mk (hbox); have n4_ := Aside0.mk ((by rw [hg]; exact (below_size (by repeat (first | (with_reducible first | exact HB.out | apply below_alloc | apply pw_below_drewN | apply below_drew1 | refine below_set ?_ GE126.out | refine below_set ?_ GE127.out) | exact HB.out))) : w.heap.size ≤ gb130)); have n5_ := Aside0.mk ((by rw [hg]; exact (below_size (by repeat (first | (with_reducible first | exact HB.out | apply below_alloc | apply pw_below_drewN | apply below_drew1 | refine below_set ?_ GE126.out | refine below_set ?_ GE127.out) | exact HB.out))) : w.heap.size ≤ gb130)); have n6_ := Aside0.mk ((by rw [hg]; exact Nat.ne_of_lt (blk_lt (g := gb126) (o := .cells #[.int .i64 a0_0, .string a0_1, .slice A0_2 l0_2.length c0_2, .slice (some ad129) l0_3.length c0_3] 45 (0, 0)) (by (with_reducible repeat (first | refine blk_drewN ?_ _ | refine blk_drew ?_ | refine blk_alloc ?_ _)); exact BK126.out)) : gb126 ≠ gb130)); have n7_ := Aside0.mk ((by rw [hg]; exact Nat.ne_of_gt (blk_lt (g := gb126) (o := .cells #[.int .i64 a0_0, .string a0_1, .slice A0_2 l0_2.length c0_2, .slice (some ad129) l0_3.length c0_3] 45 (0, 0)) (by (with_reducible repeat (first | refine blk_drewN ?_ _ | refine blk_drew ?_ | refine blk_alloc ?_ _)); exact BK126.out)) : gb130 ≠ gb126)); have n8_ := Aside0.mk ((by rw [hg]; exact Nat.ne_of_lt (blk_lt (g := gb127) (o := .cells #[.int .i64 a1_0, .string a1_1, .slice A1_2 l1_2.length c1_2, .slice A1_3 l1_3.length c1_3] 45 (0, 0)) (by (with_reducible repeat (first | refine blk_drewN ?_ _ | refine blk_drew ?_ | refine blk_alloc ?_ _)); exact BK127.out)) : gb127 ≠ gb130)); have n9_ := Aside0.mk ((by rw [hg]; exact Nat.ne_of_gt (blk_lt (g := gb127) (o := .cells #[.int .i64 a1_0, .string a1_1, .slice A1_2 l1_2.length c1_2, .slice A1_3 l1_3.length c1_3] 45 (0, 0)) (by (with_reducible repeat (first | refine blk_drewN ?_ _ | refine blk_drew ?_ | refine blk_alloc ?_ _)); exact BK127.out)) : gb130 ≠ gb127)); clear BK126; clear BK127; clear HB; have BK126 := n0_; have BK127 := n1_; have HB := n2_; have BK130 := n3_; have GW130 := n4_; have GE130 := n5_; have NB126_130 := n6_; have NB130_126 := n7_; have NB127_130 := n8_; have NB130_127 := n9_; clear n0_ n1_ n2_ n3_ n4_ n5_ n6_ n7_ n8_ n9_; clear hb hbox hg; have hnb59 := NB130_126.out; have hnc59 := NB126_130.out; have hnb60 := NB130_127.out; have hnc60 := NB127_130.out; have hcz61_0 : w58.cell? ⟨gb130, 0, none⟩ = some (.string (⟨#[]⟩ : ByteArray)) := (blk_cell BK130.out 0).trans rfl; have hcz61_1 : w58.cell? ⟨gb130, 1, none⟩ = some (.string (⟨#[]⟩ : ByteArray)) := (blk_cell BK130.out 1).trans rfl; have hcz61_2 : w58.cell? ⟨gb130, 2, none⟩ = some (.slice none 0 0) := (blk_cell BK130.out 2).trans rfl; have hfz61_0 := blk_frozen BK130.out 0; have hfz61_1 := blk_frozen BK130.out 1; have hfz61_2 := blk_frozen BK130.out 2; have hcz62_0 : w58.cell? ⟨gb127, 0, none⟩ = some (.int .i64 a1_0) := (blk_cell BK127.out 0).trans rfl; have hcz62_1 : w58.cell? ⟨gb127, 1, none⟩ = some (.string a1_1) := (blk_cell BK127.out 1).trans rfl; have hcz62_2 : w58.cell? ⟨gb127, 2, none⟩ = some (.slice A1_2 l1_2.length c1_2) := (blk_cell BK127.out 2).trans rfl; have hcz62_3 : w58.cell? ⟨gb127, 3, none⟩ = some (.slice A1_3 l1_3.length c1_3) := (blk_cell BK127.out 3).trans rfl; have hfz62_0 := blk_frozen BK127.out 0; have hfz62_1 := blk_frozen BK127.out 1; have hfz62_2 := blk_frozen BK127.out 2; have hfz62_3 := blk_frozen BK127.out 3; have p131 : 0 ≤ (x5_2 : Int) := of_decide_eq_true (by first | (with_reducible assumption) | assumption); have q131 : x5_2 < (l1_3.length : Int) := of_decide_eq_true (by first | (with_reducible assumption) | assumption); obtain ⟨ad131, A131_2, c131_2, e131, hx131_0, hx131_1, hx131_2, hl131_2, hi131_2⟩ := at_T74 HR1_3.out x5_2 p131 q131; cases e131; have hn131_0 : ad131.block ≠ gb130 := Nat.ne_of_lt (Nat.lt_of_lt_of_le (by have := World.block_lt_of_cell? _ _ hx131_0; first | rwa [add_block] at this | exact this) GW130.out); have hn131_1 : ad131.block ≠ gb130 := Nat.ne_of_lt (Nat.lt_of_lt_of_le (by have := World.block_lt_of_cell? _ _ hx131_0; first | rwa [add_block] at this | exact this) GW130.out); have hn131_2 : ad131.block ≠ gb130 := Nat.ne_of_lt (Nat.lt_of_lt_of_le (by have := World.block_lt_of_cell? _ _ hx131_0; first | rwa [add_block] at this | exact this) GW130.out); replace hx131_0 := (HB.out.cell (World.block_lt_of_cell? w _ hx131_0)).trans hx131_0; replace hx131_1 := (HB.out.cell (World.block_lt_of_cell? w _ hx131_1)).trans hx131_1; replace hx131_2 := (HB.out.cell (World.block_lt_of_cell? w _ hx131_2)).trans hx131_2; have HR131_2 := Aside0.mk hi131_2; have HC131_2 := Aside0.mk hl131_2; clear hi131_2 hl131_2; replace hx131_0 := (cell_far (p := ⟨gb130, 0, none⟩) (by first | (rw [add_block]; exact hn131_0) | (show (Addr.add _ _).block ≠ _; rw [add_block]; exact hn131_0) | exact hn131_0) (.string ((rd_T74 l0_3 x5_2).f0))).trans hx131_0; replace hx131_1 := (cell_far (p := ⟨gb130, 0, none⟩) (by first | (rw [add_block]; exact hn131_0) | (show (Addr.add _ _).block ≠ _; rw [add_block]; exact hn131_0) | exact hn131_0) (.string ((rd_T74 l0_3 x5_2).f0))).trans hx131_1; replace hx131_2 := (cell_far (p := ⟨gb130, 0, none⟩) (by first | (rw [add_block]; exact hn131_0) | (show (Addr.add _ _).block ≠ _; rw [add_block]; exact hn131_0) | exact hn131_0) (.string ((rd_T74 l0_3 x5_2).f0))).trans hx131_2; replace hx131_0 := (cell_far (p := ⟨gb130, 1, none⟩) (by first | (rw [add_block]; exact hn131_1) | (show (Addr.add _ _).block ≠ _; rw [add_block]; exact hn131_1) | exact hn131_1) (.string ((rd_T74 l0_3 x5_2).f1))).trans hx131_0; replace hx131_1 := (cell_far (p := ⟨gb130, 1, none⟩) (by first | (rw [add_block]; exact hn131_1) | (show (Addr.add _ _).block ≠ _; rw [add_block]; exact hn131_1) | exact hn131_1) (.string ((rd_T74 l0_3 x5_2).f1))).trans hx131_1; replace hx131_2 := (cell_far (p := ⟨gb130, 1, none⟩) (by first | (rw [add_block]; exact hn131_1) | (show (Addr.add _ _).block ≠ _; rw [add_block]; exact hn131_1) | exact hn131_1) (.string ((rd_T74 l0_3 x5_2).f1))).trans hx131_2; replace hx131_0 := (cell_far (p := ⟨gb130, 2, none⟩) (by first | (rw [add_block]; exact hn131_2) | (show (Addr.add _ _).block ≠ _; rw [add_block]; exact hn131_2) | exact hn131_2) (.slice A129_2 ((rd_T74 l0_3 x5_2).f2).length c129_2)).trans hx131_0; replace hx131_1 := (cell_far (p := ⟨gb130, 2, none⟩) (by first | (rw [add_block]; exact hn131_2) | (show (Addr.add _ _).block ≠ _; rw [add_block]; exact hn131_2) | exact hn131_2) (.slice A129_2 ((rd_T74 l0_3 x5_2).f2).length c129_2)).trans hx131_1; replace hx131_2 := (cell_far (p := ⟨gb130, 2, none⟩) (by first | (rw [add_block]; exact hn131_2) | (show (Addr.add _ _).block ≠ _; rw [add_block]; exact hn131_2) | exact hn131_2) (.slice A129_2 ((rd_T74 l0_3 x5_2).f2).length c129_2)).trans hx131_2; clear hn131_0; clear hn131_1; clear hn131_2; replace p131 := eq_true p131; replace q131 := eq_true q131) | ((with_reducible refine gate_dst (N := 7) rfl ?_); (try (refine gate_guard (by rfl) ?_; dsimp only)); refine box_event ?hg (N := 7) ?hd (cs := #[.string (⟨#[]⟩ : ByteArray), .string (⟨#[]⟩ : ByteArray), .slice none 0 0]) (t := 74) ?hr ?_; (case hd => rfl); (case hg => rfl); (case hr => first | (go_simp; done) | (go_simp; rfl)); intro gb132 hg w63 hbox hb; have n0_ := Aside0.mk (blk_below (g := gb126) (o := .cells #[.int .i64 a0_0, .string a0_1, .slice A0_2 l0_2.length c0_2, .slice (some ad129) l0_3.length c0_3] 45 (0, 0)) (by (with_reducible repeat (first | refine blk_drewN ?_ _ | refine blk_drew ?_ | refine blk_alloc ?_ _)); refine blk_far ?_ NB126_130.out _; (with_reducible repeat (first | refine blk_drewN ?_ _ | refine blk_drew ?_ | refine blk_alloc ?_ _)); refine blk_far ?_ NB126_130.out _; (with_reducible repeat (first | refine blk_drewN ?_ _ | refine blk_drew ?_ | refine blk_alloc ?_ _)); refine blk_far ?_ NB126_130.out _; (with_reducible repeat (first | refine blk_drewN ?_ _ | refine blk_drew ?_ | refine blk_alloc ?_ _)); exact BK126.out) hb); have n1_ := Aside0.mk (blk_below (g := gb127) (o := .cells #[.int .i64 a1_0, .string a1_1, .slice A1_2 l1_2.length c1_2, .slice (some ad131) l1_3.length c1_3] 45 (0, 0)) (by (with_reducible repeat (first | refine blk_drewN ?_ _ | refine blk_drew ?_ | refine blk_alloc ?_ _)); refine blk_far ?_ NB127_130.out _; (with_reducible repeat (first | refine blk_drewN ?_ _ | refine blk_drew ?_ | refine blk_alloc ?_ _)); refine blk_far ?_ NB127_130.out _; (with_reducible repeat (first | refine blk_drewN ?_ _ | refine blk_drew ?_ | refine blk_alloc ?_ _)); refine blk_far ?_ NB127_130.out _; (with_reducible repeat (first | refine blk_drewN ?_ _ | refine blk_drew ?_ | refine blk_alloc ?_ _)); exact BK127.out) hb); have n2_ := Aside0.mk (blk_below (g := gb130) (o := .cells #[.string ((rd_T74 l0_3 x5_2).f0), .string ((rd_T74 l0_3 x5_2).f1), .slice A129_2 ((rd_T74 l0_3 x5_2).f2).length c129_2] 74 (0, 0)) (by (with_reducible repeat (first | refine blk_drewN ?_ _ | refine blk_drew ?_ | refine blk_alloc ?_ _)); refine blk_put (cs := #[.string ((rd_T74 l0_3 x5_2).f0), .string ((rd_T74 l0_3 x5_2).f1), .slice none 0 0]) ?_ 2 _ rfl; (with_reducible repeat (first | refine blk_drewN ?_ _ | refine blk_drew ?_ | refine blk_alloc ?_ _)); refine blk_put (cs := #[.string ((rd_T74 l0_3 x5_2).f0), .string (⟨#[]⟩ : ByteArray), .slice none 0 0]) ?_ 1 _ rfl; (with_reducible repeat (first | refine blk_drewN ?_ _ | refine blk_drew ?_ | refine blk_alloc ?_ _)); refine blk_put (cs := #[.string (⟨#[]⟩ : ByteArray), .string (⟨#[]⟩ : ByteArray), .slice none 0 0]) ?_ 0 _ rfl; (with_reducible repeat (first | refine blk_drewN ?_ _ | refine blk_drew ?_ | refine blk_alloc ?_ _)); exact BK130.out) hb); have n3_ := Aside0.mk (below_step (by repeat (first | (with_reducible first | exact HB.out | apply below_alloc | apply pw_below_drewN | apply below_drew1 | refine below_set ?_ GE126.out | refine below_set ?_ GE127.out | refine below_set ?_ GE130.out) | exact HB.out)) hb); have n4_ := Aside0.mk (hbox); have n5_ := Aside0.mk ((by rw [hg]; exact (below_size (by repeat (first | (with_reducible first | exact HB.out | apply below_alloc | apply pw_below_drewN | apply below_drew1 | refine below_set ?_ GE126.out | refine below_set ?_ GE127.out | refine below_set ?_ GE130.out) | exact HB.out))) : w.heap.size ≤ gb132)); have n6_ := Aside0.mk ((by rw [hg]; exact (below_size (by repeat (first | (with_reducible first | exact HB.out | apply below_alloc | apply pw_below_drewN | apply below_drew1 | refine below_set ?_ GE126.out | refine below_set ?_ GE127.out | refine below_set ?_ GE130.out) | exact HB.out))) : w.heap.size ≤ gb132)); have n7_ := Aside0.mk ((by rw [hg]; exact Nat.ne_of_lt (blk_lt (g := gb126) (o := .cells #[.int .i64 a0_0, .string a0_1, .slice A0_2 l0_2.length c0_2, .slice (some ad129) l0_3.length c0_3] 45 (0, 0)) (by (with_reducible repeat (first | refine blk_drewN ?_ _ | refine blk_drew ?_ | refine blk_alloc ?_ _)); refine blk_far ?_ NB126_130.out _; (with_reducible repeat (first | refine blk_drewN ?_ _ | refine blk_drew ?_ | refine blk_alloc ?_ _)); refine blk_far ?_ NB126_130.out _; (with_reducible repeat (first | refine blk_drewN ?_ _ | refine blk_drew ?_ | refine blk_alloc ?_ _)); refine blk_far ?_ NB126_130.out _; (with_reducible repeat (first | refine blk_drewN ?_ _ | refine blk_drew ?_ | refine blk_alloc ?_ _)); exact BK126.out)) : gb126 ≠ gb132)); have n8_ := Aside0.mk ((by rw [hg]; exact Nat.ne_of_gt (blk_lt (g := gb126) (o := .cells #[.int .i64 a0_0, .string a0_1, .slice A0_2 l0_2.length c0_2, .slice (some ad129) l0_3.length c0_3] 45 (0, 0)) (by (with_reducible repeat (first | refine blk_drewN ?_ _ | refine blk_drew ?_ | refine blk_alloc ?_ _)); refine blk_far ?_ NB126_130.out _; (with_reducible repeat (first | refine blk_drewN ?_ _ | refine blk_drew ?_ | refine blk_alloc ?_ _)); refine blk_far ?_ NB126_130.out _; (with_reducible repeat (first | refine blk_drewN ?_ _ | refine blk_drew ?_ | refine blk_alloc ?_ _)); refine blk_far ?_ NB126_130.out _; (with_reducible repeat (first | refine blk_drewN ?_ _ | refine blk_drew ?_ | refine blk_alloc ?_ _)); exact BK126.out)) : gb132 ≠ gb126)); have n9_ := Aside0.mk ((by rw [hg]; exact Nat.ne_of_lt (blk_lt (g := gb127) (o := .cells #[.int .i64 a1_0, .string a1_1, .slice A1_2 l1_2.length c1_2, .slice (some ad131) l1_3.length c1_3] 45 (0, 0)) (by (with_reducible repeat (first | refine blk_drewN ?_ _ | refine blk_drew ?_ | refine blk_alloc ?_ _)); refine blk_far ?_ NB127_130.out _; (with_reducible repeat (first | refine blk_drewN ?_ _ | refine blk_drew ?_ | refine blk_alloc ?_ _)); refine blk_far ?_ NB127_130.out _; (with_reducible repeat (first | refine blk_drewN ?_ _ | refine blk_drew ?_ | refine blk_alloc ?_ _)); refine blk_far ?_ NB127_130.out _; (with_reducible repeat (first | refine blk_drewN ?_ _ | refine blk_drew ?_ | refine blk_alloc ?_ _)); exact BK127.out)) : gb127 ≠ gb132)); have n10_ := Aside0.mk ((by rw [hg]; exact Nat.ne_of_gt (blk_lt (g := gb127) (o := .cells #[.int .i64 a1_0, .string a1_1, .slice A1_2 l1_2.length c1_2, .slice (some ad131) l1_3.length c1_3] 45 (0, 0)) (by (with_reducible repeat (first | refine blk_drewN ?_ _ | refine blk_drew ?_ | refine blk_alloc ?_ _)); refine blk_far ?_ NB127_130.out _; (with_reducible repeat (first | refine blk_drewN ?_ _ | refine blk_drew ?_ | refine blk_alloc ?_ _)); refine blk_far ?_ NB127_130.out _; (with_reducible repeat (first | refine blk_drewN ?_ _ | refine blk_drew ?_ | refine blk_alloc ?_ _)); refine blk_far ?_ NB127_130.out _; (with_reducible repeat (first | refine blk_drewN ?_ _ | refine blk_drew ?_ | refine blk_alloc ?_ _)); exact BK127.out)) : gb132 ≠ gb127)); have n11_ := Aside0.mk ((by rw [hg]; exact Nat.ne_of_lt (blk_lt (g := gb130) (o := .cells #[.string ((rd_T74 l0_3 x5_2).f0), .string ((rd_T74 l0_3 x5_2).f1), .slice A129_2 ((rd_T74 l0_3 x5_2).f2).length c129_2] 74 (0, 0)) (by (with_reducible repeat (first | refine blk_drewN ?_ _ | refine blk_drew ?_ | refine blk_alloc ?_ _)); refine blk_put (cs := #[.string ((rd_T74 l0_3 x5_2).f0), .string ((rd_T74 l0_3 x5_2).f1), .slice none 0 0]) ?_ 2 _ rfl; (with_reducible repeat (first | refine blk_drewN ?_ _ | refine blk_drew ?_ | refine blk_alloc ?_ _)); refine blk_put (cs := #[.string ((rd_T74 l0_3 x5_2).f0), .string (⟨#[]⟩ : ByteArray), .slice none 0 0]) ?_ 1 _ rfl; (with_reducible repeat (first | refine blk_drewN ?_ _ | refine blk_drew ?_ | refine blk_alloc ?_ _)); refine blk_put (cs := #[.string (⟨#[]⟩ : ByteArray), .string (⟨#[]⟩ : ByteArray), .slice none 0 0]) ?_ 0 _ rfl; (with_reducible repeat (first | refine blk_drewN ?_ _ | refine blk_drew ?_ | refine blk_alloc ?_ _)); exact BK130.out)) : gb130 ≠ gb132)); have n12_ := Aside0.mk ((by rw [hg]; exact Nat.ne_of_gt (blk_lt (g := gb130) (o := .cells #[.string ((rd_T74 l0_3 x5_2).f0), .string ((rd_T74 l0_3 x5_2).f1), .slice A129_2 ((rd_T74 l0_3 x5_2).f2).length c129_2] 74 (0, 0)) (by (with_reducible repeat (first | refine blk_drewN ?_ _ | refine blk_drew ?_ | refine blk_alloc ?_ _)); refine blk_put (cs := #[.string ((rd_T74 l0_3 x5_2).f0), .string ((rd_T74 l0_3 x5_2).f1), .slice none 0 0]) ?_ 2 _ rfl; (with_reducible repeat (first | refine blk_drewN ?_ _ | refine blk_drew ?_ | refine blk_alloc ?_ _)); refine blk_put (cs := #[.string ((rd_T74 l0_3 x5_2).f0), .string (⟨#[]⟩ : ByteArray), .slice none 0 0]) ?_ 1 _ rfl; (with_reducible repeat (first | refine blk_drewN ?_ _ | refine blk_drew ?_ | refine blk_alloc ?_ _)); refine blk_put (cs := #[.string (⟨#[]⟩ : ByteArray), .string (⟨#[]⟩ : ByteArray), .slice none 0 0]) ?_ 0 _ rfl; (with_reducible repeat (first | refine blk_drewN ?_ _ | refine blk_drew ?_ | refine blk_alloc ?_ _)); exact BK130.out)) : gb132 ≠ gb130)); clear BK126; clear BK127; clear BK130; clear HB; have BK126 := n0_; have BK127 := n1_; have BK130 := n2_; have HB := n3_; have BK132 := n4_; have GW132 := n5_; have GE132 := n6_; have NB126_132 := n7_; have NB132_126 := n8_; have NB127_132 := n9_; have NB132_127 := n10_; have NB130_132 := n11_; have NB132_130 := n12_; clear n0_ n1_ n2_ n3_ n4_ n5_ n6_ n7_ n8_ n9_ n10_ n11_ n12_; clear hb hbox hg; have hnb64 := NB132_126.out; have hnc64 := NB126_132.out; have hnb65 := NB132_127.out; have hnc65 := NB127_132.out; have hnb66 := NB132_130.out; have hnc66 := NB130_132.out; have hcz67_0 : w63.cell? ⟨gb132, 0, none⟩ = some (.string (⟨#[]⟩ : ByteArray)) := (blk_cell BK132.out 0).trans rfl; have hcz67_1 : w63.cell? ⟨gb132, 1, none⟩ = some (.string (⟨#[]⟩ : ByteArray)) := (blk_cell BK132.out 1).trans rfl; have hcz67_2 : w63.cell? ⟨gb132, 2, none⟩ = some (.slice none 0 0) := (blk_cell BK132.out 2).trans rfl; have hfz67_0 := blk_frozen BK132.out 0; have hfz67_1 := blk_frozen BK132.out 1; have hfz67_2 := blk_frozen BK132.out 2; have hcz68_0 : w63.cell? ⟨gb130, 0, none⟩ = some (.string ((rd_T74 l0_3 x5_2).f0)) := (blk_cell BK130.out 0).trans rfl; have hcz68_1 : w63.cell? ⟨gb130, 1, none⟩ = some (.string ((rd_T74 l0_3 x5_2).f1)) := (blk_cell BK130.out 1).trans rfl; have hcz68_2 : w63.cell? ⟨gb130, 2, none⟩ = some (.slice A129_2 ((rd_T74 l0_3 x5_2).f2).length c129_2) := (blk_cell BK130.out 2).trans rfl; have hfz68_0 := blk_frozen BK130.out 0; have hfz68_1 := blk_frozen BK130.out 1; have hfz68_2 := blk_frozen BK130.out 2))
                      go_ret
                      exact ⟨by first | rfl | (simp [errW_none, errW_some] <;> rfl) | (simp [*, errW_none, errW_some] <;> rfl), by repeat (first | (with_reducible first | exact HB.out | apply below_alloc | apply pw_below_drewN | apply below_drew1 | refine below_set ?_ GE126.out | refine below_set ?_ GE127.out | refine below_set ?_ GE130.out | refine below_set ?_ GE132.out) | exact HB.out)⟩
                  · rw [if_neg c26] at H
                    have c26b0 : (((rd_T74 l0_3 x5_2).f0).toList == ((rd_T74 l1_3 x5_2).f0).toList) = false := beq_eq_false_iff_ne.mpr c26
                    have c26b1 : (((rd_T74 l0_3 x5_2).f0).toList != ((rd_T74 l1_3 x5_2).f0).toList) = true := bne_iff_ne.mpr c26
                    obtain rfl := Option.some.inj H
                    have hnb69 := NB126_127.out
                    have hnc69 := NB127_126.out
                    have hcz70_0 : wr.cell? ⟨gb126, 0, none⟩ = some (.int .i64 a0_0) := (blk_cell BK126.out 0).trans rfl
                    have hcz70_1 : wr.cell? ⟨gb126, 1, none⟩ = some (.string a0_1) := (blk_cell BK126.out 1).trans rfl
                    have hcz70_2 : wr.cell? ⟨gb126, 2, none⟩ = some (.slice A0_2 l0_2.length c0_2) := (blk_cell BK126.out 2).trans rfl
                    have hcz70_3 : wr.cell? ⟨gb126, 3, none⟩ = some (.slice A0_3 l0_3.length c0_3) := (blk_cell BK126.out 3).trans rfl
                    have hfz70_0 := blk_frozen BK126.out 0
                    have hfz70_1 := blk_frozen BK126.out 1
                    have hfz70_2 := blk_frozen BK126.out 2
                    have hfz70_3 := blk_frozen BK126.out 3
                    have p129 : 0 ≤ (x5_2 : Int) := of_decide_eq_true (by first | (with_reducible assumption) | assumption)
                    have q129 : x5_2 < (l0_3.length : Int) := of_decide_eq_true (by first | (with_reducible assumption) | assumption)
                    obtain ⟨ad129, A129_2, c129_2, e129, hx129_0, hx129_1, hx129_2, hl129_2, hi129_2⟩ := at_T74 HR0_3.out x5_2 p129 q129
                    cases e129
                    replace hx129_0 := (HB.out.cell (World.block_lt_of_cell? w _ hx129_0)).trans hx129_0
                    replace hx129_1 := (HB.out.cell (World.block_lt_of_cell? w _ hx129_1)).trans hx129_1
                    replace hx129_2 := (HB.out.cell (World.block_lt_of_cell? w _ hx129_2)).trans hx129_2
                    have HR129_2 := Aside0.mk hi129_2
                    have HC129_2 := Aside0.mk hl129_2
                    clear hi129_2 hl129_2
                    replace p129 := eq_true p129
                    replace q129 := eq_true q129
                    go_wp2_with (first | ((with_reducible refine gate_dst (N := 6) rfl ?_); (try (refine gate_guard (by rfl) ?_; dsimp only)); refine box_event ?hg (N := 6) ?hd (cs := #[.string (⟨#[]⟩ : ByteArray), .string (⟨#[]⟩ : ByteArray), .slice none 0 0]) (t := 74) ?hr ?_; (case hd => rfl); (case hg => rfl); (case hr => first | (go_simp; done) | (go_simp; rfl)); intro gb130 hg w71 hbox hb; have n0_ := Aside0.mk (blk_below (g := gb126) (o := .cells #[.int .i64 a0_0, .string a0_1, .slice A0_2 l0_2.length c0_2, .slice (some ad129) l0_3.length c0_3] 45 (0, 0)) (by (with_reducible repeat (first | refine blk_drewN ?_ _ | refine blk_drew ?_ | refine blk_alloc ?_ _)); exact BK126.out) hb); have n1_ := Aside0.mk (blk_below (g := gb127) (o := .cells #[.int .i64 a1_0, .string a1_1, .slice A1_2 l1_2.length c1_2, .slice A1_3 l1_3.length c1_3] 45 (0, 0)) (by (with_reducible repeat (first | refine blk_drewN ?_ _ | refine blk_drew ?_ | refine blk_alloc ?_ _)); exact BK127.out) hb); have n2_ := Aside0.mk (below_step (by repeat (first | (with_reducible first | exact HB.out | apply below_alloc | apply pw_below_drewN | apply below_drew1 | refine below_set ?_ GE126.out | refine below_set ?_ GE127.out) | exact HB.out)) hb); have n3_ := Aside0.mk (hbox); have n4_ := Aside0.mk ((by rw [hg]; exact (below_size (by repeat (first | (with_reducible first | exact HB.out | apply below_alloc | apply pw_below_drewN | apply below_drew1 | refine below_set ?_ GE126.out | refine below_set ?_ GE127.out) | exact HB.out))) : w.heap.size ≤ gb130)); have n5_ := Aside0.mk ((by rw [hg]; exact (below_size (by repeat (first | (with_reducible first | exact HB.out | apply below_alloc | apply pw_below_drewN | apply below_drew1 | refine below_set ?_ GE126.out | refine below_set ?_ GE127.out) | exact HB.out))) : w.heap.size ≤ gb130)); have n6_ := Aside0.mk ((by rw [hg]; exact Nat.ne_of_lt (blk_lt (g := gb126) (o := .cells #[.int .i64 a0_0, .string a0_1, .slice A0_2 l0_2.length c0_2, .slice (some ad129) l0_3.length c0_3] 45 (0, 0)) (by (with_reducible repeat (first | refine blk_drewN ?_ _ | refine blk_drew ?_ | refine blk_alloc ?_ _)); exact BK126.out)) : gb126 ≠ gb130)); have n7_ := Aside0.mk ((by rw [hg]; exact Nat.ne_of_gt (blk_lt (g := gb126) (o := .cells #[.int .i64 a0_0, .string a0_1, .slice A0_2 l0_2.length c0_2, .slice (some ad129) l0_3.length c0_3] 45 (0, 0)) (by (with_reducible repeat (first | refine blk_drewN ?_ _ | refine blk_drew ?_ | refine blk_alloc ?_ _)); exact BK126.out)) : gb130 ≠ gb126)); have n8_ := Aside0.mk ((by rw [hg]; exact Nat.ne_of_lt (blk_lt (g := gb127) (o := .cells #[.int .i64 a1_0, .string a1_1, .slice A1_2 l1_2.length c1_2, .slice A1_3 l1_3.length c1_3] 45 (0, 0)) (by (with_reducible repeat (first | refine blk_drewN ?_ _ | refine blk_drew ?_ | refine blk_alloc ?_ _)); exact BK127.out)) : gb127 ≠ gb130)); have n9_ := Aside0.mk ((by rw [hg]; exact Nat.ne_of_gt (blk_lt (g := gb127) (o := .cells #[.int .i64 a1_0, .string a1_1, .slice A1_2 l1_2.length c1_2, .slice A1_3 l1_3.length c1_3] 45 (0, 0)) (by (with_reducible repeat (first | refine blk_drewN ?_ _ | refine blk_drew ?_ | refine blk_alloc ?_ _)); exact BK127.out)) : gb130 ≠ gb127)); clear BK126; clear BK127; clear HB; have BK126 := n0_; have BK127 := n1_; have HB := n2_; have BK130 := n3_; have GW130 := n4_; have GE130 := n5_; have NB126_130 := n6_; have NB130_126 := n7_; have NB127_130 := n8_; have NB130_127 := n9_; clear n0_ n1_ n2_ n3_ n4_ n5_ n6_ n7_ n8_ n9_; clear hb hbox hg; have hnb72 := NB130_126.out; have hnc72 := NB126_130.out; have hnb73 := NB130_127.out; have hnc73 := NB127_130.out; have hcz74_0 : w71.cell? ⟨gb130, 0, none⟩ = some (.string (⟨#[]⟩ : ByteArray)) := (blk_cell BK130.out 0).trans rfl; have hcz74_1 : w71.cell? ⟨gb130, 1, none⟩ = some (.string (⟨#[]⟩ : ByteArray)) := (blk_cell BK130.out 1).trans rfl; have hcz74_2 : w71.cell? ⟨gb130, 2, none⟩ = some (.slice none 0 0) := (blk_cell BK130.out 2).trans rfl; have hfz74_0 := blk_frozen BK130.out 0; have hfz74_1 := blk_frozen BK130.out 1; have hfz74_2 := blk_frozen BK130.out 2; have hcz75_0 : w71.cell? ⟨gb127, 0, none⟩ = some (.int .i64 a1_0) := (blk_cell BK127.out 0).trans rfl; have hcz75_1 : w71.cell? ⟨gb127, 1, none⟩ = some (.string a1_1) := (blk_cell BK127.out 1).trans rfl; have hcz75_2 : w71.cell? ⟨gb127, 2, none⟩ = some (.slice A1_2 l1_2.length c1_2) := (blk_cell BK127.out 2).trans rfl; have hcz75_3 : w71.cell? ⟨gb127, 3, none⟩ = some (.slice A1_3 l1_3.length c1_3) := (blk_cell BK127.out 3).trans rfl; have hfz75_0 := blk_frozen BK127.out 0; have hfz75_1 := blk_frozen BK127.out 1; have hfz75_2 := blk_frozen BK127.out 2; have hfz75_3 := blk_frozen BK127.out 3; have p131 : 0 ≤ (x5_2 : Int) := of_decide_eq_true (by first | (with_reducible assumption) | assumption); have q131 : x5_2 < (l1_3.length : Int) := of_decide_eq_true (by first | (with_reducible assumption) | assumption); obtain ⟨ad131, A131_2, c131_2, e131, hx131_0, hx131_1, hx131_2, hl131_2, hi131_2⟩ := at_T74 HR1_3.out x5_2 p131 q131; cases e131; have hn131_0 : ad131.block ≠ gb130 := Nat.ne_of_lt (Nat.lt_of_lt_of_le (by have := World.block_lt_of_cell? _ _ hx131_0; first | rwa [add_block] at this | exact this) GW130.out); have hn131_1 : ad131.block ≠ gb130 := Nat.ne_of_lt (Nat.lt_of_lt_of_le (by have := World.block_lt_of_cell? _ _ hx131_0; first | rwa [add_block] at this | exact this) GW130.out); have hn131_2 : ad131.block ≠ gb130 := Nat.ne_of_lt (Nat.lt_of_lt_of_le (by have := World.block_lt_of_cell? _ _ hx131_0; first | rwa [add_block] at this | exact this) GW130.out); replace hx131_0 := (HB.out.cell (World.block_lt_of_cell? w _ hx131_0)).trans hx131_0; replace hx131_1 := (HB.out.cell (World.block_lt_of_cell? w _ hx131_1)).trans hx131_1; replace hx131_2 := (HB.out.cell (World.block_lt_of_cell? w _ hx131_2)).trans hx131_2; have HR131_2 := Aside0.mk hi131_2; have HC131_2 := Aside0.mk hl131_2; clear hi131_2 hl131_2; replace hx131_0 := (cell_far (p := ⟨gb130, 0, none⟩) (by first | (rw [add_block]; exact hn131_0) | (show (Addr.add _ _).block ≠ _; rw [add_block]; exact hn131_0) | exact hn131_0) (.string ((rd_T74 l0_3 x5_2).f0))).trans hx131_0; replace hx131_1 := (cell_far (p := ⟨gb130, 0, none⟩) (by first | (rw [add_block]; exact hn131_0) | (show (Addr.add _ _).block ≠ _; rw [add_block]; exact hn131_0) | exact hn131_0) (.string ((rd_T74 l0_3 x5_2).f0))).trans hx131_1; replace hx131_2 := (cell_far (p := ⟨gb130, 0, none⟩) (by first | (rw [add_block]; exact hn131_0) | (show (Addr.add _ _).block ≠ _; rw [add_block]; exact hn131_0) | exact hn131_0) (.string ((rd_T74 l0_3 x5_2).f0))).trans hx131_2; replace hx131_0 := (cell_far (p := ⟨gb130, 1, none⟩) (by first | (rw [add_block]; exact hn131_1) | (show (Addr.add _ _).block ≠ _; rw [add_block]; exact hn131_1) | exact hn131_1) (.string ((rd_T74 l0_3 x5_2).f1))).trans hx131_0; replace hx131_1 := (cell_far (p := ⟨gb130, 1, none⟩) (by first | (rw [add_block]; exact hn131_1) | (show (Addr.add _ _).block ≠ _; rw [add_block]; exact hn131_1) | exact hn131_1) (.string ((rd_T74 l0_3 x5_2).f1))).trans hx131_1; replace hx131_2 := (cell_far (p := ⟨gb130, 1, none⟩) (by first | (rw [add_block]; exact hn131_1) | (show (Addr.add _ _).block ≠ _; rw [add_block]; exact hn131_1) | exact hn131_1) (.string ((rd_T74 l0_3 x5_2).f1))).trans hx131_2; replace hx131_0 := (cell_far (p := ⟨gb130, 2, none⟩) (by first | (rw [add_block]; exact hn131_2) | (show (Addr.add _ _).block ≠ _; rw [add_block]; exact hn131_2) | exact hn131_2) (.slice A129_2 ((rd_T74 l0_3 x5_2).f2).length c129_2)).trans hx131_0; replace hx131_1 := (cell_far (p := ⟨gb130, 2, none⟩) (by first | (rw [add_block]; exact hn131_2) | (show (Addr.add _ _).block ≠ _; rw [add_block]; exact hn131_2) | exact hn131_2) (.slice A129_2 ((rd_T74 l0_3 x5_2).f2).length c129_2)).trans hx131_1; replace hx131_2 := (cell_far (p := ⟨gb130, 2, none⟩) (by first | (rw [add_block]; exact hn131_2) | (show (Addr.add _ _).block ≠ _; rw [add_block]; exact hn131_2) | exact hn131_2) (.slice A129_2 ((rd_T74 l0_3 x5_2).f2).length c129_2)).trans hx131_2; clear hn131_0; clear hn131_1; clear hn131_2; replace p131 := eq_true p131; replace q131 := eq_true q131) | ((with_reducible refine gate_dst (N := 7) rfl ?_); (try (refine gate_guard (by rfl) ?_; dsimp only)); refine box_event ?hg (N := 7) ?hd (cs := #[.string (⟨#[]⟩ : ByteArray), .string (⟨#[]⟩ : ByteArray), .slice none 0 0]) (t := 74) ?hr ?_; (case hd => rfl); (case hg => rfl); (case hr => first | (go_simp; done) | (go_simp; rfl)); intro gb132 hg w76 hbox hb; have n0_ := Aside0.mk (blk_below (g := gb126) (o := .cells #[.int .i64 a0_0, .string a0_1, .slice A0_2 l0_2.length c0_2, .slice (some ad129) l0_3.length c0_3] 45 (0, 0)) (by (with_reducible repeat (first | refine blk_drewN ?_ _ | refine blk_drew ?_ | refine blk_alloc ?_ _)); refine blk_far ?_ NB126_130.out _; (with_reducible repeat (first | refine blk_drewN ?_ _ | refine blk_drew ?_ | refine blk_alloc ?_ _)); refine blk_far ?_ NB126_130.out _; (with_reducible repeat (first | refine blk_drewN ?_ _ | refine blk_drew ?_ | refine blk_alloc ?_ _)); refine blk_far ?_ NB126_130.out _; (with_reducible repeat (first | refine blk_drewN ?_ _ | refine blk_drew ?_ | refine blk_alloc ?_ _)); exact BK126.out) hb); have n1_ := Aside0.mk (blk_below (g := gb127) (o := .cells #[.int .i64 a1_0, .string a1_1, .slice A1_2 l1_2.length c1_2, .slice (some ad131) l1_3.length c1_3] 45 (0, 0)) (by (with_reducible repeat (first | refine blk_drewN ?_ _ | refine blk_drew ?_ | refine blk_alloc ?_ _)); refine blk_far ?_ NB127_130.out _; (with_reducible repeat (first | refine blk_drewN ?_ _ | refine blk_drew ?_ | refine blk_alloc ?_ _)); refine blk_far ?_ NB127_130.out _; (with_reducible repeat (first | refine blk_drewN ?_ _ | refine blk_drew ?_ | refine blk_alloc ?_ _)); refine blk_far ?_ NB127_130.out _; (with_reducible repeat (first | refine blk_drewN ?_ _ | refine blk_drew ?_ | refine blk_alloc ?_ _)); exact BK127.out) hb); have n2_ := Aside0.mk (blk_below (g := gb130) (o := .cells #[.string ((rd_T74 l0_3 x5_2).f0), .string ((rd_T74 l0_3 x5_2).f1), .slice A129_2 ((rd_T74 l0_3 x5_2).f2).length c129_2] 74 (0, 0)) (by (with_reducible repeat (first | refine blk_drewN ?_ _ | refine blk_drew ?_ | refine blk_alloc ?_ _)); refine blk_put (cs := #[.string ((rd_T74 l0_3 x5_2).f0), .string ((rd_T74 l0_3 x5_2).f1), .slice none 0 0]) ?_ 2 _ rfl; (with_reducible repeat (first | refine blk_drewN ?_ _ | refine blk_drew ?_ | refine blk_alloc ?_ _)); refine blk_put (cs := #[.string ((rd_T74 l0_3 x5_2).f0), .string (⟨#[]⟩ : ByteArray), .slice none 0 0]) ?_ 1 _ rfl; (with_reducible repeat (first | refine blk_drewN ?_ _ | refine blk_drew ?_ | refine blk_alloc ?_ _)); refine blk_put (cs := #[.string (⟨#[]⟩ : ByteArray), .string (⟨#[]⟩ : ByteArray), .slice none 0 0]) ?_ 0 _ rfl; (with_reducible repeat (first | refine blk_drewN ?_ _ | refine blk_drew ?_ | refine blk_alloc ?_ _)); exact BK130.out) hb); have n3_ := Aside0.mk (below_step (by repeat (first | (with_reducible first | exact HB.out | apply below_alloc | apply pw_below_drewN | apply below_drew1 | refine below_set ?_ GE126.out | refine below_set ?_ GE127.out | refine below_set ?_ GE130.out) | exact HB.out)) hb); have n4_ := Aside0.mk (hbox); have n5_ := Aside0.mk ((by rw [hg]; exact (below_size (by repeat (first | (with_reducible first | exact HB.out | apply below_alloc | apply pw_below_drewN | apply below_drew1 | refine below_set ?_ GE126.out | refine below_set ?_ GE127.out | refine below_set ?_ GE130.out) | exact HB.out))) : w.heap.size ≤ gb132)); have n6_ := Aside0.mk ((by rw [hg]; exact (below_size (by repeat (first | (with_reducible first | exact HB.out | apply below_alloc | apply pw_below_drewN | apply below_drew1 | refine below_set ?_ GE126.out | refine below_set ?_ GE127.out | refine below_set ?_ GE130.out) | exact HB.out))) : w.heap.size ≤ gb132)); have n7_ := Aside0.mk ((by rw [hg]; exact Nat.ne_of_lt (blk_lt (g := gb126) (o := .cells #[.int .i64 a0_0, .string a0_1, .slice A0_2 l0_2.length c0_2, .slice (some ad129) l0_3.length c0_3] 45 (0, 0)) (by (with_reducible repeat (first | refine blk_drewN ?_ _ | refine blk_drew ?_ | refine blk_alloc ?_ _)); refine blk_far ?_ NB126_130.out _; (with_reducible repeat (first | refine blk_drewN ?_ _ | refine blk_drew ?_ | refine blk_alloc ?_ _)); refine blk_far ?_ NB126_130.out _; (with_reducible repeat (first | refine blk_drewN ?_ _ | refine blk_drew ?_ | refine blk_alloc ?_ _)); refine blk_far ?_ NB126_130.out _; (with_reducible repeat (first | refine blk_drewN ?_ _ | refine blk_drew ?_ | refine blk_alloc ?_ _)); exact BK126.out)) : gb126 ≠ gb132)); have n8_ := Aside0.mk ((by rw [hg]; exact Nat.ne_of_gt (blk_lt (g := gb126) (o := .cells #[.int .i64 a0_0, .string a0_1, .slice A0_2 l0_2.length c0_2, .slice (some ad129) l0_3.length c0_3] 45 (0, 0)) (by (with_reducible repeat (first | refine blk_drewN ?_ _ | refine blk_drew ?_ | refine blk_alloc ?_ _)); refine blk_far ?_ NB126_130.out _; (with_reducible repeat (first | refine blk_drewN ?_ _ | refine blk_drew ?_ | refine blk_alloc ?_ _)); refine blk_far ?_ NB126_130.out _; (with_reducible repeat (first | refine blk_drewN ?_ _ | refine blk_drew ?_ | refine blk_alloc ?_ _)); refine blk_far ?_ NB126_130.out _; (with_reducible repeat (first | refine blk_drewN ?_ _ | refine blk_drew ?_ | refine blk_alloc ?_ _)); exact BK126.out)) : gb132 ≠ gb126)); have n9_ := Aside0.mk ((by rw [hg]; exact Nat.ne_of_lt (blk_lt (g := gb127) (o := .cells #[.int .i64 a1_0, .string a1_1, .slice A1_2 l1_2.length c1_2, .slice (some ad131) l1_3.length c1_3] 45 (0, 0)) (by (with_reducible repeat (first | refine blk_drewN ?_ _ | refine blk_drew ?_ | refine blk_alloc ?_ _)); refine blk_far ?_ NB127_130.out _; (with_reducible repeat (first | refine blk_drewN ?_ _ | refine blk_drew ?_ | refine blk_alloc ?_ _)); refine blk_far ?_ NB127_130.out _; (with_reducible repeat (first | refine blk_drewN ?_ _ | refine blk_drew ?_ | refine blk_alloc ?_ _)); refine blk_far ?_ NB127_130.out _; (with_reducible repeat (first | refine blk_drewN ?_ _ | refine blk_drew ?_ | refine blk_alloc ?_ _)); exact BK127.out)) : gb127 ≠ gb132)); have n10_ := Aside0.mk ((by rw [hg]; exact Nat.ne_of_gt (blk_lt (g := gb127) (o := .cells #[.int .i64 a1_0, .string a1_1, .slice A1_2 l1_2.length c1_2, .slice (some ad131) l1_3.length c1_3] 45 (0, 0)) (by (with_reducible repeat (first | refine blk_drewN ?_ _ | refine blk_drew ?_ | refine blk_alloc ?_ _)); refine blk_far ?_ NB127_130.out _; (with_reducible repeat (first | refine blk_drewN ?_ _ | refine blk_drew ?_ | refine blk_alloc ?_ _)); refine blk_far ?_ NB127_130.out _; (with_reducible repeat (first | refine blk_drewN ?_ _ | refine blk_drew ?_ | refine blk_alloc ?_ _)); refine blk_far ?_ NB127_130.out _; (with_reducible repeat (first | refine blk_drewN ?_ _ | refine blk_drew ?_ | refine blk_alloc ?_ _)); exact BK127.out)) : gb132 ≠ gb127)); have n11_ := Aside0.mk ((by rw [hg]; exact Nat.ne_of_lt (blk_lt (g := gb130) (o := .cells #[.string ((rd_T74 l0_3 x5_2).f0), .string ((rd_T74 l0_3 x5_2).f1), .slice A129_2 ((rd_T74 l0_3 x5_2).f2).length c129_2] 74 (0, 0)) (by (with_reducible repeat (first | refine blk_drewN ?_ _ | refine blk_drew ?_ | refine blk_alloc ?_ _)); refine blk_put (cs := #[.string ((rd_T74 l0_3 x5_2).f0), .string ((rd_T74 l0_3 x5_2).f1), .slice none 0 0]) ?_ 2 _ rfl; (with_reducible repeat (first | refine blk_drewN ?_ _ | refine blk_drew ?_ | refine blk_alloc ?_ _)); refine blk_put (cs := #[.string ((rd_T74 l0_3 x5_2).f0), .string (⟨#[]⟩ : ByteArray), .slice none 0 0]) ?_ 1 _ rfl; (with_reducible repeat (first | refine blk_drewN ?_ _ | refine blk_drew ?_ | refine blk_alloc ?_ _)); refine blk_put (cs := #[.string (⟨#[]⟩ : ByteArray), .string (⟨#[]⟩ : ByteArray), .slice none 0 0]) ?_ 0 _ rfl; (with_reducible repeat (first | refine blk_drewN ?_ _ | refine blk_drew ?_ | refine blk_alloc ?_ _)); exact BK130.out)) : gb130 ≠ gb132)); have n12_ := Aside0.mk ((by rw [hg]; exact Nat.ne_of_gt (blk_lt (g := gb130) (o := .cells #[.string ((rd_T74 l0_3 x5_2).f0), .string ((rd_T74 l0_3 x5_2).f1), .slice A129_2 ((rd_T74 l0_3 x5_2).f2).length c129_2] 74 (0, 0)) (by (with_reducible repeat (first | refine blk_drewN ?_ _ | refine blk_drew ?_ | refine blk_alloc ?_ _)); refine blk_put (cs := #[.string ((rd_T74 l0_3 x5_2).f0), .string ((rd_T74 l0_3 x5_2).f1), .slice none 0 0]) ?_ 2 _ rfl; (with_reducible repeat (first | refine blk_drewN ?_ _ | refine blk_drew ?_ | refine blk_alloc ?_ _)); refine blk_put (cs := #[.string ((rd_T74 l0_3 x5_2).f0), .string (⟨#[]⟩ : ByteArray), .slice none 0 0]) ?_ 1 _ rfl; (with_reducible repeat (first | refine blk_drewN ?_ _ | refine blk_drew ?_ | refine blk_alloc ?_ _)); refine blk_put (cs := #[.string (⟨#[]⟩ : ByteArray), .string (⟨#[]⟩ : ByteArray), .slice none 0 0]) ?_ 0 _ rfl; (with_reducible repeat (first | refine blk_drewN ?_ _ | refine blk_drew ?_ | refine blk_alloc ?_ _)); exact BK130.out)) : gb132 ≠ gb130)); clear BK126; clear BK127; clear BK130; clear HB; have BK126 := n0_; have BK127 := n1_; have BK130 := n2_; have HB := n3_; have BK132 := n4_; have GW132 := n5_; have GE132 := n6_; have NB126_132 := n7_; have NB132_126 := n8_; have NB127_132 := n9_; have NB132_127 := n10_; have NB130_132 := n11_; have NB132_130 := n12_; clear n0_ n1_ n2_ n3_ n4_ n5_ n6_ n7_ n8_ n9_ n10_ n11_ n12_; clear hb hbox hg; have hnb77 := NB132_126.out; have hnc77 := NB126_132.out; have hnb78 := NB132_127.out; have hnc78 := NB127_132.out; have hnb79 := NB132_130.out; have hnc79 := NB130_132.out; have hcz80_0 : w76.cell? ⟨gb132, 0, none⟩ = some (.string (⟨#[]⟩ : ByteArray)) := (blk_cell BK132.out 0).trans rfl; have hcz80_1 : w76.cell? ⟨gb132, 1, none⟩ = some (.string (⟨#[]⟩ : ByteArray)) := (blk_cell BK132.out 1).trans rfl; have hcz80_2 : w76.cell? ⟨gb132, 2, none⟩ = some (.slice none 0 0) := (blk_cell BK132.out 2).trans rfl; have hfz80_0 := blk_frozen BK132.out 0; have hfz80_1 := blk_frozen BK132.out 1; have hfz80_2 := blk_frozen BK132.out 2; have hcz81_0 : w76.cell? ⟨gb130, 0, none⟩ = some (.string ((rd_T74 l0_3 x5_2).f0)) := (blk_cell BK130.out 0).trans rfl; have hcz81_1 : w76.cell? ⟨gb130, 1, none⟩ = some (.string ((rd_T74 l0_3 x5_2).f1)) := (blk_cell BK130.out 1).trans rfl; have hcz81_2 : w76.cell? ⟨gb130, 2, none⟩ = some (.slice A129_2 ((rd_T74 l0_3 x5_2).f2).length c129_2) := (blk_cell BK130.out 2).trans rfl; have hfz81_0 := blk_frozen BK130.out 0; have hfz81_1 := blk_frozen BK130.out 1; have hfz81_2 := blk_frozen BK130.out 2))
                    go_ret
                    exact ⟨by first | rfl | (simp [errW_none, errW_some] <;> rfl) | (simp [*, errW_none, errW_some] <;> rfl), by repeat (first | (with_reducible first | exact HB.out | apply below_alloc | apply pw_below_drewN | apply below_drew1 | refine below_set ?_ GE126.out | refine below_set ?_ GE127.out | refine below_set ?_ GE130.out | refine below_set ?_ GE132.out) | exact HB.out)⟩
                · rw [if_neg c25] at H
                  exact absurd H (by simp)
              · rw [if_neg c24] at H
                exact absurd H (by simp)
            · rw [if_neg c23] at H
              have c23b0 : decide (x5_2 < (l0_3.length : Int)) = false := decide_eq_false c23
              clear c23
              obtain rfl := Option.some.inj H
              have hnb82 := NB126_127.out
              have hnc82 := NB127_126.out
              have hcz83_0 : wr.cell? ⟨gb126, 0, none⟩ = some (.int .i64 a0_0) := (blk_cell BK126.out 0).trans rfl
              have hcz83_1 : wr.cell? ⟨gb126, 1, none⟩ = some (.string a0_1) := (blk_cell BK126.out 1).trans rfl
              have hcz83_2 : wr.cell? ⟨gb126, 2, none⟩ = some (.slice A0_2 l0_2.length c0_2) := (blk_cell BK126.out 2).trans rfl
              have hcz83_3 : wr.cell? ⟨gb126, 3, none⟩ = some (.slice A0_3 l0_3.length c0_3) := (blk_cell BK126.out 3).trans rfl
              have hfz83_0 := blk_frozen BK126.out 0
              have hfz83_1 := blk_frozen BK126.out 1
              have hfz83_2 := blk_frozen BK126.out 2
              have hfz83_3 := blk_frozen BK126.out 3
              go_wp2
              go_ret
              exact ⟨by first | rfl | (simp [errW_none, errW_some] <;> rfl) | (simp [*, errW_none, errW_some] <;> rfl), by repeat (first | (with_reducible first | exact HB.out | apply below_alloc | apply pw_below_drewN | apply below_drew1 | refine below_set ?_ GE126.out | refine below_set ?_ GE127.out) | exact HB.out)⟩

end Go.Proofs.YtnogmaljcocfjaaDoor.XK

/- By hand: Up. For every name and world. -/
import Derived.Test.YtdkohenilbkmkaaUpB
set_option linter.unusedVariables false
set_option linter.unusedSimpArgs false
namespace Go.Proofs.Ytdkohenilbkmkaa.UpW
open Go.RowKit Go.Proofs.Ytdkohenilbkmkaa.XT Go.Proofs.Ytdkohenilbkmkaa.RFun Go.Proofs.Ytdkohenilbkmkaa.RGen Go.Proofs.YtdkohenilbkmkaaW.PrintWords Go.Proofs.YtdkohenilbkmkaaW.PrintLast Go.Proofs.YtdkohenilbkmkaaW.PrintMore
/-- Up's own copy, the first i parts. -/
structure MU (w : World) (lo : Nat) (D : DN) (i : Nat) (v : Value) (W : World) : Prop where
  box : Boxed W lo 23 v
  own : Kd.R kD 44 W w.heap.size (fun k => k ≠ lo) v (D.take i)
  low : w.heap.size ≤ lo
  below : Below w.heap.size w W
/-- What Up hands out: the iterator with a name of its own. -/
def UpQ (w : World) (D : DN) (e : Ending) (w' : World) : Prop := ∃ (lo : Nat) (A : Option Addr) (c : Nat), e = .returned (.func (.func 26) #[] #[.pointer (some ⟨lo, 0, none⟩)]) ∧ w.heap.size ≤ lo ∧ Boxed w' lo 23 (.slice A D.length c) ∧ Kd.R kD 44 w' w.heap.size (fun k => k ≠ lo) (.slice A D.length c) D ∧ Below w.heap.size w w'
theorem MU.app {w W W2 w1 : World} {lo i : Nat} {D : DN} {v : Value} (h : MU w lo D i v W) (hb : Below W.heap.size W W2) (hg : W2.grownBy w1 v.ownBlock) : Boxed w1 lo 23 v := by
  have h1 : lo < W.heap.size := (Array.getElem?_eq_some_iff.1 h.box).1
  have h2 : Boxed W2 lo 23 v := (hb.block _ h1).trans h.box
  exact h2.kept hg (fun e => h.own.1 lo e.symm rfl)
theorem MU.next {w W w1 : World} {lo i : Nat} {D : DN} {v v1 : Value} (h : MU w lo D i v W) (hbx : Boxed w1 lo 23 v) (ho : Kd.R kD 44 w1 w.heap.size (fun k => k ≠ lo) v1 (D.take (i + 1))) (hb : Below w.heap.size w w1) : MU w lo D (i + 1) v1 (w1.setCell ⟨lo, 0, none⟩ v1) := by
  refine ⟨hbx.set v1, Kd.R_move ho (fun k hk => Below.heap_setCell _ _ _ _ hk), h.low, ?_⟩
  have hl := h.low
  exact ⟨hb.os, hb.tape, hb.output, by rw [World.size_setCell]; exact hb.size, fun j hj => (Below.heap_setCell _ _ _ _ (by show j ≠ lo; omega)).trans (hb.block j hj)⟩
set_option maxRecDepth 100000 in
set_option maxHeartbeats 4000000 in
theorem up_as (w : World) (A : Option Addr) (c : Nat) (D : DN) (h : Kd.C kD w A D.length D) (hc : D.length ≤ c) (hD : D.length ≤ 1048576) (hDl : ∀ r ∈ D, r.length ≤ 1048576) : Calls Try.prog 10 #[.slice A D.length c] w (UpQ w D) := by
  have HC := Lib.hid h
  have HDL := Lib.hid hDl
  clear h hDl
  go_enter Try.func10, Try.ntmps10
  go_wp2_with (first | ((with_reducible refine gate_dst (N := 6) rfl ?_); refine Kd.R_lit kD (w0 := w) w.heap.size 44 ?hg (N := 6) ?hd (xs := ([] : DN)) (inner := []) (ok := fun _ => True) (okp := fun _ => True) ?hr ?hp (fun _ hk => hk) trivial (Below.refl _ _) (Nat.le_refl _) (by simp) ?_; (case hd => rfl); (case hg => rfl); (case hr => first | (go_simp; done) | (go_simp; rfl)); (case hp => exact (Reps.none _ _)); intro v0 w0 ho hb hg hat; obtain ⟨A0, cc0, rfl⟩ := Kd.R_slice ho; have HI0 : Hid (MU w w0.heap.size D 0 (.slice A0 0 cc0) (w0.alloc (.cells #[.slice A0 0 cc0] 23))) := Lib.hid ⟨Boxed.new w0 23 _, Kd.R_alloc (Kd.R_mono (Kd.R_bound ho) (fun k hk => by have := hk.2.2.1; omega)) _, hb.size, hb.alloc hb.size _⟩; clear ho hb hg hat) | go_in)
  obtain ⟨lo, hlo⟩ : ∃ lo, lo = w0.heap.size := ⟨_, rfl⟩
  rw [← hlo] at HI0 ⊢
  go_loopw [5, 9] (fun v5 v9 wr => ∃ (i : Nat) (v : Value), i ≤ D.length ∧ v9 = .int .i64 (i : Nat) ∧ Hid (MU w lo D i v wr)) (fun _ v _ => D.length - (intOf v).toNat)
  case atStart => exact ⟨0, _, Nat.zero_le _, rfl, HI0⟩
  case round =>
    clear HI0 hlo
    obtain ⟨i, v, hi, rfl, HW⟩ := hrel
    by_cases hin : i < D.length
    · have hlt : (i : Int) < (D.length : Int) := by omega
      have hwi : IntKind.i64.wrap ((i : Int) + 1) = ((i + 1 : Nat) : Int) := by rw [IntWalk.i64_in _ (by omega)]; rfl
      have hsm := HW.out.below.size
      have hlt2 : lo < wr.heap.size := (Array.getElem?_eq_some_iff.1 HW.out.box).1
      obtain ⟨ad, A0', c0', e0, cx, hc0, hCr⟩ := at_L2 (Kd.C_below HC.out HW.out.below) (i : Int) (by omega) (by omega)
      subst e0
      rw [Int.toNat_natCast] at cx
      have hrm := HDL.out _ (rd_mem D i hin)
      have hsn : D.take (i + 1) = D.take i ++ [rd_L2 D (i : Int)] := by
        rw [List.take_add_one]
        unfold rd_L2
        rw [Int.toNat_natCast, List.getD_eq_getElem?_getD, List.getElem?_eq_getElem hin]
        rfl
      have HSN := Lib.hid hsn
      generalize rd_L2 D (i : Int) = p at cx hc0 hCr hrm HSN
      have HCR := Lib.hid hCr
      have hxl : (D.take i).length ≤ 1048576 := by rw [List.length_take]; omega
      obtain ⟨Av, cv, hv⟩ := Kd.R_slice HW.out.own
      rw [show (D.take i).length = i by rw [List.length_take]; omega] at hv
      have cO := HW.out.box.cell
      rw [hv] at cO
      clear hCr hsn
      go_wp2
      refine start_ (n := 6) (S := fun w' => w'.cell? ⟨lo, 0, none⟩ = some (.slice Av i cv)) (ds := [4, 5]) #[false, false, false, false, false, false] (by kernel_rfl) rfl rfl (cO) (fun hHeld => ?_)
      refine pure_ (i := 1) (N := some 14) (v := ?_) (a' := ?_) #[false, true, false, false, false, false] rfl rfl (by kernel_rfl) (fun _ _ _ h => h) (Or.inl ⟨by rfl, ?_⟩) ?_ ?_
      rotate_left
      · intro w'
        go_simp
        with_reducible rfl
      rotate_left
      · simp only [Act.put, List.setIfInBounds_toArray, List.set_cons_zero, List.set_cons_succ, i64_w, i32_w]
        rfl
      refine take_ (i := 0) (N := some 13) (v := ?_) (a' := ?_) #[true, true, false, false, false, false] rfl rfl (by kernel_rfl) (fun _ _ _ h => h) (Or.inl ⟨by rfl, ?_⟩) hHeld ?_ ?_
      rotate_left
      · intro w' s0
        go_simp
        with_reducible rfl
      rotate_left
      · simp only [Act.put, List.setIfInBounds_toArray, List.set_cons_zero, List.set_cons_succ, i64_w, i32_w]
        rfl
      refine one_ (i := 2) (N := some 15) #[true, true, true, false, false, false] rfl rfl (by kernel_rfl) (by decide) (fun K hK => ?_)
      refine goes_ Try.func25 (by kernel_rfl) rfl #[.slice A0' p.length c0'] (by rfl) rfl rfl (by simp only [List.map_toArray, List.map_cons, List.map_nil]; rfl) ?_
      with_reducible refine (clone46_as A0' c0' p wr.drew (Kd.C_below HCR.out (below_drew1 (Below.refl _ _))) hc0 hrm).mono ?_
      rintro e W2 ⟨v2, rfl, q1, hb0⟩
      obtain ⟨A2, c2, rfl⟩ := Kd.R_slice q1
      have hb : Below wr.heap.size wr W2 := ⟨hb0.os, hb0.tape, hb0.output, hb0.size, hb0.block⟩
      have HV2 : Hid (Kd.R k46 46 W2 wr.heap.size (fun _ => True) (.slice A2 p.length c2) p) := Lib.hid q1
      have HB2 := Lib.hid hb
      have cO2 := (hb.cell (p := ⟨lo, 0, none⟩) hlt2).trans cO
      have cO3 := ((Below.refl W2.heap.size W2).alloc (Nat.le_refl _) (.cells #[.slice A2 p.length c2] 44)).cell (p := ⟨lo, 0, none⟩) (World.block_lt_of_cell? W2 _ cO2) |>.trans cO2
      clear q1 hb hb0
      refine ⟨_, rfl, ?_⟩
      refine hK.out _ _ (cO2) (fun hHeld => ?_)
      clear hK K
      refine norm_ (a' := ?_) ?_ ?_
      rotate_left
      · show Act.put _ (some 15) _ = _
        simp only [Act.put, List.setIfInBounds_toArray, List.set_cons_zero, List.set_cons_succ, i64_w, i32_w]
        rfl
      refine one_ (i := 3) (N := some 16) #[true, true, true, true, false, false] rfl rfl (by kernel_rfl) (by decide) (fun K hK => ?_)
      refine value_ (w1 := ?_) (v := ?_) (by rfl) rfl ?_ ?_
      rotate_left 2
      · go_simp
        constructor
        · rfl
        · rfl
      refine hK.out _ _ (cO3) (fun hHeld => ?_)
      clear hK K
      refine norm_ (a' := ?_) ?_ ?_
      rotate_left
      · show Act.put _ (some 16) _ = _
        simp only [Act.put, List.setIfInBounds_toArray, List.set_cons_zero, List.set_cons_succ, i64_w, i32_w]
        rfl
      refine last_ (i := 4) (N := some 17) #[true, true, true, true, true, false] rfl rfl (by kernel_rfl) (by decide) (fun K hK => ?_)
      refine Kd.R_append_step kD (w0 := w) w.heap.size (by rfl) (.tmp 13) (.tmp 16) 23 44 (.slice none 0 0) 24 rfl Try.underlying23 info44 rfl (by decide) (by omega) (.slice Av i cv) (D.take i) p [.slice A2 p.length c2] (fun k => k ≠ lo) (fun k => wr.heap.size ≤ k) rfl rfl ?aP ?aK ?aF ?aO ?aB ?aS ?aL ?_
      case aP => exact ⟨_, rfl, Kd.R_lower (Kd.R_mono (Kd.R_bound HV2.out) (fun k hk => hk.2.1)) hsm⟩
      case aK => exact (fun k hk => ⟨by omega, fun e => by have := (Kd.R_bound HW.out.own).1 k (by rw [hv]; exact e.symm); omega⟩)
      case aF => exact (fun k hk => by have := HB2.out.size; omega)
      case aO => rw [← hv]; exact Kd.R_below HW.out.own HB2.out
      case aB => exact HW.out.below.trans (HB2.out.mono hsm)
      case aS => exact Nat.le_trans hsm HB2.out.size
      case aL => omega
      intro v1 w1 ho hb hg hat
      rw [← HSN.out] at ho
      rw [← hv] at hg
      obtain ⟨A1, c1, hv1⟩ := Kd.R_slice ho
      rw [show (D.take (i + 1)).length = i + 1 by rw [List.length_take]; omega] at hv1
      subst hv1
      have hbx := HW.out.app HB2.out hg
      have HN := Lib.hid (HW.out.next hbx ho hb)
      rw [hv] at hbx
      have cB := hbx.cell
      have fB := hbx.frozen
      clear ho hb hg hat hbx
      refine hK.out _ _ ?_
      clear hK K
      refine norm_ (a' := ?_) ?_ ?_
      rotate_left
      · show Act.put _ (some 17) _ = _
        simp only [Act.put, List.setIfInBounds_toArray, List.set_cons_zero, List.set_cons_succ, i64_w, i32_w]
        rfl
      refine last_ (i := 5) (N := none) #[true, true, true, true, true, true] rfl rfl (by kernel_rfl) (by decide) (fun K hK => ?_)
      refine skip_ (w1 := ?_) (by rfl) rfl ?_ ?_
      rotate_left
      · go_simp
        rfl
      refine hK.out _ _ ?_
      clear hK K
      refine done_ (by kernel_rfl) ?_
      go_wp2
      go_roundw
      case rel => exact ⟨i + 1, _, by omega, by go_num, HN⟩
      case measure => simp [intOf]; omega
    · have hlt : ¬ (i : Int) < (D.length : Int) := by omega
      obtain rfl : i = D.length := by omega
      have hown := HW.out.own
      rw [List.take_length] at hown
      obtain ⟨Av, cv, rfl⟩ := Kd.R_slice hown
      go_wp2
      go_ret
      exact ⟨lo, Av, cv, rfl, HW.out.low, HW.out.box, hown, HW.out.below⟩
end Go.Proofs.Ytdkohenilbkmkaa.UpW

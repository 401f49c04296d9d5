/- By hand: the law's sameReply answers true of a reply and its copy. For every reply of the sizes told and every world. -/
import Derived.Test.YtogkibhbkapobaaDoorCsPut
import Derived.Test.YtogkibhbkapobaaDoorWEqStruct
set_option linter.unusedVariables false
set_option linter.unusedSimpArgs false
namespace Go.Proofs.YtogkibhbkapobaaDoor.CsSame
open Go.RowKit Go.Shelf Go.Proofs Go.Proofs.YtogkibhbkapobaaDoor.XA Go.Proofs.YtogkibhbkapobaaDoor.XV Go.Proofs.YtogkibhbkapobaaDoor.Blk Go.Proofs.YtogkibhbkapobaaDoor.CsTab Go.Proofs.YtogkibhbkapobaaDoor.CsEv Go.Proofs.YtogkibhbkapobaaDoorW.PrintWords Go.Proofs.YtogkibhbkapobaaDoorW.PrintLast Go.Proofs.YtogkibhbkapobaaDoorW.PrintMore
structure Stop (P : Prop) : Prop where
  out : P
theorem texts_ev (l : List ByteArray) (hl : l.length ≤ 1048576) : ∀ m i : Nat, l.length - i = m → i ≤ l.length → Ev (fun k => rosterlaw19_sameTexts.l0 k l l (l.length : Int) (i : Int)) true := by
  intro m
  induction m with
  | zero =>
    intro i hm hi
    refine ev_round ?_
    simp only [rosterlaw19_sameTexts.l0]
    exact ev_neg (by omega) (ev_eq rfl)
  | succ m ih =>
    intro i hm hi
    refine ev_round ?_
    simp only [rosterlaw19_sameTexts.l0]
    refine ev_pos (by omega) (ev_pos (by omega) (ev_pos (by omega) (ev_pos (by omega) (ev_pos trivial ?_))))
    rw [wrp_id _ (by omega) (by omega)]
    exact ih (i + 1) (by omega) (by omega)
theorem texts_as (A : Option Addr) (c : Nat) (B : Option Addr) (d : Nat) (l : List ByteArray) (w : World) (h : Kd.C Kd.string w A l.length l) (hc : l.length ≤ c) (h2 : Kd.C Kd.string w B l.length l) (hd : l.length ≤ d) (hl : l.length ≤ 1048576) :
    Calls Tryd.prog 14 #[.slice A l.length c, .slice B l.length d] w fun e w' => e = .returned (.bool true) ∧ Drawn0 w w' := by
  have he : Ev (fun k => rosterlaw19_sameTexts.f k l l) true := by
    unfold rosterlaw19_sameTexts.f
    exact ev_pos rfl (texts_ev l hl l.length 0 (by omega) (by omega))
  obtain ⟨k, hk⟩ := he.rounds
  exact rosterlaw19_sameTexts.calls k A c l B d l true w h hc h2 hd hk
theorem texts_q (A : Option Addr) (c : Nat) (B : Option Addr) (d : Nat) (l : List ByteArray) (w : World) (h : Kd.C Kd.string w A l.length l) (hc : l.length ≤ c) (h2 : Kd.C Kd.string w B l.length l) (hd : l.length ≤ d) (hl : l.length ≤ 1048576) :
    Calls Tryd.prog 14 #[.slice A l.length c, .slice B l.length d] w fun e w' => e = .returned (.bool true) ∧ ∃ m, w' = w.drewN m :=
  (texts_as A c B d l w h hc h2 hd hl).mono fun _ _ ⟨he, hm⟩ => ⟨he, hm.out⟩
set_option maxHeartbeats 4000000 in
set_option maxRecDepth 100000 in
theorem same_as (f0 f1 f2 : Int) (f3 f4 f5 : ByteArray) (A6 B6 : Option Addr) (c6 d6 : Nat) (xs : List S34) (f7 : ByteArray) (f8 : Bool) (A9 B9 : Option Addr) (c9 d9 : Nat) (cs : List S36) (w : World)
    (hF : FineA xs) (hC : FineC cs) (hA : Kd.C k34 w A6 xs.length xs) (hB : Kd.C k34 w B6 xs.length xs) (kA : Kd.C k36 w A9 cs.length cs) (kB : Kd.C k36 w B9 cs.length cs) :
    Calls Tryd.prog 7 #[.agg #[.int .i64 f0, .int .i64 f1, .int .i64 f2, .string f3, .string f4, .string f5, .slice A6 xs.length c6, .string f7, .bool f8, .slice A9 cs.length c9], .agg #[.int .i64 f0, .int .i64 f1, .int .i64 f2, .string f3, .string f4, .string f5, .slice B6 xs.length d6, .string f7, .bool f8, .slice B9 cs.length d9]] w fun e w' => e = .returned (.bool true) ∧ Below w.heap.size w w' := by
  have HF := Lib.hid hF
  have HC := Lib.hid hC
  have HA := Lib.hid hA
  have HB := Lib.hid hB
  have KA := Lib.hid kA
  have KB := Lib.hid kB
  obtain ⟨w0, ew0⟩ : ∃ w0, w0 = (w.alloc (.cells #[.int .i64 f0, .int .i64 f1, .int .i64 f2, .string f3, .string f4, .string f5, .slice A6 xs.length c6, .string f7, .bool f8, .slice A9 cs.length c9] 29)).alloc (.cells #[.int .i64 f0, .int .i64 f1, .int .i64 f2, .string f3, .string f4, .string f5, .slice B6 xs.length d6, .string f7, .bool f8, .slice B9 cs.length d9] 29) := ⟨_, rfl⟩
  have hw0 : w0.heap.size = w.heap.size + 2 := by rw [ew0, World.size_alloc, World.size_alloc]
  have HX : Hid (At w0 w.heap.size [.int .i64 f0, .int .i64 f1, .int .i64 f2, .string f3, .string f4, .string f5, .slice A6 xs.length c6, .string f7, .bool f8, .slice A9 cs.length c9] 29) := by rw [ew0]; exact Lib.hid ((At.fresh w [.int .i64 f0, .int .i64 f1, .int .i64 f2, .string f3, .string f4, .string f5, .slice A6 xs.length c6, .string f7, .bool f8, .slice A9 cs.length c9] 29).alloc _)
  have HY : Hid (At w0 (w.heap.size + 1) [.int .i64 f0, .int .i64 f1, .int .i64 f2, .string f3, .string f4, .string f5, .slice B6 xs.length d6, .string f7, .bool f8, .slice B9 cs.length d9] 29) := by
    rw [ew0]
    have := At.fresh (w.alloc (.cells #[.int .i64 f0, .int .i64 f1, .int .i64 f2, .string f3, .string f4, .string f5, .slice A6 xs.length c6, .string f7, .bool f8, .slice A9 cs.length c9] 29)) [.int .i64 f0, .int .i64 f1, .int .i64 f2, .string f3, .string f4, .string f5, .slice B6 xs.length d6, .string f7, .bool f8, .slice B9 cs.length d9] 29
    rw [World.size_alloc] at this
    exact Lib.hid this
  have HBW : Hid (Below w.heap.size w w0) := by
    rw [ew0]
    exact Lib.hid (((Below.refl w.heap.size w).alloc (Nat.le_refl _) _).alloc (by rw [World.size_alloc]; omega) _)
  have HE := Lib.hid ew0
  clear hF hC hA hB kA kB ew0
  go_enter Tryd.func7, Tryd.ntmps7
  go_wp2
  go_loopw [66] (fun v66 wr => ∃ x : Int, 0 ≤ x ∧ x ≤ (xs.length : Int) ∧ v66 = .int .i64 x ∧ Hid (Below w0.heap.size w0 wr)) (fun v _ => xs.length - (intOf v).toNat)
  case atStart => exact ⟨0, Int.le_refl 0, by omega, rfl, by rw [HE.out]; exact Lib.hid (by repeat (first | exact Below.refl _ _ | apply pw_below_drewN | apply below_drew1))⟩
  case round =>
    rename World => wo
    obtain ⟨x, p0, p1, rfl, HR⟩ := hrel
    have hbw : Below w.heap.size w wo := HBW.out.trans (HR.out.mono (by rw [hw0]; omega))
    have hx_ := HX.out.below HR.out (by rw [hw0]; omega)
    have hy_ := HY.out.below HR.out (by rw [hw0]; omega)
    have cx6 := hx_.get 6 _ rfl
    have cy6 := hy_.get 6 _ rfl
    have cx9 := hx_.get 9 _ rfl
    have cy9 := hy_.get 9 _ rfl
    clear hx_ hy_
    by_cases q : x < (xs.length : Int)
    · obtain ⟨ad, A2, c2, eA, a0, a1, a2, hc2, hv⟩ := at_T34 (Kd.C_below HA.out hbw) x p0 q
      obtain ⟨bd, B2, d2, eB, b0, b1, b2, hd2, hu⟩ := at_T34 (Kd.C_below HB.out hbw) x p0 q
      subst eA eB
      have HV := Lib.hid hv
      have HU := Lib.hid hu
      have hvl := HF.out.vlen x.toNat (by omega)
      have hnl := HF.out.len
      rw [Int.toNat_of_nonneg p0] at hvl
      have hvl2 : (rd_T34 xs x).f2.length ≤ 1048576 := by omega
      have hlt := eq_true q
      have hp := eq_true p0
      have w1 : wrap64 (x + 1) = x + 1 := wrp_id _ (by omega) (by omega)
      clear hv hu hbw hvl
      go_wp2
      go_quiet (first | (go_at_call 14; refine Calls.quiet_of (texts_q A2 c2 B2 d2 (rd_T34 xs x).f2 _ (Kd.C_drewN HV.out _) hc2 (Kd.C_drewN HU.out _) hd2 hvl2)))
      go_wp2
      go_roundw
      case rel => exact ⟨x + 1, by omega, by omega, by first | rfl | (simp only [i64_w, w1]), Lib.hid (by repeat (first | exact HR.out | apply pw_below_drewN | apply below_drew1))⟩
      case measure => simp only [intOf, i64_w, w1]; omega
    · have hlt := eq_false q
      clear hbw
      go_wp2
      go_loopw [117] (fun v117 wr => ∃ y : Int, 0 ≤ y ∧ y ≤ (cs.length : Int) ∧ v117 = .int .i64 y ∧ Hid (Below w0.heap.size w0 wr)) (fun v _ => cs.length - (intOf v).toNat)
      case atStart => exact ⟨0, Int.le_refl 0, by omega, rfl, Lib.hid (by repeat (first | exact HR.out | apply pw_below_drewN | apply below_drew1))⟩
      case round =>
        rename World => wp
        obtain ⟨y, y0, y1, rfl, HS⟩ := hrel
        have hbw : Below w.heap.size w wp := HBW.out.trans (HS.out.mono (by rw [hw0]; omega))
        have hx_ := HX.out.below HS.out (by rw [hw0]; omega)
        have hy_ := HY.out.below HS.out (by rw [hw0]; omega)
        have dx9 := hx_.get 9 _ rfl
        have dy9 := hy_.get 9 _ rfl
        clear hx_ hy_
        have hnl := HC.out.n
        by_cases r : y < (cs.length : Int)
        · obtain ⟨ad, eA, a0, a1, a2, a3⟩ := at_T36 (Kd.C_below KA.out hbw) y y0 r
          obtain ⟨bd, eB, b0, b1, b2, b3⟩ := at_T36 (Kd.C_below KB.out hbw) y y0 r
          subst eA eB
          have hlt2 := eq_true r
          have hp := eq_true y0
          have w1 : wrap64 (y + 1) = y + 1 := wrp_id _ (by omega) (by omega)
          clear hbw
          go_wp2
          go_quiet (fail)
          go_wp2
          go_roundw
          case rel => exact ⟨y + 1, by omega, by omega, by first | rfl | (simp only [i64_w, w1]), Lib.hid (by repeat (first | exact HS.out | apply pw_below_drewN | apply below_drew1))⟩
          case measure => simp only [intOf, i64_w, w1]; omega
        · have hlt2 := eq_false r
          go_wp2
          go_ret
          exact ⟨rfl, by repeat (first | exact hbw | apply pw_below_drewN | apply below_drew1)⟩
end Go.Proofs.YtogkibhbkapobaaDoor.CsSame

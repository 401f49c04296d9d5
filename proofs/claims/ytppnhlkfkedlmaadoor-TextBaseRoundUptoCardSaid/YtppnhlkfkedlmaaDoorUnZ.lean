/- By hand: text.Unbase64 under the name that printed texts call it by; goes of the statements. -/
import Derived.Test.YtppnhlkfkedlmaaDoorUnY
set_option linter.unusedVariables false
set_option linter.unusedSimpArgs false
namespace Go.Proofs.YtppnhlkfkedlmaaDoor.UnZ
open Go.RowKit Go.Proofs.YtppnhlkfkedlmaaDoor.Blk Go.Proofs.YtppnhlkfkedlmaaDoor.L64 Go.Proofs.YtppnhlkfkedlmaaDoor.UnB64 Go.Proofs.YtppnhlkfkedlmaaDoor.RawB64 Go.Proofs.YtppnhlkfkedlmaaDoor.UnW Go.Proofs.YtppnhlkfkedlmaaDoor.UnX Go.Proofs.YtppnhlkfkedlmaaDoor.UnY Go.Proofs.YtppnhlkfkedlmaaDoorW.PrintWords Go.Proofs.YtppnhlkfkedlmaaDoorW.PrintLast Go.Proofs.YtppnhlkfkedlmaaDoorW.PrintMore
def unS (s : ByteArray) : List Int × Int × Int := unB st0 0 (bytesOf s)
def text_Unbase64.f (a0 : ByteArray) : Option (ByteArray × Int × Int) := if a0.size ≤ 140737488355328 then some (strOfNums (unS a0).1, (unS a0).2.1, (unS a0).2.2) else none
theorem text_Unbase64.calls (a0 : ByteArray) (r1 : ByteArray) (r2 : Int) (r3 : Int) (w : World) (h : text_Unbase64.f a0 = some (r1, r2, r3)) :
    Calls Tryd.prog 10 #[.string a0] w fun e w' => e = .returned (.tuple #[.string r1, .int .i64 r2, .int .i64 r3]) ∧ Below w.heap.size w w' := by
  unfold text_Unbase64.f at h
  split at h
  case isFalse => cases h
  case isTrue hs =>
  have h2 := Option.some.inj h
  simp only [Prod.mk.injEq] at h2
  obtain ⟨rfl, rfl, rfl⟩ := h2
  exact unbase64 a0 w hs
/-- The five ends. -/
def endAt : Nat → ByteArray
  | 0 => ⟨#[]⟩
  | 1 => ⟨#[61]⟩
  | 2 => ⟨#[65]⟩
  | 3 => ⟨#[65, 65]⟩
  | _ => ⟨#[65, 65, 65]⟩
def hits (s : ByteArray) (k : Nat) : Bool := decide ((unS (s ++ endAt k)).2.1 = 0)
def goesB (s : ByteArray) : Bool := hits s 0 || hits s 1 || hits s 2 || hits s 3 || hits s 4
def endsL : List Value := [.string (endAt 0), .string (endAt 1), .string (endAt 2), .string (endAt 3), .string (endAt 4)]
structure GR (w : World) (s : ByteArray) (k : Nat) (wr : World) : Prop where
  at_ : At wr w.heap.size endsL 42
  below : Below w.heap.size w wr
  none_ : ∀ j, j < k → hits s j = false
def GQ (w : World) (s : ByteArray) (e : Ending) (w' : World) : Prop := e = .returned (.bool (goesB s)) ∧ Below w.heap.size w w'
theorem gq_yes {w W : World} {s : ByteArray} {k : Nat} (hk : k < 5) (h : hits s k = true) (hb : Below w.heap.size w W) : GQ w s (.returned (.bool true)) W := by
  refine ⟨?_, hb⟩
  have : goesB s = true := by
    unfold goesB
    rcases (show k = 0 ∨ k = 1 ∨ k = 2 ∨ k = 3 ∨ k = 4 by omega) with rfl | rfl | rfl | rfl | rfl <;> simp [h]
  rw [this]
theorem gq_no {w W : World} {s : ByteArray} (h : GR w s 5 W) : GQ w s (.returned (.bool false)) W := by
  refine ⟨?_, h.below⟩
  have : goesB s = false := by
    unfold goesB
    rw [h.none_ 0 (by omega), h.none_ 1 (by omega), h.none_ 2 (by omega), h.none_ 3 (by omega), h.none_ 4 (by omega)]
    rfl
  rw [this]
theorem gr_step {w wr W : World} {s : ByteArray} {k : Nat} (h : GR w s k wr) (hn : hits s k = false) (hb : Below wr.heap.size wr W) : GR w s (k + 1) W := by
  have hl := h.at_.lt
  refine ⟨h.at_.below hb hl, h.below.trans (hb.mono (Nat.le_of_lt hl)), fun j hj => ?_⟩
  by_cases e : j = k
  · subst e; exact hn
  · exact h.none_ j (by omega)
theorem unb_as (s : ByteArray) (w : World) (hs : s.size ≤ 140737488355328) : Calls Tryd.prog 10 #[.string s] w fun e w' => e = .returned (.tuple #[.string (strOfNums (unS s).1), .int .i64 (unS s).2.1, .int .i64 (unS s).2.2]) ∧ Below w.heap.size w w' := unbase64 s w hs
set_option maxHeartbeats 2000000 in
theorem goes (s : ByteArray) (w : World) (hs : s.size ≤ 140737488355320) : Calls Tryd.prog 12 #[.string s] w (GQ w s) := by
  go_enter Tryd.func12, Tryd.ntmps12
  go_wp2_with fail
  go_loopw [4] (fun i wr => ∃ k : Nat, k ≤ 5 ∧ i = .int .i64 k ∧ Hid (GR w s k wr)) (fun i _ => 5 - (intOf i).toNat)
  case atStart => exact ⟨0, by omega, rfl, ⟨At.fresh w endsL 42, (Below.refl _ w).alloc (Nat.le_refl _) _, fun j hj => absurd hj (by omega)⟩⟩
  case round =>
    obtain ⟨k, hk, rfl, HR⟩ := hrel
    by_cases hlt : k < 5
    · rcases (show k = 0 ∨ k = 1 ∨ k = 2 ∨ k = 3 ∨ k = 4 by omega) with rfl | rfl | rfl | rfl | rfl
      · have cK : wr.cell? ⟨w.heap.size, 0, none⟩ = some (.string (⟨#[]⟩ : ByteArray)) := HR.out.at_.get 0 _ rfl
        by_cases hz : (unS (s ++ (⟨#[]⟩ : ByteArray))).2.1 = 0
        · have hz' : ((unS (s ++ (⟨#[]⟩ : ByteArray))).2.1 == 0) = true := beq_iff_eq.mpr hz
          have HZ : Hid (hits s 0 = true) := decide_eq_true hz
          clear hz
          go_wp2_with (first | (go_at_call 10; refine (unb_as (s ++ (⟨#[]⟩ : ByteArray)) _ (by rw [ByteArray.size_append]; show s.size + 0 ≤ _; omega)).mono ?_; rintro e W2 ⟨rfl, hb2⟩; have HB2 := Lib.hid hb2; clear hb2) | go_in)
          go_ret
          exact gq_yes (k := 0) (by omega) HZ.out (HR.out.below.trans (HB2.out.mono HR.out.below.size))
        · have hz' : ((unS (s ++ (⟨#[]⟩ : ByteArray))).2.1 == 0) = false := beq_eq_false_iff_ne.mpr hz
          have HZ : Hid (hits s 0 = false) := decide_eq_false hz
          clear hz
          go_wp2_with (first | (go_at_call 10; refine (unb_as (s ++ (⟨#[]⟩ : ByteArray)) _ (by rw [ByteArray.size_append]; show s.size + 0 ≤ _; omega)).mono ?_; rintro e W2 ⟨rfl, hb2⟩; have HB2 := Lib.hid hb2; clear hb2) | go_in)
          go_roundw
          case rel => exact ⟨1, by omega, by first | rfl | go_num, gr_step HR.out HZ.out HB2.out⟩
          case measure => simp [intOf]; (try omega)
      · have cK : wr.cell? ⟨w.heap.size, 1, none⟩ = some (.string (⟨#[61]⟩ : ByteArray)) := HR.out.at_.get 1 _ rfl
        by_cases hz : (unS (s ++ (⟨#[61]⟩ : ByteArray))).2.1 = 0
        · have hz' : ((unS (s ++ (⟨#[61]⟩ : ByteArray))).2.1 == 0) = true := beq_iff_eq.mpr hz
          have HZ : Hid (hits s 1 = true) := decide_eq_true hz
          clear hz
          go_wp2_with (first | (go_at_call 10; refine (unb_as (s ++ (⟨#[61]⟩ : ByteArray)) _ (by rw [ByteArray.size_append]; show s.size + 1 ≤ _; omega)).mono ?_; rintro e W2 ⟨rfl, hb2⟩; have HB2 := Lib.hid hb2; clear hb2) | go_in)
          go_ret
          exact gq_yes (k := 1) (by omega) HZ.out (HR.out.below.trans (HB2.out.mono HR.out.below.size))
        · have hz' : ((unS (s ++ (⟨#[61]⟩ : ByteArray))).2.1 == 0) = false := beq_eq_false_iff_ne.mpr hz
          have HZ : Hid (hits s 1 = false) := decide_eq_false hz
          clear hz
          go_wp2_with (first | (go_at_call 10; refine (unb_as (s ++ (⟨#[61]⟩ : ByteArray)) _ (by rw [ByteArray.size_append]; show s.size + 1 ≤ _; omega)).mono ?_; rintro e W2 ⟨rfl, hb2⟩; have HB2 := Lib.hid hb2; clear hb2) | go_in)
          go_roundw
          case rel => exact ⟨2, by omega, by first | rfl | go_num, gr_step HR.out HZ.out HB2.out⟩
          case measure => simp [intOf]; (try omega)
      · have cK : wr.cell? ⟨w.heap.size, 2, none⟩ = some (.string (⟨#[65]⟩ : ByteArray)) := HR.out.at_.get 2 _ rfl
        by_cases hz : (unS (s ++ (⟨#[65]⟩ : ByteArray))).2.1 = 0
        · have hz' : ((unS (s ++ (⟨#[65]⟩ : ByteArray))).2.1 == 0) = true := beq_iff_eq.mpr hz
          have HZ : Hid (hits s 2 = true) := decide_eq_true hz
          clear hz
          go_wp2_with (first | (go_at_call 10; refine (unb_as (s ++ (⟨#[65]⟩ : ByteArray)) _ (by rw [ByteArray.size_append]; show s.size + 1 ≤ _; omega)).mono ?_; rintro e W2 ⟨rfl, hb2⟩; have HB2 := Lib.hid hb2; clear hb2) | go_in)
          go_ret
          exact gq_yes (k := 2) (by omega) HZ.out (HR.out.below.trans (HB2.out.mono HR.out.below.size))
        · have hz' : ((unS (s ++ (⟨#[65]⟩ : ByteArray))).2.1 == 0) = false := beq_eq_false_iff_ne.mpr hz
          have HZ : Hid (hits s 2 = false) := decide_eq_false hz
          clear hz
          go_wp2_with (first | (go_at_call 10; refine (unb_as (s ++ (⟨#[65]⟩ : ByteArray)) _ (by rw [ByteArray.size_append]; show s.size + 1 ≤ _; omega)).mono ?_; rintro e W2 ⟨rfl, hb2⟩; have HB2 := Lib.hid hb2; clear hb2) | go_in)
          go_roundw
          case rel => exact ⟨3, by omega, by first | rfl | go_num, gr_step HR.out HZ.out HB2.out⟩
          case measure => simp [intOf]; (try omega)
      · have cK : wr.cell? ⟨w.heap.size, 3, none⟩ = some (.string (⟨#[65, 65]⟩ : ByteArray)) := HR.out.at_.get 3 _ rfl
        by_cases hz : (unS (s ++ (⟨#[65, 65]⟩ : ByteArray))).2.1 = 0
        · have hz' : ((unS (s ++ (⟨#[65, 65]⟩ : ByteArray))).2.1 == 0) = true := beq_iff_eq.mpr hz
          have HZ : Hid (hits s 3 = true) := decide_eq_true hz
          clear hz
          go_wp2_with (first | (go_at_call 10; refine (unb_as (s ++ (⟨#[65, 65]⟩ : ByteArray)) _ (by rw [ByteArray.size_append]; show s.size + 2 ≤ _; omega)).mono ?_; rintro e W2 ⟨rfl, hb2⟩; have HB2 := Lib.hid hb2; clear hb2) | go_in)
          go_ret
          exact gq_yes (k := 3) (by omega) HZ.out (HR.out.below.trans (HB2.out.mono HR.out.below.size))
        · have hz' : ((unS (s ++ (⟨#[65, 65]⟩ : ByteArray))).2.1 == 0) = false := beq_eq_false_iff_ne.mpr hz
          have HZ : Hid (hits s 3 = false) := decide_eq_false hz
          clear hz
          go_wp2_with (first | (go_at_call 10; refine (unb_as (s ++ (⟨#[65, 65]⟩ : ByteArray)) _ (by rw [ByteArray.size_append]; show s.size + 2 ≤ _; omega)).mono ?_; rintro e W2 ⟨rfl, hb2⟩; have HB2 := Lib.hid hb2; clear hb2) | go_in)
          go_roundw
          case rel => exact ⟨4, by omega, by first | rfl | go_num, gr_step HR.out HZ.out HB2.out⟩
          case measure => simp [intOf]; (try omega)
      · have cK : wr.cell? ⟨w.heap.size, 4, none⟩ = some (.string (⟨#[65, 65, 65]⟩ : ByteArray)) := HR.out.at_.get 4 _ rfl
        by_cases hz : (unS (s ++ (⟨#[65, 65, 65]⟩ : ByteArray))).2.1 = 0
        · have hz' : ((unS (s ++ (⟨#[65, 65, 65]⟩ : ByteArray))).2.1 == 0) = true := beq_iff_eq.mpr hz
          have HZ : Hid (hits s 4 = true) := decide_eq_true hz
          clear hz
          go_wp2_with (first | (go_at_call 10; refine (unb_as (s ++ (⟨#[65, 65, 65]⟩ : ByteArray)) _ (by rw [ByteArray.size_append]; show s.size + 3 ≤ _; omega)).mono ?_; rintro e W2 ⟨rfl, hb2⟩; have HB2 := Lib.hid hb2; clear hb2) | go_in)
          go_ret
          exact gq_yes (k := 4) (by omega) HZ.out (HR.out.below.trans (HB2.out.mono HR.out.below.size))
        · have hz' : ((unS (s ++ (⟨#[65, 65, 65]⟩ : ByteArray))).2.1 == 0) = false := beq_eq_false_iff_ne.mpr hz
          have HZ : Hid (hits s 4 = false) := decide_eq_false hz
          clear hz
          go_wp2_with (first | (go_at_call 10; refine (unb_as (s ++ (⟨#[65, 65, 65]⟩ : ByteArray)) _ (by rw [ByteArray.size_append]; show s.size + 3 ≤ _; omega)).mono ?_; rintro e W2 ⟨rfl, hb2⟩; have HB2 := Lib.hid hb2; clear hb2) | go_in)
          go_roundw
          case rel => exact ⟨5, by omega, by first | rfl | go_num, gr_step HR.out HZ.out HB2.out⟩
          case measure => simp [intOf]; (try omega)
    · obtain rfl : k = 5 := by omega
      go_wp2_with fail
      go_ret
      exact gq_no HR.out
def rosterlaw01_goes.f (a0 : ByteArray) : Option Bool := if a0.size ≤ 140737488355320 then some (goesB a0) else none
theorem rosterlaw01_goes.calls (a0 : ByteArray) (r : Bool) (w : World) (h : rosterlaw01_goes.f a0 = some r) : Calls Tryd.prog 12 #[.string a0] w fun e w' => e = .returned (.bool r) ∧ Below w.heap.size w w' := by
  unfold rosterlaw01_goes.f at h
  split at h
  case isFalse => cases h
  case isTrue hs =>
  obtain rfl := Option.some.inj h
  exact goes a0 w hs
end Go.Proofs.YtppnhlkfkedlmaaDoor.UnZ

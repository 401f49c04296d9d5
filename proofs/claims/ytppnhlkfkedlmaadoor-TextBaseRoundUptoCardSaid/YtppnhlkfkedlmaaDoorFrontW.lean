/- By hand: the document's front: is a text of up to four characters the front of a group? For every text and world. -/
import Derived.Test.YtppnhlkfkedlmaaDoorB64RefQ
import Derived.Test.YtppnhlkfkedlmaaDoorBlk
import Derived.Lib.Hide
set_option linter.unusedVariables false
set_option linter.unusedSimpArgs false
namespace Go.Proofs.YtppnhlkfkedlmaaDoor.FrontW
open Go.RowKit Go.Proofs.YtppnhlkfkedlmaaDoor.Blk Go.Proofs.YtppnhlkfkedlmaaDoor.XQ Go.Proofs.YtppnhlkfkedlmaaDoor.B64RefQ Go.Proofs.YtppnhlkfkedlmaaDoor.Dec Go.Proofs.YtppnhlkfkedlmaaDoor.L64 Go.Proofs.YtppnhlkfkedlmaaDoor.UnB64 Go.Proofs.YtppnhlkfkedlmaaDoorW.PrintWords Go.Proofs.YtppnhlkfkedlmaaDoorW.PrintLast Go.Proofs.YtppnhlkfkedlmaaDoorW.PrintMore
theorem bytesOf_as (g : ByteArray) (w : World) (h : g.size = 4) : Calls Tryd.prog 35 #[.string g] w fun e w' => e = .returned (.tuple #[.string (decG g).1, .bool (decG g).2]) ∧ Below w.heap.size w w' := by
  obtain ⟨c0, c1, c2, c3, hg⟩ := size4 g h
  obtain ⟨k, hk⟩ := Ev.rounds (bytesOf_ev g c0 c1 c2 c3 hg)
  unfold decG
  rw [hg]
  exact rosterref01_bytesOf.calls k g _ _ w hk
def tail (n : Nat) : Nat → ByteArray
  | 0 => ⟨#[]⟩
  | 1 => ⟨#[61]⟩
  | 2 => (⟨#[65, 65, 65]⟩ : ByteArray).extract 0 (4 - n)
  | _ => ⟨#[65, 65]⟩
def fit (t : ByteArray) (k : Nat) : Bool := decide ((t ++ tail t.size k).size = 4) && (decG (t ++ tail t.size k)).2
def frontB (t : ByteArray) : Bool := if t.size = 0 then true else if 4 < t.size then false else fit t 0 || fit t 1 || fit t 2 || fit t 3
def fullsL (n : Nat) : List Value := [.string (tail n 0), .string (tail n 1), .string (tail n 2), .string (tail n 3)]
structure FR (w : World) (t : ByteArray) (n k : Nat) (wr : World) : Prop where
  at_ : At wr w.heap.size (fullsL n) 55
  below : Below w.heap.size w wr
  sz : t.size = n
  n1 : 1 ≤ n
  n4 : n ≤ 4
  none_ : ∀ j, j < k → fit t j = false
def FQ (w : World) (t : ByteArray) (e : Ending) (w' : World) : Prop := e = .returned (.bool (frontB t)) ∧ Below w.heap.size w w'
theorem fq_yes {w wr W : World} {t : ByteArray} {n k : Nat} (h : FR w t n k wr) (hk : k < 4) (hf : fit t k = true) (hb : Below wr.heap.size wr W) : FQ w t (.returned (.bool true)) W := by
  have h1 := h.n1; have h2 := h.n4; have h3 := h.sz
  have : frontB t = true := by
    unfold frontB
    rw [if_neg (by omega), if_neg (by omega)]
    rcases (show k = 0 ∨ k = 1 ∨ k = 2 ∨ k = 3 by omega) with rfl | rfl | rfl | rfl <;> simp [hf]
  unfold FQ
  rw [this]
  exact ⟨rfl, h.below.trans (hb.mono h.below.size)⟩
theorem fq_no {w wr : World} {t : ByteArray} {n : Nat} (h : FR w t n 4 wr) : FQ w t (.returned (.bool false)) wr := by
  have h1 := h.n1; have h2 := h.n4; have h3 := h.sz
  have : frontB t = false := by
    unfold frontB
    rw [if_neg (by omega), if_neg (by omega), h.none_ 0 (by omega), h.none_ 1 (by omega), h.none_ 2 (by omega), h.none_ 3 (by omega)]
    rfl
  unfold FQ
  rw [this]
  exact ⟨rfl, h.below⟩
theorem fr_step {w wr W : World} {t : ByteArray} {n k : Nat} (h : FR w t n k wr) (hn : fit t k = false) (hb : Below wr.heap.size wr W) : FR w t n (k + 1) W := by
  have hl := h.at_.lt
  refine ⟨h.at_.below hb hl, h.below.trans (hb.mono (Nat.le_of_lt hl)), h.sz, h.n1, h.n4, fun j hj => ?_⟩
  by_cases e : j = k
  · subst e; exact hn
  · exact h.none_ j (by omega)
theorem fit_size {t : ByteArray} {k m : Nat} (h : (t ++ tail t.size k).size = m) (hm : m ≠ 4) : fit t k = false := by
  unfold fit
  rw [h, decide_eq_false hm]
  rfl
theorem fit_dec {t : ByteArray} {k : Nat} {b : Bool} (h : (t ++ tail t.size k).size = 4) (hd : (decG (t ++ tail t.size k)).2 = b) : fit t k = b := by
  unfold fit
  rw [h, hd]
  rfl
set_option maxHeartbeats 2000000 in
theorem front1 (t : ByteArray) (w : World) (hz : t.size = 1) : Calls Tryd.prog 43 #[.string t] w (FQ w t) := by
  go_enter Tryd.func43, Tryd.ntmps43
  go_wp2_with fail
  go_loopw [4] (fun i wr => ∃ k : Nat, k ≤ 4 ∧ i = .int .i64 k ∧ Hid (FR w t 1 k wr)) (fun i _ => 4 - (intOf i).toNat)
  case atStart => exact ⟨0, by omega, rfl, ⟨At.fresh w (fullsL 1) 55, (Below.refl _ w).alloc (Nat.le_refl _) _, hz, by omega, by omega, fun j hj => absurd hj (by omega)⟩⟩
  case round =>
    obtain ⟨k, hk, rfl, HR⟩ := hrel
    have HZ : Hid (t.size = 1) := hz
    clear hz
    by_cases hlt : k < 4
    · rcases (show k = 0 ∨ k = 1 ∨ k = 2 ∨ k = 3 by omega) with rfl | rfl | rfl | rfl
      · have cK : wr.cell? ⟨w.heap.size, 0, none⟩ = some (.string (⟨#[]⟩ : ByteArray)) := HR.out.at_.get 0 _ rfl
        have hl0 : t.size + ((⟨#[]⟩ : ByteArray)).size = 1 := by rw [HZ.out]; rfl
        have hs0 : (t ++ (⟨#[]⟩ : ByteArray)).size = 1 := by rw [ByteArray.size_append]; exact hl0
        have HS : Hid ((t ++ tail t.size 0).size = 1) := by rw [HZ.out]; exact hs0
        go_wp2_with fail
        go_roundw
        case rel => exact ⟨1, by omega, by first | rfl | go_num, fr_step HR.out (fit_size HS.out (by decide)) (Below.refl _ _)⟩
        case measure => simp [intOf]; (try omega)
      · have cK : wr.cell? ⟨w.heap.size, 1, none⟩ = some (.string (⟨#[61]⟩ : ByteArray)) := HR.out.at_.get 1 _ rfl
        have hl0 : t.size + ((⟨#[61]⟩ : ByteArray)).size = 2 := by rw [HZ.out]; rfl
        have hs0 : (t ++ (⟨#[61]⟩ : ByteArray)).size = 2 := by rw [ByteArray.size_append]; exact hl0
        have HS : Hid ((t ++ tail t.size 1).size = 2) := by rw [HZ.out]; exact hs0
        go_wp2_with fail
        go_roundw
        case rel => exact ⟨2, by omega, by first | rfl | go_num, fr_step HR.out (fit_size HS.out (by decide)) (Below.refl _ _)⟩
        case measure => simp [intOf]; (try omega)
      · have cK : wr.cell? ⟨w.heap.size, 2, none⟩ = some (.string ((⟨#[65, 65, 65]⟩ : ByteArray).extract 0 3)) := HR.out.at_.get 2 _ rfl
        have hl0 : t.size + (((⟨#[65, 65, 65]⟩ : ByteArray).extract 0 3)).size = 4 := by rw [HZ.out]; rfl
        have hs0 : (t ++ ((⟨#[65, 65, 65]⟩ : ByteArray).extract 0 3)).size = 4 := by rw [ByteArray.size_append]; exact hl0
        have HS : Hid ((t ++ tail t.size 2).size = 4) := by rw [HZ.out]; exact hs0
        cases hd : (decG (t ++ ((⟨#[65, 65, 65]⟩ : ByteArray).extract 0 3))).2 with
        | true =>
          have HD : Hid ((decG (t ++ tail t.size 2)).2 = true) := by rw [HZ.out]; exact hd
          have HS0 : Hid ((t ++ ((⟨#[65, 65, 65]⟩ : ByteArray).extract 0 3)).size = 4) := hs0
          go_wp2_with (go_at_call 35; refine (bytesOf_as (t ++ ((⟨#[65, 65, 65]⟩ : ByteArray).extract 0 3)) _ HS0.out).mono ?_; rintro e W2 ⟨rfl, hb2⟩; have HB2 := Lib.hid hb2; clear hb2)
          go_ret
          exact fq_yes HR.out (by omega) (fit_dec HS.out HD.out) HB2.out
        | false =>
          have HD : Hid ((decG (t ++ tail t.size 2)).2 = false) := by rw [HZ.out]; exact hd
          have HS0 : Hid ((t ++ ((⟨#[65, 65, 65]⟩ : ByteArray).extract 0 3)).size = 4) := hs0
          go_wp2_with (go_at_call 35; refine (bytesOf_as (t ++ ((⟨#[65, 65, 65]⟩ : ByteArray).extract 0 3)) _ HS0.out).mono ?_; rintro e W2 ⟨rfl, hb2⟩; have HB2 := Lib.hid hb2; clear hb2)
          go_roundw
          case rel => exact ⟨3, by omega, by first | rfl | go_num, fr_step HR.out (fit_dec HS.out HD.out) HB2.out⟩
          case measure => simp [intOf]; (try omega)
      · have cK : wr.cell? ⟨w.heap.size, 3, none⟩ = some (.string (⟨#[65, 65]⟩ : ByteArray)) := HR.out.at_.get 3 _ rfl
        have hl0 : t.size + ((⟨#[65, 65]⟩ : ByteArray)).size = 3 := by rw [HZ.out]; rfl
        have hs0 : (t ++ (⟨#[65, 65]⟩ : ByteArray)).size = 3 := by rw [ByteArray.size_append]; exact hl0
        have HS : Hid ((t ++ tail t.size 3).size = 3) := by rw [HZ.out]; exact hs0
        go_wp2_with fail
        go_roundw
        case rel => exact ⟨4, by omega, by first | rfl | go_num, fr_step HR.out (fit_size HS.out (by decide)) (Below.refl _ _)⟩
        case measure => simp [intOf]; (try omega)
    · obtain rfl : k = 4 := by omega
      go_wp2_with fail
      go_ret
      exact fq_no HR.out
set_option maxHeartbeats 2000000 in
theorem front2 (t : ByteArray) (w : World) (hz : t.size = 2) : Calls Tryd.prog 43 #[.string t] w (FQ w t) := by
  go_enter Tryd.func43, Tryd.ntmps43
  go_wp2_with fail
  go_loopw [4] (fun i wr => ∃ k : Nat, k ≤ 4 ∧ i = .int .i64 k ∧ Hid (FR w t 2 k wr)) (fun i _ => 4 - (intOf i).toNat)
  case atStart => exact ⟨0, by omega, rfl, ⟨At.fresh w (fullsL 2) 55, (Below.refl _ w).alloc (Nat.le_refl _) _, hz, by omega, by omega, fun j hj => absurd hj (by omega)⟩⟩
  case round =>
    obtain ⟨k, hk, rfl, HR⟩ := hrel
    have HZ : Hid (t.size = 2) := hz
    clear hz
    by_cases hlt : k < 4
    · rcases (show k = 0 ∨ k = 1 ∨ k = 2 ∨ k = 3 by omega) with rfl | rfl | rfl | rfl
      · have cK : wr.cell? ⟨w.heap.size, 0, none⟩ = some (.string (⟨#[]⟩ : ByteArray)) := HR.out.at_.get 0 _ rfl
        have hl0 : t.size + ((⟨#[]⟩ : ByteArray)).size = 2 := by rw [HZ.out]; rfl
        have hs0 : (t ++ (⟨#[]⟩ : ByteArray)).size = 2 := by rw [ByteArray.size_append]; exact hl0
        have HS : Hid ((t ++ tail t.size 0).size = 2) := by rw [HZ.out]; exact hs0
        go_wp2_with fail
        go_roundw
        case rel => exact ⟨1, by omega, by first | rfl | go_num, fr_step HR.out (fit_size HS.out (by decide)) (Below.refl _ _)⟩
        case measure => simp [intOf]; (try omega)
      · have cK : wr.cell? ⟨w.heap.size, 1, none⟩ = some (.string (⟨#[61]⟩ : ByteArray)) := HR.out.at_.get 1 _ rfl
        have hl0 : t.size + ((⟨#[61]⟩ : ByteArray)).size = 3 := by rw [HZ.out]; rfl
        have hs0 : (t ++ (⟨#[61]⟩ : ByteArray)).size = 3 := by rw [ByteArray.size_append]; exact hl0
        have HS : Hid ((t ++ tail t.size 1).size = 3) := by rw [HZ.out]; exact hs0
        go_wp2_with fail
        go_roundw
        case rel => exact ⟨2, by omega, by first | rfl | go_num, fr_step HR.out (fit_size HS.out (by decide)) (Below.refl _ _)⟩
        case measure => simp [intOf]; (try omega)
      · have cK : wr.cell? ⟨w.heap.size, 2, none⟩ = some (.string ((⟨#[65, 65, 65]⟩ : ByteArray).extract 0 2)) := HR.out.at_.get 2 _ rfl
        have hl0 : t.size + (((⟨#[65, 65, 65]⟩ : ByteArray).extract 0 2)).size = 4 := by rw [HZ.out]; rfl
        have hs0 : (t ++ ((⟨#[65, 65, 65]⟩ : ByteArray).extract 0 2)).size = 4 := by rw [ByteArray.size_append]; exact hl0
        have HS : Hid ((t ++ tail t.size 2).size = 4) := by rw [HZ.out]; exact hs0
        cases hd : (decG (t ++ ((⟨#[65, 65, 65]⟩ : ByteArray).extract 0 2))).2 with
        | true =>
          have HD : Hid ((decG (t ++ tail t.size 2)).2 = true) := by rw [HZ.out]; exact hd
          have HS0 : Hid ((t ++ ((⟨#[65, 65, 65]⟩ : ByteArray).extract 0 2)).size = 4) := hs0
          go_wp2_with (go_at_call 35; refine (bytesOf_as (t ++ ((⟨#[65, 65, 65]⟩ : ByteArray).extract 0 2)) _ HS0.out).mono ?_; rintro e W2 ⟨rfl, hb2⟩; have HB2 := Lib.hid hb2; clear hb2)
          go_ret
          exact fq_yes HR.out (by omega) (fit_dec HS.out HD.out) HB2.out
        | false =>
          have HD : Hid ((decG (t ++ tail t.size 2)).2 = false) := by rw [HZ.out]; exact hd
          have HS0 : Hid ((t ++ ((⟨#[65, 65, 65]⟩ : ByteArray).extract 0 2)).size = 4) := hs0
          go_wp2_with (go_at_call 35; refine (bytesOf_as (t ++ ((⟨#[65, 65, 65]⟩ : ByteArray).extract 0 2)) _ HS0.out).mono ?_; rintro e W2 ⟨rfl, hb2⟩; have HB2 := Lib.hid hb2; clear hb2)
          go_roundw
          case rel => exact ⟨3, by omega, by first | rfl | go_num, fr_step HR.out (fit_dec HS.out HD.out) HB2.out⟩
          case measure => simp [intOf]; (try omega)
      · have cK : wr.cell? ⟨w.heap.size, 3, none⟩ = some (.string (⟨#[65, 65]⟩ : ByteArray)) := HR.out.at_.get 3 _ rfl
        have hl0 : t.size + ((⟨#[65, 65]⟩ : ByteArray)).size = 4 := by rw [HZ.out]; rfl
        have hs0 : (t ++ (⟨#[65, 65]⟩ : ByteArray)).size = 4 := by rw [ByteArray.size_append]; exact hl0
        have HS : Hid ((t ++ tail t.size 3).size = 4) := by rw [HZ.out]; exact hs0
        cases hd : (decG (t ++ (⟨#[65, 65]⟩ : ByteArray))).2 with
        | true =>
          have HD : Hid ((decG (t ++ tail t.size 3)).2 = true) := by rw [HZ.out]; exact hd
          have HS0 : Hid ((t ++ (⟨#[65, 65]⟩ : ByteArray)).size = 4) := hs0
          go_wp2_with (go_at_call 35; refine (bytesOf_as (t ++ (⟨#[65, 65]⟩ : ByteArray)) _ HS0.out).mono ?_; rintro e W2 ⟨rfl, hb2⟩; have HB2 := Lib.hid hb2; clear hb2)
          go_ret
          exact fq_yes HR.out (by omega) (fit_dec HS.out HD.out) HB2.out
        | false =>
          have HD : Hid ((decG (t ++ tail t.size 3)).2 = false) := by rw [HZ.out]; exact hd
          have HS0 : Hid ((t ++ (⟨#[65, 65]⟩ : ByteArray)).size = 4) := hs0
          go_wp2_with (go_at_call 35; refine (bytesOf_as (t ++ (⟨#[65, 65]⟩ : ByteArray)) _ HS0.out).mono ?_; rintro e W2 ⟨rfl, hb2⟩; have HB2 := Lib.hid hb2; clear hb2)
          go_roundw
          case rel => exact ⟨4, by omega, by first | rfl | go_num, fr_step HR.out (fit_dec HS.out HD.out) HB2.out⟩
          case measure => simp [intOf]; (try omega)
    · obtain rfl : k = 4 := by omega
      go_wp2_with fail
      go_ret
      exact fq_no HR.out
set_option maxHeartbeats 2000000 in
theorem front3 (t : ByteArray) (w : World) (hz : t.size = 3) : Calls Tryd.prog 43 #[.string t] w (FQ w t) := by
  go_enter Tryd.func43, Tryd.ntmps43
  go_wp2_with fail
  go_loopw [4] (fun i wr => ∃ k : Nat, k ≤ 4 ∧ i = .int .i64 k ∧ Hid (FR w t 3 k wr)) (fun i _ => 4 - (intOf i).toNat)
  case atStart => exact ⟨0, by omega, rfl, ⟨At.fresh w (fullsL 3) 55, (Below.refl _ w).alloc (Nat.le_refl _) _, hz, by omega, by omega, fun j hj => absurd hj (by omega)⟩⟩
  case round =>
    obtain ⟨k, hk, rfl, HR⟩ := hrel
    have HZ : Hid (t.size = 3) := hz
    clear hz
    by_cases hlt : k < 4
    · rcases (show k = 0 ∨ k = 1 ∨ k = 2 ∨ k = 3 by omega) with rfl | rfl | rfl | rfl
      · have cK : wr.cell? ⟨w.heap.size, 0, none⟩ = some (.string (⟨#[]⟩ : ByteArray)) := HR.out.at_.get 0 _ rfl
        have hl0 : t.size + ((⟨#[]⟩ : ByteArray)).size = 3 := by rw [HZ.out]; rfl
        have hs0 : (t ++ (⟨#[]⟩ : ByteArray)).size = 3 := by rw [ByteArray.size_append]; exact hl0
        have HS : Hid ((t ++ tail t.size 0).size = 3) := by rw [HZ.out]; exact hs0
        go_wp2_with fail
        go_roundw
        case rel => exact ⟨1, by omega, by first | rfl | go_num, fr_step HR.out (fit_size HS.out (by decide)) (Below.refl _ _)⟩
        case measure => simp [intOf]; (try omega)
      · have cK : wr.cell? ⟨w.heap.size, 1, none⟩ = some (.string (⟨#[61]⟩ : ByteArray)) := HR.out.at_.get 1 _ rfl
        have hl0 : t.size + ((⟨#[61]⟩ : ByteArray)).size = 4 := by rw [HZ.out]; rfl
        have hs0 : (t ++ (⟨#[61]⟩ : ByteArray)).size = 4 := by rw [ByteArray.size_append]; exact hl0
        have HS : Hid ((t ++ tail t.size 1).size = 4) := by rw [HZ.out]; exact hs0
        cases hd : (decG (t ++ (⟨#[61]⟩ : ByteArray))).2 with
        | true =>
          have HD : Hid ((decG (t ++ tail t.size 1)).2 = true) := by rw [HZ.out]; exact hd
          have HS0 : Hid ((t ++ (⟨#[61]⟩ : ByteArray)).size = 4) := hs0
          go_wp2_with (go_at_call 35; refine (bytesOf_as (t ++ (⟨#[61]⟩ : ByteArray)) _ HS0.out).mono ?_; rintro e W2 ⟨rfl, hb2⟩; have HB2 := Lib.hid hb2; clear hb2)
          go_ret
          exact fq_yes HR.out (by omega) (fit_dec HS.out HD.out) HB2.out
        | false =>
          have HD : Hid ((decG (t ++ tail t.size 1)).2 = false) := by rw [HZ.out]; exact hd
          have HS0 : Hid ((t ++ (⟨#[61]⟩ : ByteArray)).size = 4) := hs0
          go_wp2_with (go_at_call 35; refine (bytesOf_as (t ++ (⟨#[61]⟩ : ByteArray)) _ HS0.out).mono ?_; rintro e W2 ⟨rfl, hb2⟩; have HB2 := Lib.hid hb2; clear hb2)
          go_roundw
          case rel => exact ⟨2, by omega, by first | rfl | go_num, fr_step HR.out (fit_dec HS.out HD.out) HB2.out⟩
          case measure => simp [intOf]; (try omega)
      · have cK : wr.cell? ⟨w.heap.size, 2, none⟩ = some (.string ((⟨#[65, 65, 65]⟩ : ByteArray).extract 0 1)) := HR.out.at_.get 2 _ rfl
        have hl0 : t.size + (((⟨#[65, 65, 65]⟩ : ByteArray).extract 0 1)).size = 4 := by rw [HZ.out]; rfl
        have hs0 : (t ++ ((⟨#[65, 65, 65]⟩ : ByteArray).extract 0 1)).size = 4 := by rw [ByteArray.size_append]; exact hl0
        have HS : Hid ((t ++ tail t.size 2).size = 4) := by rw [HZ.out]; exact hs0
        cases hd : (decG (t ++ ((⟨#[65, 65, 65]⟩ : ByteArray).extract 0 1))).2 with
        | true =>
          have HD : Hid ((decG (t ++ tail t.size 2)).2 = true) := by rw [HZ.out]; exact hd
          have HS0 : Hid ((t ++ ((⟨#[65, 65, 65]⟩ : ByteArray).extract 0 1)).size = 4) := hs0
          go_wp2_with (go_at_call 35; refine (bytesOf_as (t ++ ((⟨#[65, 65, 65]⟩ : ByteArray).extract 0 1)) _ HS0.out).mono ?_; rintro e W2 ⟨rfl, hb2⟩; have HB2 := Lib.hid hb2; clear hb2)
          go_ret
          exact fq_yes HR.out (by omega) (fit_dec HS.out HD.out) HB2.out
        | false =>
          have HD : Hid ((decG (t ++ tail t.size 2)).2 = false) := by rw [HZ.out]; exact hd
          have HS0 : Hid ((t ++ ((⟨#[65, 65, 65]⟩ : ByteArray).extract 0 1)).size = 4) := hs0
          go_wp2_with (go_at_call 35; refine (bytesOf_as (t ++ ((⟨#[65, 65, 65]⟩ : ByteArray).extract 0 1)) _ HS0.out).mono ?_; rintro e W2 ⟨rfl, hb2⟩; have HB2 := Lib.hid hb2; clear hb2)
          go_roundw
          case rel => exact ⟨3, by omega, by first | rfl | go_num, fr_step HR.out (fit_dec HS.out HD.out) HB2.out⟩
          case measure => simp [intOf]; (try omega)
      · have cK : wr.cell? ⟨w.heap.size, 3, none⟩ = some (.string (⟨#[65, 65]⟩ : ByteArray)) := HR.out.at_.get 3 _ rfl
        have hl0 : t.size + ((⟨#[65, 65]⟩ : ByteArray)).size = 5 := by rw [HZ.out]; rfl
        have hs0 : (t ++ (⟨#[65, 65]⟩ : ByteArray)).size = 5 := by rw [ByteArray.size_append]; exact hl0
        have HS : Hid ((t ++ tail t.size 3).size = 5) := by rw [HZ.out]; exact hs0
        go_wp2_with fail
        go_roundw
        case rel => exact ⟨4, by omega, by first | rfl | go_num, fr_step HR.out (fit_size HS.out (by decide)) (Below.refl _ _)⟩
        case measure => simp [intOf]; (try omega)
    · obtain rfl : k = 4 := by omega
      go_wp2_with fail
      go_ret
      exact fq_no HR.out
set_option maxHeartbeats 2000000 in
theorem front4 (t : ByteArray) (w : World) (hz : t.size = 4) : Calls Tryd.prog 43 #[.string t] w (FQ w t) := by
  go_enter Tryd.func43, Tryd.ntmps43
  go_wp2_with fail
  go_loopw [4] (fun i wr => ∃ k : Nat, k ≤ 4 ∧ i = .int .i64 k ∧ Hid (FR w t 4 k wr)) (fun i _ => 4 - (intOf i).toNat)
  case atStart => exact ⟨0, by omega, rfl, ⟨At.fresh w (fullsL 4) 55, (Below.refl _ w).alloc (Nat.le_refl _) _, hz, by omega, by omega, fun j hj => absurd hj (by omega)⟩⟩
  case round =>
    obtain ⟨k, hk, rfl, HR⟩ := hrel
    have HZ : Hid (t.size = 4) := hz
    clear hz
    by_cases hlt : k < 4
    · rcases (show k = 0 ∨ k = 1 ∨ k = 2 ∨ k = 3 by omega) with rfl | rfl | rfl | rfl
      · have cK : wr.cell? ⟨w.heap.size, 0, none⟩ = some (.string (⟨#[]⟩ : ByteArray)) := HR.out.at_.get 0 _ rfl
        have hl0 : t.size + ((⟨#[]⟩ : ByteArray)).size = 4 := by rw [HZ.out]; rfl
        have hs0 : (t ++ (⟨#[]⟩ : ByteArray)).size = 4 := by rw [ByteArray.size_append]; exact hl0
        have HS : Hid ((t ++ tail t.size 0).size = 4) := by rw [HZ.out]; exact hs0
        cases hd : (decG (t ++ (⟨#[]⟩ : ByteArray))).2 with
        | true =>
          have HD : Hid ((decG (t ++ tail t.size 0)).2 = true) := by rw [HZ.out]; exact hd
          have HS0 : Hid ((t ++ (⟨#[]⟩ : ByteArray)).size = 4) := hs0
          go_wp2_with (go_at_call 35; refine (bytesOf_as (t ++ (⟨#[]⟩ : ByteArray)) _ HS0.out).mono ?_; rintro e W2 ⟨rfl, hb2⟩; have HB2 := Lib.hid hb2; clear hb2)
          go_ret
          exact fq_yes HR.out (by omega) (fit_dec HS.out HD.out) HB2.out
        | false =>
          have HD : Hid ((decG (t ++ tail t.size 0)).2 = false) := by rw [HZ.out]; exact hd
          have HS0 : Hid ((t ++ (⟨#[]⟩ : ByteArray)).size = 4) := hs0
          go_wp2_with (go_at_call 35; refine (bytesOf_as (t ++ (⟨#[]⟩ : ByteArray)) _ HS0.out).mono ?_; rintro e W2 ⟨rfl, hb2⟩; have HB2 := Lib.hid hb2; clear hb2)
          go_roundw
          case rel => exact ⟨1, by omega, by first | rfl | go_num, fr_step HR.out (fit_dec HS.out HD.out) HB2.out⟩
          case measure => simp [intOf]; (try omega)
      · have cK : wr.cell? ⟨w.heap.size, 1, none⟩ = some (.string (⟨#[61]⟩ : ByteArray)) := HR.out.at_.get 1 _ rfl
        have hl0 : t.size + ((⟨#[61]⟩ : ByteArray)).size = 5 := by rw [HZ.out]; rfl
        have hs0 : (t ++ (⟨#[61]⟩ : ByteArray)).size = 5 := by rw [ByteArray.size_append]; exact hl0
        have HS : Hid ((t ++ tail t.size 1).size = 5) := by rw [HZ.out]; exact hs0
        go_wp2_with fail
        go_roundw
        case rel => exact ⟨2, by omega, by first | rfl | go_num, fr_step HR.out (fit_size HS.out (by decide)) (Below.refl _ _)⟩
        case measure => simp [intOf]; (try omega)
      · have e0 : ((⟨#[65, 65, 65]⟩ : ByteArray).extract 0 0) = (⟨#[]⟩ : ByteArray) := by decide +kernel
        have eT : tail t.size 2 = (⟨#[]⟩ : ByteArray) := by rw [HZ.out]; exact e0
        have cK : wr.cell? ⟨w.heap.size, 2, none⟩ = some (.string (⟨#[]⟩ : ByteArray)) := HR.out.at_.get 2 _ (congrArg (fun z => some (Value.string z)) e0)
        have hl0 : t.size + ((⟨#[]⟩ : ByteArray)).size = 4 := by rw [HZ.out]; rfl
        have hs0 : (t ++ (⟨#[]⟩ : ByteArray)).size = 4 := by rw [ByteArray.size_append]; exact hl0
        have HS : Hid ((t ++ tail t.size 2).size = 4) := by rw [eT]; exact hs0
        replace eT := Lib.hid eT
        clear e0
        cases hd : (decG (t ++ (⟨#[]⟩ : ByteArray))).2 with
        | true =>
          have HD : Hid ((decG (t ++ tail t.size 2)).2 = true) := by rw [eT.out]; exact hd
          have HS0 : Hid ((t ++ (⟨#[]⟩ : ByteArray)).size = 4) := hs0
          go_wp2_with (go_at_call 35; refine (bytesOf_as (t ++ (⟨#[]⟩ : ByteArray)) _ HS0.out).mono ?_; rintro e W2 ⟨rfl, hb2⟩; have HB2 := Lib.hid hb2; clear hb2)
          go_ret
          exact fq_yes HR.out (by omega) (fit_dec HS.out HD.out) HB2.out
        | false =>
          have HD : Hid ((decG (t ++ tail t.size 2)).2 = false) := by rw [eT.out]; exact hd
          have HS0 : Hid ((t ++ (⟨#[]⟩ : ByteArray)).size = 4) := hs0
          go_wp2_with (go_at_call 35; refine (bytesOf_as (t ++ (⟨#[]⟩ : ByteArray)) _ HS0.out).mono ?_; rintro e W2 ⟨rfl, hb2⟩; have HB2 := Lib.hid hb2; clear hb2)
          go_roundw
          case rel => exact ⟨3, by omega, by first | rfl | go_num, fr_step HR.out (fit_dec HS.out HD.out) HB2.out⟩
          case measure => simp [intOf]; (try omega)
      · have cK : wr.cell? ⟨w.heap.size, 3, none⟩ = some (.string (⟨#[65, 65]⟩ : ByteArray)) := HR.out.at_.get 3 _ rfl
        have hl0 : t.size + ((⟨#[65, 65]⟩ : ByteArray)).size = 6 := by rw [HZ.out]; rfl
        have hs0 : (t ++ (⟨#[65, 65]⟩ : ByteArray)).size = 6 := by rw [ByteArray.size_append]; exact hl0
        have HS : Hid ((t ++ tail t.size 3).size = 6) := by rw [HZ.out]; exact hs0
        go_wp2_with fail
        go_roundw
        case rel => exact ⟨4, by omega, by first | rfl | go_num, fr_step HR.out (fit_size HS.out (by decide)) (Below.refl _ _)⟩
        case measure => simp [intOf]; (try omega)
    · obtain rfl : k = 4 := by omega
      go_wp2_with fail
      go_ret
      exact fq_no HR.out
theorem front (t : ByteArray) (w : World) (hs : t.size ≤ 9223372036854775807) : Calls Tryd.prog 43 #[.string t] w (FQ w t) := by
  by_cases h0 : t.size = 0
  · have hq : Hid (frontB t = true) := by unfold frontB; exact if_pos h0
    go_enter Tryd.func43, Tryd.ntmps43
    go_wp2_with fail
    go_ret
    unfold FQ
    rw [hq.out]
    exact ⟨rfl, Below.refl _ _⟩
  · by_cases h5 : 4 < t.size
    · have hq : Hid (frontB t = false) := by unfold frontB; rw [if_neg h0]; exact if_pos h5
      have h0' : ((t.size : Int) == 0) = false := beq_eq_false_iff_ne.mpr (by omega)
      have h5' : decide ((4 : Int) < (t.size : Int)) = true := decide_eq_true (by omega)
      have h5'' : decide (4 < t.size) = true := decide_eq_true h5
      go_enter Tryd.func43, Tryd.ntmps43
      go_wp2_with fail
      go_ret
      unfold FQ
      rw [hq.out]
      exact ⟨rfl, Below.refl _ _⟩
    · rcases (show t.size = 1 ∨ t.size = 2 ∨ t.size = 3 ∨ t.size = 4 by omega) with h | h | h | h
      · exact front1 t w h
      · exact front2 t w h
      · exact front3 t w h
      · exact front4 t w h
def rosterref01_front.f (a0 : ByteArray) : Option Bool := if a0.size ≤ 9223372036854775807 then some (frontB a0) else none
theorem rosterref01_front.calls (a0 : ByteArray) (r : Bool) (w : World) (h : rosterref01_front.f a0 = some r) : Calls Tryd.prog 43 #[.string a0] w fun e w' => e = .returned (.bool r) ∧ Below w.heap.size w w' := by
  unfold rosterref01_front.f at h
  split at h
  case isFalse => cases h
  case isTrue hs =>
  obtain rfl := Option.some.inj h
  exact front a0 w hs
end Go.Proofs.YtppnhlkfkedlmaaDoor.FrontW

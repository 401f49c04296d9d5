/- By hand: text.Unbase64 with its group behind a pointer. For every text of at most 2^40 bytes and every world. -/
import Derived.Test.YtppnhlkfkedlmaaDoorProg
import Derived.WalkKit
import Derived.Deep.QuietTactic
import Derived.BigQuiet
import Derived.Test.YtppnhlkfkedlmaaDoorWMore
import Derived.Test.YtppnhlkfkedlmaaDoorRawB64
import Derived.Test.YtppnhlkfkedlmaaDoorBlk
set_option linter.unusedVariables false
set_option linter.unusedSimpArgs false
namespace Go.Proofs.YtppnhlkfkedlmaaDoor.UnW
open Go.RowKit Go.Proofs.YtppnhlkfkedlmaaDoor.Blk Go.Proofs.YtppnhlkfkedlmaaDoor.L64 Go.Proofs.YtppnhlkfkedlmaaDoor.UnB64 Go.Proofs.YtppnhlkfkedlmaaDoor.RawB64 Go.Proofs.YtppnhlkfkedlmaaDoorW.PrintWords Go.Proofs.YtppnhlkfkedlmaaDoorW.PrintLast Go.Proofs.YtppnhlkfkedlmaaDoorW.PrintMore

def wv (c : Int) : Int := (w64 c).getD 0
def wb (c : Int) : Bool := (w64 c).isSome
theorem worth64 (c : Int) (w : World) (h0 : 0 ≤ c) (h1 : c ≤ 255) : Calls Tryd.prog 36 #[.int .u8 c] w fun e w' => e = .returned (.tuple #[.int .u8 (wv c), .bool (wb c)]) ∧ w' = w := by
  have hc : (65 ≤ c ∧ c ≤ 90) ∨ (97 ≤ c ∧ c ≤ 122) ∨ (48 ≤ c ∧ c ≤ 57) ∨ c = 43 ∨ c = 47 ∨ c < 43 ∨ (43 < c ∧ c < 47) ∨ (57 < c ∧ c < 65) ∨ (90 < c ∧ c < 97) ∨ 122 < c := by omega
  have ev : ∀ v b, wv c = v → wb c = b → (Ending.returned (.tuple #[.int .u8 v, .bool b]) = Ending.returned (.tuple #[.int .u8 (wv c), .bool (wb c)])) := by rintro v b rfl rfl; rfl
  rcases hc with h | h | h | h | h | h | h | h | h | h
  all_goals
    go_enter Tryd.func36, Tryd.ntmps36
    go_wp2
    go_ret2
    refine ⟨ev _ _ ?_ ?_, rfl⟩
  all_goals first
    | (unfold wv w64; (repeat (first | rw [if_pos (by omega)] | rw [if_neg (by omega)])); simp; done)
    | (unfold wv w64; (repeat (first | rw [if_pos (by omega)] | rw [if_neg (by omega)])); simp; omega)
    | (unfold wb w64; (repeat (first | rw [if_pos (by omega)] | rw [if_neg (by omega)])); rfl)

def cellsG (g : G) : List Value := [.int .i64 g.at_, .int .u8 g.w0, .int .u8 g.w1, .int .u8 g.w2, .int .u8 g.w3, .int .i64 g.p]
def AtG (w : World) (b : Nat) (g : G) : Prop := At w b (cellsG g) 39
def TakeQ (w : World) (b : Nat) (g : G) (c : Int) (e : Ending) (w' : World) : Prop := e = .returned (.bool (takeG g c).2) ∧ AtG w' b (takeG g c).1 ∧ w.grownBy w' (some b)

theorem and15' (x : Int) (h : 0 ≤ x) (h2 : x < 64) : Go.bits .and .u8 x 15 = x % 16 := by
  obtain ⟨y, rfl⟩ := fin_of x 64 h (by omega)
  have : ∀ y : Fin 64, Go.bits .and .u8 (y.val : Int) 15 = (y.val : Int) % 16 := by decide +kernel
  exact this y
theorem and3' (x : Int) (h : 0 ≤ x) (h2 : x < 64) : Go.bits .and .u8 x 3 = x % 4 := by
  obtain ⟨y, rfl⟩ := fin_of x 64 h (by omega)
  have : ∀ y : Fin 64, Go.bits .and .u8 (y.val : Int) 3 = (y.val : Int) % 4 := by decide +kernel
  exact this y
theorem q_no {w : World} {b : Nat} {g : G} {c : Int} (hA : Hid (AtG w b g)) (h : takeG g c = (g, false)) : TakeQ w b g c (.returned (.bool false)) w := by
  unfold TakeQ
  rw [h]
  exact ⟨rfl, hA.out, grown_refl _ _⟩
theorem q_drew {w W : World} {b : Nat} {g : G} {c : Int} {e : Ending} (h : TakeQ w b g c e W) : TakeQ w b g c e W.drew := ⟨h.1, h.2.1, ⟨h.2.2.os, h.2.2.tape, h.2.2.output, h.2.2.size, h.2.2.block⟩⟩
theorem no61 {w : World} {b : Nat} {a w0 w1 w2 w3 p : Int} (hA : Hid (AtG w b ⟨a, w0, w1, w2, w3, p⟩)) (h : a < 2 ∨ ¬ (0 < p ∨ (a = 2 ∧ w1 % 16 = 0) ∨ (a = 3 ∧ w2 % 4 = 0))) : TakeQ w b ⟨a, w0, w1, w2, w3, p⟩ 61 (.returned (.bool false)) w := by
  refine q_no hA ?_
  unfold takeG
  rw [if_pos rfl]
  simp only
  split
  · rfl
  · rw [if_neg (by omega)]
theorem yes61 {w : World} {b : Nat} {a w0 w1 w2 w3 p a' p' : Int} (hA : Hid (AtG w b ⟨a, w0, w1, w2, w3, p⟩)) (h : 2 ≤ a ∧ (0 < p ∨ (a = 2 ∧ w1 % 16 = 0) ∨ (a = 3 ∧ w2 % 4 = 0))) :
    p' = p + 1 → a' = a + 1 → TakeQ w b ⟨a, w0, w1, w2, w3, p⟩ 61 (.returned (.bool true)) ((w.setCell ⟨b, 5, none⟩ (.int .i64 p')).setCell ⟨b, 0, none⟩ (.int .i64 a')) := by
  rintro rfl rfl
  have e : takeG ⟨a, w0, w1, w2, w3, p⟩ 61 = (padG ⟨a, w0, w1, w2, w3, p⟩, true) := by
    unfold takeG
    rw [if_pos rfl, if_neg (by simp only; omega), if_pos (by simp only; omega)]
  unfold TakeQ
  rw [e]
  exact ⟨rfl, (hA.out.set 5 _).set 0 _, grown_set (grown_set (grown_refl _ _) _ _) _ _⟩
theorem noW {w : World} {b : Nat} {a w0 w1 w2 w3 p c : Int} (hA : Hid (AtG w b ⟨a, w0, w1, w2, w3, p⟩)) (hc : c ≠ 61) (h : wb c = false ∨ 0 < p) : TakeQ w b ⟨a, w0, w1, w2, w3, p⟩ c (.returned (.bool false)) w := by
  refine q_no hA ?_
  unfold takeG
  rw [if_neg hc]
  unfold wb at h
  cases hw : w64 c with
  | none => rfl
  | some v =>
    rw [hw] at h
    simp only [Option.isSome_some, Bool.true_eq_false, false_or] at h
    simp [h]
theorem yesW {w : World} {b : Nat} {a w0 w1 w2 w3 p c : Int} (k : Nat) (a' : Int) (hk : (k : Int) = a) (hk4 : k < 4) (hA : Hid (AtG w b ⟨a, w0, w1, w2, w3, p⟩)) (hc : c ≠ 61) (h : wb c = true) (hp : p ≤ 0) :
    a' = a + 1 → TakeQ w b ⟨a, w0, w1, w2, w3, p⟩ c (.returned (.bool true)) ((w.setCell ⟨b, 1 + k, none⟩ (.int .u8 (wv c))).setCell ⟨b, 0, none⟩ (.int .i64 a')) := by
  rintro rfl
  have e : takeG ⟨a, w0, w1, w2, w3, p⟩ c = (setW ⟨a, w0, w1, w2, w3, p⟩ (wv c), true) := by
    unfold takeG
    rw [if_neg hc]
    unfold wb at h
    unfold wv
    cases hw : w64 c with
    | none => rw [hw] at h; cases h
    | some v => simp; omega
  unfold TakeQ
  rw [e]
  refine ⟨rfl, ?_, grown_set (grown_set (grown_refl _ _) _ _) _ _⟩
  have q := (hA.out.set (1 + k) (.int .u8 (wv c))).set 0 (.int .i64 (a + 1))
  subst hk
  rcases (show k = 0 ∨ k = 1 ∨ k = 2 ∨ k = 3 by omega) with rfl | rfl | rfl | rfl <;> exact q
set_option maxHeartbeats 1000000 in
theorem take (b : Nat) (g : G) (c : Int) (w : World) (hA : AtG w b g) (ok : OkG g) (h4 : g.at_ < 4) (h0 : 0 ≤ c) (h1 : c ≤ 255) : Calls Tryd.prog 16 #[.pointer (some ⟨b, 0, none⟩), .int .u8 c] w (TakeQ w b g c) := by
  obtain ⟨a, w0, w1, w2, w3, p⟩ := g
  obtain ⟨ha, hw0, hw1, hw2, hw3, hp⟩ := ok
  simp only at ha hw0 hw1 hw2 hw3 hp h4
  have c0 : w.cell? ⟨b, 0, none⟩ = some (.int .i64 a) := hA.get 0 _ rfl
  have c1 : w.cell? ⟨b, 1, none⟩ = some (.int .u8 w0) := hA.get 1 _ rfl
  have c2 : w.cell? ⟨b, 2, none⟩ = some (.int .u8 w1) := hA.get 2 _ rfl
  have c3 : w.cell? ⟨b, 3, none⟩ = some (.int .u8 w2) := hA.get 3 _ rfl
  have c4 : w.cell? ⟨b, 4, none⟩ = some (.int .u8 w3) := hA.get 4 _ rfl
  have c5 : w.cell? ⟨b, 5, none⟩ = some (.int .i64 p) := hA.get 5 _ rfl
  have f0 := hA.free 0
  have f1 := hA.free 1
  have f2 := hA.free 2
  have f3 := hA.free 3
  have f4 := hA.free 4
  have f5 := hA.free 5
  have HA : Hid (AtG w b ⟨a, w0, w1, w2, w3, p⟩) := hA
  clear hA
  by_cases hc : c = 61
  · subst hc
    have e1 := and15' w1 hw1.1 hw1.2
    have e2 := and3' w2 hw2.1 hw2.2
    go_enter Tryd.func16, Tryd.ntmps16
    go_wp2
    all_goals try simp only [Bool.or_eq_true, Bool.not_eq_true', Bool.not_eq_false', beq_iff_eq, decide_eq_true_eq, decide_eq_false_iff_not, beq_eq_false_iff_ne, ne_eq] at *
    all_goals go_ret
    all_goals first
      | exact no61 HA (by omega)
      | exact yes61 HA (by omega) (by omega) (by omega)
      | (exfalso; omega)
  · have hc' : (c == 61) = false := beq_eq_false_iff_ne.mpr hc
    have HC : Hid (c ≠ 61) := hc
    clear hc
    by_cases hb : wb c = true
    · obtain ⟨k, rfl⟩ := Int.eq_ofNat_of_zero_le ha.1
      go_enter Tryd.func16, Tryd.ntmps16
      by_cases hp1 : 0 < p
      · go_wp2_with (go_at_call 36; refine (worth64 c _ h0 h1).mono ?_; rintro e w' ⟨rfl, rfl⟩)
        go_ret
        exact noW HA HC.out (.inr hp1)
      · rcases (show k = 0 ∨ k = 1 ∨ k = 2 ∨ k = 3 by omega) with rfl | rfl | rfl | rfl
        all_goals go_wp2_with (go_at_call 36; refine (worth64 c _ h0 h1).mono ?_; rintro e w' ⟨rfl, rfl⟩)
        all_goals go_region
        all_goals go_wp2
        all_goals go_ret
        all_goals (first | apply q_drew | skip)
        case _ => exact yesW 0 _ rfl (by omega) HA HC.out hb (by omega) (by omega)
        case _ => exact yesW 1 _ rfl (by omega) HA HC.out hb (by omega) (by omega)
        case _ => exact yesW 2 _ rfl (by omega) HA HC.out hb (by omega) (by omega)
        case _ => exact yesW 3 _ rfl (by omega) HA HC.out hb (by omega) (by omega)
    · replace hb := Bool.eq_false_iff.mpr hb
      go_enter Tryd.func16, Tryd.ntmps16
      go_wp2_with (go_at_call 36; refine (worth64 c _ h0 h1).mono ?_; rintro e w' ⟨rfl, rfl⟩)
      go_ret
      exact noW HA HC.out (.inl hb)
end Go.Proofs.YtppnhlkfkedlmaaDoor.UnW

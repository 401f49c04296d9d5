/- By hand: url's letters, digits, quiet bytes, hex digits. For every byte and world. -/
import Derived.Test.YtjakabacdnfmnaaBld
import Derived.Test.YtjakabacdnfmnaaWWords
import Derived.Test.YtjakabacdnfmnaaWLast
import Derived.Test.YtjakabacdnfmnaaWMore
import Derived.Shelf.Small.Strs
import Derived.Lib.Hide
set_option linter.unusedVariables false
set_option linter.unusedSimpArgs false
namespace Go.Proofs.Ytjakabacdnfmnaa.UrlW
open Go.RowKit Go.Shelf Go.Proofs Go.Proofs.Ytjakabacdnfmnaa.Bld Go.Proofs.YtjakabacdnfmnaaW.PrintWords Go.Proofs.YtjakabacdnfmnaaW.PrintLast Go.Proofs.YtjakabacdnfmnaaW.PrintMore
def L137_ren : Go.Shelf.Ren := ⟨fun | 137 => 49 | 217 => 53 | 266 => 57 | n => n, fun | 9 => 9 | 5 => 5 | 3 => 3 | n => n, fun | n => n⟩
theorem L137 : Go.Proofs.Lays.n137 Try.prog L137_ren := {
  mixed := by kernel_rfl
  f137 := Try.func49.trans (congrArg some (by kernel_rfl))
  f217 := Try.func53.trans (congrArg some (by kernel_rfl))
  f266 := Try.func57.trans (congrArg some (by kernel_rfl))
  t3 := Try.underlying3
  a3 := Try.isAgg3
  z3 := Try.sizeOf3
  v3 := Try.zeroValue3
  t5 := Try.underlying5
  a5 := Try.isAgg5
  z5 := Try.sizeOf5
  v5 := Try.zeroValue5
  t9 := Try.underlying9
  a9 := Try.isAgg9
  z9 := Try.sizeOf9
  v9 := Try.zeroValue9 }
def letB (c : Int) : Bool := (decide (97 ≤ c) && decide (c ≤ 122)) || (decide (65 ≤ c) && decide (c ≤ 90))
def digB (c : Int) : Bool := decide (48 ≤ c) && decide (c ≤ 57)
def marksL : List UInt8 := [45, 46, 95, 126, 33, 36, 38, 39, 40, 41, 42, 43, 59, 61, 58, 64, 47]
def markB (c : Int) : Bool := decide (0 ≤ Lib.indexByte marksL c.toNat.toUInt8)
def qB (c : Int) : Bool := letB c || digB c || markB c
def up (d : Int) : Int := if d < 10 then 48 + d else 55 + d
def e1 (c : Int) : List Int := if qB c then [c] else [37, up (c / 16), up (c % 16)]
def escI (l : List Int) : List Int := (l.map e1).flatten
def nib (c : Int) : Int := if digB c then c - 48 else if 97 ≤ c ∧ c ≤ 102 then c - 87 else if 65 ≤ c ∧ c ≤ 70 then c - 55 else -1
theorem ret_int {k : IntKind} {a b : Int} (h : a = b) : Ending.returned (.int k a) = .returned (.int k b) := by rw [h]
theorem letter_as (c : Int) (b : Bool) (w : World) (hb : letB c = b) : Calls Try.prog 48 #[.int .u8 c] w fun e w' => e = .returned (.bool b) ∧ w = w' := by
  subst hb
  by_cases h1 : 97 ≤ c <;> by_cases h2 : c ≤ 122 <;> by_cases h3 : 65 ≤ c <;> by_cases h4 : c ≤ 90 <;> first
    | (exfalso; omega)
    | (have e : letB c = true := (by simp [letB, h1, h2, h3, h4]); rw [e]; clear e; go_enter Try.func48, Try.ntmps48; go_wp2; go_ret; exact ⟨rfl, rfl⟩)
    | (have e : letB c = false := (by simp [letB, h1, h2, h3, h4]); rw [e]; clear e; go_enter Try.func48, Try.ntmps48; go_wp2; go_ret; exact ⟨rfl, rfl⟩)
theorem digit_as (c : Int) (b : Bool) (w : World) (hb : digB c = b) : Calls Try.prog 42 #[.int .u8 c] w fun e w' => e = .returned (.bool b) ∧ w = w' := by
  subst hb
  by_cases h1 : 48 ≤ c <;> by_cases h2 : c ≤ 57 <;> first
    | (exfalso; omega)
    | (have e : digB c = true := (by simp [digB, h1, h2]); rw [e]; clear e; go_enter Try.func42, Try.ntmps42; go_wp2; go_ret; exact ⟨rfl, rfl⟩)
    | (have e : digB c = false := (by simp [digB, h1, h2]); rw [e]; clear e; go_enter Try.func42, Try.ntmps42; go_wp2; go_ret; exact ⟨rfl, rfl⟩)
theorem mark_as (c : Int) (w : World) : Calls Try.prog 49 #[.string ⟨#[45, 46, 95, 126, 33, 36, 38, 39, 40, 41, 42, 43, 59, 61, 58, 64, 47]⟩, .int .u8 c] w fun e w' => e = .returned (.int .i64 (Lib.indexByte marksL c.toNat.toUInt8)) ∧ w = w' :=
  (Any.strings_IndexByte L137 ⟨#[45, 46, 95, 126, 33, 36, 38, 39, 40, 41, 42, 43, 59, 61, 58, 64, 47]⟩ c w).mono fun _ _ ⟨h1, h2⟩ => ⟨h1, h2.symm⟩
theorem quiet_as (c : Int) (b : Bool) (w : World) (hb : qB c = b) : Calls Try.prog 40 #[.int .u8 c] w fun e w' => e = .returned (.bool b) ∧ w = w' := by
  subst hb
  unfold qB
  cases h1 : letB c with
  | true =>
    have H1 := Lib.hid h1
    clear h1
    simp only [Bool.true_or]
    go_enter Try.func40, Try.ntmps40
    go_wp2_with (first | (go_at_call 48; ((with_reducible refine (letter_as c true _ H1.out).mono ?_); rintro e _ ⟨rfl, rfl⟩)) | go_in)
    go_ret
    exact ⟨rfl, rfl⟩
  | false =>
    have H1 := Lib.hid h1
    clear h1
    cases h2 : digB c with
    | true =>
      have H2 := Lib.hid h2
      clear h2
      simp only [Bool.false_or, Bool.true_or]
      go_enter Try.func40, Try.ntmps40
      go_wp2_with (first | (go_at_call 48; ((with_reducible refine (letter_as c false _ H1.out).mono ?_); rintro e _ ⟨rfl, rfl⟩)) | (go_at_call 42; ((with_reducible refine (digit_as c true _ H2.out).mono ?_); rintro e _ ⟨rfl, rfl⟩)) | go_in)
      go_ret
      exact ⟨rfl, rfl⟩
    | false =>
      have H2 := Lib.hid h2
      clear h2
      simp only [Bool.false_or]
      unfold markB
      obtain ⟨n, hn⟩ : ∃ n, n = Lib.indexByte marksL c.toNat.toUInt8 := ⟨_, rfl⟩
      have K := Lib.hid (mark_as c)
      rw [← hn] at K ⊢
      clear hn
      go_enter Try.func40, Try.ntmps40
      go_wp2_with (first | (go_at_call 48; ((with_reducible refine (letter_as c false _ H1.out).mono ?_); rintro e _ ⟨rfl, rfl⟩)) | (go_at_call 42; ((with_reducible refine (digit_as c false _ H2.out).mono ?_); rintro e _ ⟨rfl, rfl⟩)) | (go_at_call 49; ((with_reducible refine (K.out _).mono ?_); rintro e _ ⟨rfl, rfl⟩)) | go_in)
      go_ret
      exact ⟨rfl, rfl⟩
theorem nib_as (c : Int) (w : World) : Calls Try.prog 32 #[.int .u8 c] w fun e w' => e = .returned (.int .i64 (nib c)) ∧ w = w' := by
  cases h2 : digB c with
  | true =>
    have H2 := Lib.hid h2
    have h3 : 48 ≤ c ∧ c ≤ 57 := by simpa [digB] using h2
    have e : nib c = c - 48 := by unfold nib; rw [if_pos h2]
    have hw : IntKind.u8.wrap (c - 48) = c - 48 := by show (c - 48) % 256 = _; omega
    rw [e]
    obtain ⟨h3, h4⟩ := h3
    clear h2 e
    go_enter Try.func32, Try.ntmps32
    go_wp2_with (first | (go_at_call 42; ((with_reducible refine (digit_as c true _ H2.out).mono ?_); rintro e _ ⟨rfl, rfl⟩)) | go_in)
    go_ret
    exact ⟨rfl, rfl⟩
  | false =>
    have H2 := Lib.hid h2
    have e0 : nib c = if 97 ≤ c ∧ c ≤ 102 then c - 87 else if 65 ≤ c ∧ c ≤ 70 then c - 55 else -1 := by unfold nib; rw [h2]; rfl
    rw [e0]
    clear h2 e0
    by_cases h3 : 97 ≤ c ∧ c ≤ 102
    · rw [if_pos h3]
      obtain ⟨h3, h4⟩ := h3
      have hw : IntKind.u8.wrap (c - 97) = c - 97 := by show (c - 97) % 256 = _; omega
      go_enter Try.func32, Try.ntmps32
      go_wp2_with (first | (go_at_call 42; ((with_reducible refine (digit_as c false _ H2.out).mono ?_); rintro e _ ⟨rfl, rfl⟩)) | go_in)
      go_ret
      exact ⟨ret_int (by omega), rfl⟩
    · rw [if_neg h3]
      by_cases h4 : 65 ≤ c ∧ c ≤ 70
      · rw [if_pos h4]
        obtain ⟨h4, h5⟩ := h4
        have h6 : ¬ (97 ≤ c) := by omega
        have hw : IntKind.u8.wrap (c - 65) = c - 65 := by show (c - 65) % 256 = _; omega
        clear h3
        go_enter Try.func32, Try.ntmps32
        go_wp2_with (first | (go_at_call 42; ((with_reducible refine (digit_as c false _ H2.out).mono ?_); rintro e _ ⟨rfl, rfl⟩)) | go_in)
        go_ret
        exact ⟨ret_int (by omega), rfl⟩
      · rw [if_neg h4]
        by_cases h5 : 97 ≤ c <;> by_cases h6 : c ≤ 102 <;> by_cases h7 : 65 ≤ c <;> by_cases h8 : c ≤ 70 <;> first
          | (exfalso; omega)
          | (clear h3 h4; go_enter Try.func32, Try.ntmps32; go_wp2_with (first | (go_at_call 42; ((with_reducible refine (digit_as c false _ H2.out).mono ?_); rintro e _ ⟨rfl, rfl⟩)) | go_in); go_ret; exact ⟨rfl, rfl⟩)
end Go.Proofs.Ytjakabacdnfmnaa.UrlW

/- The texts, as printed, on lists of byte numbers. For every text of at most 34359738368 bytes. -/
import Derived.WalkKit
import Derived.Test.YtppnhlkfkedlmaaDoorXA4
import Derived.Test.YtppnhlkfkedlmaaDoorXA5
import Derived.Test.YtppnhlkfkedlmaaDoorFront
import Derived.Test.YtppnhlkfkedlmaaDoorXA7
import Derived.Test.YtppnhlkfkedlmaaDoorXA8
import Derived.Test.YtppnhlkfkedlmaaDoorXA1
import Derived.Test.YtppnhlkfkedlmaaDoorHand
import Derived.Test.YtppnhlkfkedlmaaDoorXA2
import Derived.Test.YtppnhlkfkedlmaaDoorXA9
set_option linter.unusedVariables false
set_option linter.unusedSimpArgs false
namespace Go.Proofs.YtppnhlkfkedlmaaDoor.Utf
def lo1 (b0 : Int) : Int := if b0 = 224 then 160 else if b0 = 240 then 144 else 128
def hi1 (b0 : Int) : Int := if b0 = 237 then 159 else if b0 = 244 then 143 else 191
/-- The length of the sequence with which the bytes begin; 0: they begin with none. -/
def sq : List Int → Nat
  | [] => 0
  | b0 :: r =>
    if b0 < 128 then 1
    else if b0 < 194 then 0
    else if b0 ≤ 223 then
      match r with
      | b1 :: _ => if 128 ≤ b1 ∧ b1 ≤ 191 then 2 else 0
      | _ => 0
    else if b0 ≤ 239 then
      match r with
      | b1 :: b2 :: _ => if lo1 b0 ≤ b1 ∧ b1 ≤ hi1 b0 ∧ 128 ≤ b2 ∧ b2 ≤ 191 then 3 else 0
      | _ => 0
    else if b0 ≤ 244 then
      match r with
      | b1 :: b2 :: b3 :: _ => if lo1 b0 ≤ b1 ∧ b1 ≤ hi1 b0 ∧ 128 ≤ b2 ∧ b2 ≤ 191 ∧ 128 ≤ b3 ∧ b3 ≤ 191 then 4 else 0
      | _ => 0
    else 0
theorem sq_le (l : List Int) : sq l ≤ l.length := by
  match l with
  | [] => simp [sq]
  | [b0] => simp only [sq, List.length_cons, List.length_nil]; (repeat' split) <;> omega
  | [b0, b1] => simp only [sq, List.length_cons, List.length_nil]; (repeat' split) <;> omega
  | [b0, b1, b2] => simp only [sq, List.length_cons, List.length_nil]; (repeat' split) <;> omega
  | b0 :: b1 :: b2 :: b3 :: r => simp only [sq, List.length_cons]; (repeat' split) <;> omega
theorem sq_le4 (l : List Int) : sq l ≤ 4 := by
  match l with
  | [] => simp [sq]
  | [b0] => simp only [sq]; (repeat' split) <;> omega
  | [b0, b1] => simp only [sq]; (repeat' split) <;> omega
  | [b0, b1, b2] => simp only [sq]; (repeat' split) <;> omega
  | b0 :: b1 :: b2 :: b3 :: r => simp only [sq]; (repeat' split) <;> omega
/-- A sequence that stands stays, whatever follows. -/
theorem sq_append (l m : List Int) (h : sq l ≠ 0) : sq (l ++ m) = sq l := by
  match l with
  | [] => simp [sq] at h
  | [b0] =>
    simp only [sq] at h ⊢
    simp only [List.cons_append, List.nil_append, sq]
    (repeat' split at h) <;> simp_all
  | [b0, b1] =>
    simp only [sq] at h ⊢
    simp only [List.cons_append, List.nil_append, sq]
    (repeat' split at h) <;> simp_all
  | [b0, b1, b2] =>
    simp only [sq] at h ⊢
    simp only [List.cons_append, List.nil_append, sq]
    (repeat' split at h) <;> simp_all
  | b0 :: b1 :: b2 :: b3 :: r => simp only [List.cons_append, sq]
/-- Four bytes decide. -/
theorem sq_append4 (l m : List Int) (h : 4 ≤ l.length) : sq (l ++ m) = sq l := by
  match l with
  | [] => simp at h
  | [b0] => simp at h
  | [b0, b1] => simp at h
  | [b0, b1, b2] => simp at h
  | b0 :: b1 :: b2 :: b3 :: r => simp only [List.cons_append, sq]
/-- A front that holds the sequence begins with it. -/
theorem sq_take (l : List Int) (k : Nat) (h : sq l ≤ k) : sq (l.take k) = sq l := by
  by_cases h0 : sq l = 0
  · rw [h0]
    by_cases ht : sq (l.take k) = 0
    · exact ht
    · have := sq_append (l.take k) (l.drop k) ht
      rw [List.take_append_drop] at this
      omega
  · match l with
    | [] => simp
    | [b0] => match k with
      | 0 => omega
      | k + 1 => simp
    | [b0, b1] => match k with
      | 0 => omega
      | 1 =>
        simp only [sq] at h h0 ⊢
        simp only [List.take_succ_cons, List.take_zero, sq]
        (repeat' split at h) <;> simp_all
      | k + 2 => simp
    | [b0, b1, b2] => match k with
      | 0 => omega
      | 1 =>
        simp only [sq] at h h0 ⊢
        simp only [List.take_succ_cons, List.take_zero, sq]
        (repeat' split at h) <;> simp_all
      | 2 =>
        simp only [sq] at h h0 ⊢
        simp only [List.take_succ_cons, List.take_zero, sq]
        (repeat' split at h) <;> simp_all
      | k + 3 => simp
    | b0 :: b1 :: b2 :: b3 :: r => match k with
      | 0 => omega
      | 1 =>
        simp only [sq] at h h0 ⊢
        simp only [List.take_succ_cons, List.take_zero, sq]
        (repeat' split at h) <;> simp_all
      | 2 =>
        simp only [sq] at h h0 ⊢
        simp only [List.take_succ_cons, List.take_zero, sq]
        (repeat' split at h) <;> simp_all
      | 3 =>
        simp only [sq] at h h0 ⊢
        simp only [List.take_succ_cons, List.take_zero, sq]
        (repeat' split at h) <;> simp_all
      | k + 4 => simp only [List.take_succ_cons, sq]
theorem ite_both {α : Type} (p q : Prop) [Decidable p] [Decidable q] (a b : α) : (if p ∧ q then a else b) = if p then (if q then a else b) else b := by
  by_cases hp : p
  · by_cases hq : q
    · rw [if_pos ⟨hp, hq⟩, if_pos hp, if_pos hq]
    · rw [if_neg (fun h => hq h.2), if_pos hp, if_neg hq]
  · rw [if_neg (fun h => hp h.1), if_neg hp]
/-- The same, by the bytes' places. -/
theorem sq_form (l : List Int) (h : 0 < l.length) : sq l =
    if l.getD 0 0 < 128 then 1 else if l.getD 0 0 < 194 then 0
    else if l.getD 0 0 ≤ 223 then (if 2 ≤ l.length then if 128 ≤ l.getD 1 0 then if l.getD 1 0 ≤ 191 then 2 else 0 else 0 else 0)
    else if l.getD 0 0 ≤ 239 then (if 3 ≤ l.length then if lo1 (l.getD 0 0) ≤ l.getD 1 0 then if l.getD 1 0 ≤ hi1 (l.getD 0 0) then if 128 ≤ l.getD 2 0 then if l.getD 2 0 ≤ 191 then 3 else 0 else 0 else 0 else 0 else 0)
    else if l.getD 0 0 ≤ 244 then (if 4 ≤ l.length then if lo1 (l.getD 0 0) ≤ l.getD 1 0 then if l.getD 1 0 ≤ hi1 (l.getD 0 0) then if 128 ≤ l.getD 2 0 then if l.getD 2 0 ≤ 191 then if 128 ≤ l.getD 3 0 then if l.getD 3 0 ≤ 191 then 4 else 0 else 0 else 0 else 0 else 0 else 0 else 0)
    else 0 := by
  match l with
  | [] => simp at h
  | [b0] => simp [sq]
  | [b0, b1] => simp [sq, ite_both]
  | [b0, b1, b2] => simp [sq, ite_both]
  | b0 :: b1 :: b2 :: b3 :: r => simp [sq, ite_both]
/-- How far whole sequences go. -/
def vp (l : List Int) : Nat := if h : sq l = 0 then 0 else sq l + vp (l.drop (sq l))
termination_by l.length
decreasing_by
  have := sq_le l
  rw [List.length_drop]
  omega
theorem vp_zero {l : List Int} (h : sq l = 0) : vp l = 0 := by rw [vp, dif_pos h]
theorem vp_step {l : List Int} (h : sq l ≠ 0) : vp l = sq l + vp (l.drop (sq l)) := by rw [vp, dif_neg h]
theorem vp_nil : vp [] = 0 := vp_zero rfl
theorem vp_le (l : List Int) : vp l ≤ l.length := by
  by_cases h : sq l = 0
  · rw [vp_zero h]; omega
  · rw [vp_step h]
    have h1 := sq_le l
    have h2 := vp_le (l.drop (sq l))
    rw [List.length_drop] at h2
    omega
termination_by l.length
decreasing_by
  have := sq_le l
  rw [List.length_drop]
  omega
theorem vp_append (a b : List Int) (h : vp a = a.length) : vp (a ++ b) = a.length + vp b := by
  by_cases h0 : sq a = 0
  · rw [vp_zero h0] at h
    obtain rfl : a = [] := List.eq_nil_of_length_eq_zero h.symm
    simp
  · have h1 := sq_le a
    rw [vp_step h0] at h
    have hs := sq_append a b h0
    rw [vp_step (by rw [hs]; exact h0), hs, List.drop_append_of_le_length h1]
    have ih := vp_append (a.drop (sq a)) b (by rw [List.length_drop]; omega)
    rw [ih, List.length_drop]
    omega
termination_by a.length
decreasing_by
  have := sq_le a
  rw [List.length_drop]
  omega
theorem vp_take (a : List Int) : vp (a.take (vp a)) = vp a := by
  by_cases h0 : sq a = 0
  · rw [vp_zero h0]; simp [vp_nil]
  · have h1 := sq_le a
    have hv := vp_step h0
    have hs := sq_take a (vp a) (by omega)
    have hd : (a.take (vp a)).drop (sq a) = (a.drop (sq a)).take (vp (a.drop (sq a))) := by
      rw [List.drop_take, hv]
      congr 1
      omega
    have ih := vp_take (a.drop (sq a))
    rw [vp_step (l := a.take (vp a)) (by rw [hs]; exact h0), hs, hd, ih]
    exact hv.symm
termination_by a.length
decreasing_by
  have := sq_le a
  rw [List.length_drop]
  omega
theorem vp_fault (a b : List Int) (h : vp a + 4 ≤ a.length) : vp (a ++ b) = vp a := by
  by_cases h0 : sq a = 0
  · rw [vp_zero h0] at h ⊢
    have hs := sq_append4 a b (by omega)
    exact vp_zero (by rw [hs]; exact h0)
  · have h1 := sq_le a
    have hs := sq_append a b h0
    rw [vp_step h0] at h ⊢
    rw [vp_step (by rw [hs]; exact h0), hs, List.drop_append_of_le_length h1, vp_fault (a.drop (sq a)) b (by rw [List.length_drop]; omega)]
termination_by a.length
decreasing_by
  have := sq_le a
  rw [List.length_drop]
  omega
/-- Where a step of the walk leads. -/
theorem vp_drop {l : List Int} {i : Nat} (h : sq (l.drop i) ≠ 0) : i + vp (l.drop i) = (i + sq (l.drop i)) + vp (l.drop (i + sq (l.drop i))) := by
  rw [vp_step h, List.drop_drop]
  omega
end Go.Proofs.YtppnhlkfkedlmaaDoor.Utf
namespace Go.Proofs.YtppnhlkfkedlmaaDoor.Norm
def lowN (c : Int) : Int := if 65 ≤ c ∧ c ≤ 90 then c + 32 else c
def foldN (l : List Int) : List Int := l.map lowN
def blankI (c : Int) : Bool := decide (c = 32) || (decide (9 ≤ c) && decide (c ≤ 13))
/-- Every run of blanks one space; p: was the byte ahead one? -/
def colL : Bool → List Int → List Int
  | _, [] => []
  | p, c :: r => if blankI c = true then (if p = true then colL true r else 32 :: colL true r) else c :: colL false r
/-- Without a space at the end. -/
def stripT : List Int → List Int
  | [] => []
  | [x] => if x = 32 then [] else [x]
  | x :: y :: r => x :: stripT (y :: r)
/-- What is written behind a word; p: with blanks between. -/
def em : Bool → List Int → List Int
  | _, [] => []
  | p, c :: r => if blankI c = true then em true r else (if p = true then 32 :: c :: em false r else c :: em false r)
/-- Squeezed. -/
def nm : List Int → List Int
  | [] => []
  | c :: r => if blankI c = true then nm r else c :: em false r
theorem blank32 : blankI 32 = true := by decide
theorem blank_ne {c : Int} (h : blankI c = false) : c ≠ 32 := by rintro rfl; rw [blank32] at h; cases h
theorem low_low (c : Int) : lowN (lowN c) = lowN c := by unfold lowN; (repeat' split) <;> omega
theorem fold_fold (l : List Int) : foldN (foldN l) = foldN l := by
  induction l with
  | nil => rfl
  | cons c l ih => simp only [foldN, List.map_cons, low_low] at ih ⊢; rw [ih]
theorem blank_low (c : Int) : blankI (lowN c) = blankI c := by
  unfold lowN
  split
  · unfold blankI
    have h1 : decide (c + 32 = 32) = false := decide_eq_false (by omega)
    have h2 : decide (c = 32) = false := decide_eq_false (by omega)
    have h3 : decide (c + 32 ≤ 13) = false := decide_eq_false (by omega)
    have h4 : decide (c ≤ 13) = false := decide_eq_false (by omega)
    rw [h1, h2, h3, h4]
    simp
  · rfl
theorem low32 : lowN 32 = 32 := by decide
theorem strip_cons {c : Int} (hc : c ≠ 32) (l : List Int) : stripT (c :: l) = c :: stripT l := by
  cases l with
  | nil => simp [stripT, hc]
  | cons d l => rfl
theorem strip_col : ∀ r, stripT (colL false r) = em false r ∧ stripT (32 :: colL true r) = em true r
  | [] => by simp [colL, em, stripT]
  | c :: r => by
    obtain ⟨h1, h2⟩ := strip_col r
    cases hb : blankI c with
    | true => simp only [colL, em, hb, if_true]; exact ⟨h2, h2⟩
    | false =>
      have hc := blank_ne hb
      simp only [colL, em, hb, if_true, Bool.false_eq_true, if_false]
      refine ⟨by rw [strip_cons hc, h1], ?_⟩
      show 32 :: stripT (c :: colL false r) = _
      rw [strip_cons hc, h1]
theorem strip_nm : ∀ l, stripT (colL true l) = nm l
  | [] => rfl
  | c :: r => by
    cases hb : blankI c with
    | true => simp only [colL, nm, hb, if_true]; exact strip_nm r
    | false =>
      simp only [colL, nm, hb, Bool.false_eq_true, if_false]
      rw [strip_cons (blank_ne hb), (strip_col r).1]
/-- Without the space at the front. -/
theorem col_front : ∀ l, colL true l = match colL false l with | x :: r => if x = 32 then r else x :: r | [] => []
  | [] => rfl
  | c :: r => by
    cases hb : blankI c with
    | true => simp [colL, hb]
    | false => simp [colL, hb, blank_ne hb]
theorem strip_last (l : List Int) (h : l ≠ []) : stripT l = if l.getLast h = 32 then l.dropLast else l := by
  match l with
  | [x] => simp [stripT]
  | x :: y :: r =>
    have ih := strip_last (y :: r) (by simp)
    have e : (x :: y :: r).getLast h = (y :: r).getLast (by simp) := List.getLast_cons (by simp)
    simp only [stripT]
    rw [ih, e]
    by_cases hc : (y :: r).getLast (by simp) = 32
    · rw [if_pos hc, if_pos hc]; rfl
    · rw [if_neg hc, if_neg hc]
theorem fold_em : ∀ p l, foldN (em p l) = em p (foldN l)
  | _, [] => rfl
  | p, c :: r => by
    simp only [foldN, List.map_cons, em, blank_low]
    cases hb : blankI c with
    | true => simp only [if_true]; exact fold_em true r
    | false =>
      cases p with
      | true => simp only [Bool.false_eq_true, if_false, if_true, List.map_cons, low32]; congr 2; exact fold_em false r
      | false => simp only [Bool.false_eq_true, if_false, List.map_cons]; congr 1; exact fold_em false r
theorem fold_nm : ∀ l, foldN (nm l) = nm (foldN l)
  | [] => rfl
  | c :: r => by
    simp only [foldN, List.map_cons, nm, blank_low]
    cases hb : blankI c with
    | true => simp only [if_true]; exact fold_nm r
    | false => simp only [Bool.false_eq_true, if_false, List.map_cons]; congr 1; exact fold_em false r
theorem fold_col : ∀ p l, foldN (colL p l) = colL p (foldN l)
  | _, [] => rfl
  | p, c :: r => by
    simp only [foldN, List.map_cons, colL, blank_low]
    cases hb : blankI c with
    | true =>
      cases p with
      | true => simp only [if_true]; exact fold_col true r
      | false => simp only [if_true, Bool.false_eq_true, if_false, List.map_cons, low32]; congr 1; exact fold_col true r
    | false => simp only [Bool.false_eq_true, if_false, List.map_cons]; congr 1; exact fold_col false r
theorem col_em : ∀ p l, colL false (em p l) = em p l
  | _, [] => rfl
  | p, c :: r => by
    simp only [em]
    cases hb : blankI c with
    | true => simp only [if_true]; exact col_em true r
    | false =>
      cases p with
      | true => simp only [Bool.false_eq_true, if_false, if_true, colL, hb, blank32]; rw [col_em false r]
      | false => simp only [Bool.false_eq_true, if_false, colL, hb]; rw [col_em false r]
theorem col_nm : ∀ l, colL false (nm l) = nm l
  | [] => rfl
  | c :: r => by
    simp only [nm]
    cases hb : blankI c with
    | true => simp only [if_true]; exact col_nm r
    | false => simp only [Bool.false_eq_true, if_false, colL, hb]; rw [col_em false r]
theorem em_em : ∀ p l, em false (em p l) = em p l
  | _, [] => rfl
  | p, c :: r => by
    simp only [em]
    cases hb : blankI c with
    | true => simp only [if_true]; exact em_em true r
    | false =>
      cases p with
      | true => simp only [Bool.false_eq_true, if_false, if_true, em, hb, blank32]; rw [em_em false r]
      | false => simp only [Bool.false_eq_true, if_false, em, hb]; rw [em_em false r]
theorem nm_nm : ∀ l, nm (nm l) = nm l
  | [] => rfl
  | c :: r => by
    simp only [nm]
    cases hb : blankI c with
    | true => simp only [if_true]; exact nm_nm r
    | false => simp only [Bool.false_eq_true, if_false, nm, hb]; rw [em_em false r]
theorem em_col : ∀ l, em false (colL false l) = em false l ∧ em true (colL true l) = em true l
  | [] => ⟨rfl, rfl⟩
  | c :: r => by
    obtain ⟨h1, h2⟩ := em_col r
    cases hb : blankI c with
    | true => simp only [colL, hb, if_true, Bool.false_eq_true, if_false, em, blank32]; exact ⟨h2, h2⟩
    | false => simp only [colL, hb, if_true, Bool.false_eq_true, if_false, em]; rw [h1]; exact ⟨rfl, rfl⟩
theorem nm_col : ∀ p l, nm (colL p l) = nm l
  | _, [] => rfl
  | p, c :: r => by
    cases hb : blankI c with
    | true =>
      cases p with
      | true => simp only [colL, hb, if_true, nm]; exact nm_col true r
      | false => simp only [colL, hb, if_true, Bool.false_eq_true, if_false, nm, blank32]; exact nm_col true r
    | false => simp only [colL, hb, Bool.false_eq_true, if_false, nm]; rw [(em_col r).1]
theorem em_true : ∀ l, em true l = if nm l = [] then [] else 32 :: nm l
  | [] => rfl
  | c :: r => by
    cases hb : blankI c with
    | true => simp only [em, nm, hb, if_true]; exact em_true r
    | false => simp [em, nm, hb]
theorem em_between : ∀ p x b y, blankI b = true → em p (x ++ b :: y) = em p x ++ em true y
  | p, [], b, y, hb => by simp [em, hb]
  | p, c :: x, b, y, hb => by
    cases hc : blankI c with
    | true => simp only [List.cons_append, em, hc, if_true]; exact em_between true x b y hb
    | false =>
      cases p with
      | true => simp only [List.cons_append, em, hc, if_true, Bool.false_eq_true, if_false]; rw [em_between false x b y hb]
      | false => simp only [List.cons_append, em, hc, Bool.false_eq_true, if_false]; rw [em_between false x b y hb]
theorem nm_between : ∀ x b y, blankI b = true → nm (x ++ b :: y) = if nm x = [] then nm y else nm x ++ em true y
  | [], b, y, hb => by simp [nm, hb]
  | c :: x, b, y, hb => by
    cases hc : blankI c with
    | true => simp only [List.cons_append, nm, hc, if_true]; exact nm_between x b y hb
    | false => simp [nm, hc, em_between false x b y hb]
theorem nm_blank {b : Int} (hb : blankI b = true) (y : List Int) : nm (b :: y) = nm y := by simp [nm, hb]
theorem em_blank {b : Int} (hb : blankI b = true) (p : Bool) (y : List Int) : em p (b :: y) = em true y := by simp [em, hb]
/-- A blank between two texts puts a space between their normal forms. -/
theorem nm_two (x b y) (hb : blankI b = true) : nm (x ++ b :: y) = if nm x = [] ∨ nm y = [] then nm x ++ nm y else nm x ++ 32 :: nm y := by
  rw [nm_between x b y hb]
  by_cases h1 : nm x = []
  · simp [h1]
  · rw [if_neg h1, em_true]
    by_cases h2 : nm y = []
    · simp [h2]
    · simp [h1, h2]
end Go.Proofs.YtppnhlkfkedlmaaDoor.Norm
namespace Go.Proofs.YtppnhlkfkedlmaaDoor.UtfEvA
open Go.RowKit Go.Proofs.YtppnhlkfkedlmaaDoor.XA Go.Proofs.YtppnhlkfkedlmaaDoorW.PrintWords Go.Proofs.YtppnhlkfkedlmaaDoorW.PrintLast Go.Proofs.YtppnhlkfkedlmaaDoor.Utf
theorem ev_pos {α : Type} {c : Prop} [Decidable c] {f g : Nat → Option α} {r : α} (hc : c) (h : Ev f r) : Ev (fun k => if c then f k else g k) r := Ev.congr (fun k => if_pos hc) h
theorem ev_neg {α : Type} {c : Prop} [Decidable c] {f g : Nat → Option α} {r : α} (hc : ¬ c) (h : Ev g r) : Ev (fun k => if c then f k else g k) r := Ev.congr (fun k => if_neg hc) h
theorem ev_round {α : Type} {g : Nat → Option α} {r : α} (h : Ev (fun k => g (k + 1)) r) : Ev g r := Ev.step (fun _ => rfl) h
theorem bt_byte (s : ByteArray) (i : Int) : bt s i = (bytesOf s).getD i.toNat 0 := by rw [← rd_bytesOf]; rfl
theorem bytes_lo (s : ByteArray) (i : Int) : 0 ≤ bt s i ∧ bt s i ≤ 255 := bt_range s i
theorem bytesOf_append (a b : ByteArray) : bytesOf (a ++ b) = bytesOf a ++ bytesOf b := by
  unfold bytesOf
  rw [← List.map_append]
  congr 1
theorem bytesOf_extract (s : ByteArray) (i j : Nat) : bytesOf (s.extract i j) = ((bytesOf s).take j).drop i := by
  unfold bytesOf
  rw [← List.map_take, ← List.map_drop]
  congr 1
  simp [List.drop_take]
theorem missing_at (b : Int) (h0 : 0 ≤ b) (m : Nat) : text_missing.f (m + 4) b =
    some (if b < 128 then (0, 128, 191, true) else if b < 194 then (0, 128, 191, false) else if b ≤ 223 then (1, 128, 191, true)
     else if b ≤ 239 then (2, lo1 b, hi1 b, true) else if b ≤ 244 then (3, lo1 b, hi1 b, true) else (0, 128, 191, false)) := by
  simp only [text_missing.f, text_missing.j0, text_missing.j1, text_missing.j2, lo1, hi1, decide_eq_true_eq]
  have hc : b < 128 ∨ (128 ≤ b ∧ b < 194) ∨ (194 ≤ b ∧ b ≤ 223) ∨ b = 224 ∨ (225 ≤ b ∧ b ≤ 236) ∨ b = 237 ∨ (238 ≤ b ∧ b ≤ 239) ∨ b = 240 ∨ (241 ≤ b ∧ b ≤ 243) ∨ b = 244 ∨ 245 ≤ b := by omega
  rcases hc with h | h | h | h | h | h | h | h | h | h | h
  all_goals repeat (first | rw [if_pos (by omega)] | rw [if_neg (by omega)] | (rw [if_neg (by decide)]))
theorem goesOn_at (b : Int) : text_goesOn.f b = some (if 128 ≤ b then decide (b ≤ 191) else false) := by
  unfold text_goesOn.f
  split <;> rfl
theorem wrp_id (n : Int) (h0 : -9223372036854775808 ≤ n) (h : n ≤ 9223372036854775807) : wrap64 n = n := by unfold wrap64; omega
theorem seq_at (s : ByteArray) (hs : 0 < s.size) (m : Nat) : text_sequence.f (m + 6) s = some (sq (bytesOf s) : Int) := by
  have hl : (bytesOf s).length = s.size := bytesOf_length s
  rw [sq_form _ (by omega)]
  have e0 : bt s 0 = (bytesOf s).getD 0 0 := bt_byte s 0
  have e1 : bt s 1 = (bytesOf s).getD 1 0 := bt_byte s 1
  have e2 : bt s 2 = (bytesOf s).getD 2 0 := bt_byte s 2
  have e3 : bt s 3 = (bytesOf s).getD 3 0 := bt_byte s 3
  have r0 := bt_range s 0
  rw [← e0, ← e1, ← e2, ← e3, hl]
  clear e0 e1 e2 e3
  simp only [text_sequence.f]
  rw [if_pos (by omega), show m + 6 = (m + 2) + 4 from rfl, missing_at _ r0.1]
  have hc : (bt s 0) < 128 ∨ (128 ≤ (bt s 0) ∧ (bt s 0) < 194) ∨ (194 ≤ (bt s 0) ∧ (bt s 0) ≤ 223) ∨ (224 ≤ (bt s 0) ∧ (bt s 0) ≤ 239) ∨ (240 ≤ (bt s 0) ∧ (bt s 0) ≤ 244) ∨ 245 ≤ (bt s 0) := by omega
  have w1 : wrap64 (0 + 1) = 1 := by rw [wrp_id] <;> decide
  have w2 : wrap64 (1 + 1) = 2 := by rw [wrp_id] <;> decide
  have w3 : wrap64 (2 + 1) = 3 := by rw [wrp_id] <;> decide
  have w4 : wrap64 (3 + 1) = 4 := by rw [wrp_id] <;> decide
  rcases hc with h | h | h | h | h | h
  · rw [if_pos h, if_pos h]
    simp only [Option.bind_some, text_sequence.j0, w1, if_true, decide_eq_true_eq]
    repeat (first | rw [if_pos (by omega)] | rw [if_neg (by omega)])
    rfl
  · rw [if_neg (by omega), if_pos h.2, if_neg (by omega), if_pos h.2]
    simp only [Option.bind_some, text_sequence.j0, if_true, decide_eq_true_eq]
    rfl
  · rw [if_neg (by omega), if_neg (by omega), if_pos h.2, if_neg (by omega), if_neg (by omega), if_pos h.2]
    simp only [Option.bind_some, text_sequence.j0, w2, if_true, decide_eq_true_eq]
    by_cases h2 : 2 ≤ s.size
    · by_cases h3 : 128 ≤ (bt s 1)
      · by_cases h4 : (bt s 1) ≤ 191
        · repeat (first | rw [if_pos (by omega)] | rw [if_neg (by omega)])
          rfl
        · repeat (first | rw [if_pos (by omega)] | rw [if_neg (by omega)])
          rfl
      · repeat (first | rw [if_pos (by omega)] | rw [if_neg (by omega)])
        rfl
    · repeat (first | rw [if_pos (by omega)] | rw [if_neg (by omega)])
      rfl
  · rw [if_neg (by omega), if_neg (by omega), if_neg (by omega), if_pos h.2, if_neg (by omega), if_neg (by omega), if_neg (by omega), if_pos h.2]
    simp only [Option.bind_some, text_sequence.j0, text_sequence.j1, goesOn_at, w3, if_true, decide_eq_true_eq]
    generalize lo1 (bt s 0) = lo
    generalize hi1 (bt s 0) = hi
    by_cases h2 : 3 ≤ s.size
    · rw [if_pos h2, if_neg (by omega), if_neg (by decide), if_pos (by omega)]
      by_cases h5 : 128 ≤ (bt s 2)
      · by_cases h6 : (bt s 2) ≤ 191
        · rw [if_pos h5, if_pos (by simpa using h6), if_pos (by omega)]
          simp only [h5, h6, if_true]
          by_cases h3 : lo ≤ (bt s 1)
          · by_cases h4 : (bt s 1) ≤ hi
            · repeat (first | rw [if_pos (by omega)] | rw [if_neg (by omega)])
              rfl
            · repeat (first | rw [if_pos (by omega)] | rw [if_neg (by omega)])
              rfl
          · repeat (first | rw [if_pos (by omega)] | rw [if_neg (by omega)])
            rfl
        · rw [if_pos h5, if_neg (by simpa using h6)]
          simp only [h5, h6, if_true, if_false, ite_self]
          rfl
      · rw [if_neg h5, if_neg (by simp)]
        simp only [h5, if_false, ite_self]
        rfl
    · rw [if_neg h2, if_pos (by omega)]
      rfl
  · rw [if_neg (by omega), if_neg (by omega), if_neg (by omega), if_neg (by omega), if_pos h.2, if_neg (by omega), if_neg (by omega), if_neg (by omega), if_neg (by omega), if_pos h.2]
    simp only [Option.bind_some, text_sequence.j0, text_sequence.j1, goesOn_at, w4, if_true, decide_eq_true_eq]
    generalize lo1 (bt s 0) = lo
    generalize hi1 (bt s 0) = hi
    by_cases h2 : 4 ≤ s.size
    · rw [if_pos h2, if_neg (by omega), if_pos (by omega)]
      by_cases h7 : 128 ≤ (bt s 3)
      · by_cases h8 : (bt s 3) ≤ 191
        · rw [if_pos h7, if_pos (by simpa using h8), if_pos (by omega)]
          by_cases h5 : 128 ≤ (bt s 2)
          · by_cases h6 : (bt s 2) ≤ 191
            · rw [if_pos h5, if_pos (by simpa using h6), if_pos (by omega)]
              simp only [h5, h6, h7, h8, if_true]
              by_cases h3 : lo ≤ (bt s 1)
              · by_cases h4 : (bt s 1) ≤ hi
                · repeat (first | rw [if_pos (by omega)] | rw [if_neg (by omega)])
                  rfl
                · repeat (first | rw [if_pos (by omega)] | rw [if_neg (by omega)])
                  rfl
              · repeat (first | rw [if_pos (by omega)] | rw [if_neg (by omega)])
                rfl
            · rw [if_pos h5, if_neg (by simpa using h6)]
              simp only [h5, h6, if_true, if_false, ite_self]
              rfl
          · rw [if_neg h5, if_neg (by simp)]
            simp only [h5, if_false, ite_self]
            rfl
        · rw [if_pos h7, if_neg (by simpa using h8)]
          simp only [h7, h8, if_true, if_false, ite_self]
          rfl
      · rw [if_neg h7, if_neg (by simp)]
        simp only [h7, if_false, ite_self]
        rfl
    · rw [if_neg h2, if_pos (by omega)]
      rfl
  · repeat rw [if_neg (by omega)]
    simp only [Option.bind_some, text_sequence.j0, if_true, decide_eq_true_eq]
    rfl
theorem seq_ev (s : ByteArray) (hs : 0 < s.size) : Ev (fun k => text_sequence.f k s) (sq (bytesOf s) : Int) := by
  refine ⟨6, fun k hk => ?_⟩
  obtain ⟨m, rfl⟩ : ∃ m, k = m + 6 := ⟨k - 6, by omega⟩
  exact seq_at s hs m
theorem check_loop (s : ByteArray) (hs : s.size ≤ 4611686018427387904) (d : Nat) : ∀ i : Nat, i + d = s.size →
    Ev (fun k => text_Check.l0 k s (i : Int)) (if i + vp ((bytesOf s).drop i) = s.size then 0 else 10, ((i + vp ((bytesOf s).drop i) : Nat) : Int)) := by
  induction d using Nat.strongRecOn with
  | _ d ih =>
    intro i hi
    have hl : (bytesOf s).length = s.size := bytesOf_length s
    by_cases hlt : i < s.size
    · have hx : bytesOf (s.extract i s.size) = (bytesOf s).drop i := by
        rw [bytesOf_extract, List.take_of_length_le (by omega)]
      have hxs : 0 < (s.extract i s.size).size := by rw [← bytesOf_length, hx, List.length_drop]; omega
      have hq := sq_le ((bytesOf s).drop i)
      rw [List.length_drop] at hq
      refine Ev.step (f := fun k => (text_sequence.f k (s.extract i s.size)).bind fun t => if t = 0 then some (10, (i : Int)) else text_Check.l0 k s (wrap64 ((i : Int) + t))) (fun k => ?_) ?_
      · simp only [text_Check.l0]
        rw [if_pos (by omega), if_pos (by omega), if_pos (by omega), Int.toNat_natCast]
      refine Ev.bind (seq_ev _ hxs) ?_
      rw [hx]
      by_cases h0 : sq ((bytesOf s).drop i) = 0
      · rw [vp_zero h0, h0]
        refine Ev.congr (fun k => if_pos rfl) ?_
        rw [if_neg (by omega)]
        exact Ev.now _
      · have hv := vp_drop h0
        rw [hv]
        refine Ev.congr (fun k => if_neg (by omega)) ?_
        rw [wrp_id _ (by omega) (by omega)]
        exact ih (d - sq ((bytesOf s).drop i)) (by omega) (i + sq ((bytesOf s).drop i)) (by omega)
    · obtain rfl : i = s.size := by omega
      rw [List.drop_of_length_le (by omega), vp_nil]
      refine Ev.step (f := fun k => some (0, (s.size : Int))) (fun k => ?_) ?_
      · simp only [text_Check.l0]
        rw [if_neg (by omega)]
      rw [if_pos (by omega)]
      exact Ev.now _
/-- Check tells how far whole sequences go. -/
theorem check_ev (s : ByteArray) (hs : s.size ≤ 4611686018427387904) :
    Ev (fun k => text_Check.f k s) (if vp (bytesOf s) = s.size then 0 else 10, (vp (bytesOf s) : Int)) := by
  have h := check_loop s hs s.size 0 (by omega)
  simp only [List.drop_zero, Nat.zero_add] at h
  exact h
end Go.Proofs.YtppnhlkfkedlmaaDoor.UtfEvA
namespace Go.Proofs.YtppnhlkfkedlmaaDoor.SeqEvA
open Go.RowKit Go.Proofs.YtppnhlkfkedlmaaDoor.XA Go.Proofs.YtppnhlkfkedlmaaDoor.XGA Go.Proofs.YtppnhlkfkedlmaaDoor.XV Go.Proofs.YtppnhlkfkedlmaaDoorW.PrintWords Go.Proofs.YtppnhlkfkedlmaaDoorW.PrintLast Go.Proofs.YtppnhlkfkedlmaaDoor.Utf
/-- The row's first d bytes from the j-th on fit at place i. -/
def fitR (s : ByteArray) (i r : Int) : Nat → Nat → Prop
  | 0, _ => True
  | d + 1, j => (rd (rowL2 r) (1 + 2 * (j : Int)) ≤ bt s (i + j) ∧ bt s (i + j) ≤ rd (rowL2 r) (2 + 2 * (j : Int))) ∧ fitR s i r d (j + 1)
instance fitDec (s : ByteArray) (i r : Int) : ∀ d j, Decidable (fitR s i r d j)
  | 0, _ => by unfold fitR; infer_instance
  | d + 1, j => by unfold fitR; have := fitDec s i r d (j + 1); infer_instance
theorem rows_at (r : Int) (h0 : 0 ≤ r) (h1 : r < 9) : 1 ≤ rd (rowL2 r) 0 ∧ rd (rowL2 r) 0 ≤ 4 := by
  obtain ⟨y, rfl⟩ : ∃ x : Fin 9, (x.val : Int) = r := ⟨⟨r.toNat, by omega⟩, by simp; omega⟩
  have : ∀ y : Fin 9, 1 ≤ rd (rowL2 (y.val : Int)) 0 ∧ rd (rowL2 (y.val : Int)) 0 ≤ 4 := by decide +kernel
  exact this y
theorem fits_loop (s : ByteArray) (hs : s.size ≤ 4611686018427387904) (i r n : Int) (h0 : 0 ≤ i) (hr : 0 ≤ r) (hr9 : r < 9) (hn : n ≤ 4) (hi : i + n ≤ s.size) : ∀ d j : Nat, (j : Int) + d = n → Ev (fun k => rosterref01_fits.l0 k s i r n (j : Int)) (decide (fitR s i r d j))
  | 0, j, hj => by
    refine ev_round ?_
    simp only [rosterref01_fits.l0]
    exact ev_neg (by omega) (ev_eq (decide_eq_true (show fitR s i r 0 j from trivial)).symm)
  | d + 1, j, hj => by
    have ih := fits_loop s hs i r n h0 hr hr9 hn hi d (j + 1) (by omega)
    have hb := bt_range s (i + j)
    refine ev_round ?_
    simp only [rosterref01_fits.l0]
    rw [wrp_id (i + j) (by omega) (by omega), wrp_id (2 * (j : Int)) (by omega) (by omega), wrp_id (1 + 2 * (j : Int)) (by omega) (by omega), wrp_id (2 + 2 * (j : Int)) (by omega) (by omega), wrp_id (bt s (i + j)) (by omega) (by omega), wrp_id ((j : Int) + 1) (by omega) (by omega)]
    refine ev_pos (by omega) (ev_pos (by omega) (ev_pos (by omega) (ev_pos hr (ev_pos hr9 (ev_pos (by omega) (ev_pos (by omega) ?_))))))
    by_cases h1 : bt s (i + j) < rd (rowL2 r) (1 + 2 * (j : Int))
    · exact ev_pos h1 (ev_eq (decide_eq_false (fun h => by have := h.1.1; omega)).symm)
    · refine ev_neg h1 (ev_pos (by omega) (ev_pos (by omega) ?_))
      by_cases h2 : bt s (i + j) > rd (rowL2 r) (2 + 2 * (j : Int))
      · exact ev_pos h2 (ev_eq (decide_eq_false (fun h => by have := h.1.2; omega)).symm)
      · refine ev_neg h2 ?_
        have e : decide (fitR s i r (d + 1) j) = decide (fitR s i r d (j + 1)) := decide_eq_decide.2 ⟨fun h => h.2, fun h => ⟨⟨by omega, by omega⟩, h⟩⟩
        rw [e]
        simpa using ih
/-- Does the row fit at place i? -/
def fitP (s : ByteArray) (i r : Int) : Prop := i + rd (rowL2 r) 0 ≤ s.size ∧ fitR s i r (rd (rowL2 r) 0).toNat 0
instance (s : ByteArray) (i r : Int) : Decidable (fitP s i r) := by unfold fitP; infer_instance
theorem fits_ev (s : ByteArray) (hs : s.size ≤ 4611686018427387904) (i r : Int) (h0 : 0 ≤ i) (hi : i ≤ s.size) (hr : 0 ≤ r) (hr9 : r < 9) : Ev (fun k => rosterref01_fits.f k s i r) (decide (fitP s i r)) := by
  have hn := rows_at r hr hr9
  simp only [rosterref01_fits.f]
  rw [wrp_id (i + rd (rowL2 r) 0) (by omega) (by omega)]
  refine ev_pos hr (ev_pos hr9 (ev_pos (by decide) ?_))
  by_cases h : i + rd (rowL2 r) 0 > s.size
  · exact ev_pos h (ev_eq (decide_eq_false (fun z => by have := z.1; omega)).symm)
  · refine ev_neg h ?_
    have := fits_loop s hs i r (rd (rowL2 r) 0) h0 hr hr9 hn.2 (by omega) (rd (rowL2 r) 0).toNat 0 (by omega)
    have e : decide (fitP s i r) = decide (fitR s i r (rd (rowL2 r) 0).toNat 0) := decide_eq_decide.2 ⟨fun z => z.2, fun z => ⟨by omega, z⟩⟩
    rw [e]
    exact this
def seqR (s : ByteArray) (i : Int) : Nat → Nat → Int
  | 0, _ => 0
  | d + 1, r => if fitP s i (r : Int) then rd (rowL2 (r : Int)) 0 else seqR s i d (r + 1)
theorem seq_loop (s : ByteArray) (hs : s.size ≤ 4611686018427387904) (i : Int) (h0 : 0 ≤ i) (hi : i ≤ s.size) : ∀ d r : Nat, r + d = 9 → Ev (fun k => rosterref01_Sequence.l0 k s i (r : Int)) (seqR s i d r)
  | 0, r, hr => by
    refine ev_round ?_
    simp only [rosterref01_Sequence.l0]
    exact ev_neg (by omega) (Ev.now _)
  | d + 1, r, hr => by
    have ih := seq_loop s hs i h0 hi d (r + 1) (by omega)
    refine ev_round ?_
    simp only [rosterref01_Sequence.l0]
    rw [wrp_id ((r : Int) + 1) (by omega) (by omega)]
    refine ev_pos (by omega) (Ev.bind (fits_ev s hs i r h0 hi (by omega) (by omega)) ?_)
    by_cases h : fitP s i (r : Int)
    · refine ev_pos (decide_eq_true h) (ev_pos (by omega) (ev_pos (by decide) (ev_eq ?_)))
      rw [seqR, if_pos h]
    · refine ev_neg (by simpa using h) ?_
      rw [seqR, if_neg h]
      simpa using ih
section
variable (s : ByteArray) (i : Int)
theorem F0 : fitP s i ((0 : Nat) : Int) ↔ i + 1 ≤ s.size ∧ (0 ≤ bt s (i + (0 : Nat)) ∧ bt s (i + (0 : Nat)) ≤ 127) ∧ True := Iff.rfl
theorem F1 : fitP s i ((1 : Nat) : Int) ↔ i + 2 ≤ s.size ∧ (194 ≤ bt s (i + (0 : Nat)) ∧ bt s (i + (0 : Nat)) ≤ 223) ∧ (128 ≤ bt s (i + (1 : Nat)) ∧ bt s (i + (1 : Nat)) ≤ 191) ∧ True := Iff.rfl
theorem F2 : fitP s i ((2 : Nat) : Int) ↔ i + 3 ≤ s.size ∧ (224 ≤ bt s (i + (0 : Nat)) ∧ bt s (i + (0 : Nat)) ≤ 224) ∧ (160 ≤ bt s (i + (1 : Nat)) ∧ bt s (i + (1 : Nat)) ≤ 191) ∧ (128 ≤ bt s (i + (2 : Nat)) ∧ bt s (i + (2 : Nat)) ≤ 191) ∧ True := Iff.rfl
theorem F3 : fitP s i ((3 : Nat) : Int) ↔ i + 3 ≤ s.size ∧ (225 ≤ bt s (i + (0 : Nat)) ∧ bt s (i + (0 : Nat)) ≤ 236) ∧ (128 ≤ bt s (i + (1 : Nat)) ∧ bt s (i + (1 : Nat)) ≤ 191) ∧ (128 ≤ bt s (i + (2 : Nat)) ∧ bt s (i + (2 : Nat)) ≤ 191) ∧ True := Iff.rfl
theorem F4 : fitP s i ((4 : Nat) : Int) ↔ i + 3 ≤ s.size ∧ (237 ≤ bt s (i + (0 : Nat)) ∧ bt s (i + (0 : Nat)) ≤ 237) ∧ (128 ≤ bt s (i + (1 : Nat)) ∧ bt s (i + (1 : Nat)) ≤ 159) ∧ (128 ≤ bt s (i + (2 : Nat)) ∧ bt s (i + (2 : Nat)) ≤ 191) ∧ True := Iff.rfl
theorem F5 : fitP s i ((5 : Nat) : Int) ↔ i + 3 ≤ s.size ∧ (238 ≤ bt s (i + (0 : Nat)) ∧ bt s (i + (0 : Nat)) ≤ 239) ∧ (128 ≤ bt s (i + (1 : Nat)) ∧ bt s (i + (1 : Nat)) ≤ 191) ∧ (128 ≤ bt s (i + (2 : Nat)) ∧ bt s (i + (2 : Nat)) ≤ 191) ∧ True := Iff.rfl
theorem F6 : fitP s i ((6 : Nat) : Int) ↔ i + 4 ≤ s.size ∧ (240 ≤ bt s (i + (0 : Nat)) ∧ bt s (i + (0 : Nat)) ≤ 240) ∧ (144 ≤ bt s (i + (1 : Nat)) ∧ bt s (i + (1 : Nat)) ≤ 191) ∧ (128 ≤ bt s (i + (2 : Nat)) ∧ bt s (i + (2 : Nat)) ≤ 191) ∧ (128 ≤ bt s (i + (3 : Nat)) ∧ bt s (i + (3 : Nat)) ≤ 191) ∧ True := Iff.rfl
theorem F7 : fitP s i ((7 : Nat) : Int) ↔ i + 4 ≤ s.size ∧ (241 ≤ bt s (i + (0 : Nat)) ∧ bt s (i + (0 : Nat)) ≤ 243) ∧ (128 ≤ bt s (i + (1 : Nat)) ∧ bt s (i + (1 : Nat)) ≤ 191) ∧ (128 ≤ bt s (i + (2 : Nat)) ∧ bt s (i + (2 : Nat)) ≤ 191) ∧ (128 ≤ bt s (i + (3 : Nat)) ∧ bt s (i + (3 : Nat)) ≤ 191) ∧ True := Iff.rfl
theorem F8 : fitP s i ((8 : Nat) : Int) ↔ i + 4 ≤ s.size ∧ (244 ≤ bt s (i + (0 : Nat)) ∧ bt s (i + (0 : Nat)) ≤ 244) ∧ (128 ≤ bt s (i + (1 : Nat)) ∧ bt s (i + (1 : Nat)) ≤ 143) ∧ (128 ≤ bt s (i + (2 : Nat)) ∧ bt s (i + (2 : Nat)) ≤ 191) ∧ (128 ≤ bt s (i + (3 : Nat)) ∧ bt s (i + (3 : Nat)) ≤ 191) ∧ True := Iff.rfl
end
theorem seqR9 (s : ByteArray) (i : Int) : seqR s i 9 0 = if fitP s i ((0 : Nat) : Int) then 1 else if fitP s i ((1 : Nat) : Int) then 2 else if fitP s i ((2 : Nat) : Int) then 3 else if fitP s i ((3 : Nat) : Int) then 3 else if fitP s i ((4 : Nat) : Int) then 3 else if fitP s i ((5 : Nat) : Int) then 3 else if fitP s i ((6 : Nat) : Int) then 4 else if fitP s i ((7 : Nat) : Int) then 4 else if fitP s i ((8 : Nat) : Int) then 4 else 0 := rfl
theorem seqR_eq (s : ByteArray) (i : Nat) (hi : i < s.size) : seqR s (i : Int) 9 0 = (sq ((bytesOf s).drop i) : Int) := by
  have hl : ((bytesOf s).drop i).length = s.size - i := by rw [List.length_drop, bytesOf_length]
  have hd : ∀ j : Nat, ((bytesOf s).drop i).getD j 0 = bt s ((i : Int) + (j : Nat)) := by
    intro j
    rw [bt_byte, show ((i : Int) + (j : Nat)).toNat = i + j from by omega]
    simp [List.getD_eq_getElem?_getD]
  rw [sq_form _ (by omega), hl, hd 0, hd 1, hd 2, hd 3]
  have hb := bt_range s ((i : Int) + (0 : Nat))
  rw [seqR9]
  simp only [F0, F1, F2, F3, F4, F5, F6, F7, F8, and_true]
  generalize bt s ((i : Int) + (0 : Nat)) = b0 at *
  generalize bt s ((i : Int) + (1 : Nat)) = b1 at *
  generalize bt s ((i : Int) + (2 : Nat)) = b2 at *
  generalize bt s ((i : Int) + (3 : Nat)) = b3 at *
  clear hd hl
  have hc : b0 < 128 ∨ (128 ≤ b0 ∧ b0 < 194) ∨ (194 ≤ b0 ∧ b0 ≤ 223) ∨ b0 = 224 ∨ (225 ≤ b0 ∧ b0 ≤ 236) ∨ b0 = 237 ∨ (238 ≤ b0 ∧ b0 ≤ 239) ∨ b0 = 240 ∨ (241 ≤ b0 ∧ b0 ≤ 243) ∨ b0 = 244 ∨ 245 ≤ b0 := by omega
  have L1 : lo1 b0 = if b0 = 224 then 160 else if b0 = 240 then 144 else 128 := rfl
  have H1 : hi1 b0 = if b0 = 237 then 159 else if b0 = 244 then 143 else 191 := rfl
  simp only [← ite_both]
  rcases hc with h | h | h | h | h | h | h | h | h | h | h
  · (repeat (first | rw [if_neg (by omega)] | rw [if_pos (by omega)])); rfl
  · (repeat (first | rw [if_neg (by omega)] | rw [if_pos (by omega)])); rfl
  · have L : lo1 b0 = 128 := by rw [L1]; (repeat (first | rw [if_neg (by omega)] | rw [if_pos (by omega)]))
    have H : hi1 b0 = 191 := by rw [H1]; (repeat (first | rw [if_neg (by omega)] | rw [if_pos (by omega)]))
    rw [L, H]
    by_cases c : (i : Int) + 2 ≤ s.size ∧ (128 ≤ b1 ∧ b1 ≤ 191)
    · (repeat (first | rw [if_neg (by omega)] | rw [if_pos (by omega)])); rfl
    · (repeat (first | rw [if_neg (by omega)] | rw [if_pos (by omega)])); rfl
  · have L : lo1 b0 = 160 := by rw [L1]; (repeat (first | rw [if_neg (by omega)] | rw [if_pos (by omega)]))
    have H : hi1 b0 = 191 := by rw [H1]; (repeat (first | rw [if_neg (by omega)] | rw [if_pos (by omega)]))
    rw [L, H]
    by_cases c : (i : Int) + 3 ≤ s.size ∧ (160 ≤ b1 ∧ b1 ≤ 191) ∧ (128 ≤ b2 ∧ b2 ≤ 191)
    · (repeat (first | rw [if_neg (by omega)] | rw [if_pos (by omega)])); rfl
    · (repeat (first | rw [if_neg (by omega)] | rw [if_pos (by omega)])); rfl
  · have L : lo1 b0 = 128 := by rw [L1]; (repeat (first | rw [if_neg (by omega)] | rw [if_pos (by omega)]))
    have H : hi1 b0 = 191 := by rw [H1]; (repeat (first | rw [if_neg (by omega)] | rw [if_pos (by omega)]))
    rw [L, H]
    by_cases c : (i : Int) + 3 ≤ s.size ∧ (128 ≤ b1 ∧ b1 ≤ 191) ∧ (128 ≤ b2 ∧ b2 ≤ 191)
    · (repeat (first | rw [if_neg (by omega)] | rw [if_pos (by omega)])); rfl
    · (repeat (first | rw [if_neg (by omega)] | rw [if_pos (by omega)])); rfl
  · have L : lo1 b0 = 128 := by rw [L1]; (repeat (first | rw [if_neg (by omega)] | rw [if_pos (by omega)]))
    have H : hi1 b0 = 159 := by rw [H1]; (repeat (first | rw [if_neg (by omega)] | rw [if_pos (by omega)]))
    rw [L, H]
    by_cases c : (i : Int) + 3 ≤ s.size ∧ (128 ≤ b1 ∧ b1 ≤ 159) ∧ (128 ≤ b2 ∧ b2 ≤ 191)
    · (repeat (first | rw [if_neg (by omega)] | rw [if_pos (by omega)])); rfl
    · (repeat (first | rw [if_neg (by omega)] | rw [if_pos (by omega)])); rfl
  · have L : lo1 b0 = 128 := by rw [L1]; (repeat (first | rw [if_neg (by omega)] | rw [if_pos (by omega)]))
    have H : hi1 b0 = 191 := by rw [H1]; (repeat (first | rw [if_neg (by omega)] | rw [if_pos (by omega)]))
    rw [L, H]
    by_cases c : (i : Int) + 3 ≤ s.size ∧ (128 ≤ b1 ∧ b1 ≤ 191) ∧ (128 ≤ b2 ∧ b2 ≤ 191)
    · (repeat (first | rw [if_neg (by omega)] | rw [if_pos (by omega)])); rfl
    · (repeat (first | rw [if_neg (by omega)] | rw [if_pos (by omega)])); rfl
  · have L : lo1 b0 = 144 := by rw [L1]; (repeat (first | rw [if_neg (by omega)] | rw [if_pos (by omega)]))
    have H : hi1 b0 = 191 := by rw [H1]; (repeat (first | rw [if_neg (by omega)] | rw [if_pos (by omega)]))
    rw [L, H]
    by_cases c : (i : Int) + 4 ≤ s.size ∧ (144 ≤ b1 ∧ b1 ≤ 191) ∧ (128 ≤ b2 ∧ b2 ≤ 191) ∧ (128 ≤ b3 ∧ b3 ≤ 191)
    · (repeat (first | rw [if_neg (by omega)] | rw [if_pos (by omega)])); rfl
    · (repeat (first | rw [if_neg (by omega)] | rw [if_pos (by omega)])); rfl
  · have L : lo1 b0 = 128 := by rw [L1]; (repeat (first | rw [if_neg (by omega)] | rw [if_pos (by omega)]))
    have H : hi1 b0 = 191 := by rw [H1]; (repeat (first | rw [if_neg (by omega)] | rw [if_pos (by omega)]))
    rw [L, H]
    by_cases c : (i : Int) + 4 ≤ s.size ∧ (128 ≤ b1 ∧ b1 ≤ 191) ∧ (128 ≤ b2 ∧ b2 ≤ 191) ∧ (128 ≤ b3 ∧ b3 ≤ 191)
    · (repeat (first | rw [if_neg (by omega)] | rw [if_pos (by omega)])); rfl
    · (repeat (first | rw [if_neg (by omega)] | rw [if_pos (by omega)])); rfl
  · have L : lo1 b0 = 128 := by rw [L1]; (repeat (first | rw [if_neg (by omega)] | rw [if_pos (by omega)]))
    have H : hi1 b0 = 143 := by rw [H1]; (repeat (first | rw [if_neg (by omega)] | rw [if_pos (by omega)]))
    rw [L, H]
    by_cases c : (i : Int) + 4 ≤ s.size ∧ (128 ≤ b1 ∧ b1 ≤ 143) ∧ (128 ≤ b2 ∧ b2 ≤ 191) ∧ (128 ≤ b3 ∧ b3 ≤ 191)
    · (repeat (first | rw [if_neg (by omega)] | rw [if_pos (by omega)])); rfl
    · (repeat (first | rw [if_neg (by omega)] | rw [if_pos (by omega)])); rfl
  · (repeat (first | rw [if_neg (by omega)] | rw [if_pos (by omega)])); rfl
theorem seq_ev (s : ByteArray) (hs : s.size ≤ 4611686018427387904) (i : Nat) (hi : i < s.size) : Ev (fun k => rosterref01_Sequence.f k s (i : Int)) (sq ((bytesOf s).drop i) : Int) := by
  have := seq_loop s hs (i : Int) (by omega) (by omega) 9 0 rfl
  rw [seqR_eq s i hi] at this
  exact this
theorem check_loop (s : ByteArray) (hs : s.size ≤ 4611686018427387904) (d : Nat) : ∀ i : Nat, i + d = s.size →
    Ev (fun k => rosterref01_Check.l0 k s (i : Int)) (if i + vp ((bytesOf s).drop i) = s.size then 0 else 10, ((i + vp ((bytesOf s).drop i) : Nat) : Int)) := by
  induction d using Nat.strongRecOn with
  | _ d ih =>
    intro i hi
    have hl : (bytesOf s).length = s.size := bytesOf_length s
    refine ev_round ?_
    simp only [rosterref01_Check.l0]
    by_cases hlt : i < s.size
    · have hq := sq_le ((bytesOf s).drop i)
      rw [List.length_drop] at hq
      refine ev_pos (by omega) (Ev.bind (seq_ev s hs i hlt) ?_)
      by_cases h0 : sq ((bytesOf s).drop i) = 0
      · rw [vp_zero h0, h0, if_neg (by omega)]
        exact ev_pos rfl (ev_eq rfl)
      · have hv := vp_drop h0
        rw [hv]
        refine ev_neg (by omega) ?_
        rw [wrp_id _ (by omega) (by omega)]
        exact ih (d - sq ((bytesOf s).drop i)) (by omega) (i + sq ((bytesOf s).drop i)) (by omega)
    · obtain rfl : i = s.size := by omega
      rw [List.drop_of_length_le (by omega), vp_nil]
      exact ev_neg (by omega) (ev_eq (by rw [if_pos (by omega)]; rfl))
theorem check_ev (s : ByteArray) (hs : s.size ≤ 4611686018427387904) :
    Ev (fun k => rosterref01_Check.f k s) (if vp (bytesOf s) = s.size then 0 else 10, (vp (bytesOf s) : Int)) := by
  have h := check_loop s hs s.size 0 (by omega)
  simp only [List.drop_zero, Nat.zero_add] at h
  exact h
end Go.Proofs.YtppnhlkfkedlmaaDoor.SeqEvA
namespace Go.Proofs.YtppnhlkfkedlmaaDoor.NormEvA
open Go.RowKit Go.Proofs.YtppnhlkfkedlmaaDoor.XA Go.Proofs.YtppnhlkfkedlmaaDoor.XE Go.Proofs.YtppnhlkfkedlmaaDoor.XV Go.Proofs.YtppnhlkfkedlmaaDoor.Norm Go.Proofs.YtppnhlkfkedlmaaDoorW.PrintWords Go.Proofs.YtppnhlkfkedlmaaDoorW.PrintLast
def Rng (l : List Int) : Prop := ∀ x ∈ l, 0 ≤ x ∧ x ≤ 255
theorem rng_fold {l : List Int} (h : Rng l) : Rng (foldN l) := by
  intro x hx
  obtain ⟨y, hy, rfl⟩ := List.mem_map.1 hx
  have := h y hy
  unfold lowN
  split <;> omega
theorem rng_cons {c : Int} {l : List Int} (h : Rng (c :: l)) : (0 ≤ c ∧ c ≤ 255) ∧ Rng l := ⟨h c (by simp), fun x hx => h x (by simp [hx])⟩
theorem cons_rng {c : Int} {l : List Int} (hc : 0 ≤ c ∧ c ≤ 255) (h : Rng l) : Rng (c :: l) := by
  intro x hx
  rcases List.mem_cons.1 hx with rfl | hx
  · exact hc
  · exact h x hx
theorem rng_col : ∀ {l : List Int} (p : Bool), Rng l → Rng (colL p l)
  | [], p, _ => by intro x hx; simp [colL] at hx
  | c :: r, p, h => by
    obtain ⟨hc, hr⟩ := rng_cons h
    unfold colL
    split
    · split
      · exact rng_col true hr
      · exact cons_rng (by omega) (rng_col true hr)
    · exact cons_rng hc (rng_col false hr)
theorem rng_em : ∀ {l : List Int} (p : Bool), Rng l → Rng (em p l)
  | [], p, _ => by intro x hx; simp [em] at hx
  | c :: r, p, h => by
    obtain ⟨hc, hr⟩ := rng_cons h
    unfold em
    split
    · exact rng_em true hr
    · split
      · exact cons_rng (by omega) (cons_rng hc (rng_em false hr))
      · exact cons_rng hc (rng_em false hr)
theorem rng_nm : ∀ {l : List Int}, Rng l → Rng (nm l)
  | [], _ => by intro x hx; simp [nm] at hx
  | c :: r, h => by
    obtain ⟨hc, hr⟩ := rng_cons h
    unfold nm
    split
    · exact rng_nm hr
    · exact cons_rng hc (rng_em false hr)
theorem col_len : ∀ (l : List Int) (p : Bool), (colL p l).length ≤ l.length
  | [], p => by simp [colL]
  | c :: r, p => by
    have h1 := col_len r true
    have h2 := col_len r false
    unfold colL
    split
    · split <;> simp <;> omega
    · simp; omega
theorem strip_len : ∀ (l : List Int), (stripT l).length ≤ l.length
  | [] => by simp [stripT]
  | [x] => by unfold stripT; split <;> simp
  | x :: y :: r => by
    have := strip_len (y :: r)
    simp only [stripT, List.length_cons] at this ⊢
    omega
theorem nm_len (l : List Int) : (nm l).length ≤ l.length := by
  rw [← strip_nm]
  exact Nat.le_trans (strip_len _) (col_len _ _)
theorem size_nums (l : List Int) : (strOfNums l).size = l.length := strOfNums_size l
theorem len_bytes (s : ByteArray) : (bytesOf s).length = s.size := bytesOf_length s
theorem drop_cons (s : ByteArray) (i : Nat) (h : i < s.size) : (bytesOf s).drop i = bt s (i : Int) :: (bytesOf s).drop (i + 1) := by
  have hl : i < (bytesOf s).length := by rw [bytesOf_length]; exact h
  rw [bt_byte, List.drop_eq_getElem_cons hl]
  simp [List.getD_eq_getElem?_getD, List.getElem?_eq_getElem hl]
theorem fold_at (a : ByteArray) (h : a.size ≤ 4611686018427387904) : text_Fold.f a = some (strOfNums (foldN (bytesOf a))) := by
  unfold text_Fold.f
  rw [if_pos h]
  rfl
theorem blank_at (b : Int) : text_blank.f b = some (blankI b) := by
  unfold text_blank.f blankI
  by_cases h : b = 32
  · simp [h]
  · rw [if_neg h]
    by_cases h2 : b ≥ 9
    · rw [if_pos h2]; simp [h, h2]
    · rw [if_neg h2]; simp [h, h2]
theorem rblank_at (b : Int) : rosterref01_Blank.f b = some (blankI b) := by
  unfold rosterref01_Blank.f blankI
  by_cases h : b = 32
  · simp [h]
  · rw [if_neg h]
    by_cases h2 : b ≥ 9
    · rw [if_pos h2]; simp [h, h2]
    · rw [if_neg h2]; simp [h, h2]
theorem rfold_loop (s : ByteArray) (hs : s.size ≤ 140737488351232) : ∀ m i (acc : List Int), i + m = s.size → acc.length = i → Ev (fun k => rosterref01_Fold.l0 k s acc (i : Int)) (strOfNums (acc ++ foldN ((bytesOf s).drop i)))
  | 0, i, acc, hi, ha => by
    refine ev_round ?_
    simp only [rosterref01_Fold.l0]
    refine ev_neg (by omega) (ev_eq ?_)
    rw [List.drop_eq_nil_of_le (by rw [bytesOf_length]; omega)]
    simp [foldN]
  | m + 1, i, acc, hi, ha => by
    have ih := rfold_loop s hs m (i + 1)
    have hb := bt_range s (i : Int)
    refine ev_round ?_
    simp only [rosterref01_Fold.l0]
    rw [wrp_id _ (by omega) (by omega)]
    refine ev_pos (by omega) (ev_pos (by omega) ?_)
    rw [drop_cons s i (by omega)]
    by_cases h1 : bt s (i : Int) ≥ 65
    · refine ev_pos h1 ?_
      by_cases h2 : bt s (i : Int) ≤ 90
      · refine ev_pos h2 (ev_pos (by omega) ?_)
        have := ih (acc ++ [(bt s (i : Int) + 32) % 256]) (by omega) (by simp; omega)
        rw [show foldN (bt s (i : Int) :: (bytesOf s).drop (i + 1)) = (bt s (i : Int) + 32) % 256 :: foldN ((bytesOf s).drop (i + 1)) from by simp [foldN, lowN, h1, h2]; omega]
        simpa using this
      · refine ev_neg h2 (ev_pos (by omega) ?_)
        have := ih (acc ++ [bt s (i : Int)]) (by omega) (by simp; omega)
        rw [show foldN (bt s (i : Int) :: (bytesOf s).drop (i + 1)) = bt s (i : Int) :: foldN ((bytesOf s).drop (i + 1)) from by simp [foldN, lowN, h1, h2]]
        simpa using this
    · refine ev_neg h1 (ev_pos (by omega) ?_)
      have := ih (acc ++ [bt s (i : Int)]) (by omega) (by simp; omega)
      rw [show foldN (bt s (i : Int) :: (bytesOf s).drop (i + 1)) = bt s (i : Int) :: foldN ((bytesOf s).drop (i + 1)) from by simp [foldN, lowN]; omega]
      simpa using this
theorem rfold_at (a : ByteArray) (h : a.size ≤ 140737488351232) : Ev (fun k => rosterref01_Fold.f k a) (strOfNums (foldN (bytesOf a))) := by
  simpa [rosterref01_Fold.f] using rfold_loop a h a.size 0 [] (by omega) rfl
/-- Was the byte ahead of i a blank? -/
def prev (s : ByteArray) (i : Nat) : Bool := if i = 0 then false else blankI (bt s ((i : Int) - 1))
theorem prev_next (s : ByteArray) (i : Nat) : prev s (i + 1) = blankI (bt s (i : Int)) := by
  unfold prev
  rw [if_neg (by omega), show ((i + 1 : Nat) : Int) - 1 = (i : Int) from by omega]
theorem col_loop (s : ByteArray) (hs : s.size ≤ 140737488351232) : ∀ m i (acc : List Int), i + m = s.size → acc.length ≤ i → Ev (fun k => text_Collapse.l0 k s acc (s.size : Int) (i : Int)) (strOfNums (acc ++ colL (prev s i) ((bytesOf s).drop i)))
  | 0, i, acc, hi, ha => by
    refine ev_round ?_
    simp only [text_Collapse.l0]
    refine ev_neg (by omega) (ev_eq ?_)
    rw [List.drop_eq_nil_of_le (by rw [bytesOf_length]; omega)]
    simp [colL]
  | m + 1, i, acc, hi, ha => by
    have ih := col_loop s hs m (i + 1)
    rw [prev_next] at ih
    refine ev_round ?_
    simp only [text_Collapse.l0, blank_at, Option.bind_some]
    rw [wrp_id ((i : Int) + 1) (by omega) (by omega), wrp_id ((i : Int) - 1) (by omega) (by omega)]
    refine ev_pos (by omega) (ev_pos (by omega) (ev_pos (by omega) ?_))
    rw [drop_cons s i (by omega)]
    by_cases hb : blankI (bt s (i : Int)) = true
    · refine ev_pos hb ?_
      rw [hb] at ih
      by_cases h0 : (i : Int) = 0
      · refine ev_pos h0 (ev_pos (by omega) ?_)
        have := ih (acc ++ [32]) (by omega) (by simp; omega)
        rw [show prev s i = false from by unfold prev; rw [if_pos (by omega)], show colL false (bt s (i : Int) :: (bytesOf s).drop (i + 1)) = 32 :: colL true ((bytesOf s).drop (i + 1)) from by rw [colL, if_pos hb, if_neg (by decide)]]
        simpa using this
      · refine ev_neg h0 (ev_pos (by omega) (ev_pos (by omega) ?_))
        have hp : prev s i = blankI (bt s ((i : Int) - 1)) := by unfold prev; rw [if_neg (by omega)]
        by_cases h1 : blankI (bt s ((i : Int) - 1)) = true
        · refine ev_pos h1 ?_
          have := ih acc (by omega) (by omega)
          rw [hp, h1, show colL true (bt s (i : Int) :: (bytesOf s).drop (i + 1)) = colL true ((bytesOf s).drop (i + 1)) from by rw [colL, if_pos hb, if_pos rfl]]
          simpa using this
        · refine ev_neg h1 (ev_pos (by omega) ?_)
          have := ih (acc ++ [32]) (by omega) (by simp; omega)
          rw [hp, Bool.eq_false_iff.2 h1, show colL false (bt s (i : Int) :: (bytesOf s).drop (i + 1)) = 32 :: colL true ((bytesOf s).drop (i + 1)) from by rw [colL, if_pos hb, if_neg (by decide)]]
          simpa using this
    · refine ev_neg hb (ev_pos (by omega) ?_)
      have := ih (acc ++ [bt s (i : Int)]) (by omega) (by simp; omega)
      rw [Bool.eq_false_iff.2 hb] at this
      rw [show colL (prev s i) (bt s (i : Int) :: (bytesOf s).drop (i + 1)) = bt s (i : Int) :: colL false ((bytesOf s).drop (i + 1)) from by rw [colL, if_neg hb]]
      simpa using this
theorem col_at (a : ByteArray) (h : a.size ≤ 140737488351232) : Ev (fun k => text_Collapse.f k a) (strOfNums (colL false (bytesOf a))) := by
  have := col_loop a h a.size 0 [] (by omega) (by simp)
  simp only [text_Collapse.f]
  refine ev_pos (by omega) (ev_pos (by omega) ?_)
  simpa [prev] using this
theorem rcol_loop (s : ByteArray) (hs : s.size ≤ 140737488351232) : ∀ m i (acc : List Int), i + m = s.size → acc.length ≤ i → Ev (fun k => rosterref01_Collapse.l0 k s acc (i : Int)) (strOfNums (acc ++ colL (prev s i) ((bytesOf s).drop i)))
  | 0, i, acc, hi, ha => by
    refine ev_round ?_
    simp only [rosterref01_Collapse.l0]
    refine ev_neg (by omega) (ev_eq ?_)
    rw [List.drop_eq_nil_of_le (by rw [bytesOf_length]; omega)]
    simp [colL]
  | m + 1, i, acc, hi, ha => by
    have ih := rcol_loop s hs m (i + 1)
    rw [prev_next] at ih
    refine ev_round ?_
    simp only [rosterref01_Collapse.l0, rblank_at, Option.bind_some]
    rw [wrp_id ((i : Int) + 1) (by omega) (by omega), wrp_id ((i : Int) - 1) (by omega) (by omega)]
    refine ev_pos (by omega) (ev_pos (by omega) ?_)
    rw [drop_cons s i (by omega)]
    by_cases hb : blankI (bt s (i : Int)) = true
    · refine ev_pos hb ?_
      rw [hb] at ih
      by_cases h0 : (i : Int) = 0
      · refine ev_pos h0 (ev_pos (by omega) ?_)
        have := ih (acc ++ [32]) (by omega) (by simp; omega)
        rw [show prev s i = false from by unfold prev; rw [if_pos (by omega)], show colL false (bt s (i : Int) :: (bytesOf s).drop (i + 1)) = 32 :: colL true ((bytesOf s).drop (i + 1)) from by rw [colL, if_pos hb, if_neg (by decide)]]
        simpa using this
      · refine ev_neg h0 (ev_pos (by omega) (ev_pos (by omega) ?_))
        have hp : prev s i = blankI (bt s ((i : Int) - 1)) := by unfold prev; rw [if_neg (by omega)]
        by_cases h1 : blankI (bt s ((i : Int) - 1)) = true
        · refine ev_pos h1 ?_
          have := ih acc (by omega) (by omega)
          rw [hp, h1, show colL true (bt s (i : Int) :: (bytesOf s).drop (i + 1)) = colL true ((bytesOf s).drop (i + 1)) from by rw [colL, if_pos hb, if_pos rfl]]
          simpa using this
        · refine ev_neg h1 (ev_pos (by omega) ?_)
          have := ih (acc ++ [32]) (by omega) (by simp; omega)
          rw [hp, Bool.eq_false_iff.2 h1, show colL false (bt s (i : Int) :: (bytesOf s).drop (i + 1)) = 32 :: colL true ((bytesOf s).drop (i + 1)) from by rw [colL, if_pos hb, if_neg (by decide)]]
          simpa using this
    · refine ev_neg hb (ev_pos (by omega) ?_)
      have := ih (acc ++ [bt s (i : Int)]) (by omega) (by simp; omega)
      rw [Bool.eq_false_iff.2 hb] at this
      rw [show colL (prev s i) (bt s (i : Int) :: (bytesOf s).drop (i + 1)) = bt s (i : Int) :: colL false ((bytesOf s).drop (i + 1)) from by rw [colL, if_neg hb]]
      simpa using this
theorem rcol_at (a : ByteArray) (h : a.size ≤ 140737488351232) : Ev (fun k => rosterref01_Collapse.f k a) (strOfNums (colL false (bytesOf a))) := by
  have := rcol_loop a h a.size 0 [] (by omega) (by simp)
  simp only [rosterref01_Collapse.f]
  simpa [prev] using this
theorem strip_from (s : ByteArray) (a : Nat) (ha : a ≤ s.size) : stripT (bytesOf (s.extract a s.size)) = if a < s.size ∧ bt s ((s.size : Int) - 1) = 32 then bytesOf (s.extract a (s.size - 1)) else bytesOf (s.extract a s.size) := by
  have hl := bytesOf_length s
  rw [bytesOf_extract, bytesOf_extract, List.take_of_length_le (by omega)]
  by_cases h : a < s.size
  · have hne : (bytesOf s).drop a ≠ [] := by intro h0; have := congrArg List.length h0; simp at this; omega
    rw [strip_last _ hne]
    have hg : ((bytesOf s).drop a).getLast hne = bt s ((s.size : Int) - 1) := by
      rw [bt_byte, List.getLast_drop, List.getLast_eq_getElem, show ((s.size : Int) - 1).toNat = (bytesOf s).length - 1 from by omega]
      have hk : (bytesOf s).length - 1 < (bytesOf s).length := by omega
      simp [List.getD_eq_getElem?_getD, List.getElem?_eq_getElem hk]
    rw [hg]
    have hd : ((bytesOf s).drop a).dropLast = ((bytesOf s).take (s.size - 1)).drop a := by
      rw [List.dropLast_eq_take, List.drop_take, List.length_drop, hl, Nat.sub_right_comm]
    rw [hd]
    simp [h]
  · rw [if_neg (fun z => h z.1), List.drop_eq_nil_of_le (by omega)]
    rfl
theorem bytes_eq {r : ByteArray} {l : List Int} (hr : Rng l) (h : bytesOf r = l) : r = strOfNums l := bytesOf_inj (by rw [h, bytesOf_nums l hr])
theorem empty_iff (u : ByteArray) : u.toList = ([] : List UInt8) ↔ u.size = 0 := by
  rw [toList_data]
  constructor
  · intro h; rw [← data_length, h]; rfl
  · intro h; rw [← data_length] at h; exact List.length_eq_zero_iff.1 h
theorem extract_all (u : ByteArray) : u.extract 0 u.size = u := by
  apply bytesOf_inj
  rw [bytesOf_extract, List.drop_zero, List.take_of_length_le (by rw [bytesOf_length]; exact Nat.le_refl _)]
def cutEnd (u : ByteArray) : Option ByteArray := if u.toList = ([] : List UInt8) then (some u) else (if 0 ≤ (wrap64 ((u.size : Int) - 1)) then (if (wrap64 ((u.size : Int) - 1)) < (u.size : Int) then (if (bt u (wrap64 ((u.size : Int) - 1))) = 32 then (if (wrap64 ((u.size : Int) - 1)) ≤ (u.size : Int) then (some (u.extract 0 ((wrap64 ((u.size : Int) - 1)) : Int).toNat)) else (none)) else (some u)) else (none)) else (none))
theorem j0_at (k : Nat) (x3 : ByteArray) (b : Bool) : text_Squeeze.j0 (k + 1) x3 b = if b = true then (if 1 ≤ (x3.size : Int) then cutEnd (x3.extract 1 x3.size) else none) else cutEnd x3 := rfl
theorem cutEnd_at (u : ByteArray) (hu : u.size ≤ 4611686018427387904) : ∃ r, cutEnd u = some r ∧ bytesOf r = stripT (bytesOf u) := by
  have hf := strip_from u 0 (by omega)
  rw [extract_all] at hf
  unfold cutEnd
  by_cases h0 : u.size = 0
  · rw [if_pos ((empty_iff u).2 h0)]
    rw [if_neg (by omega)] at hf
    exact ⟨u, rfl, hf.symm⟩
  · rw [if_neg (fun z => h0 ((empty_iff u).1 z)), wrp_id _ (by omega) (by omega), if_pos (by omega), if_pos (by omega)]
    by_cases h1 : bt u ((u.size : Int) - 1) = 32
    · rw [if_pos h1, if_pos (by omega)]
      rw [if_pos ⟨by omega, h1⟩] at hf
      exact ⟨_, rfl, by rw [hf, show ((u.size : Int) - 1).toNat = u.size - 1 from by omega]⟩
    · rw [if_neg h1]
      rw [if_neg (fun z => h1 z.2)] at hf
      exact ⟨u, rfl, hf.symm⟩
theorem front_cut (c : ByteArray) (l : List Int) (hc : bytesOf c = colL false l) : colL true l = if 0 < c.size ∧ bt c 0 = 32 then bytesOf (c.extract 1 c.size) else bytesOf c := by
  have hl := bytesOf_length c
  rw [col_front, ← hc, bytesOf_extract, List.take_of_length_le (by omega)]
  by_cases h0 : c.size = 0
  · have : bytesOf c = [] := List.length_eq_zero_iff.1 (by omega)
    rw [this, if_neg (by omega)]
  · have hd := drop_cons c 0 (by omega)
    rw [List.drop_zero] at hd
    rw [hd]
    by_cases h1 : bt c 0 = 32
    · rw [if_pos ⟨by omega, h1⟩]; simp [h1]
    · rw [if_neg (fun z => h1 z.2)]; simp [h1]
theorem squeeze_at (a : ByteArray) (h : a.size ≤ 140737488351232) : Ev (fun k => text_Squeeze.f k a) (strOfNums (nm (bytesOf a))) := by
  have hr := rng_col false (bytesOf_range a)
  have hc := bytesOf_nums _ hr
  have hcl := col_len (bytesOf a) false
  rw [bytesOf_length] at hcl
  have hsz := strOfNums_size (colL false (bytesOf a))
  have hfc := front_cut _ _ hc
  simp only [text_Squeeze.f]
  refine Ev.bind (col_at a h) ?_
  generalize strOfNums (colL false (bytesOf a)) = c at *
  have key : ∀ b : Bool, (b = true ↔ 0 < c.size ∧ bt c 0 = 32) → Ev (fun k => text_Squeeze.j0 k c b) (strOfNums (nm (bytesOf a))) := by
    intro b hb
    refine ev_round ?_
    simp only [j0_at]
    by_cases h1 : b = true
    · refine ev_pos h1 (ev_pos (by have := hb.1 h1; omega) ?_)
      rw [if_pos (hb.1 h1)] at hfc
      obtain ⟨r, e, he⟩ := cutEnd_at (c.extract 1 c.size) (by rw [ByteArray.size_extract]; omega)
      rw [e, ← bytes_eq (rng_nm (bytesOf_range a)) (by rw [he, ← hfc, strip_nm])]
      exact Ev.now _
    · refine ev_neg h1 ?_
      rw [if_neg (fun z => h1 (hb.2 z))] at hfc
      obtain ⟨r, e, he⟩ := cutEnd_at c (by omega)
      rw [e, ← bytes_eq (rng_nm (bytesOf_range a)) (by rw [he, ← hfc, strip_nm])]
      exact Ev.now _
  by_cases h0 : c.size = 0
  · exact ev_pos ((empty_iff c).2 h0) (key false (by simp; omega))
  · refine ev_neg (fun z => h0 ((empty_iff c).1 z)) (ev_pos (by omega) (key _ ?_))
    simp
    omega
theorem rj0_at (k : Nat) (c : ByteArray) (hs : c.size ≤ 4611686018427387904) (b : Bool) (hb : b = true → 0 < c.size) : ∃ r, rosterref01_Squeeze.j0 (k + 1) c 0 (c.size : Int) b = some r ∧ bytesOf r = stripT (bytesOf (if b = true then c.extract 1 c.size else c)) := by
  have wr : wrap64 ((c.size : Int) - 1) = (c.size : Int) - 1 := wrp_id _ (by omega) (by omega)
  simp only [rosterref01_Squeeze.j0, wr]
  by_cases h1 : b = true
  · have h2 := hb h1
    have hf := strip_from c 1 (by omega)
    rw [if_pos h1, if_pos h1]
    by_cases h3 : (c.size : Int) > 1
    · rw [if_pos h3, if_pos (by omega), if_pos (by omega)]
      by_cases h4 : bt c ((c.size : Int) - 1) = 32
      · rw [if_pos h4, if_pos (by omega), if_pos (by omega)]
        rw [if_pos ⟨by omega, h4⟩] at hf
        exact ⟨_, rfl, by rw [hf, show ((c.size : Int) - 1).toNat = c.size - 1 from by omega]⟩
      · rw [if_neg h4, if_pos (by omega), if_pos (by omega)]
        rw [if_neg (fun z => h4 z.2)] at hf
        exact ⟨_, rfl, by rw [hf, Int.toNat_natCast]⟩
    · rw [if_neg h3, if_pos (by omega), if_pos (by omega)]
      rw [if_neg (by omega)] at hf
      exact ⟨_, rfl, by rw [hf, Int.toNat_natCast]⟩
  · have hf := strip_from c 0 (by omega)
    rw [extract_all] at hf
    rw [if_neg h1, if_neg h1]
    by_cases h3 : (c.size : Int) > 0
    · rw [if_pos h3, if_pos (by omega), if_pos (by omega)]
      by_cases h4 : bt c ((c.size : Int) - 1) = 32
      · rw [if_pos h4, if_pos (by omega), if_pos (by omega), if_pos (by omega)]
        rw [if_pos ⟨by omega, h4⟩] at hf
        exact ⟨_, rfl, by rw [hf, show ((c.size : Int) - 1).toNat = c.size - 1 from by omega]; rfl⟩
      · rw [if_neg h4, if_pos (by omega), if_pos (by omega), if_pos (by omega)]
        rw [if_neg (fun z => h4 z.2)] at hf
        exact ⟨_, rfl, by rw [hf, Int.toNat_natCast, show (0 : Int).toNat = 0 from rfl, extract_all]⟩
    · rw [if_neg h3, if_pos (by omega), if_pos (by omega), if_pos (by omega)]
      rw [if_neg (by omega)] at hf
      exact ⟨_, rfl, by rw [hf, Int.toNat_natCast, show (0 : Int).toNat = 0 from rfl, extract_all]⟩
theorem rsqueeze_at (a : ByteArray) (h : a.size ≤ 140737488351232) : Ev (fun k => rosterref01_Squeeze.f k a) (strOfNums (nm (bytesOf a))) := by
  have hr := rng_col false (bytesOf_range a)
  have hc := bytesOf_nums _ hr
  have hcl := col_len (bytesOf a) false
  rw [bytesOf_length] at hcl
  have hsz := strOfNums_size (colL false (bytesOf a))
  have hfc := front_cut _ _ hc
  simp only [rosterref01_Squeeze.f]
  refine Ev.bind (rcol_at a h) ?_
  generalize strOfNums (colL false (bytesOf a)) = c at *
  have key : ∀ b : Bool, (b = true ↔ 0 < c.size ∧ bt c 0 = 32) → Ev (fun k => rosterref01_Squeeze.j0 k c 0 (c.size : Int) b) (strOfNums (nm (bytesOf a))) := by
    intro b hb
    refine ev_at 1 fun m => ?_
    obtain ⟨r, e, he⟩ := rj0_at m c (by omega) b (fun z => (hb.1 z).1)
    rw [e, ← bytes_eq (rng_nm (bytesOf_range a))]
    rw [he, ← strip_nm, hfc]
    by_cases h1 : b = true
    · rw [if_pos h1, if_pos (hb.1 h1)]
    · rw [if_neg h1, if_neg (fun z => h1 (hb.2 z))]
  by_cases h0 : (c.size : Int) > 0
  · refine ev_pos h0 (ev_pos (by omega) (key _ ?_))
    simp
    omega
  · exact ev_neg h0 (key false (by simp; omega))
theorem normal_at (a : ByteArray) (h : a.size ≤ 140737488351232) : Ev (fun k => text_Normal.f k a) (strOfNums (nm (foldN (bytesOf a)))) := by
  simp only [text_Normal.f]
  rw [fold_at a (by omega)]
  simp only [Option.bind_some]
  refine ev_bindsome ?_
  have := squeeze_at (strOfNums (foldN (bytesOf a))) (by rw [strOfNums_size]; simp [foldN, bytesOf_length]; exact h)
  rw [bytesOf_nums _ (rng_fold (bytesOf_range a))] at this
  exact this
theorem rnormal_at (a : ByteArray) (h : a.size ≤ 140737488351232) : Ev (fun k => rosterref01_Normal.f k a) (strOfNums (nm (foldN (bytesOf a)))) := by
  simp only [rosterref01_Normal.f]
  refine Ev.bind (rfold_at a h) (ev_bindsome ?_)
  have := rsqueeze_at (strOfNums (foldN (bytesOf a))) (by rw [strOfNums_size]; simp [foldN, bytesOf_length]; exact h)
  rw [bytesOf_nums _ (rng_fold (bytesOf_range a))] at this
  exact this
end Go.Proofs.YtppnhlkfkedlmaaDoor.NormEvA
namespace Go.Proofs.YtppnhlkfkedlmaaDoor.HexEvA
open Go.RowKit Go.Proofs.YtppnhlkfkedlmaaDoor.XA Go.Proofs.YtppnhlkfkedlmaaDoor.XQ Go.Proofs.YtppnhlkfkedlmaaDoor.XE Go.Proofs.YtppnhlkfkedlmaaDoor.XGA Go.Proofs.YtppnhlkfkedlmaaDoor.XV Go.Proofs.YtppnhlkfkedlmaaDoor.Norm Go.Proofs.YtppnhlkfkedlmaaDoorW.PrintWords Go.Proofs.YtppnhlkfkedlmaaDoorW.PrintLast
def hexd (n : Int) : Int := if n < 10 then 48 + n else 87 + n
def hexN : List Int → List Int
  | [] => []
  | b :: r => hexd (b / 16) :: hexd (b % 16) :: hexN r
def worth (c : Int) : Option Int := if 48 ≤ c ∧ c ≤ 57 then some (c - 48) else if 97 ≤ c ∧ c ≤ 102 then some (c - 87) else if 65 ≤ c ∧ c ≤ 70 then some (c - 55) else none
/-- What a reader of hex digits gives; odd: in the middle of a pair, of which high is the first. -/
def unL : Bool → Int → List Int → Int → List Int → List Int × Int × Int
  | odd, high, acc, pos, [] => if odd = true then ([], 11, pos) else (acc, 0, pos)
  | odd, high, acc, pos, c :: r => match worth c with
    | none => ([], 11, pos)
    | some w => if odd = true then unL false high (acc ++ [16 * high + w]) (pos + 1) r else unL true w acc (pos + 1) r
def Rng (l : List Int) : Prop := ∀ x ∈ l, 0 ≤ x ∧ x ≤ 255
theorem rng_cons {c : Int} {l : List Int} (h : Rng (c :: l)) : (0 ≤ c ∧ c ≤ 255) ∧ Rng l := ⟨h c (by simp), fun x hx => h x (by simp [hx])⟩
theorem cons_rng {c : Int} {l : List Int} (hc : 0 ≤ c ∧ c ≤ 255) (h : Rng l) : Rng (c :: l) := by
  intro x hx
  rcases List.mem_cons.1 hx with rfl | hx
  · exact hc
  · exact h x hx
theorem hexd_range (n : Int) (h : 0 ≤ n) (h2 : n < 16) : 0 ≤ hexd n ∧ hexd n ≤ 255 := by unfold hexd; split <;> omega
theorem rng_hex : ∀ {l : List Int}, Rng l → Rng (hexN l)
  | [], _ => by intro x hx; simp [hexN] at hx
  | b :: r, h => by
    obtain ⟨hb, hr⟩ := rng_cons h
    exact cons_rng (hexd_range _ (by omega) (by omega)) (cons_rng (hexd_range _ (by omega) (by omega)) (rng_hex hr))
theorem hex_len : ∀ l : List Int, (hexN l).length = 2 * l.length
  | [] => rfl
  | b :: r => by simp only [hexN, List.length_cons, hex_len r]; omega
theorem worth_some {c w : Int} (h : worth c = some w) : 0 ≤ w ∧ w < 16 ∧ hexd w = lowN c := by
  unfold worth at h
  split at h
  · obtain rfl := Option.some.inj h; refine ⟨by omega, by omega, ?_⟩; unfold hexd lowN; rw [if_pos (by omega), if_neg (by omega)]; omega
  · split at h
    · obtain rfl := Option.some.inj h; refine ⟨by omega, by omega, ?_⟩; unfold hexd lowN; rw [if_neg (by omega), if_neg (by omega)]; omega
    · split at h
      · obtain rfl := Option.some.inj h; refine ⟨by omega, by omega, ?_⟩; unfold hexd lowN; rw [if_neg (by omega), if_pos (by omega)]; omega
      · cases h
theorem worth_hexd (n : Int) (h : 0 ≤ n) (h2 : n < 16) : worth (hexd n) = some n := by
  unfold hexd
  by_cases h3 : n < 10
  · rw [if_pos h3]; unfold worth; rw [if_pos (by omega)]; congr 1; omega
  · rw [if_neg h3]; unfold worth; rw [if_neg (by omega), if_pos (by omega)]; congr 1; omega
theorem worth_digit {c w : Int} (h : worth c = some w) : (48 ≤ c ∧ c ≤ 57) ∨ (97 ≤ c ∧ c ≤ 102) ∨ (65 ≤ c ∧ c ≤ 70) := by
  unfold worth at h
  (repeat' split at h) <;> first | omega | cases h
theorem worth_none {c : Int} (h : worth c = none) : ¬ (48 ≤ c ∧ c ≤ 57) ∧ ¬ (97 ≤ c ∧ c ≤ 102) ∧ ¬ (65 ≤ c ∧ c ≤ 70) := by
  unfold worth at h
  (repeat' split at h) <;> first | (cases h; done) | exact ⟨by assumption, by assumption, by assumption⟩
theorem unL_hex : ∀ (l : List Int) (h : Int) (acc : List Int) (pos : Int), Rng l → unL false h acc pos (hexN l) = (acc ++ l, 0, pos + 2 * l.length)
  | [], h, acc, pos, _ => by simp [hexN, unL]
  | b :: r, h, acc, pos, hr => by
    obtain ⟨hb, hr'⟩ := rng_cons hr
    simp only [hexN, unL, worth_hexd (b / 16) (by omega) (by omega), worth_hexd (b % 16) (by omega) (by omega)]
    simp only [if_true, if_false, Bool.false_eq_true]
    rw [unL_hex r _ _ _ hr', show 16 * (b / 16) + b % 16 = b from by omega]
    simp
    omega
theorem unL_spec : ∀ (l : List Int) (odd : Bool) (high : Int) (acc : List Int) (pos : Int), (odd = true → 0 ≤ high ∧ high < 16) →
    ((unL odd high acc pos l).2.1 = 0 ∧ (unL odd high acc pos l).2.2 = pos + l.length ∧ ∃ m, (unL odd high acc pos l).1 = acc ++ m ∧ Rng m ∧ hexN m = if odd = true then hexd high :: foldN l else foldN l) ∨
    ((unL odd high acc pos l).2.1 = 11 ∧ (unL odd high acc pos l).1 = [] ∧ ∃ q : Nat, (unL odd high acc pos l).2.2 = pos + q ∧ q ≤ l.length ∧ (∀ j, j < q → ∃ w, worth (l.getD j 0) = some w) ∧
      (q < l.length → worth (l.getD q 0) = none) ∧ (q = l.length → l.length % 2 = if odd = true then 0 else 1))
  | [], odd, high, acc, pos, hh => by
    cases odd
    · left
      exact ⟨rfl, by simp [unL], [], by simp [unL], (fun x hx => by simp at hx), rfl⟩
    · right
      exact ⟨rfl, rfl, 0, by simp [unL], by simp, fun j hj => by omega, fun h => by simp at h, fun _ => rfl⟩
  | c :: r, odd, high, acc, pos, hh => by
    cases hw : worth c with
    | none =>
      right
      have e : unL odd high acc pos (c :: r) = ([], 11, pos) := by rw [unL, hw]
      rw [e]
      exact ⟨rfl, rfl, 0, by simp, by simp, fun j hj => by omega, fun _ => by simpa using hw, fun h => by simp at h⟩
    | some w =>
      obtain ⟨w0, w1, w2⟩ := worth_some hw
      cases odd with
      | false =>
        have e : unL false high acc pos (c :: r) = unL true w acc (pos + 1) r := by rw [unL, hw]; rfl
        rw [e]
        rcases unL_spec r true w acc (pos + 1) (fun _ => ⟨w0, w1⟩) with ⟨h1, h2, m, h3, h4, h5⟩ | ⟨h1, h2, q, h3, h4, h5, h6, h7⟩
        · left
          refine ⟨h1, by rw [h2]; simp; omega, m, h3, h4, ?_⟩
          rw [h5, w2]
          rfl
        · right
          refine ⟨h1, h2, q + 1, by rw [h3]; simp; omega, by simp; omega, ?_, ?_, ?_⟩
          · intro j hj
            cases j with
            | zero => exact ⟨w, by simpa using hw⟩
            | succ j => simpa using h5 j (by omega)
          · intro h
            simpa using h6 (by simpa using h)
          · intro h
            have := h7 (by simpa using h)
            simp at this ⊢
            omega
      | true =>
        have hhi := hh rfl
        have e : unL true high acc pos (c :: r) = unL false high (acc ++ [16 * high + w]) (pos + 1) r := by rw [unL, hw]; rfl
        rw [e]
        rcases unL_spec r false high (acc ++ [16 * high + w]) (pos + 1) (fun h => by cases h) with ⟨h1, h2, m, h3, h4, h5⟩ | ⟨h1, h2, q, h3, h4, h5, h6, h7⟩
        · left
          refine ⟨h1, by rw [h2]; simp; omega, (16 * high + w) :: m, by rw [h3]; simp, cons_rng (by omega) h4, ?_⟩
          rw [hexN, h5, show (16 * high + w) / 16 = high from by omega, show (16 * high + w) % 16 = w from by omega, w2]
          rfl
        · right
          refine ⟨h1, h2, q + 1, by rw [h3]; simp; omega, by simp; omega, ?_, ?_, ?_⟩
          · intro j hj
            cases j with
            | zero => exact ⟨w, by simpa using hw⟩
            | succ j => simpa using h5 j (by omega)
          · intro h
            simpa using h6 (by simpa using h)
          · intro h
            have := h7 (by simpa using h)
            simp at this ⊢
            omega
/-! ### The printed functions -/
theorem drop_cons (s : ByteArray) (i : Nat) (h : i < s.size) : (bytesOf s).drop i = bt s (i : Int) :: (bytesOf s).drop (i + 1) := by
  have hl : i < (bytesOf s).length := by rw [bytesOf_length]; exact h
  rw [bt_byte, List.drop_eq_getElem_cons hl]
  simp [List.getD_eq_getElem?_getD, List.getElem?_eq_getElem hl]
theorem drop_end (s : ByteArray) (i : Nat) (h : s.size ≤ i) : (bytesOf s).drop i = [] := List.drop_eq_nil_of_le (by rw [bytesOf_length]; exact h)
theorem fin_of (n : Int) (m : Nat) (h : 0 ≤ n) (h2 : n < m) : ∃ x : Fin m, (x.val : Int) = n := ⟨⟨n.toNat, by omega⟩, by simp; omega⟩
theorem and15 (x : Int) (h : 0 ≤ x) (h2 : x ≤ 255) : Go.bits .and .u8 x 15 = x % 16 := by
  obtain ⟨y, rfl⟩ := fin_of x 256 h (by omega)
  have : ∀ y : Fin 256, Go.bits .and .u8 (y.val : Int) 15 = (y.val : Int) % 16 := by decide +kernel
  exact this y
theorem or16 (x w : Int) (h : 0 ≤ x) (h2 : x < 16) (h3 : 0 ≤ w) (h4 : w < 16) : Go.bits .or .u8 ((x * 16) % 256) w = 16 * x + w := by
  obtain ⟨y, rfl⟩ := fin_of x 16 h (by omega)
  obtain ⟨z, rfl⟩ := fin_of w 16 h3 (by omega)
  have : ∀ y z : Fin 16, Go.bits .or .u8 (((y.val : Int) * 16) % 256) (z.val : Int) = 16 * (y.val : Int) + (z.val : Int) := by decide +kernel
  exact this y z
theorem rd_hexL (x : Int) (h : 0 ≤ x) (h2 : x < 16) : rd hexL x = hexd x := by
  obtain ⟨y, rfl⟩ := fin_of x 16 h (by omega)
  have : ∀ y : Fin 16, rd hexL (y.val : Int) = hexd (y.val : Int) := by decide +kernel
  exact this y
theorem bt_digits (x : Int) (h : 0 ≤ x) (h2 : x < 16) : bt (⟨#[48, 49, 50, 51, 52, 53, 54, 55, 56, 57, 97, 98, 99, 100, 101, 102]⟩ : ByteArray) x = hexd x := by
  obtain ⟨y, rfl⟩ := fin_of x 16 h (by omega)
  have : ∀ y : Fin 16, bt (⟨#[48, 49, 50, 51, 52, 53, 54, 55, 56, 57, 97, 98, 99, 100, 101, 102]⟩ : ByteArray) (y.val : Int) = hexd (y.val : Int) := by decide +kernel
  exact this y
theorem hex_loop (s : ByteArray) (hs : s.size ≤ 34359738368) : ∀ m i (acc : List Int), i + m = s.size → acc.length = 2 * i → Ev (fun k => text_Hex.l0 k s acc (s.size : Int) (i : Int)) (strOfNums (acc ++ hexN ((bytesOf s).drop i)))
  | 0, i, acc, hi, ha => by
    refine ev_round ?_
    simp only [text_Hex.l0]
    refine ev_neg (by omega) (ev_eq ?_)
    rw [drop_end s i (by omega)]
    simp [hexN]
  | m + 1, i, acc, hi, ha => by
    have ih := hex_loop s hs m (i + 1)
    have hb := bt_range s (i : Int)
    refine ev_round ?_
    simp only [text_Hex.l0, Option.bind_some]
    rw [wrp_id _ (by omega) (by omega), and15 _ hb.1 hb.2, rd_hexL _ (by omega) (by omega), rd_hexL _ (by omega) (by omega)]
    refine ev_pos (by omega) (ev_pos (by omega) (ev_pos (by omega) (ev_pos (by omega) (ev_pos (by omega) (ev_pos (by omega) (ev_pos (by omega) (ev_pos (by simp; omega) ?_)))))))
    rw [drop_cons s i (by omega), hexN]
    have := ih (acc ++ [hexd (bt s (i : Int) / 16), hexd (bt s (i : Int) % 16)]) (by omega) (by simp; omega)
    simpa using this
theorem hex_at (s : ByteArray) (hs : s.size ≤ 34359738368) : Ev (fun k => text_Hex.f k s) (strOfNums (hexN (bytesOf s))) := by
  have := hex_loop s hs s.size 0 [] (by omega) (by simp)
  simp only [text_Hex.f]
  rw [wrp_id _ (by omega) (by omega)]
  refine ev_pos (by omega) (ev_pos (by omega) ?_)
  simpa using this
theorem rhex_loop (s : ByteArray) (hs : s.size ≤ 34359738368) : ∀ m i (acc : List Int), i + m = s.size → acc.length = 2 * i → Ev (fun k => rosterref01_Hex.l0 k s acc (i : Int)) (strOfNums (acc ++ hexN ((bytesOf s).drop i)))
  | 0, i, acc, hi, ha => by
    refine ev_round ?_
    simp only [rosterref01_Hex.l0]
    refine ev_neg (by omega) (ev_eq ?_)
    rw [drop_end s i (by omega)]
    simp [hexN]
  | m + 1, i, acc, hi, ha => by
    have ih := rhex_loop s hs m (i + 1)
    have hb := bt_range s (i : Int)
    refine ev_round ?_
    simp only [rosterref01_Hex.l0, Option.bind_some]
    rw [wrp_id (bt s (i : Int)) (by omega) (by omega), Int.tdiv_eq_ediv_of_nonneg hb.1, Int.tmod_eq_emod_of_nonneg hb.1, wrp_id (bt s (i : Int) / 16) (by omega) (by omega), wrp_id ((i : Int) + 1) (by omega) (by omega), bt_digits _ (by omega) (by omega), bt_digits _ (by omega) (by omega)]
    refine ev_pos (by omega) (ev_pos (by omega) (ev_pos (by omega) (ev_pos (by omega) (ev_pos (by omega) (ev_pos (by omega) (ev_pos (by omega) (ev_pos (by simp; omega) ?_)))))))
    rw [drop_cons s i (by omega), hexN]
    have := ih ((acc ++ [hexd (bt s (i : Int) / 16)]) ++ [hexd (bt s (i : Int) % 16)]) (by omega) (by simp; omega)
    simpa using this
theorem rhex_at (s : ByteArray) (hs : s.size ≤ 34359738368) : Ev (fun k => rosterref01_Hex.f k s) (strOfNums (hexN (bytesOf s))) := by
  simpa [rosterref01_Hex.f] using rhex_loop s hs s.size 0 [] (by omega) (by simp)
theorem worth_at (k : Nat) (c : Int) (h0 : 0 ≤ c) (h1 : c ≤ 255) : text_hexWorth.f (k + 2) c = some (match worth c with | some w => (w, true) | none => (0, false)) := by
  simp only [text_hexWorth.f, text_hexWorth.j0, text_hexWorth.j1, decide_eq_true_eq]
  have hc : (c < 48) ∨ (48 ≤ c ∧ c ≤ 57) ∨ (57 < c ∧ c < 65) ∨ (65 ≤ c ∧ c ≤ 70) ∨ (70 < c ∧ c < 97) ∨ (97 ≤ c ∧ c ≤ 102) ∨ 102 < c := by omega
  unfold worth
  rcases hc with h | h | h | h | h | h | h
  all_goals (repeat (first | rw [if_pos (by omega)] | rw [if_neg (by omega)] | rw [if_neg (by decide)]))
  all_goals (first | rfl | (simp only [Option.some.injEq, Prod.mk.injEq, and_true]; omega))
theorem worth_ev (c : Int) (h0 : 0 ≤ c) (h1 : c ≤ 255) : Ev (fun k => text_hexWorth.f k c) (match worth c with | some w => (w, true) | none => (0, false)) := ev_at 2 (fun m => worth_at m c h0 h1)
def outp (r : List Int × Int × Int) : ByteArray × Int × Int := (strOfNums r.1, r.2.1, r.2.2)
theorem empty_nums : (⟨#[]⟩ : ByteArray) = strOfNums [] := rfl
theorem unhex_loop (s : ByteArray) (hs : s.size ≤ 34359738368) : ∀ m i (acc : List Int) (high : Int), i + m = s.size → acc.length ≤ i → (i % 2 = 1 → 0 ≤ high ∧ high < 16) →
    Ev (fun k => text_Unhex.l0 k s acc high (s.size : Int) (i : Int)) (outp (unL (decide (i % 2 = 1)) high acc (i : Int) ((bytesOf s).drop i)))
  | 0, i, acc, high, hi, ha, hh => by
    refine ev_round ?_
    simp only [text_Unhex.l0]
    refine ev_neg (by omega) ?_
    rw [drop_end s i (by omega)]
    by_cases h : i % 2 = 1
    · refine ev_neg (by omega) (ev_eq ?_)
      simp [h, unL, outp, empty_nums]
      omega
    · refine ev_pos (by omega) (ev_eq ?_)
      simp [h, unL, outp]
      omega
  | m + 1, i, acc, high, hi, ha, hh => by
    have ih := unhex_loop s hs m (i + 1)
    have hb := bt_range s (i : Int)
    refine ev_round ?_
    simp only [text_Unhex.l0]
    rw [wrp_id _ (by omega) (by omega), Int.tmod_eq_emod_of_nonneg (by omega)]
    refine ev_pos (by omega) (ev_pos (by omega) (ev_pos (by omega) (Ev.bind (worth_ev _ hb.1 hb.2) ?_)))
    rw [drop_cons s i (by omega), unL]
    cases hw : worth (bt s (i : Int)) with
    | none => exact ev_neg (by simp) (ev_eq rfl)
    | some w =>
      obtain ⟨w0, w1, w2⟩ := worth_some hw
      refine ev_pos rfl ?_
      by_cases h : i % 2 = 1
      · have hhi := hh h
        refine ev_neg (by omega) (ev_pos (by omega) ?_)
        have := ih (acc ++ [16 * high + w]) high (by omega) (by simp; omega) (fun z => by omega)
        rw [or16 _ _ hhi.1 hhi.2 w0 w1]
        rw [show decide ((i + 1) % 2 = 1) = false from decide_eq_false (by omega)] at this
        simpa [h] using this
      · refine ev_pos (by omega) ?_
        have := ih acc w (by omega) (by omega) (fun z => ⟨w0, w1⟩)
        rw [show decide ((i + 1) % 2 = 1) = true from decide_eq_true (by omega)] at this
        simpa [h] using this
theorem unhex_at (s : ByteArray) (hs : s.size ≤ 34359738368) : Ev (fun k => text_Unhex.f k s) (outp (unL false 0 [] 0 (bytesOf s))) := by
  have := unhex_loop s hs s.size 0 [] 0 (by omega) (by simp) (fun h => by simp at h)
  simp only [text_Unhex.f]
  rw [wrp_id _ (by omega) (by omega)]
  refine ev_pos (by omega) (ev_pos (by omega) ?_)
  simpa using this
def digitsB : ByteArray := ⟨#[48, 49, 50, 51, 52, 53, 54, 55, 56, 57, 97, 98, 99, 100, 101, 102]⟩
/-- The place of a byte among the digits. -/
theorem at_loop (c : Int) : ∀ m i : Nat, i + m = 16 → (∀ j : Nat, j < i → hexd (j : Int) ≠ c) → Ev (fun k => rosterref01_at.l0 k digitsB c (i : Int)) (if ∃ j : Fin 16, hexd (j.val : Int) = c then (match worth c with | some w => w | none => -1) else -1)
  | 0, i, hi, hj => by
    refine ev_round ?_
    simp only [rosterref01_at.l0]
    rw [if_neg (by rintro ⟨j, hj'⟩; exact hj j.val (by have := j.isLt; omega) hj')]
    exact ev_neg (by show ¬ (i : Int) < (16 : Int); omega) (Ev.now _)
  | m + 1, i, hi, hj => by
    have ih := at_loop c m (i + 1) (by omega)
    refine ev_round ?_
    simp only [rosterref01_at.l0]
    rw [wrp_id _ (by omega) (by omega), show bt digitsB (i : Int) = hexd (i : Int) from bt_digits _ (by omega) (by omega)]
    refine ev_pos (by show (i : Int) < (16 : Int); omega) (ev_pos (by omega) ?_)
    by_cases h : hexd (i : Int) = c
    · refine ev_pos h (ev_eq ?_)
      rw [if_pos ⟨⟨i, by omega⟩, h⟩, ← h, worth_hexd _ (by omega) (by omega)]
    · refine ev_neg h ?_
      have := ih (fun j hj' => by
        by_cases e : j = i
        · subst e; exact h
        · exact hj j (by omega))
      simpa using this
theorem at_ev (c : Int) : Ev (fun k => rosterref01_at.f k digitsB (lowN c)) (match worth c with | some w => w | none => -1) := by
  have := at_loop (lowN c) 16 0 rfl (fun j hj => by omega)
  simp only [rosterref01_at.f]
  cases hw : worth c with
  | some w =>
    obtain ⟨w0, w1, w2⟩ := worth_some hw
    rw [if_pos ⟨⟨w.toNat, by omega⟩, by simpa [Int.toNat_of_nonneg w0] using w2⟩, ← w2, worth_hexd w w0 w1] at this
    rw [← w2]
    exact this
  | none =>
    obtain ⟨n1, n2, n3⟩ := worth_none hw
    rw [if_neg] at this
    · exact this
    · rintro ⟨j, hj⟩
      have hj16 := j.isLt
      unfold hexd lowN at hj
      (repeat' split at hj) <;> omega
theorem rfold_loop (s : ByteArray) (hs : s.size ≤ 140737488351232) : ∀ m i (acc : List Int), i + m = s.size → acc.length = i → Ev (fun k => rosterref01_Fold.l0 k s acc (i : Int)) (strOfNums (acc ++ foldN ((bytesOf s).drop i)))
  | 0, i, acc, hi, ha => by
    refine ev_round ?_
    simp only [rosterref01_Fold.l0]
    refine ev_neg (by omega) (ev_eq ?_)
    rw [drop_end s i (by omega)]
    simp [foldN]
  | m + 1, i, acc, hi, ha => by
    have ih := rfold_loop s hs m (i + 1)
    have hb := bt_range s (i : Int)
    refine ev_round ?_
    simp only [rosterref01_Fold.l0]
    rw [wrp_id _ (by omega) (by omega)]
    refine ev_pos (by omega) (ev_pos (by omega) ?_)
    rw [drop_cons s i (by omega)]
    by_cases h1 : bt s (i : Int) ≥ 65
    · refine ev_pos h1 ?_
      by_cases h2 : bt s (i : Int) ≤ 90
      · refine ev_pos h2 (ev_pos (by omega) ?_)
        have := ih (acc ++ [(bt s (i : Int) + 32) % 256]) (by omega) (by simp; omega)
        rw [show foldN (bt s (i : Int) :: (bytesOf s).drop (i + 1)) = (bt s (i : Int) + 32) % 256 :: foldN ((bytesOf s).drop (i + 1)) from by simp [foldN, lowN, h1, h2]; omega]
        simpa using this
      · refine ev_neg h2 (ev_pos (by omega) ?_)
        have := ih (acc ++ [bt s (i : Int)]) (by omega) (by simp; omega)
        rw [show foldN (bt s (i : Int) :: (bytesOf s).drop (i + 1)) = bt s (i : Int) :: foldN ((bytesOf s).drop (i + 1)) from by simp [foldN, lowN, h1, h2]]
        simpa using this
    · refine ev_neg h1 (ev_pos (by omega) ?_)
      have := ih (acc ++ [bt s (i : Int)]) (by omega) (by simp; omega)
      rw [show foldN (bt s (i : Int) :: (bytesOf s).drop (i + 1)) = bt s (i : Int) :: foldN ((bytesOf s).drop (i + 1)) from by simp [foldN, lowN]; omega]
      simpa using this
theorem rfold_at (a : ByteArray) (h : a.size ≤ 140737488351232) : Ev (fun k => rosterref01_Fold.f k a) (strOfNums (foldN (bytesOf a))) := by
  simpa [rosterref01_Fold.f] using rfold_loop a h a.size 0 [] (by omega) rfl
theorem rng_fold {l : List Int} (h : Rng l) : Rng (foldN l) := by
  intro x hx
  obtain ⟨y, hy, rfl⟩ := List.mem_map.1 hx
  have := h y hy
  unfold lowN
  split <;> omega
theorem runhex_loop (s : ByteArray) (hs : s.size ≤ 34359738368) (t : ByteArray) (ht : bytesOf t = foldN (bytesOf s)) : ∀ m i (acc : List Int) (high : Int), i + m = s.size → acc.length ≤ i → (i % 2 = 1 → 0 ≤ high ∧ high < 16) →
    Ev (fun k => rosterref01_Unhex.l0 k t acc high (i : Int)) (outp (unL (decide (i % 2 = 1)) high acc (i : Int) ((bytesOf s).drop i)))
  | 0, i, acc, high, hi, ha, hh => by
    have hz : t.size = s.size := by rw [← bytesOf_length, ht]; simp [foldN, bytesOf_length]
    refine ev_round ?_
    simp only [rosterref01_Unhex.l0]
    refine ev_neg (by omega) ?_
    rw [drop_end s i (by omega)]
    by_cases h : i % 2 = 1
    · refine ev_neg (by omega) (ev_eq ?_)
      simp [h, unL, outp, empty_nums]
      omega
    · refine ev_pos (by omega) (ev_eq ?_)
      simp [h, unL, outp]
      omega
  | m + 1, i, acc, high, hi, ha, hh => by
    have ih := runhex_loop s hs t ht m (i + 1)
    have hz : t.size = s.size := by rw [← bytesOf_length, ht]; simp [foldN, bytesOf_length]
    have hti : bt t (i : Int) = lowN (bt s (i : Int)) := by
      rw [bt_byte, bt_byte, ht]
      have hl : i < (bytesOf s).length := by rw [bytesOf_length]; omega
      simp [foldN, List.getD_eq_getElem?_getD, List.getElem?_eq_getElem hl]
    have hb := bt_range s (i : Int)
    refine ev_round ?_
    simp only [rosterref01_Unhex.l0]
    rw [wrp_id ((i : Int) + 1) (by omega) (by omega), Int.tmod_eq_emod_of_nonneg (by omega), hti]
    refine ev_pos (by omega) (ev_pos (by omega) (Ev.bind (at_ev _) ?_))
    rw [drop_cons s i (by omega), unL]
    cases hw : worth (bt s (i : Int)) with
    | none => exact ev_pos (show (-1 : Int) < 0 by decide) (ev_eq rfl)
    | some w =>
      obtain ⟨w0, w1, w2⟩ := worth_some hw
      refine ev_neg (show ¬ w < 0 by omega) ?_
      by_cases h : i % 2 = 1
      · have hhi := hh h
        refine ev_neg (by omega) (ev_pos (by omega) ?_)
        have := ih (acc ++ [16 * high + w]) high (by omega) (by simp; omega) (fun z => by omega)
        rw [show decide ((i + 1) % 2 = 1) = false from decide_eq_false (by omega)] at this
        rw [wrp_id (16 * high) (by omega) (by omega)]
        simp only
        rw [wrp_id (16 * high + w) (by omega) (by omega), show (16 * high + w) % 256 = 16 * high + w from by omega]
        simpa [h] using this
      · refine ev_pos (by omega) ?_
        have := ih acc w (by omega) (by omega) (fun z => ⟨w0, w1⟩)
        rw [show decide ((i + 1) % 2 = 1) = true from decide_eq_true (by omega)] at this
        simpa [h] using this
theorem runhex_at (s : ByteArray) (hs : s.size ≤ 34359738368) : Ev (fun k => rosterref01_Unhex.f k s) (outp (unL false 0 [] 0 (bytesOf s))) := by
  have := runhex_loop s hs (strOfNums (foldN (bytesOf s))) (bytesOf_nums _ (rng_fold (bytesOf_range s))) s.size 0 [] 0 (by omega) (by simp) (fun h => by simp at h)
  simp only [rosterref01_Unhex.f]
  refine Ev.bind (rfold_at s (by omega)) ?_
  simpa using this
theorem unhexes_at (s : ByteArray) (hs : s.size ≤ 34359738368) : Ev (fun k => rosterlaw01_unhexes.f k s) true := by
  simp only [rosterlaw01_unhexes.f, rosterlaw01_num.f, Option.bind_some]
  refine Ev.bind (unhex_at s hs) (Ev.bind (runhex_at s hs) (ev_pos rfl (ev_pos rfl (ev_eq ?_))))
  simp
end Go.Proofs.YtppnhlkfkedlmaaDoor.HexEvA
namespace Go.Proofs.YtppnhlkfkedlmaaDoor.B64EvA
open Go.RowKit Go.Proofs.YtppnhlkfkedlmaaDoor.XA Go.Proofs.YtppnhlkfkedlmaaDoor.XGA Go.Proofs.YtppnhlkfkedlmaaDoor.XV Go.Proofs.YtppnhlkfkedlmaaDoor.L64 Go.Proofs.YtppnhlkfkedlmaaDoorW.PrintWords Go.Proofs.YtppnhlkfkedlmaaDoorW.PrintLast
theorem rd_let (n : Int) : rd let64L n = l64 n := rfl
theorem list_of (s : ByteArray) : bytesOf s = (List.range s.size).map fun i : Nat => bt s (i : Int) := by
  apply List.ext_getElem?
  intro i
  by_cases h : i < s.size
  · have hl : i < (bytesOf s).length := by rw [bytesOf_length]; exact h
    simp [h, bt_byte, List.getD_eq_getElem?_getD, List.getElem?_eq_getElem hl]
  · rw [List.getElem?_eq_none (by rw [bytesOf_length]; omega), List.getElem?_eq_none (by simp; omega)]
theorem b64_loop : ∀ (n : Nat) (s : ByteArray) (acc : List Int), s.size = n → acc.length + (s.size + 2) / 3 * 4 ≤ 140737488355324 → Ev (fun k => text_Base64.l0 k s acc) (strOfNums (acc ++ b64 (bytesOf s))) := by
  intro n
  induction n using Nat.strongRecOn with
  | ind n ih =>
    intro s acc hn ha
    have r0 := bt_range s 0
    have r1 := bt_range s 1
    have r2 := bt_range s 2
    have hlo := list_of s
    refine ev_round ?_
    simp only [text_Base64.l0, Option.bind_some]
    rw [and3 _ r0.1 r0.2, and15 _ r1.1 r1.2, and63 _ r2.1 r2.2, or_4_16 _ _ (by omega) (by omega) (by omega) (by omega), or_16_4 _ _ (by omega) (by omega) (by omega) (by omega), show (bt s 1 % 16 * 4) % 256 = bt s 1 % 16 * 4 from by omega, show (bt s 0 % 4 * 16) % 256 = bt s 0 % 4 * 16 from by omega]
    by_cases h3 : (s.size : Int) ≥ 3
    · refine ev_pos h3 ?_
      have hd : bytesOf s = bt s 0 :: bt s 1 :: bt s 2 :: bytesOf (s.extract 3 s.size) := by
        rw [bytesOf_extract, List.take_of_length_le (by rw [bytesOf_length]; exact Nat.le_refl _)]
        have hl := bytesOf_length s
        have e := List.take_append_drop 3 (bytesOf s)
        rw [← e]
        have h0 := bt_byte s 0
        have h1 := bt_byte s 1
        have h2 := bt_byte s 2
        generalize bytesOf s = L at *
        match L with
        | a :: b :: c :: r => simp at h0 h1 h2 ⊢; exact ⟨h0.symm, h1.symm, h2.symm⟩
        | [] => simp at hl; omega
        | [a] => simp at hl; omega
        | [a, b] => simp at hl; omega
      have := ih (s.extract 3 s.size).size (by rw [ByteArray.size_extract]; omega) (s.extract 3 s.size) (acc ++ [l64 (bt s 0 / 4), l64 (bt s 0 % 4 * 16 + bt s 1 / 16), l64 (bt s 1 % 16 * 4 + bt s 2 / 64), l64 (bt s 2 % 64)]) rfl (by rw [ByteArray.size_extract]; simp; omega)
      refine ev_pos (by omega) (ev_pos (by omega) (ev_pos (by omega) (ev_pos (by omega) (ev_pos (by omega) (ev_pos (by omega) (ev_pos (by omega) (ev_pos (by omega) (ev_pos (by omega) (ev_pos (by omega) (ev_pos (by omega) (ev_pos (by simp; omega) (ev_pos (by omega) ?_))))))))))))
      rw [hd, b64]
      simpa [l64, let64, let64L] using this
    · refine ev_neg h3 ?_
      by_cases h2 : (s.size : Int) = 2
      · have hd : bytesOf s = [bt s 0, bt s 1] := by rw [hlo, show s.size = 2 from by omega]; rfl
        refine ev_pos h2 (ev_pos (by omega) (ev_pos (by omega) (ev_pos (by omega) (ev_pos (by omega) (ev_pos (by omega) (ev_pos (by omega) (ev_pos (by omega) (ev_pos (by omega) (ev_pos (by simp; omega) (ev_eq ?_))))))))))
        rw [hd]
        rfl
      · refine ev_neg h2 ?_
        by_cases h1 : (s.size : Int) = 1
        · have hd : bytesOf s = [bt s 0] := by rw [hlo, show s.size = 1 from by omega]; rfl
          refine ev_pos h1 (ev_pos (by omega) (ev_pos (by omega) (ev_pos (by omega) (ev_pos (by omega) (ev_pos (by omega) (ev_pos (by simp; omega) (ev_eq ?_)))))))
          rw [hd]
          rfl
        · have hd : bytesOf s = [] := by rw [hlo, show s.size = 0 from by omega]; rfl
          refine ev_neg h1 (ev_eq ?_)
          rw [hd]
          simp [b64]
theorem base64_at (s : ByteArray) (hs : (s.size + 2) / 3 * 4 ≤ 140737488355324) : Ev (fun k => text_Base64.f k s) (strOfNums (b64 (bytesOf s))) := by
  have := b64_loop s.size s [] rfl (by simp; omega)
  simp only [text_Base64.f]
  rw [wrp_id ((s.size : Int) + 2) (by omega) (by omega), Int.tdiv_eq_ediv_of_nonneg (by omega), wrp_id (((s.size : Int) + 2) / 3) (by omega) (by omega), wrp_id (((s.size : Int) + 2) / 3 * 4) (by omega) (by omega)]
  refine ev_pos (by omega) (ev_pos (by omega) ?_)
  simpa using this
end Go.Proofs.YtppnhlkfkedlmaaDoor.B64EvA
namespace Go.Proofs.YtppnhlkfkedlmaaDoor.BasesEvA
open Go.RowKit Go.Proofs.YtppnhlkfkedlmaaDoor.XA Go.Proofs.YtppnhlkfkedlmaaDoor.XQ Go.Proofs.YtppnhlkfkedlmaaDoor.XV Go.Proofs.YtppnhlkfkedlmaaDoor.L64 Go.Proofs.YtppnhlkfkedlmaaDoor.UnB64 Go.Proofs.YtppnhlkfkedlmaaDoor.UnZ Go.Proofs.YtppnhlkfkedlmaaDoor.FrontW Go.Proofs.YtppnhlkfkedlmaaDoor.Dec Go.Proofs.YtppnhlkfkedlmaaDoor.B64RefQ Go.Proofs.YtppnhlkfkedlmaaDoor.B64EvA Go.Proofs.YtppnhlkfkedlmaaDoorW.PrintWords Go.Proofs.YtppnhlkfkedlmaaDoorW.PrintLast
theorem rb_loop (s : ByteArray) (hs : s.size ≤ 34359738368) : ∀ (m i : Nat) (acc : List Int), s.size ≤ i + m → i % 3 = 0 → acc.length ≤ 2 * i → Ev (fun k => rosterref01_Base64.l0 k s acc (i : Int)) (strOfNums (acc ++ b64 ((bytesOf s).drop i)))
  | 0, i, acc, hi, h3, ha => by
    refine ev_round ?_
    simp only [rosterref01_Base64.l0]
    refine ev_neg (by omega) (ev_eq ?_)
    rw [List.drop_eq_nil_of_le (by rw [bytesOf_length]; omega)]
    simp [b64]
  | m + 1, i, acc, hi, h3, ha => by
    by_cases hlt : i < s.size
    · have hll : ((bytesOf s).drop i).length = s.size - i := by rw [List.length_drop, bytesOf_length]
      refine ev_round ?_
      simp only [rosterref01_Base64.l0]
      rw [wrp_id ((i : Int) + 3) (by omega) (by omega)]
      refine ev_pos (by omega) ?_
      by_cases hm : i + 3 > s.size
      · have hx : bytesOf (s.extract i s.size) = (bytesOf s).drop i := by rw [bytesOf_extract, List.take_of_length_le (by rw [bytesOf_length]; exact Nat.le_refl _)]
        have hg := group_ev (s.extract i s.size) (by rw [ByteArray.size_extract]; omega) (by rw [ByteArray.size_extract]; omega)
        rw [hx] at hg
        have hb4 : (b64 ((bytesOf s).drop i)).length ≤ 4 := by rw [b64_len, hll]; omega
        refine ev_pos (by omega) (ev_pos (by omega) (ev_pos (by omega) (ev_pos (by omega) ?_)))
        rw [Int.toNat_natCast, Int.toNat_natCast]
        refine Ev.bind hg (ev_pos (by rw [strOfNums_size]; omega) ?_)
        rw [bytesOf_nums _ (b64_rng (fun x hx => bytesOf_range s x (List.mem_of_mem_drop hx)))]
        refine ev_round ?_
        simp only [rosterref01_Base64.l0]
        exact ev_neg (by omega) (ev_eq rfl)
      · have hx : bytesOf (s.extract i (i + 3)) = ((bytesOf s).drop i).take 3 := by rw [bytesOf_extract, List.drop_take]; congr 1; omega
        have hg := group_ev (s.extract i (i + 3)) (by rw [ByteArray.size_extract]; omega) (by rw [ByteArray.size_extract]; omega)
        rw [hx] at hg
        have hl3 : (((bytesOf s).drop i).take 3).length = 3 := by rw [List.length_take, hll]; omega
        have hb4 : (b64 (((bytesOf s).drop i).take 3)).length = 4 := by rw [b64_len, hl3]
        have hsp : b64 ((bytesOf s).drop i) = b64 (((bytesOf s).drop i).take 3) ++ b64 ((bytesOf s).drop (i + 3)) := by
          conv => lhs; rw [← List.take_append_drop 3 ((bytesOf s).drop i)]
          rw [b64_append _ _ (by rw [hl3]), List.drop_drop]
        refine ev_neg (by omega) (ev_pos (by omega) (ev_pos (by omega) (ev_pos (by omega) ?_)))
        rw [Int.toNat_natCast, show ((i : Int) + 3).toNat = i + 3 from by omega]
        refine Ev.bind hg (ev_pos (by rw [strOfNums_size]; omega) ?_)
        rw [bytesOf_nums _ (b64_rng (fun x hx => bytesOf_range s x (List.mem_of_mem_drop (List.mem_of_mem_take hx))))]
        have := rb_loop s hs m (i + 3) (acc ++ b64 (((bytesOf s).drop i).take 3)) (by omega) (by omega) (by rw [List.length_append, hb4]; omega)
        rw [hsp, ← List.append_assoc]
        simpa using this
    · refine ev_round ?_
      simp only [rosterref01_Base64.l0]
      refine ev_neg (by omega) (ev_eq ?_)
      rw [List.drop_eq_nil_of_le (by rw [bytesOf_length]; omega)]
      simp [b64]
theorem rbase64_at (s : ByteArray) (hs : s.size ≤ 34359738368) : Ev (fun k => rosterref01_Base64.f k s) (strOfNums (b64 (bytesOf s))) := by
  have := rb_loop s hs s.size 0 [] (by omega) rfl (by simp)
  simpa [rosterref01_Base64.f] using this
/-! ### Fronts -/
theorem run_prefix {l : List Int} {st : St} (r : List Int) (h : runC st l = none) : runC st (l ++ r) = none := by
  induction l generalizing st with
  | nil => cases h
  | cons c l ih =>
    rw [runC] at h
    rw [List.cons_append, runC]
    cases hs : stepC st c with
    | none => rfl
    | some s1 => rw [hs] at h; exact ih h
theorem dec_some (g : ByteArray) : (decG g).2 = (runC st0 (bytesOf g)).isSome := by
  unfold decG decR
  cases runC st0 (bytesOf g) <;> rfl
theorem tail_bytes (n : Nat) (h1 : 1 ≤ n) (h4 : n ≤ 4) : bytesOf (tail n 0) = [] ∧ bytesOf (tail n 1) = [61] ∧ bytesOf (tail n 2) = (List.replicate (4 - n) 65) ∧ bytesOf (tail n 3) = [65, 65] := by
  rcases (show n = 1 ∨ n = 2 ∨ n = 3 ∨ n = 4 by omega) with rfl | rfl | rfl | rfl <;> exact ⟨rfl, rfl, by decide +kernel, rfl⟩
/-- Inside a group that is no whole one: nothing is whole behind it. -/
theorem rep_short {st : St} {l : List Int} (R : Rep st l) : ∃ q, l.length = 4 * q + st.g.length + st.p ∧ (b64 st.acc).length = 4 * q := by
  refine ⟨(st.acc.length + 2) / 3, ?_, by rw [b64_len]; omega⟩
  have := congrArg List.length R.all
  simp only [List.length_append, List.length_map, List.length_replicate, b64_len] at this
  omega
theorem on_65 (g : List Int) (acc : List Int) : stepC ⟨false, g, 0, acc⟩ 65 = some (more g 0 acc) := by
  simp [stepC, show w64 65 = some 0 from by decide]
theorem fit_run (t : ByteArray) (k : Nat) : fit t k = true ↔ (t ++ tail t.size k).size = 4 ∧ (runC st0 (bytesOf t ++ bytesOf (tail t.size k))).isSome = true := by
  unfold fit
  rw [Bool.and_eq_true, decide_eq_true_iff, dec_some, bytesOf_append]
theorem front_run (t : ByteArray) (h : t.size ≤ 4) : frontB t = (runC st0 (bytesOf t)).isSome := by
  unfold frontB
  by_cases h0 : t.size = 0
  · have : bytesOf t = [] := List.eq_nil_of_length_eq_zero (by rw [bytesOf_length]; exact h0)
    rw [if_pos h0, this]
    rfl
  · rw [if_neg h0, if_neg (by omega)]
    obtain ⟨T0, T1, T2, T3⟩ := tail_bytes t.size (by omega) h
    have sz : ∀ k, (t ++ tail t.size k).size = t.size + (bytesOf (tail t.size k)).length := fun k => by rw [ByteArray.size_append, bytesOf_length]
    cases hr : runC st0 (bytesOf t) with
    | none =>
      have hf : ∀ k, fit t k = false := fun k => by
        cases hk : fit t k with
        | false => rfl
        | true =>
          have := ((fit_run t k).1 hk).2
          rw [run_prefix _ hr] at this
          cases this
      rw [hf, hf, hf, hf]
      rfl
    | some st =>
      have R := rep_run rep0 hr
      rw [List.nil_append] at R
      obtain ⟨q, hq, _⟩ := rep_short R
      rw [bytesOf_length] at hq
      have ra : ∀ r, runC st0 (bytesOf t ++ r) = runC st r := fun r => run_append r hr
      suffices hs : fit t 0 = true ∨ fit t 1 = true ∨ fit t 2 = true ∨ fit t 3 = true by
        rcases hs with hs | hs | hs | hs <;> simp [hs]
      have cl : st.g ≠ [] → st.closed = false := fun hg => by
        cases hc : st.closed with
        | false => rfl
        | true => exact absurd (R.shut hc).2.1 hg
      obtain ⟨cl0, g, p, acc⟩ := st
      rcases R.form with ⟨h1, h2⟩ | ⟨a, h1, h2⟩ | ⟨a, b, h1, h2 | ⟨h2, h3⟩⟩ | ⟨a, b, c, h1, h2⟩
      · simp only at h1 h2
        subst h1; subst h2
        left
        refine (fit_run t 0).2 ⟨by rw [sz, T0]; simp at hq ⊢; omega, ?_⟩
        rw [ra, T0]
        rfl
      · simp only at h1 h2
        subst h1; subst h2
        obtain rfl : cl0 = false := cl (by simp)
        right; right; left
        have hn : t.size = 1 := by simp at hq; omega
        refine (fit_run t 2).2 ⟨by rw [sz, T2, hn]; rfl, ?_⟩
        rw [ra, T2, hn]
        simp only [show List.replicate (4 - 1) (65 : Int) = [65, 65, 65] from rfl, runC, on_65, more, List.cons_append, List.nil_append]
        rfl
      · simp only at h1 h2
        subst h1; subst h2
        obtain rfl : cl0 = false := cl (by simp)
        right; right; right
        have hn : t.size = 2 := by simp at hq; omega
        refine (fit_run t 3).2 ⟨by rw [sz, T3, hn]; rfl, ?_⟩
        rw [ra, T3]
        simp only [runC, on_65, more, List.cons_append, List.nil_append]
        rfl
      · simp only at h1 h2 h3
        subst h1; subst h2
        obtain rfl : cl0 = false := cl (by simp)
        right; left
        have hn : t.size = 3 := by simp at hq; omega
        refine (fit_run t 1).2 ⟨by rw [sz, T1, hn]; rfl, ?_⟩
        rw [ra, T1]
        simp [runC, stepC, pad]
      · simp only at h1 h2
        subst h1; subst h2
        obtain rfl : cl0 = false := cl (by simp)
        right; right; left
        have hn : t.size = 3 := by simp at hq; omega
        refine (fit_run t 2).2 ⟨by rw [sz, T2, hn]; rfl, ?_⟩
        rw [ra, T2, hn]
        simp only [show List.replicate (4 - 3) (65 : Int) = [65] from rfl, runC, on_65, more]
        rfl
/-- How far a text is the front of a group. -/
theorem short_loop (t : ByteArray) (h4 : t.size ≤ 4) (q : Nat) (hq : q ≤ t.size) (hn : q < t.size → runC st0 ((bytesOf t).take (q + 1)) = none) (hy : (runC st0 ((bytesOf t).take q)).isSome = true) :
    ∀ m i : Nat, i + m = q → Ev (fun k => rosterref01_short.l0 k t (i : Int) ((i + 1 : Nat) : Int)) (q : Int)
  | 0, i, hi => by
    obtain rfl : i = q := by omega
    refine ev_round ?_
    simp only [rosterref01_short.l0]
    by_cases h : i < t.size
    · refine ev_pos (by omega) (ev_pos (by omega) ?_)
      have hx : bytesOf (t.extract 0 (i + 1)) = (bytesOf t).take (i + 1) := by rw [bytesOf_extract, List.drop_zero]
      have hf : rosterref01_front.f (t.extract 0 (i + 1)) = some false := by
        unfold rosterref01_front.f
        rw [if_pos (by rw [ByteArray.size_extract]; omega), front_run _ (by rw [ByteArray.size_extract]; omega), hx, hn h]
        rfl
      rw [Int.toNat_natCast, hf]
      exact ev_some (ev_neg (by decide) (ev_eq rfl))
    · exact ev_neg (by omega) (ev_eq rfl)
  | m + 1, i, hi => by
    have ih := short_loop t h4 q hq hn hy m (i + 1) (by omega)
    refine ev_round ?_
    simp only [rosterref01_short.l0]
    refine ev_pos (by omega) (ev_pos (by omega) ?_)
    have hx : bytesOf (t.extract 0 (i + 1)) = (bytesOf t).take (i + 1) := by rw [bytesOf_extract, List.drop_zero]
    have hsm : (runC st0 ((bytesOf t).take (i + 1))).isSome = true := by
      cases hr : runC st0 ((bytesOf t).take (i + 1)) with
      | some _ => rfl
      | none =>
        have := run_prefix (((bytesOf t).take q).drop (i + 1)) hr
        rw [show (bytesOf t).take (i + 1) = ((bytesOf t).take q).take (i + 1) from by rw [List.take_take, Nat.min_eq_left (by omega)], List.take_append_drop] at this
        rw [this] at hy
        cases hy
    have hf : rosterref01_front.f (t.extract 0 (i + 1)) = some true := by
      unfold rosterref01_front.f
      rw [if_pos (by rw [ByteArray.size_extract]; omega), front_run _ (by rw [ByteArray.size_extract]; omega), hx, hsm]
    rw [Int.toNat_natCast, hf, wrp_id _ (by omega) (by omega)]
    exact ev_some (ev_pos rfl (by simpa using ih))
theorem short_ev (t : ByteArray) (h4 : t.size ≤ 4) (q : Nat) (hq : q ≤ t.size) (hn : q < t.size → runC st0 ((bytesOf t).take (q + 1)) = none) (hy : (runC st0 ((bytesOf t).take q)).isSome = true) : Ev (fun k => rosterref01_short.f k t) (q : Int) := by
  have := short_loop t h4 q hq hn hy q 0 (by omega)
  simpa [rosterref01_short.f] using this
/-! ### The reader -/
theorem stepC_shift (cl : Bool) (g : List Int) (p : Nat) (acc m : List Int) (c : Int) : stepC ⟨cl, g, p, m ++ acc⟩ c = (stepC ⟨cl, g, p, acc⟩ c).map fun st => ⟨st.closed, st.g, st.p, m ++ st.acc⟩ := by
  unfold stepC
  simp only
  split
  · rfl
  · split
    · unfold pad
      split <;> (try split) <;> simp
    · cases w64 c with
      | none => rfl
      | some w =>
        simp only
        split
        · unfold more
          split <;> simp
        · rfl
theorem runC_shift (m : List Int) : ∀ (l : List Int) (st : St), runC ⟨st.closed, st.g, st.p, m ++ st.acc⟩ l = (runC st l).map fun st => ⟨st.closed, st.g, st.p, m ++ st.acc⟩
  | [], st => rfl
  | c :: l, st => by
    rw [runC, runC, stepC_shift]
    cases hs : stepC ⟨st.closed, st.g, st.p, st.acc⟩ c with
    | none => rfl
    | some s1 =>
      have := runC_shift m l s1
      exact this
theorem run_from (m l : List Int) : runC ⟨false, [], 0, m⟩ l = (runC st0 l).map fun st => ⟨st.closed, st.g, st.p, m ++ st.acc⟩ := by
  have := runC_shift m l st0
  simpa [st0] using this
def outp (r : List Int × Int × Int) : ByteArray × Int × Int := (strOfNums r.1, r.2.1, r.2.2)
theorem last_b64 : ∀ (m : List Int), (∀ x ∈ m, 0 ≤ x ∧ x ≤ 255) → m.length ≤ 3 → 1 ≤ m.length → ((b64 m).getD 3 0 = 61 ↔ m.length % 3 ≠ 0)
  | [], _, _, h => by simp at h
  | [a], _, _, _ => by simp [b64]
  | [a, b], _, _, _ => by simp [b64]
  | [a, b, c], h, _, _ => by
    have := h c (by simp)
    simp only [b64, List.length_cons, List.length_nil]
    have := l64_ne (c % 64) (by omega) (by omega)
    simpa using this
  | a :: b :: c :: d :: r, _, h, _ => by simp at h
/-- Four characters that are taken are a whole group. -/
theorem four_whole {l : List Int} {st : St} (hl : l.length = 4) (h : runC st0 l = some st) : st.g = [] ∧ st.p = 0 ∧ l = b64 st.acc ∧ st.acc.length ≤ 3 ∧ 1 ≤ st.acc.length ∧ (∀ x ∈ st.acc, 0 ≤ x ∧ x ≤ 255) ∧ st.closed = decide (st.acc.length % 3 ≠ 0) := by
  have R := rep_run rep0 h
  rw [List.nil_append] at R
  obtain ⟨q, hq, hb⟩ := rep_short R
  rw [hl] at hq
  have hg : st.g = [] ∧ st.p = 0 := by
    rcases R.form with h | ⟨a, h1, h2⟩ | ⟨a, b, h1, h2⟩ | ⟨a, b, c, h1, h2⟩
    · exact h
    all_goals (rw [h1] at hq; simp at hq; omega)
  have ha := R.all
  rw [hg.1, hg.2] at ha hq
  simp only [List.map_nil, List.append_nil, List.replicate_zero] at ha
  simp only [List.length_nil] at hq
  rw [b64_len] at hb
  refine ⟨hg.1, hg.2, ha, by omega, by omega, R.accr, ?_⟩
  cases hc : st.closed with
  | false => have := R.whole hc; simp [this]
  | true => have := (R.shut hc).1; simp [this]
theorem unb_loop (s : ByteArray) (hs : s.size ≤ 34359738368) : ∀ (m i : Nat) (cl : Bool) (acc : List Int), s.size = i + m → i % 4 = 0 → acc.length ≤ i → (i = 0 → cl = false) → (0 < i → cl = decide ((bytesOf s).getD (i - 1) 0 = 61)) →
    Ev (fun k => rosterref01_Unbase64.l0 k s acc (i : Int)) (outp (unB ⟨cl, [], 0, acc⟩ (i : Int) ((bytesOf s).drop i))) := by
  intro m
  induction m using Nat.strongRecOn with
  | ind m ih =>
    intro i cl acc hi h4 ha h0 hc
    have hll : ((bytesOf s).drop i).length = m := by rw [List.length_drop, bytesOf_length]; omega
    by_cases hm : m = 0
    · subst hm
      refine ev_round ?_
      simp only [rosterref01_Unbase64.l0]
      refine ev_neg (by omega) (ev_eq ?_)
      rw [List.eq_nil_of_length_eq_zero hll]
      simp only [unB, fin, outp, if_true]
      rw [hi]
      simp
    · have hcl : Ev (fun k => rosterref01_Unbase64.j1 k s acc (i : Int) cl) (outp (unB ⟨cl, [], 0, acc⟩ (i : Int) ((bytesOf s).drop i))) := by
        refine ev_round ?_
        simp only [rosterref01_Unbase64.j1]
        rw [wrp_id ((i : Int) + 4) (by omega) (by omega)]
        cases cl with
        | true =>
          refine ev_pos rfl (ev_eq ?_)
          cases hd : (bytesOf s).drop i with
          | nil => rw [hd] at hll; simp at hll; omega
          | cons c r => simp [unB, stepC, outp]; rfl
        | false =>
          refine ev_neg (by decide) ?_
          -- what a front of the rest does
          have place : ∀ (t : ByteArray) (n : Nat), bytesOf t = ((bytesOf s).drop i).take n → n ≤ m → n ≤ 4 → (n = 4 → runC st0 (((bytesOf s).drop i).take n) = none) → (n < 4 → n = m) →
              ∃ q : Nat, Ev (fun k => rosterref01_short.f k t) (q : Int) ∧ unB ⟨false, [], 0, acc⟩ (i : Int) ((bytesOf s).drop i) = ([], 12, (i : Int) + q) ∧ q ≤ 4 := by
            intro t n ht hnm hn4 hnone hlt
            have htl : t.size = n := by rw [← bytesOf_length, ht, List.length_take, hll]; omega
            rcases run_or (((bytesOf s).drop i).take n) st0 with ⟨st', h⟩ | ⟨q, st', h1, h2, h3⟩
            · have hn : n < 4 := by
                rcases Nat.lt_or_ge n 4 with h' | h'
                · exact h'
                · have := hnone (by omega); rw [h] at this; cases this
              have hnm' := hlt hn
              have R := rep_run rep0 h
              rw [List.nil_append] at R
              obtain ⟨q, hq, _⟩ := rep_short R
              rw [List.length_take, hll] at hq
              have hg : st'.g ≠ [] := by
                rcases R.form with ⟨h1, h2⟩ | ⟨a, h1, h2⟩ | ⟨a, b, h1, h2⟩ | ⟨a, b, c, h1, h2⟩
                · rw [h1, h2] at hq; simp at hq; omega
                all_goals (rw [h1]; simp)
              have htk : ((bytesOf s).drop i).take n = (bytesOf s).drop i := List.take_of_length_le (by omega)
              refine ⟨n, short_ev t (by omega) n (by omega) (fun z => by omega) (by rw [ht, List.take_take, Nat.min_self, h]; rfl), ?_, hn4⟩
              have hr : runC ⟨false, [], 0, acc⟩ ((bytesOf s).drop i) = some ⟨st'.closed, st'.g, st'.p, acc ++ st'.acc⟩ := by rw [run_from, ← htk, h]; rfl
              have := unB_run [] (i : Int) hr
              rw [List.append_nil] at this
              rw [this, unB, fin, if_neg hg, hll, hnm']
            · rw [List.length_take, hll] at h1
              have hq : q < n := by omega
              rw [List.take_take, Nat.min_eq_left (by omega)] at h2
              have hgd : (((bytesOf s).drop i).take n).getD q 0 = ((bytesOf s).drop i).getD q 0 := by
                simp only [List.getD_eq_getElem?_getD, List.getElem?_take, if_pos hq]
              rw [hgd] at h3
              have hr : runC ⟨false, [], 0, acc⟩ (((bytesOf s).drop i).take q) = some ⟨st'.closed, st'.g, st'.p, acc ++ st'.acc⟩ := by rw [run_from, h2]; rfl
              have hst : stepC ⟨st'.closed, st'.g, st'.p, acc ++ st'.acc⟩ (((bytesOf s).drop i).getD q 0) = none := by
                rw [stepC_shift]
                have : stepC ⟨st'.closed, st'.g, st'.p, st'.acc⟩ (((bytesOf s).drop i).getD q 0) = none := h3
                rw [this]
                rfl
              refine ⟨q, short_ev t (by omega) q (by omega) (fun z => ?_) (by rw [ht, List.take_take, Nat.min_eq_left (by omega), h2]; rfl), unB_refused (i : Int) (by omega) hr hst, by omega⟩
              rw [ht, List.take_take, Nat.min_eq_left (by omega)]
              have hsp : ((bytesOf s).drop i).take (q + 1) = ((bytesOf s).drop i).take q ++ [((bytesOf s).drop i).getD q 0] := by
                rw [List.take_succ_eq_append_getElem (by omega)]
                simp [List.getD_eq_getElem?_getD, List.getElem?_eq_getElem (show q < ((bytesOf s).drop i).length by omega)]
              rw [hsp, run_append _ h2, runC, h3]
          by_cases hx : i + 4 > s.size
          · refine ev_pos (by omega) (ev_pos (by omega) (ev_pos (by omega) ?_))
            rw [Int.toNat_natCast]
            obtain ⟨q, hq, hu, hq4⟩ := place (s.extract i s.size) m (by rw [bytesOf_extract, List.take_of_length_le (by rw [bytesOf_length]; exact Nat.le_refl _), List.take_of_length_le (by omega)]) (Nat.le_refl _) (by omega) (fun z => by omega) (fun _ => rfl)
            refine Ev.bind hq (ev_eq ?_)
            rw [wrp_id _ (by omega) (by omega), hu]
            rfl
          · refine ev_neg (by omega) (ev_pos (by omega) (ev_pos (by omega) (ev_pos (by omega) ?_)))
            rw [Int.toNat_natCast, show ((i : Int) + 4).toNat = i + 4 from by omega]
            have hxb : bytesOf (s.extract i (i + 4)) = ((bytesOf s).drop i).take 4 := by rw [bytesOf_extract, List.drop_take]; congr 1; omega
            have hx4 : (s.extract i (i + 4)).size = 4 := by rw [ByteArray.size_extract]; omega
            have hl4 : (((bytesOf s).drop i).take 4).length = 4 := by rw [List.length_take, hll]; omega
            obtain ⟨c0, c1, c2, c3, hcs⟩ := size4 _ hx4
            have hbe := bytesOf_ev _ c0 c1 c2 c3 hcs
            rw [← hcs, hxb] at hbe
            refine Ev.bind hbe ?_
            cases hr : runC st0 (((bytesOf s).drop i).take 4) with
            | none =>
              have hd : decR (((bytesOf s).drop i).take 4) = (⟨#[]⟩, false) := by unfold decR; rw [hr]
              rw [hd]
              refine ev_neg (by simp) ?_
              obtain ⟨q, hq, hu, hq4⟩ := place (s.extract i (i + 4)) 4 hxb (by omega) (by omega) (fun _ => hr) (fun z => by omega)
              refine Ev.bind hq (ev_eq ?_)
              rw [wrp_id _ (by omega) (by omega), hu]
              rfl
            | some st =>
              have hd : decR (((bytesOf s).drop i).take 4) = (strOfNums st.acc, true) := by unfold decR; rw [hr]
              obtain ⟨g1, g2, g3, g4, g5, g6, g7⟩ := four_whole hl4 hr
              rw [hd]
              refine ev_pos rfl (ev_pos (by simp only [strOfNums_size]; omega) ?_)
              simp only
              rw [bytesOf_nums _ g6]
              have hgl : (bytesOf s).getD (i + 4 - 1) 0 = (b64 st.acc).getD 3 0 := by
                rw [← g3]
                simp only [List.getD_eq_getElem?_getD, List.getElem?_take, List.getElem?_drop]
                rw [if_pos (by omega), show i + 4 - 1 = i + 3 from by omega]
              have := ih (m - 4) (by omega) (i + 4) st.closed (acc ++ st.acc) (by omega) (by omega) (by rw [List.length_append]; omega) (fun z => by omega) (fun _ => by
                rw [hgl, g7]
                exact decide_eq_decide.mpr (last_b64 _ g6 g4 g5).symm)
              have hru : runC ⟨false, [], 0, acc⟩ (((bytesOf s).drop i).take 4) = some ⟨st.closed, [], 0, acc ++ st.acc⟩ := by rw [run_from, hr]; simp [g1, g2]
              have hsplit := unB_run (((bytesOf s).drop i).drop 4) (i : Int) hru
              rw [List.take_append_drop, hl4, List.drop_drop] at hsplit
              rw [hsplit]
              simpa using this
      refine ev_round ?_
      simp only [rosterref01_Unbase64.l0]
      refine ev_pos (by omega) ?_
      by_cases hi0 : i = 0
      · have := h0 hi0
        subst hi0
        rw [this] at hcl
        refine ev_neg (by decide) ?_
        rw [this]
        exact hcl
      · have hcv := hc (by omega)
        rw [wrp_id ((i : Int) - 1) (by omega) (by omega)]
        refine ev_pos (by omega) (ev_pos (by omega) (ev_pos (by omega) ?_))
        have hbt : (bt s ((i : Int) - 1) == 61) = cl := by
          rw [hcv, bt_byte, show ((i : Int) - 1).toNat = i - 1 from by omega]
          rfl
        rw [hbt]
        exact hcl
theorem runbase64_at (s : ByteArray) (hs : s.size ≤ 34359738368) : Ev (fun k => rosterref01_Unbase64.f k s) (outp (unS s)) := by
  have := unb_loop s hs s.size 0 false [] (by omega) rfl (by simp) (fun _ => rfl) (fun z => by omega)
  simpa [rosterref01_Unbase64.f, unS, st0] using this
theorem unbases_at (s : ByteArray) (hs : s.size ≤ 34359738368) : Ev (fun k => rosterlaw01_unbases.f k s) true := by
  have hu : text_Unbase64.f s = some (outp (unS s)) := by unfold text_Unbase64.f; rw [if_pos (by omega)]; rfl
  simp only [rosterlaw01_unbases.f, rosterlaw01_num.f, Option.bind_some, hu]
  refine Ev.bind (runbase64_at s hs) (ev_pos rfl (ev_pos rfl (ev_eq ?_)))
  simp
end Go.Proofs.YtppnhlkfkedlmaaDoor.BasesEvA
namespace Go.Proofs.YtppnhlkfkedlmaaDoor.SafeEv
open Go.RowKit Go.Proofs.YtppnhlkfkedlmaaDoor.XA Go.Proofs.YtppnhlkfkedlmaaDoor.XS Go.Proofs.YtppnhlkfkedlmaaDoor.XV Go.Proofs.YtppnhlkfkedlmaaDoorW.PrintWords Go.Proofs.YtppnhlkfkedlmaaDoorW.PrintLast
theorem rsafe_l (s : ByteArray) (hs : s.size ≤ 4611686018427387904) : ∀ m i : Nat, s.size - i = m → i ≤ s.size → Ev (fun k => rosterref01_Safe.l0 k s (i : Int)) (safeL (decide (i = 0)) ((bytesOf s).drop i)) := by
  intro m
  induction m with
  | zero =>
    intro i hm hi
    have hl : (bytesOf s).drop i = [] := List.drop_eq_nil_of_le (by rw [bytesOf_length]; omega)
    rw [hl]
    refine ev_round ?_
    simp only [rosterref01_Safe.l0]
    exact ev_neg (by omega) (ev_eq rfl)
  | succ m ih =>
    intro i hm hi
    have hlt : i < s.size := by omega
    refine ev_round ?_
    simp only [rosterref01_Safe.l0]
    refine ev_pos (by omega) (ev_pos (by omega) ?_)
    have hn : Ev (fun k => rosterref01_Safe.l0 k s (wrap64 ((i : Int) + 1))) (safeL false ((bytesOf s).drop (i + 1))) := by
      rw [wrp_id _ (by omega) (by omega)]
      exact ih (i + 1) (by omega) (by omega)
    rw [drop_cons s i hlt]
    have j : ∀ b : Bool, (b = true ↔ bt s (i : Int) = 0 ∨ bt s (i : Int) = 10 ∨ bt s (i : Int) = 13 ∨ bt s (i : Int) > 127) → Ev (fun k => rosterref01_Safe.j1 k s (i : Int) (bt s (i : Int)) b) (safeL (decide (i = 0)) (bt s (i : Int) :: (bytesOf s).drop (i + 1))) := by
      intro b hb
      refine ev_round ?_
      simp only [rosterref01_Safe.j1]
      by_cases hbt : b = true
      · refine ev_pos hbt (ev_eq ?_)
        rw [safeL, if_pos (hb.1 hbt)]
      · have hb' := fun z => hbt (hb.2 z)
        refine ev_neg hbt ?_
        rw [safeL, if_neg hb']
        by_cases h0 : (i : Int) = 0
        · refine ev_pos h0 ?_
          have hd : decide (i = 0) = true := decide_eq_true (by omega)
          by_cases c1 : bt s (i : Int) = 32
          · exact ev_pos c1 (ev_eq (by rw [if_pos ⟨hd, .inl c1⟩]))
          by_cases c2 : bt s (i : Int) = 58
          · exact ev_neg c1 (ev_pos c2 (ev_eq (by rw [if_pos ⟨hd, .inr (.inl c2)⟩])))
          by_cases c3 : bt s (i : Int) = 60
          · exact ev_neg c1 (ev_neg c2 (ev_pos c3 (ev_eq (by rw [if_pos ⟨hd, .inr (.inr c3)⟩]))))
          · rw [if_neg (fun z => by omega)]
            exact ev_neg c1 (ev_neg c2 (ev_neg c3 hn))
        · refine ev_neg h0 ?_
          rw [if_neg (fun z => h0 (by have := of_decide_eq_true z.1; omega))]
          exact hn
    by_cases c1 : bt s (i : Int) = 0
    · exact ev_pos c1 (j true ⟨fun _ => .inl c1, fun _ => rfl⟩)
    by_cases c2 : bt s (i : Int) > 127
    · exact ev_neg c1 (ev_pos c2 (j true ⟨fun _ => .inr (.inr (.inr c2)), fun _ => rfl⟩))
    by_cases c3 : bt s (i : Int) = 10
    · exact ev_neg c1 (ev_neg c2 (ev_pos c3 (j true ⟨fun _ => .inr (.inl c3), fun _ => rfl⟩)))
    · refine ev_neg c1 (ev_neg c2 (ev_neg c3 (j _ ⟨fun z => .inr (.inr (.inl (beq_iff_eq.1 z))), fun z => beq_iff_eq.2 (by omega)⟩)))
theorem safe_at (s : ByteArray) (hs : s.size ≤ 4611686018427387904) : text_Safe.f s = some (safeL true (bytesOf s)) := if_pos hs
theorem rsafe_at (s : ByteArray) (hs : s.size ≤ 4611686018427387904) : Ev (fun k => rosterref01_Safe.f k s) (safeL true (bytesOf s)) := by
  have := rsafe_l s hs s.size 0 (by omega) (by omega)
  simpa [rosterref01_Safe.f] using this
theorem plain_at (s : ByteArray) (hs : s.size ≤ 4611686018427387904) : ∃ r, text_Plain.f s = some r ∧ Ev (fun k => rosterref01_Plain.f k s) r := by
  have hF : ∃ r, (if safeL true (bytesOf s) = true then (if s.toList = ([] : List UInt8) then (some true) else (if 0 ≤ (wrap64 ((s.size : Int) - 1)) then (if (wrap64 ((s.size : Int) - 1)) < (s.size : Int) then (some ((bt s (wrap64 ((s.size : Int) - 1))) != 32)) else (none)) else (none))) else (some false)) = some r := by
    by_cases h1 : safeL true (bytesOf s) = true
    · rw [if_pos h1]
      by_cases h2 : s.toList = ([] : List UInt8)
      · exact ⟨_, if_pos h2⟩
      · have hp : 0 < s.size := by
          rcases Nat.eq_zero_or_pos s.size with h | h
          · exfalso; apply h2
            rw [toList_data]
            have : s.data.size = 0 := h
            exact List.eq_nil_of_length_eq_zero (by simpa using this)
          · exact h
        rw [if_neg h2, wrp_id _ (by omega) (by omega), if_pos (by omega), if_pos (by omega)]
        exact ⟨_, rfl⟩
    · exact ⟨_, if_neg h1⟩
  obtain ⟨r, hr⟩ := hF
  refine ⟨r, ?_, ?_⟩
  · unfold text_Plain.f
    rw [safe_at s hs]
    exact hr
  · unfold rosterref01_Plain.f
    exact Ev.bind (rsafe_at s hs) (Ev.congr (fun _ => hr) (Ev.now r))
end Go.Proofs.YtppnhlkfkedlmaaDoor.SafeEv

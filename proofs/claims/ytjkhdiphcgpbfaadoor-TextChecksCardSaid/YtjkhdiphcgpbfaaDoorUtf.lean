/- UTF-8 on lists of byte numbers, without any program: the length of the sequence at the front (sq), how far whole sequences go (vp), and what the two say of joined and of cut texts. -/
import Derived.WalkKit
set_option linter.unusedVariables false
set_option linter.unusedSimpArgs false
namespace Go.Proofs.YtjkhdiphcgpbfaaDoor.Utf

def lo1 (b0 : Int) : Int := if b0 = 224 then 160 else if b0 = 240 then 144 else 128
def hi1 (b0 : Int) : Int := if b0 = 237 then 159 else if b0 = 244 then 143 else 191

/-- The length of the sequence with which the bytes begin; 0: they begin with none. -/
def sq : List Int → Nat
  | [] => 0
  | b0 :: r =>
    if b0 < 128 then 1
    else if b0 < 194 then 0
    else if b0 ≤ 223 then
      match r with
      | b1 :: _ => if 128 ≤ b1 ∧ b1 ≤ 191 then 2 else 0
      | _ => 0
    else if b0 ≤ 239 then
      match r with
      | b1 :: b2 :: _ => if lo1 b0 ≤ b1 ∧ b1 ≤ hi1 b0 ∧ 128 ≤ b2 ∧ b2 ≤ 191 then 3 else 0
      | _ => 0
    else if b0 ≤ 244 then
      match r with
      | b1 :: b2 :: b3 :: _ => if lo1 b0 ≤ b1 ∧ b1 ≤ hi1 b0 ∧ 128 ≤ b2 ∧ b2 ≤ 191 ∧ 128 ≤ b3 ∧ b3 ≤ 191 then 4 else 0
      | _ => 0
    else 0

theorem sq_le (l : List Int) : sq l ≤ l.length := by
  match l with
  | [] => simp [sq]
  | [b0] => simp only [sq, List.length_cons, List.length_nil]; (repeat' split) <;> omega
  | [b0, b1] => simp only [sq, List.length_cons, List.length_nil]; (repeat' split) <;> omega
  | [b0, b1, b2] => simp only [sq, List.length_cons, List.length_nil]; (repeat' split) <;> omega
  | b0 :: b1 :: b2 :: b3 :: r => simp only [sq, List.length_cons]; (repeat' split) <;> omega

theorem sq_le4 (l : List Int) : sq l ≤ 4 := by
  match l with
  | [] => simp [sq]
  | [b0] => simp only [sq]; (repeat' split) <;> omega
  | [b0, b1] => simp only [sq]; (repeat' split) <;> omega
  | [b0, b1, b2] => simp only [sq]; (repeat' split) <;> omega
  | b0 :: b1 :: b2 :: b3 :: r => simp only [sq]; (repeat' split) <;> omega

/-- A sequence that stands stays, whatever follows. -/
theorem sq_append (l m : List Int) (h : sq l ≠ 0) : sq (l ++ m) = sq l := by
  match l with
  | [] => simp [sq] at h
  | [b0] =>
    simp only [sq] at h ⊢
    simp only [List.cons_append, List.nil_append, sq]
    (repeat' split at h) <;> simp_all
  | [b0, b1] =>
    simp only [sq] at h ⊢
    simp only [List.cons_append, List.nil_append, sq]
    (repeat' split at h) <;> simp_all
  | [b0, b1, b2] =>
    simp only [sq] at h ⊢
    simp only [List.cons_append, List.nil_append, sq]
    (repeat' split at h) <;> simp_all
  | b0 :: b1 :: b2 :: b3 :: r => simp only [List.cons_append, sq]

/-- Four bytes decide. -/
theorem sq_append4 (l m : List Int) (h : 4 ≤ l.length) : sq (l ++ m) = sq l := by
  match l with
  | [] => simp at h
  | [b0] => simp at h
  | [b0, b1] => simp at h
  | [b0, b1, b2] => simp at h
  | b0 :: b1 :: b2 :: b3 :: r => simp only [List.cons_append, sq]

/-- A front that holds the sequence begins with it. -/
theorem sq_take (l : List Int) (k : Nat) (h : sq l ≤ k) : sq (l.take k) = sq l := by
  by_cases h0 : sq l = 0
  · rw [h0]
    by_cases ht : sq (l.take k) = 0
    · exact ht
    · have := sq_append (l.take k) (l.drop k) ht
      rw [List.take_append_drop] at this
      omega
  · match l with
    | [] => simp
    | [b0] => match k with
      | 0 => omega
      | k + 1 => simp
    | [b0, b1] => match k with
      | 0 => omega
      | 1 =>
        simp only [sq] at h h0 ⊢
        simp only [List.take_succ_cons, List.take_zero, sq]
        (repeat' split at h) <;> simp_all
      | k + 2 => simp
    | [b0, b1, b2] => match k with
      | 0 => omega
      | 1 =>
        simp only [sq] at h h0 ⊢
        simp only [List.take_succ_cons, List.take_zero, sq]
        (repeat' split at h) <;> simp_all
      | 2 =>
        simp only [sq] at h h0 ⊢
        simp only [List.take_succ_cons, List.take_zero, sq]
        (repeat' split at h) <;> simp_all
      | k + 3 => simp
    | b0 :: b1 :: b2 :: b3 :: r => match k with
      | 0 => omega
      | 1 =>
        simp only [sq] at h h0 ⊢
        simp only [List.take_succ_cons, List.take_zero, sq]
        (repeat' split at h) <;> simp_all
      | 2 =>
        simp only [sq] at h h0 ⊢
        simp only [List.take_succ_cons, List.take_zero, sq]
        (repeat' split at h) <;> simp_all
      | 3 =>
        simp only [sq] at h h0 ⊢
        simp only [List.take_succ_cons, List.take_zero, sq]
        (repeat' split at h) <;> simp_all
      | k + 4 => simp only [List.take_succ_cons, sq]

theorem ite_both {α : Type} (p q : Prop) [Decidable p] [Decidable q] (a b : α) : (if p ∧ q then a else b) = if p then (if q then a else b) else b := by
  by_cases hp : p
  · by_cases hq : q
    · rw [if_pos ⟨hp, hq⟩, if_pos hp, if_pos hq]
    · rw [if_neg (fun h => hq h.2), if_pos hp, if_neg hq]
  · rw [if_neg (fun h => hp h.1), if_neg hp]
/-- The same, by the bytes' places. -/
theorem sq_form (l : List Int) (h : 0 < l.length) : sq l =
    if l.getD 0 0 < 128 then 1 else if l.getD 0 0 < 194 then 0
    else if l.getD 0 0 ≤ 223 then (if 2 ≤ l.length then if 128 ≤ l.getD 1 0 then if l.getD 1 0 ≤ 191 then 2 else 0 else 0 else 0)
    else if l.getD 0 0 ≤ 239 then (if 3 ≤ l.length then if lo1 (l.getD 0 0) ≤ l.getD 1 0 then if l.getD 1 0 ≤ hi1 (l.getD 0 0) then if 128 ≤ l.getD 2 0 then if l.getD 2 0 ≤ 191 then 3 else 0 else 0 else 0 else 0 else 0)
    else if l.getD 0 0 ≤ 244 then (if 4 ≤ l.length then if lo1 (l.getD 0 0) ≤ l.getD 1 0 then if l.getD 1 0 ≤ hi1 (l.getD 0 0) then if 128 ≤ l.getD 2 0 then if l.getD 2 0 ≤ 191 then if 128 ≤ l.getD 3 0 then if l.getD 3 0 ≤ 191 then 4 else 0 else 0 else 0 else 0 else 0 else 0 else 0)
    else 0 := by
  match l with
  | [] => simp at h
  | [b0] => simp [sq]
  | [b0, b1] => simp [sq, ite_both]
  | [b0, b1, b2] => simp [sq, ite_both]
  | b0 :: b1 :: b2 :: b3 :: r => simp [sq, ite_both]

/-- How far whole sequences go. -/
def vp (l : List Int) : Nat := if h : sq l = 0 then 0 else sq l + vp (l.drop (sq l))
termination_by l.length
decreasing_by
  have := sq_le l
  rw [List.length_drop]
  omega

theorem vp_zero {l : List Int} (h : sq l = 0) : vp l = 0 := by rw [vp, dif_pos h]
theorem vp_step {l : List Int} (h : sq l ≠ 0) : vp l = sq l + vp (l.drop (sq l)) := by rw [vp, dif_neg h]
theorem vp_nil : vp [] = 0 := vp_zero rfl

theorem vp_le (l : List Int) : vp l ≤ l.length := by
  by_cases h : sq l = 0
  · rw [vp_zero h]; omega
  · rw [vp_step h]
    have h1 := sq_le l
    have h2 := vp_le (l.drop (sq l))
    rw [List.length_drop] at h2
    omega
termination_by l.length
decreasing_by
  have := sq_le l
  rw [List.length_drop]
  omega

theorem vp_append (a b : List Int) (h : vp a = a.length) : vp (a ++ b) = a.length + vp b := by
  by_cases h0 : sq a = 0
  · rw [vp_zero h0] at h
    obtain rfl : a = [] := List.eq_nil_of_length_eq_zero h.symm
    simp
  · have h1 := sq_le a
    rw [vp_step h0] at h
    have hs := sq_append a b h0
    rw [vp_step (by rw [hs]; exact h0), hs, List.drop_append_of_le_length h1]
    have ih := vp_append (a.drop (sq a)) b (by rw [List.length_drop]; omega)
    rw [ih, List.length_drop]
    omega
termination_by a.length
decreasing_by
  have := sq_le a
  rw [List.length_drop]
  omega

theorem vp_take (a : List Int) : vp (a.take (vp a)) = vp a := by
  by_cases h0 : sq a = 0
  · rw [vp_zero h0]; simp [vp_nil]
  · have h1 := sq_le a
    have hv := vp_step h0
    have hs := sq_take a (vp a) (by omega)
    have hd : (a.take (vp a)).drop (sq a) = (a.drop (sq a)).take (vp (a.drop (sq a))) := by
      rw [List.drop_take, hv]
      congr 1
      omega
    have ih := vp_take (a.drop (sq a))
    rw [vp_step (l := a.take (vp a)) (by rw [hs]; exact h0), hs, hd, ih]
    exact hv.symm
termination_by a.length
decreasing_by
  have := sq_le a
  rw [List.length_drop]
  omega

theorem vp_fault (a b : List Int) (h : vp a + 4 ≤ a.length) : vp (a ++ b) = vp a := by
  by_cases h0 : sq a = 0
  · rw [vp_zero h0] at h ⊢
    have hs := sq_append4 a b (by omega)
    exact vp_zero (by rw [hs]; exact h0)
  · have h1 := sq_le a
    have hs := sq_append a b h0
    rw [vp_step h0] at h ⊢
    rw [vp_step (by rw [hs]; exact h0), hs, List.drop_append_of_le_length h1, vp_fault (a.drop (sq a)) b (by rw [List.length_drop]; omega)]
termination_by a.length
decreasing_by
  have := sq_le a
  rw [List.length_drop]
  omega

/-- Where a step of the walk leads. -/
theorem vp_drop {l : List Int} {i : Nat} (h : sq (l.drop i) ≠ 0) : i + vp (l.drop i) = (i + sq (l.drop i)) + vp (l.drop (i + sq (l.drop i))) := by
  rw [vp_step h, List.drop_drop]
  omega

end Go.Proofs.YtjkhdiphcgpbfaaDoor.Utf

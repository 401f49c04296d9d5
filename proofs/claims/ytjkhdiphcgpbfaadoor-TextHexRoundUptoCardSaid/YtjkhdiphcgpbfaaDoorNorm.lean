/- Folding, collapsing, squeezing and normal forms, on lists of byte numbers, without any program. -/
import Derived.WalkKit
set_option linter.unusedVariables false
set_option linter.unusedSimpArgs false
namespace Go.Proofs.YtjkhdiphcgpbfaaDoor.Norm

def lowN (c : Int) : Int := if 65 ≤ c ∧ c ≤ 90 then c + 32 else c
def foldN (l : List Int) : List Int := l.map lowN
def blankI (c : Int) : Bool := decide (c = 32) || (decide (9 ≤ c) && decide (c ≤ 13))
/-- Every run of blanks one space; p: was the byte ahead one? -/
def colL : Bool → List Int → List Int
  | _, [] => []
  | p, c :: r => if blankI c = true then (if p = true then colL true r else 32 :: colL true r) else c :: colL false r
/-- Without a space at the end. -/
def stripT : List Int → List Int
  | [] => []
  | [x] => if x = 32 then [] else [x]
  | x :: y :: r => x :: stripT (y :: r)
/-- What is written behind a word; p: with blanks between. -/
def em : Bool → List Int → List Int
  | _, [] => []
  | p, c :: r => if blankI c = true then em true r else (if p = true then 32 :: c :: em false r else c :: em false r)
/-- Squeezed. -/
def nm : List Int → List Int
  | [] => []
  | c :: r => if blankI c = true then nm r else c :: em false r

theorem blank32 : blankI 32 = true := by decide
theorem blank_ne {c : Int} (h : blankI c = false) : c ≠ 32 := by rintro rfl; rw [blank32] at h; cases h
theorem low_low (c : Int) : lowN (lowN c) = lowN c := by unfold lowN; (repeat' split) <;> omega
theorem fold_fold (l : List Int) : foldN (foldN l) = foldN l := by
  induction l with
  | nil => rfl
  | cons c l ih => simp only [foldN, List.map_cons, low_low] at ih ⊢; rw [ih]
theorem blank_low (c : Int) : blankI (lowN c) = blankI c := by
  unfold lowN
  split
  · unfold blankI
    have h1 : decide (c + 32 = 32) = false := decide_eq_false (by omega)
    have h2 : decide (c = 32) = false := decide_eq_false (by omega)
    have h3 : decide (c + 32 ≤ 13) = false := decide_eq_false (by omega)
    have h4 : decide (c ≤ 13) = false := decide_eq_false (by omega)
    rw [h1, h2, h3, h4]
    simp
  · rfl
theorem low32 : lowN 32 = 32 := by decide

theorem strip_cons {c : Int} (hc : c ≠ 32) (l : List Int) : stripT (c :: l) = c :: stripT l := by
  cases l with
  | nil => simp [stripT, hc]
  | cons d l => rfl
theorem strip_col : ∀ r, stripT (colL false r) = em false r ∧ stripT (32 :: colL true r) = em true r
  | [] => by simp [colL, em, stripT]
  | c :: r => by
    obtain ⟨h1, h2⟩ := strip_col r
    cases hb : blankI c with
    | true => simp only [colL, em, hb, if_true]; exact ⟨h2, h2⟩
    | false =>
      have hc := blank_ne hb
      simp only [colL, em, hb, if_true, Bool.false_eq_true, if_false]
      refine ⟨by rw [strip_cons hc, h1], ?_⟩
      show 32 :: stripT (c :: colL false r) = _
      rw [strip_cons hc, h1]
theorem strip_nm : ∀ l, stripT (colL true l) = nm l
  | [] => rfl
  | c :: r => by
    cases hb : blankI c with
    | true => simp only [colL, nm, hb, if_true]; exact strip_nm r
    | false =>
      simp only [colL, nm, hb, Bool.false_eq_true, if_false]
      rw [strip_cons (blank_ne hb), (strip_col r).1]
/-- Without the space at the front. -/
theorem col_front : ∀ l, colL true l = match colL false l with | x :: r => if x = 32 then r else x :: r | [] => []
  | [] => rfl
  | c :: r => by
    cases hb : blankI c with
    | true => simp [colL, hb]
    | false => simp [colL, hb, blank_ne hb]
theorem strip_last (l : List Int) (h : l ≠ []) : stripT l = if l.getLast h = 32 then l.dropLast else l := by
  match l with
  | [x] => simp [stripT]
  | x :: y :: r =>
    have ih := strip_last (y :: r) (by simp)
    have e : (x :: y :: r).getLast h = (y :: r).getLast (by simp) := List.getLast_cons (by simp)
    simp only [stripT]
    rw [ih, e]
    by_cases hc : (y :: r).getLast (by simp) = 32
    · rw [if_pos hc, if_pos hc]; rfl
    · rw [if_neg hc, if_neg hc]

theorem fold_em : ∀ p l, foldN (em p l) = em p (foldN l)
  | _, [] => rfl
  | p, c :: r => by
    simp only [foldN, List.map_cons, em, blank_low]
    cases hb : blankI c with
    | true => simp only [if_true]; exact fold_em true r
    | false =>
      cases p with
      | true => simp only [Bool.false_eq_true, if_false, if_true, List.map_cons, low32]; congr 2; exact fold_em false r
      | false => simp only [Bool.false_eq_true, if_false, List.map_cons]; congr 1; exact fold_em false r
theorem fold_nm : ∀ l, foldN (nm l) = nm (foldN l)
  | [] => rfl
  | c :: r => by
    simp only [foldN, List.map_cons, nm, blank_low]
    cases hb : blankI c with
    | true => simp only [if_true]; exact fold_nm r
    | false => simp only [Bool.false_eq_true, if_false, List.map_cons]; congr 1; exact fold_em false r
theorem fold_col : ∀ p l, foldN (colL p l) = colL p (foldN l)
  | _, [] => rfl
  | p, c :: r => by
    simp only [foldN, List.map_cons, colL, blank_low]
    cases hb : blankI c with
    | true =>
      cases p with
      | true => simp only [if_true]; exact fold_col true r
      | false => simp only [if_true, Bool.false_eq_true, if_false, List.map_cons, low32]; congr 1; exact fold_col true r
    | false => simp only [Bool.false_eq_true, if_false, List.map_cons]; congr 1; exact fold_col false r
theorem col_em : ∀ p l, colL false (em p l) = em p l
  | _, [] => rfl
  | p, c :: r => by
    simp only [em]
    cases hb : blankI c with
    | true => simp only [if_true]; exact col_em true r
    | false =>
      cases p with
      | true => simp only [Bool.false_eq_true, if_false, if_true, colL, hb, blank32]; rw [col_em false r]
      | false => simp only [Bool.false_eq_true, if_false, colL, hb]; rw [col_em false r]
theorem col_nm : ∀ l, colL false (nm l) = nm l
  | [] => rfl
  | c :: r => by
    simp only [nm]
    cases hb : blankI c with
    | true => simp only [if_true]; exact col_nm r
    | false => simp only [Bool.false_eq_true, if_false, colL, hb]; rw [col_em false r]
theorem em_em : ∀ p l, em false (em p l) = em p l
  | _, [] => rfl
  | p, c :: r => by
    simp only [em]
    cases hb : blankI c with
    | true => simp only [if_true]; exact em_em true r
    | false =>
      cases p with
      | true => simp only [Bool.false_eq_true, if_false, if_true, em, hb, blank32]; rw [em_em false r]
      | false => simp only [Bool.false_eq_true, if_false, em, hb]; rw [em_em false r]
theorem nm_nm : ∀ l, nm (nm l) = nm l
  | [] => rfl
  | c :: r => by
    simp only [nm]
    cases hb : blankI c with
    | true => simp only [if_true]; exact nm_nm r
    | false => simp only [Bool.false_eq_true, if_false, nm, hb]; rw [em_em false r]
theorem em_col : ∀ l, em false (colL false l) = em false l ∧ em true (colL true l) = em true l
  | [] => ⟨rfl, rfl⟩
  | c :: r => by
    obtain ⟨h1, h2⟩ := em_col r
    cases hb : blankI c with
    | true => simp only [colL, hb, if_true, Bool.false_eq_true, if_false, em, blank32]; exact ⟨h2, h2⟩
    | false => simp only [colL, hb, if_true, Bool.false_eq_true, if_false, em]; rw [h1]; exact ⟨rfl, rfl⟩
theorem nm_col : ∀ p l, nm (colL p l) = nm l
  | _, [] => rfl
  | p, c :: r => by
    cases hb : blankI c with
    | true =>
      cases p with
      | true => simp only [colL, hb, if_true, nm]; exact nm_col true r
      | false => simp only [colL, hb, if_true, Bool.false_eq_true, if_false, nm, blank32]; exact nm_col true r
    | false => simp only [colL, hb, Bool.false_eq_true, if_false, nm]; rw [(em_col r).1]
theorem em_true : ∀ l, em true l = if nm l = [] then [] else 32 :: nm l
  | [] => rfl
  | c :: r => by
    cases hb : blankI c with
    | true => simp only [em, nm, hb, if_true]; exact em_true r
    | false => simp [em, nm, hb]
theorem em_between : ∀ p x b y, blankI b = true → em p (x ++ b :: y) = em p x ++ em true y
  | p, [], b, y, hb => by simp [em, hb]
  | p, c :: x, b, y, hb => by
    cases hc : blankI c with
    | true => simp only [List.cons_append, em, hc, if_true]; exact em_between true x b y hb
    | false =>
      cases p with
      | true => simp only [List.cons_append, em, hc, if_true, Bool.false_eq_true, if_false]; rw [em_between false x b y hb]
      | false => simp only [List.cons_append, em, hc, Bool.false_eq_true, if_false]; rw [em_between false x b y hb]
theorem nm_between : ∀ x b y, blankI b = true → nm (x ++ b :: y) = if nm x = [] then nm y else nm x ++ em true y
  | [], b, y, hb => by simp [nm, hb]
  | c :: x, b, y, hb => by
    cases hc : blankI c with
    | true => simp only [List.cons_append, nm, hc, if_true]; exact nm_between x b y hb
    | false => simp [nm, hc, em_between false x b y hb]
theorem nm_blank {b : Int} (hb : blankI b = true) (y : List Int) : nm (b :: y) = nm y := by simp [nm, hb]
theorem em_blank {b : Int} (hb : blankI b = true) (p : Bool) (y : List Int) : em p (b :: y) = em true y := by simp [em, hb]
/-- A blank between two texts puts a space between their normal forms. -/
theorem nm_two (x b y) (hb : blankI b = true) : nm (x ++ b :: y) = if nm x = [] ∨ nm y = [] then nm x ++ nm y else nm x ++ 32 :: nm y := by
  rw [nm_between x b y hb]
  by_cases h1 : nm x = []
  · simp [h1]
  · rw [if_neg h1, em_true]
    by_cases h2 : nm y = []
    · simp [h2]
    · simp [h1, h2]
end Go.Proofs.YtjkhdiphcgpbfaaDoor.Norm

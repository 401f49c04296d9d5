/- Keys, as lists of texts' bytes: the order of texts and of keys, with its laws. No program of its own. -/
import GoSem.Op.String
set_option linter.unusedVariables false
set_option linter.unusedSimpArgs false
namespace Go.Proofs.Ytnflokhffmfifaa.Keys
open Go (Op.bytesLess)

theorem less_irrefl : ∀ a : List UInt8, Op.bytesLess a a = false
  | [] => rfl
  | x :: a => by
    simp only [Op.bytesLess, less_irrefl a]
    simp
theorem less_tri : ∀ a b : List UInt8, Op.bytesLess a b = true ∨ a = b ∨ Op.bytesLess b a = true
  | [], [] => by simp
  | [], _ :: _ => by simp [Op.bytesLess]
  | _ :: _, [] => by simp [Op.bytesLess]
  | x :: a, y :: b => by
    simp only [Op.bytesLess, Bool.or_eq_true, Bool.and_eq_true, decide_eq_true_eq, beq_iff_eq, List.cons.injEq]
    rcases less_tri a b with h | h | h
    · by_cases e : x = y
      · exact Or.inl (Or.inr ⟨e, h⟩)
      · rcases (show x < y ∨ y < x by
          rw [UInt8.lt_iff_toNat_lt, UInt8.lt_iff_toNat_lt]
          have : x.toNat ≠ y.toNat := fun h => e (UInt8.toNat_inj.1 h)
          omega) with h1 | h1
        · exact Or.inl (Or.inl h1)
        · exact Or.inr (Or.inr (Or.inl h1))
    · by_cases e : x = y
      · exact Or.inr (Or.inl ⟨e, h⟩)
      · rcases (show x < y ∨ y < x by
          rw [UInt8.lt_iff_toNat_lt, UInt8.lt_iff_toNat_lt]
          have : x.toNat ≠ y.toNat := fun h => e (UInt8.toNat_inj.1 h)
          omega) with h1 | h1
        · exact Or.inl (Or.inl h1)
        · exact Or.inr (Or.inr (Or.inl h1))
    · by_cases e : x = y
      · exact Or.inr (Or.inr (Or.inr ⟨e.symm, h⟩))
      · rcases (show x < y ∨ y < x by
          rw [UInt8.lt_iff_toNat_lt, UInt8.lt_iff_toNat_lt]
          have : x.toNat ≠ y.toNat := fun h => e (UInt8.toNat_inj.1 h)
          omega) with h1 | h1
        · exact Or.inl (Or.inl h1)
        · exact Or.inr (Or.inr (Or.inl h1))
theorem less_trans : ∀ a b c : List UInt8, Op.bytesLess a b = true → Op.bytesLess b c = true → Op.bytesLess a c = true
  | _, _, [], _, h => by simp [Op.bytesLess] at h
  | _, [], _ :: _, h, _ => by simp [Op.bytesLess] at h
  | [], _ :: _, _ :: _, _, _ => by simp [Op.bytesLess]
  | x :: a, y :: b, z :: c, h1, h2 => by
    simp only [Op.bytesLess, Bool.or_eq_true, Bool.and_eq_true, decide_eq_true_eq, beq_iff_eq] at h1 h2 ⊢
    rcases h1 with h1 | ⟨rfl, h1⟩
    · rcases h2 with h2 | ⟨rfl, h2⟩
      · left
        rw [UInt8.lt_iff_toNat_lt] at *
        omega
      · exact Or.inl h1
    · rcases h2 with h2 | ⟨rfl, h2⟩
      · exact Or.inl h2
      · exact Or.inr ⟨rfl, less_trans a b c h1 h2⟩
theorem less_asymm {a b : List UInt8} (h : Op.bytesLess a b = true) : Op.bytesLess b a = false := by
  cases h2 : Op.bytesLess b a with
  | false => rfl
  | true => have := less_trans a b a h h2; rw [less_irrefl] at this; cases this
theorem less_ne {a b : List UInt8} (h : Op.bytesLess a b = true) : a ≠ b := by
  rintro rfl
  rw [less_irrefl] at h
  cases h

/-- Two keys compared. -/
def cmpK : List (List UInt8) → List (List UInt8) → Int
  | [], [] => 0
  | [], _ :: _ => -1
  | _ :: _, [] => 1
  | a :: x, b :: y => if Op.bytesLess a b = true then -1 else if a = b then cmpK x y else 1

theorem cmpK_range : ∀ x y, cmpK x y = -1 ∨ cmpK x y = 0 ∨ cmpK x y = 1
  | [], [] => by simp [cmpK]
  | [], _ :: _ => by simp [cmpK]
  | _ :: _, [] => by simp [cmpK]
  | a :: x, b :: y => by
    simp only [cmpK]
    split
    · simp
    · split
      · exact cmpK_range x y
      · simp
theorem cmpK_neg : ∀ x y, cmpK x y = - cmpK y x
  | [], [] => by simp [cmpK]
  | [], _ :: _ => by simp [cmpK]
  | _ :: _, [] => by simp [cmpK]
  | a :: x, b :: y => by
    simp only [cmpK]
    rcases less_tri a b with h | h | h
    · rw [if_pos h, if_neg (by rw [less_asymm h]; simp), if_neg (less_ne h).symm]
    · subst h
      rw [if_neg (by rw [less_irrefl]; simp), if_pos rfl, if_neg (by rw [less_irrefl]; simp), if_pos rfl]
      exact cmpK_neg x y
    · rw [if_neg (by rw [less_asymm h]; simp), if_neg (less_ne h).symm, if_pos h]
      rfl
theorem cmpK_self : ∀ x, cmpK x x = 0
  | [] => rfl
  | a :: x => by
    simp only [cmpK]
    rw [if_neg (by rw [less_irrefl]; simp), if_pos trivial]
    exact cmpK_self x
theorem cmpK_zero : ∀ x y, cmpK x y = 0 → x = y
  | [], [], _ => rfl
  | [], _ :: _, h => by simp [cmpK] at h
  | _ :: _, [], h => by simp [cmpK] at h
  | a :: x, b :: y, h => by
    simp only [cmpK] at h
    split at h
    · cases h
    · split at h
      · rename_i e
        rw [e, cmpK_zero x y h]
      · cases h
theorem cmpK_trans : ∀ x y z, cmpK x y ≤ 0 → cmpK y z ≤ 0 → cmpK x z ≤ 0
  | [], _, [], _, _ => by simp [cmpK]
  | [], _, _ :: _, _, _ => by simp [cmpK]
  | _ :: _, [], _, h, _ => by simp [cmpK] at h
  | _ :: _, _ :: _, [], _, h => by simp [cmpK] at h
  | a :: x, b :: y, c :: z, h1, h2 => by
    simp only [cmpK] at h1 h2 ⊢
    by_cases h3 : Op.bytesLess a b = true
    · by_cases h4 : Op.bytesLess b c = true
      · rw [if_pos (less_trans a b c h3 h4)]; decide
      · rw [if_neg h4] at h2
        by_cases h5 : b = c
        · subst h5
          rw [if_pos h3]; decide
        · rw [if_neg h5] at h2
          exact absurd h2 (by decide)
    · rw [if_neg h3] at h1
      by_cases h5 : a = b
      · subst h5
        rw [if_pos rfl] at h1
        by_cases h4 : Op.bytesLess a c = true
        · rw [if_pos h4]; decide
        · rw [if_neg h4] at h2 ⊢
          by_cases h6 : a = c
          · rw [if_pos h6] at h2 ⊢
            exact cmpK_trans x y z h1 h2
          · rw [if_neg h6] at h2
            exact absurd h2 (by decide)
      · rw [if_neg h5] at h1
        exact absurd h1 (by decide)
theorem cmpK_front : ∀ x c, cmpK x (x ++ c) = if c = [] then 0 else -1
  | [], [] => rfl
  | [], _ :: _ => by simp [cmpK]
  | a :: x, c => by
    simp only [List.cons_append, cmpK]
    rw [if_neg (by rw [less_irrefl]; simp), if_pos trivial]
    exact cmpK_front x c
/-- What lies between two keys with one front has that front. -/
theorem cmpK_between : ∀ base a b c, cmpK (base ++ a) b ≤ 0 → cmpK b (base ++ c) ≤ 0 → ∃ r, b = base ++ r
  | [], _, b, _, _, _ => ⟨b, rfl⟩
  | p :: base, _, [], _, h, _ => by simp [cmpK] at h
  | p :: base, a, q :: b, c, h1, h2 => by
    simp only [List.cons_append, cmpK] at h1 h2
    have e : p = q := by
      by_cases h3 : Op.bytesLess p q = true
      · rw [if_neg (by rw [less_asymm h3]; simp), if_neg (less_ne h3).symm] at h2
        exact absurd h2 (by decide)
      · rw [if_neg h3] at h1
        by_cases h4 : p = q
        · exact h4
        · rw [if_neg h4] at h1
          exact absurd h1 (by decide)
    subst e
    rw [if_neg (by rw [less_irrefl]; simp), if_pos rfl] at h1 h2
    obtain ⟨r, rfl⟩ := cmpK_between base a b c h1 h2
    exact ⟨r, rfl⟩
end Go.Proofs.Ytnflokhffmfifaa.Keys

/- What the printed functions of keys answer: the order of keys, sameness, within. For every two lists. -/
import Derived.Test.YtdkohenilbkmkaaXD1
import Derived.Test.YtdkohenilbkmkaaXV
import Derived.Test.YtdkohenilbkmkaaKeys
set_option linter.unusedVariables false
set_option linter.unusedSimpArgs false
namespace Go.Proofs.Ytdkohenilbkmkaa.DnEvD
open Go.RowKit Go.Proofs.Ytdkohenilbkmkaa.XD Go.Proofs.Ytdkohenilbkmkaa.XE Go.Proofs.YtdkohenilbkmkaaW.PrintWords Go.Proofs.YtdkohenilbkmkaaW.PrintLast Go.Proofs.Ytdkohenilbkmkaa.XV Go.Proofs.Ytdkohenilbkmkaa.Keys

/-- A list of texts as lists of bytes. -/
def kl (l : List ByteArray) : List (List UInt8) := l.map ByteArray.toList
theorem kl_inj {a b : List ByteArray} (h : kl a = kl b) : a = b := by
  induction a generalizing b with
  | nil => cases b with
    | nil => rfl
    | cons y b => simp [kl] at h
  | cons x a ih => cases b with
    | nil => simp [kl] at h
    | cons y b =>
      simp only [kl, List.map_cons, List.cons.injEq] at h
      rw [(toList_eq_iff x y).1 h.1, ih h.2]
theorem kl_length (a : List ByteArray) : (kl a).length = a.length := by simp [kl]
theorem kl_drop (a : List ByteArray) (i : Nat) : kl (a.drop i) = (kl a).drop i := by simp [kl]
theorem kl_take (a : List ByteArray) (i : Nat) : kl (a.take i) = (kl a).take i := by simp [kl]
theorem kl_append (a b : List ByteArray) : kl (a ++ b) = kl a ++ kl b := by simp [kl]
theorem kl_at (a : List ByteArray) (i : Nat) (h : i < a.length) : (kl a).drop i = (rdOf ByteArray.empty a (i : Int)).toList :: (kl a).drop (i + 1) := by
  rw [List.drop_eq_getElem_cons (by rw [kl_length]; exact h)]
  congr 1
  simp [kl, rdOf, List.getD_eq_getElem?_getD, List.getElem?_eq_getElem h]

theorem compare_loop (x y : List ByteArray) (hx : x.length ≤ 4611686018427387904) (d : Nat) : ∀ i : Nat, i + d = x.length → i ≤ y.length →
    Ev (fun k => slices_Compare_string_string.l0 k x y x (x.length : Int) (i : Int)) (cmpK ((kl x).drop i) ((kl y).drop i)) := by
  induction d with
  | zero =>
    intro i hi hy
    obtain rfl : i = x.length := by omega
    refine ev_round ?_
    simp only [slices_Compare_string_string.l0]
    refine ev_neg (by omega) ?_
    rw [List.drop_of_length_le (by rw [kl_length]; omega)]
    by_cases h : (x.length : Int) < (y.length : Int)
    · refine ev_pos h (ev_eq ?_)
      rw [kl_at y x.length (by omega)]
      rfl
    · refine ev_neg h (ev_eq ?_)
      rw [List.drop_of_length_le (by rw [kl_length]; omega)]
      rfl
  | succ d ih =>
    intro i hi hy
    refine ev_round ?_
    simp only [slices_Compare_string_string.l0]
    refine ev_pos (by omega) (ev_pos (by omega) (ev_pos (by omega) ?_))
    rw [kl_at x i (by omega)]
    by_cases h : (i : Int) ≥ (y.length : Int)
    · refine ev_pos h (ev_eq ?_)
      rw [List.drop_of_length_le (by rw [kl_length]; omega : (kl y).length ≤ i)]
      rfl
    · refine ev_neg h (ev_pos (by omega) ?_)
      rw [kl_at y i (by omega)]
      simp only [cmp_Compare_string.f, Option.bind_some, cmpK, beq_iff_eq]
      by_cases h1 : Op.bytesLess (rdOf ByteArray.empty x (i : Int)).toList (rdOf ByteArray.empty y (i : Int)).toList = true
      · rw [if_pos h1, if_pos h1]
        exact ev_neg (by decide) (ev_eq rfl)
      · rw [if_neg h1, if_neg h1]
        by_cases h2 : (rdOf ByteArray.empty x (i : Int)).toList = (rdOf ByteArray.empty y (i : Int)).toList
        · rw [if_pos h2, if_pos h2]
          refine ev_pos rfl ?_
          rw [show wrap64 ((i : Int) + 1) = ((i + 1 : Nat) : Int) by rw [wrp_id _ (by omega) (by omega)]; rfl]
          exact ih (i + 1) (by omega) (by omega)
        · rw [if_neg h2, if_neg h2]
          exact ev_neg (by decide) (ev_eq rfl)

theorem compare_ev (x y : List ByteArray) (hx : x.length ≤ 2097152) (hy : y.length ≤ 2097152) : Ev (fun k => dn_Compare.f k x y) (cmpK (kl x) (kl y)) := by
  unfold dn_Compare.f
  refine ev_bindsome ?_
  unfold slices_Compare_string_string.f
  exact compare_loop x y (by omega) x.length 0 (by omega) (by omega)

theorem same_loop (x y : List ByteArray) (hx : x.length ≤ 4611686018427387904) (hl : x.length = y.length) (d : Nat) : ∀ i : Nat, i + d = x.length →
    Ev (fun k => rosterlaw05_sameTexts.l0 k x y (i : Int)) (decide ((kl x).drop i = (kl y).drop i)) := by
  induction d with
  | zero =>
    intro i hi
    refine ev_round ?_
    simp only [rosterlaw05_sameTexts.l0]
    refine ev_neg (by omega) (ev_eq ?_)
    rw [List.drop_of_length_le (by rw [kl_length]; omega), List.drop_of_length_le (by rw [kl_length]; omega)]
    simp
  | succ d ih =>
    intro i hi
    refine ev_round ?_
    simp only [rosterlaw05_sameTexts.l0]
    refine ev_pos (by omega) (ev_pos (by omega) (ev_pos (by omega) ?_))
    rw [kl_at x i (by omega), kl_at y i (by omega)]
    by_cases h2 : (rdOf ByteArray.empty x (i : Int)).toList = (rdOf ByteArray.empty y (i : Int)).toList
    · refine ev_pos h2 ?_
      rw [show wrap64 ((i : Int) + 1) = ((i + 1 : Nat) : Int) by rw [wrp_id _ (by omega) (by omega)]; rfl]
      have := ih (i + 1) (by omega)
      rw [h2]
      simpa using this
    · refine ev_neg h2 (ev_eq ?_)
      simp [h2]

theorem same_ev (x y : List ByteArray) (hx : x.length ≤ 2097152) : Ev (fun k => rosterlaw05_sameTexts.f k x y) (decide (kl x = kl y)) := by
  unfold rosterlaw05_sameTexts.f
  by_cases h : (x.length : Int) = (y.length : Int)
  · refine ev_pos h ?_
    exact same_loop x y (by omega) (by omega) x.length 0 (by omega)
  · refine ev_neg h (ev_eq ?_)
    symm
    rw [decide_eq_false_iff_not]
    intro e
    have := congrArg List.length e
    rw [kl_length, kl_length] at this
    omega

theorem equal_loop (x y : List ByteArray) (hx : x.length ≤ 4611686018427387904) (hl : x.length = y.length) (d : Nat) : ∀ i : Nat, i + d = x.length →
    Ev (fun k => slices_Equal_string_string.l0 k x y (x.length : Int) (i : Int)) (decide ((kl x).drop i = (kl y).drop i)) := by
  induction d with
  | zero =>
    intro i hi
    refine ev_round ?_
    simp only [slices_Equal_string_string.l0]
    refine ev_neg (by omega) (ev_eq ?_)
    rw [List.drop_of_length_le (by rw [kl_length]; omega), List.drop_of_length_le (by rw [kl_length]; omega)]
    simp
  | succ d ih =>
    intro i hi
    refine ev_round ?_
    simp only [slices_Equal_string_string.l0]
    refine ev_pos (by omega) (ev_pos (by omega) (ev_pos (by omega) (ev_pos (by omega) ?_)))
    rw [kl_at x i (by omega), kl_at y i (by omega)]
    by_cases h2 : (rdOf ByteArray.empty x (i : Int)).toList = (rdOf ByteArray.empty y (i : Int)).toList
    · refine ev_pos h2 ?_
      rw [show wrap64 ((i : Int) + 1) = ((i + 1 : Nat) : Int) by rw [wrp_id _ (by omega) (by omega)]; rfl]
      have := ih (i + 1) (by omega)
      rw [h2]
      simpa using this
    · refine ev_neg h2 (ev_eq ?_)
      simp [h2]

/-- Is the first a front of the second? -/
def front (x y : List (List UInt8)) : Bool := decide (x.length ≤ y.length) && decide (x = y.take x.length)
theorem within_ev (x y : List ByteArray) (hx : x.length ≤ 2097152) (hy : y.length ≤ 2097152) : Ev (fun k => dn_Within.f k x y) (front (kl x) (kl y)) := by
  unfold dn_Within.f front
  rw [kl_length, kl_length]
  by_cases h : (x.length : Int) ≤ (y.length : Int)
  · refine ev_pos h (ev_pos (by omega) (ev_bindsome ?_))
    unfold slices_Equal_string_string.f
    rw [Int.toNat_natCast, decide_eq_true (show x.length ≤ y.length by omega), Bool.true_and]
    refine ev_pos (by rw [List.length_take]; omega) ?_
    have := equal_loop x (y.take x.length) (by omega) (by rw [List.length_take]; omega) x.length 0 (by omega)
    rw [List.drop_zero, List.drop_zero, kl_take] at this
    exact this
  · refine ev_neg h (ev_eq ?_)
    rw [decide_eq_false (show ¬ x.length ≤ y.length by omega)]
    rfl
theorem refwithin_loop (x y : List ByteArray) (hx : x.length ≤ 4611686018427387904) (hl : x.length ≤ y.length) (d : Nat) : ∀ i : Nat, i + d = x.length →
    Ev (fun k => rosterref05_Within.l0 k x y (i : Int)) (decide ((kl x).drop i = ((kl y).take x.length).drop i)) := by
  induction d with
  | zero =>
    intro i hi
    refine ev_round ?_
    simp only [rosterref05_Within.l0]
    refine ev_neg (by omega) (ev_eq ?_)
    rw [List.drop_of_length_le (by rw [kl_length]; omega), List.drop_of_length_le (by rw [List.length_take, kl_length]; omega)]
    simp
  | succ d ih =>
    intro i hi
    refine ev_round ?_
    simp only [rosterref05_Within.l0]
    refine ev_pos (by omega) (ev_pos (by omega) (ev_pos (by omega) ?_))
    have ey : (rdOf ByteArray.empty (y.take x.length) (i : Int)) = rdOf ByteArray.empty y (i : Int) := by
      simp only [rdOf, Int.toNat_natCast, List.getD_eq_getElem?_getD]
      rw [List.getElem?_take_of_lt (by omega)]
    rw [← kl_take, kl_at x i (by omega), kl_at (y.take x.length) i (by rw [List.length_take]; omega), ey]
    by_cases h2 : (rdOf ByteArray.empty x (i : Int)).toList = (rdOf ByteArray.empty y (i : Int)).toList
    · refine ev_pos h2 ?_
      rw [show wrap64 ((i : Int) + 1) = ((i + 1 : Nat) : Int) by rw [wrp_id _ (by omega) (by omega)]; rfl]
      have := ih (i + 1) (by omega)
      rw [h2]
      rw [← kl_take] at this
      simpa using this
    · refine ev_neg h2 (ev_eq ?_)
      simp [h2]
theorem refwithin_ev (x y : List ByteArray) (hx : x.length ≤ 2097152) (hy : y.length ≤ 2097152) : Ev (fun k => rosterref05_Within.f k x y) (front (kl x) (kl y)) := by
  unfold rosterref05_Within.f front
  rw [kl_length, kl_length]
  by_cases h : (x.length : Int) ≤ (y.length : Int)
  · refine ev_neg (by omega) ?_
    rw [decide_eq_true (show x.length ≤ y.length by omega), Bool.true_and]
    exact refwithin_loop x y (by omega) (by omega) x.length 0 (by omega)
  · refine ev_pos (by omega) (ev_eq ?_)
    rw [decide_eq_false (show ¬ x.length ≤ y.length by omega)]
    rfl
theorem cmp_as (A : Option Addr) (c : Nat) (x : List ByteArray) (B : Option Addr) (d : Nat) (y : List ByteArray) (w : World) (h1 : Kd.C Kd.string w A x.length x) (h2 : x.length ≤ c) (h3 : Kd.C Kd.string w B y.length y) (h4 : y.length ≤ d) (hx : x.length ≤ 2097152) (hy : y.length ≤ 2097152) :
    Calls Try.prog 21 #[.slice A x.length c, .slice B y.length d] w fun e w' => e = .returned (.int .i64 (cmpK (kl x) (kl y))) ∧ Drawn0 w w' := by
  obtain ⟨k, hk⟩ := Ev.rounds (compare_ev x y hx hy)
  exact dn_Compare.calls k A c x B d y _ w h1 h2 h3 h4 hk
theorem within_as (A : Option Addr) (c : Nat) (x : List ByteArray) (B : Option Addr) (d : Nat) (y : List ByteArray) (w : World) (h1 : Kd.C Kd.string w A x.length x) (h2 : x.length ≤ c) (h3 : Kd.C Kd.string w B y.length y) (h4 : y.length ≤ d) (hx : x.length ≤ 2097152) (hy : y.length ≤ 2097152) :
    Calls Try.prog 15 #[.slice A x.length c, .slice B y.length d] w fun e w' => e = .returned (.bool (front (kl x) (kl y))) ∧ Drawn0 w w' := by
  obtain ⟨k, hk⟩ := Ev.rounds (within_ev x y hx hy)
  exact dn_Within.calls k A c x B d y _ w h1 h2 h3 h4 hk
theorem refwithin_as (A : Option Addr) (c : Nat) (x : List ByteArray) (B : Option Addr) (d : Nat) (y : List ByteArray) (w : World) (h1 : Kd.C Kd.string w A x.length x) (h2 : x.length ≤ c) (h3 : Kd.C Kd.string w B y.length y) (h4 : y.length ≤ d) (hx : x.length ≤ 2097152) (hy : y.length ≤ 2097152) :
    Calls Try.prog 16 #[.slice A x.length c, .slice B y.length d] w fun e w' => e = .returned (.bool (front (kl x) (kl y))) ∧ Drawn0 w w' := by
  obtain ⟨k, hk⟩ := Ev.rounds (refwithin_ev x y hx hy)
  exact rosterref05_Within.calls k A c x B d y _ w h1 h2 h3 h4 hk
theorem same_as (A : Option Addr) (c : Nat) (x : List ByteArray) (B : Option Addr) (d : Nat) (y : List ByteArray) (w : World) (h1 : Kd.C Kd.string w A x.length x) (h2 : x.length ≤ c) (h3 : Kd.C Kd.string w B y.length y) (h4 : y.length ≤ d) (hx : x.length ≤ 2097152) :
    Calls Try.prog 19 #[.slice A x.length c, .slice B y.length d] w fun e w' => e = .returned (.bool (decide (kl x = kl y))) ∧ Drawn0 w w' := by
  obtain ⟨k, hk⟩ := Ev.rounds (same_ev x y hx)
  exact rosterlaw05_sameTexts.calls k A c x B d y _ w h1 h2 h3 h4 hk
end Go.Proofs.Ytdkohenilbkmkaa.DnEvD

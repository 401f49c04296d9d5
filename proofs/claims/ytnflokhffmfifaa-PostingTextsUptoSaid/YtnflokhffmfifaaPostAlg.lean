/- Unions, meets, differences of lists as rising lists: the algebra of sets, and counting. Over any total order. No program. -/
import Derived.Test.YtnflokhffmfifaaRis
set_option linter.unusedVariables false
set_option linter.unusedSimpArgs false
namespace Go.Proofs.Ytnflokhffmfifaa.PostAlg
open Go.Proofs.Ytnflokhffmfifaa.Ris
section
variable {α : Type} {lt : α → α → Bool} [DecidableEq α]
def union (lt : α → α → Bool) (ls : List (List α)) : List α := atLeast lt 1 ls
def meet (lt : α → α → Bool) (ls : List (List α)) : List α := if ls.length = 0 then [] else atLeast lt ls.length ls
def minus (lt : α → α → Bool) (a b : List α) : List α := (setL lt a).filter fun x => decide (x ∉ b)
theorem ris_union (o : Tot lt) (ls : List (List α)) : Ris lt (union lt ls) := ris_atLeast o _ _
theorem ris_meet (o : Tot lt) (ls : List (List α)) : Ris lt (meet lt ls) := by
  unfold meet
  split
  · exact ris_nil
  · exact ris_atLeast o _ _
theorem ris_minus (o : Tot lt) (a b : List α) : Ris lt (minus lt a b) := ris_filter _ (ris_setL o _)
theorem mem_union (o : Tot lt) (ls : List (List α)) (x : α) : x ∈ union lt ls ↔ ∃ l ∈ ls, x ∈ l := by
  unfold union
  rw [mem_atLeast o, cnt_pos]
  constructor
  · exact fun h => h.1
  · intro h
    have := (cnt_pos ls x).2 h
    exact ⟨h, by omega⟩
theorem cnt_all (ls : List (List α)) (x : α) : ls.length ≤ cnt ls x ↔ ∀ l ∈ ls, x ∈ l := by
  induction ls with
  | nil => simp
  | cons l ls ih =>
    rw [cnt_cons, List.length_cons]
    have := cnt_le ls x
    by_cases h : x ∈ l
    · rw [if_pos h]
      constructor
      · intro hh m hm
        rcases List.mem_cons.1 hm with rfl | hm
        · exact h
        · exact ih.1 (by omega) m hm
      · intro hh
        have := ih.2 (fun m hm => hh m (by simp [hm]))
        omega
    · rw [if_neg h]
      constructor
      · intro hh; omega
      · intro hh; exact absurd (hh l (by simp)) h
theorem mem_meet (o : Tot lt) (ls : List (List α)) (x : α) : x ∈ meet lt ls ↔ ls ≠ [] ∧ ∀ l ∈ ls, x ∈ l := by
  unfold meet
  by_cases h : ls.length = 0
  · rw [if_pos h, List.length_eq_zero_iff.1 h]; simp
  · rw [if_neg h, mem_atLeast o]
    have h0 : ls ≠ [] := fun e => h (by rw [e]; rfl)
    constructor
    · rintro ⟨_, h2⟩
      exact ⟨h0, (cnt_all ls x).1 (by omega)⟩
    · rintro ⟨_, h2⟩
      have := (cnt_all ls x).2 h2
      exact ⟨by omega, by omega⟩
theorem mem_minus (o : Tot lt) (a b : List α) (x : α) : x ∈ minus lt a b ↔ x ∈ a ∧ x ∉ b := by
  unfold minus
  rw [List.mem_filter, mem_setL o, decide_eq_true_iff]
/-- What stands in k of the lists: by the last one. -/
theorem atLeast_last (o : Tot lt) (k : Int) (ls : List (List α)) (l : List α) (h2 : 2 ≤ k) :
    atLeast lt k (ls ++ [l]) = union lt [atLeast lt k ls, meet lt [atLeast lt (k - 1) ls, l]] := by
  apply ris_ext o (ris_atLeast o _ _) (ris_union o _)
  intro x
  have hc : cnt (ls ++ [l]) x = cnt ls x + if x ∈ l then 1 else 0 := by
    unfold cnt
    rw [List.filter_append, List.length_append]
    by_cases h : x ∈ l <;> simp [h]
  rw [mem_atLeast o, mem_union o, hc]
  have hm : x ∈ meet lt [atLeast lt (k - 1) ls, l] ↔ (0 < cnt ls x ∧ k - 1 ≤ (cnt ls x : Int)) ∧ x ∈ l := by
    rw [mem_meet o]; simp [mem_atLeast o]
  constructor
  · rintro ⟨h1, h3⟩
    by_cases h : x ∈ l
    · rw [if_pos h] at h1 h3
      exact ⟨_, by simp, hm.2 ⟨⟨by omega, by omega⟩, h⟩⟩
    · rw [if_neg h] at h1 h3
      exact ⟨_, List.mem_cons_self, (mem_atLeast o _ _ _).2 ⟨by omega, by omega⟩⟩
  · rintro ⟨m, hmm, hx⟩
    simp only [List.mem_cons, List.not_mem_nil, or_false] at hmm
    rcases hmm with rfl | rfl
    · have := (mem_atLeast o _ _ _).1 hx
      exact ⟨by omega, by omega⟩
    · have := hm.1 hx
      rw [if_pos this.2]
      exact ⟨by omega, by omega⟩
theorem atLeast_none (o : Tot lt) (k : Int) (ls : List (List α)) (h : (ls.length : Int) < k) : atLeast lt k ls = [] := by
  apply List.eq_nil_iff_forall_not_mem.2
  intro x hx
  have := (mem_atLeast o _ _ _).1 hx
  have := cnt_le ls x
  omega
/-- The numbers of elements over all k add up. -/
theorem count_up (ls : List (List α)) : ∀ (S : List α) (n : Nat), ((List.range n).map fun i => (S.filter fun x => decide (((i : Nat) : Int) + 1 ≤ (cnt ls x : Int))).length).sum = (S.map fun x => min n (cnt ls x)).sum
  | [], n => by
    induction n with
    | zero => rfl
    | succ n ih => rw [List.range_succ, List.map_append, List.sum_append, ih]; simp
  | x :: S, n => by
    have ih := count_up ls S n
    have hx : ∀ n : Nat, ((List.range n).map fun i => if (((i : Nat) : Int) + 1 ≤ (cnt ls x : Int)) then 1 else 0).sum = min n (cnt ls x) := by
      intro n
      induction n with
      | zero => simp
      | succ n ih =>
        rw [List.range_succ, List.map_append, List.sum_append, ih]
        by_cases h : ((n : Nat) : Int) + 1 ≤ (cnt ls x : Int)
        · simp [h]; omega
        · simp [h]; omega
    rw [List.map_cons, List.sum_cons, ← ih, ← hx n]
    clear ih hx
    induction n with
    | zero => rfl
    | succ n ih =>
      simp only [List.range_succ, List.map_append, List.sum_append, List.map_cons, List.map_nil, List.sum_cons, List.sum_nil]
      rw [ih]
      by_cases h : ((n : Nat) : Int) + 1 ≤ (cnt ls x : Int)
      · simp [h, List.filter_cons]; omega
      · simp [h, List.filter_cons]; omega
theorem sum_cnt (o : Tot lt) : ∀ (ls : List (List α)) (S : List α), Ris lt S → (∀ l ∈ ls, ∀ x ∈ l, x ∈ S) → (S.map fun x => cnt ls x).sum = (ls.map fun l => (setL lt l).length).sum
  | [], S, _, _ => by
    have : ∀ S : List α, (S.map fun x => cnt ([] : List (List α)) x).sum = 0 := by
      intro S
      induction S with
      | nil => rfl
      | cons a S ih => rw [List.map_cons, List.sum_cons, ih]; rfl
    rw [this]; rfl
  | l :: ls, S, hS, h => by
    have ih := sum_cnt o ls S hS (fun m hm => h m (by simp [hm]))
    have h1 : (S.map fun x => cnt (l :: ls) x).sum = (S.filter fun x => decide (x ∈ l)).length + (S.map fun x => cnt ls x).sum := by
      clear ih hS h
      induction S with
      | nil => rfl
      | cons a S ih =>
        simp only [List.map_cons, List.sum_cons, cnt_cons] at ih ⊢
        rw [ih]
        by_cases ha : a ∈ l
        · simp [ha]; omega
        · simp [ha]; omega
    have h2 : S.filter (fun x => decide (x ∈ l)) = setL lt l := setL_eq o (ris_filter _ hS) (fun x => by
      rw [List.mem_filter, decide_eq_true_iff]
      exact ⟨fun z => z.2, fun z => ⟨h l (by simp) x z, z⟩⟩)
    rw [h1, ih, h2, List.map_cons, List.sum_cons]
theorem count_all (o : Tot lt) (ls : List (List α)) : ((List.range ls.length).map fun (i : Nat) => (atLeast lt ((i : Int) + 1) ls).length).sum = (ls.map fun l => (setL lt l).length).sum := by
  have h := count_up ls (setL lt ls.flatten) ls.length
  unfold atLeast
  rw [h, ← sum_cnt o ls (setL lt ls.flatten) (ris_setL o _) (fun l hl x hx => (mem_setL o x _).2 (List.mem_flatten.2 ⟨l, hl, hx⟩))]
  congr 1
  apply List.map_congr_left
  intro x _
  have := cnt_le ls x
  omega
end
end Go.Proofs.Ytnflokhffmfifaa.PostAlg

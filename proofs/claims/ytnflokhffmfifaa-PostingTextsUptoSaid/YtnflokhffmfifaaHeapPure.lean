/- A heap in a list, place by place: what going down leaves, what is on top. Over any total order of keys. No program. -/
import Derived.Test.YtnflokhffmfifaaRis
set_option linter.unusedVariables false
set_option linter.unusedSimpArgs false
namespace Go.Proofs.Ytnflokhffmfifaa.HeapPure
open Go.Proofs.Ytnflokhffmfifaa.Ris
section
variable {α β : Type} {lt : α → α → Bool} [Inhabited β]
/-- Two places exchanged. -/
def swp (hs : List β) (i j : Nat) : List β := (hs.set i (hs.getD j default)).set j (hs.getD i default)
theorem swp_length (hs : List β) (i j : Nat) : (swp hs i j).length = hs.length := by simp [swp]
theorem getD_set (l : List β) (i k : Nat) (v : β) (h : i < l.length) : (l.set i v).getD k default = if k = i then v else l.getD k default := by
  simp only [List.getD_eq_getElem?_getD, List.getElem?_set]
  by_cases e : i = k
  · subst e; simp [h]
  · rw [if_neg e, if_neg (fun h => e h.symm)]
theorem swp_at (hs : List β) {i j : Nat} (hi : i < hs.length) (hj : j < hs.length) (k : Nat) : (swp hs i j).getD k default = if k = j then hs.getD i default else if k = i then hs.getD j default else hs.getD k default := by
  unfold swp
  rw [getD_set _ _ _ _ (by simpa using hj), getD_set _ _ _ _ hi]
theorem getElem_getD (l : List β) (i : Nat) (h : i < l.length) : l[i] = l.getD i default := by simp [List.getD_eq_getElem?_getD, List.getElem?_eq_getElem h]
theorem swp_perm (hs : List β) {i j : Nat} (hi : i < hs.length) (hj : j < hs.length) : (swp hs i j).Perm hs := by
  by_cases e : i = j
  · subst e
    have : swp hs i i = hs := by
      apply List.ext_getElem (swp_length ..)
      intro k h1 h2
      rw [getElem_getD, getElem_getD, swp_at hs hi hi]
      split
      · rename_i h; rw [h]
      · rfl
    rw [this]
  · have h := List.set_set_perm (as := hs) (i := i) (j := j) hi hj
    unfold swp
    rw [← getElem_getD hs j hj, ← getElem_getD hs i hi]
    exact h
/-- Not below. -/
def Le (lt : α → α → Bool) (key : β → α) (a b : β) : Prop := lt (key b) (key a) = false
/-- Every place below n whose parent is place k or behind it is not below its parent. -/
def HeapFrom (lt : α → α → Bool) (key : β → α) (k n : Nat) (hs : List β) : Prop := ∀ c, 1 ≤ c → c < n → k ≤ (c - 1) / 2 → Le lt key (hs.getD ((c - 1) / 2) default) (hs.getD c default)
/-- The same but for place i's children; these are not below i's parent. -/
def Sift (lt : α → α → Bool) (key : β → α) (k n i : Nat) (hs : List β) : Prop :=
  (∀ c, 1 ≤ c → c < n → k ≤ (c - 1) / 2 → (c - 1) / 2 ≠ i → Le lt key (hs.getD ((c - 1) / 2) default) (hs.getD c default)) ∧
  (∀ c, 1 ≤ c → c < n → (c - 1) / 2 = i → k < i → k ≤ (i - 1) / 2 ∧ Le lt key (hs.getD ((i - 1) / 2) default) (hs.getD c default))
theorem sift_start (key : β → α) {k n : Nat} {hs : List β} (h : HeapFrom lt key (k + 1) n hs) : Sift lt key k n k hs :=
  ⟨fun c h1 h2 h3 h4 => h c h1 h2 (by omega), fun c h1 h2 h3 h4 => absurd h4 (Nat.lt_irrefl _)⟩
theorem sift_end (key : β → α) {k n i : Nat} {hs : List β} (h : Sift lt key k n i hs) (hc : ∀ c, 1 ≤ c → c < n → (c - 1) / 2 = i → Le lt key (hs.getD i default) (hs.getD c default)) : HeapFrom lt key k n hs := by
  intro c h1 h2 h3
  by_cases e : (c - 1) / 2 = i
  · rw [e]; exact hc c h1 h2 e
  · exact h.1 c h1 h2 h3 e
theorem sift_step (o : Tot lt) (key : β → α) {k n i j : Nat} {hs : List β} (h : Sift lt key k n i hs) (hn : n ≤ hs.length) (hk : k ≤ i) (hj : (j - 1) / 2 = i) (hj1 : 1 ≤ j) (hjn : j < n)
    (hm : ∀ c, 1 ≤ c → c < n → (c - 1) / 2 = i → Le lt key (hs.getD j default) (hs.getD c default)) (hl : lt (key (hs.getD j default)) (key (hs.getD i default)) = true) : Sift lt key k n j (swp hs i j) := by
  have hi : i < hs.length := by omega
  have hj' : j < hs.length := by omega
  have hij : i ≠ j := by omega
  have sat := swp_at hs hi hj'
  constructor
  · intro c h1 h2 h3 h4
    rw [sat, sat]
    by_cases e1 : (c - 1) / 2 = i
    · rw [e1, if_neg hij, if_pos rfl]
      by_cases e2 : c = j
      · rw [if_pos e2]; exact o.asym hl
      · rw [if_neg e2, if_neg (by omega)]; exact hm c h1 h2 e1
    · rw [if_neg h4, if_neg e1]
      by_cases e2 : c = i
      · subst e2
        rw [if_neg hij, if_pos rfl]
        exact (h.2 j hj1 hjn hj (by omega)).2
      · rw [if_neg (fun h => by subst h; omega), if_neg e2]
        exact h.1 c h1 h2 h3 e1
  · intro c h1 h2 h3 h4
    refine ⟨by omega, ?_⟩
    rw [hj, sat, sat, if_neg hij, if_pos rfl, if_neg (by omega), if_neg (by omega)]
    have := h.1 c h1 h2 (by omega) (by omega)
    rw [h3] at this
    exact this
/-- On top of a heap stands the least. -/
theorem heap_top (o : Tot lt) (key : β → α) {n : Nat} {hs : List β} (h : HeapFrom lt key 0 n hs) : ∀ c, c < n → Le lt key (hs.getD 0 default) (hs.getD c default) := by
  intro c
  induction c using Nat.strongRecOn with
  | ind c ih =>
    intro hc
    by_cases e : c = 0
    · subst e; exact o.irr _
    · exact o.le_tr (ih ((c - 1) / 2) (by omega) (by omega)) (h c (by omega) hc (by omega))
theorem heap_big (key : β → α) {k n : Nat} {hs : List β} (hk : n ≤ 2 * k + 1) : HeapFrom lt key k n hs := fun c h1 h2 h3 => by omega
theorem heap_cut (key : β → α) {k n m : Nat} {hs : List β} (h : HeapFrom lt key k n hs) (hm : m ≤ n) : HeapFrom lt key k m hs := fun c h1 h2 h3 => h c h1 (by omega) h3
theorem heap_like (key : β → α) {k n : Nat} {hs ms : List β} (h : HeapFrom lt key k n hs) (hm : ∀ c, k ≤ c → c < n → ms.getD c default = hs.getD c default) : HeapFrom lt key k n ms := by
  intro c h1 h2 h3
  rw [hm _ h3 (by omega), hm _ (by omega) h2]
  exact h c h1 h2 h3
end
end Go.Proofs.Ytnflokhffmfifaa.HeapPure

/- Pieces in a text, one behind the other: the first places. No program. -/
import Derived.Lib.IndexLaws
import Derived.Lib.CutLaws
import Derived.WalkKit
set_option linter.unusedVariables false
set_option linter.unusedSimpArgs false
namespace Go.Proofs.Ytjakabacdnfmnaa.FitsP
open Go Go.RowKit
/-- Does the piece stand in the text at that place? -/
def stB (v p : ByteArray) (k : Nat) : Bool := decide (k + p.size ≤ v.size) && ((v.extract k (k + p.size)).data.toList == p.data.toList)
theorem least {P : Nat → Prop} : ∀ n, P n → ∃ m, P m ∧ ∀ j, j < m → ¬ P j := by
  classical
  intro n
  induction n using Nat.strongRecOn with
  | _ n ih =>
    intro h
    by_cases hx : ∃ j, j < n ∧ P j
    · obtain ⟨j, h1, h2⟩ := hx
      exact ih j h1 h2
    · exact ⟨n, h, fun j hj hp => hx ⟨j, hj, hp⟩⟩
open Classical in
noncomputable def nx (v p : ByteArray) (m : Nat) : Option Nat := if h : ∃ k, (m ≤ k ∧ stB v p k = true) ∧ ∀ j, j < k → ¬ (m ≤ j ∧ stB v p j = true) then some (Classical.choose h) else none
theorem nx_some {v p : ByteArray} {m k : Nat} (h : nx v p m = some k) : m ≤ k ∧ stB v p k = true ∧ ∀ j, m ≤ j → j < k → stB v p j = false := by
  classical
  unfold nx at h
  split at h
  case isFalse => cases h
  case isTrue hx =>
    have e := Option.some.inj h
    have hs := Classical.choose_spec hx
    rw [e] at hs
    refine ⟨hs.1.1, hs.1.2, fun j h1 h2 => ?_⟩
    cases hb : stB v p j with
    | false => rfl
    | true => exact absurd ⟨h1, hb⟩ (hs.2 j h2)
theorem nx_none {v p : ByteArray} {m : Nat} (h : nx v p m = none) : ∀ j, m ≤ j → stB v p j = false := by
  classical
  unfold nx at h
  split at h
  case isTrue => cases h
  case isFalse hx =>
    intro j hj
    cases hb : stB v p j with
    | false => rfl
    | true => exact absurd (least (P := fun k => m ≤ k ∧ stB v p k = true) j ⟨hj, hb⟩) hx
theorem nx_eq {v p : ByteArray} {m k : Nat} (h1 : m ≤ k) (h2 : stB v p k = true) (h3 : ∀ j, m ≤ j → j < k → stB v p j = false) : nx v p m = some k := by
  cases h : nx v p m with
  | none => rw [nx_none h k h1] at h2; cases h2
  | some k' =>
    obtain ⟨a, b, c⟩ := nx_some h
    rcases Nat.lt_trichotomy k k' with h' | h' | h'
    · rw [c k h1 h'] at h2; cases h2
    · rw [h']
    · rw [h3 k' a h'] at b; cases b
theorem st_room {v p : ByteArray} {k : Nat} (h : stB v p k = true) : k + p.size ≤ v.size := by
  unfold stB at h
  simp only [Bool.and_eq_true, decide_eq_true_eq] at h
  exact h.1
noncomputable def stp (v : ByteArray) (g : Option Nat) (p : ByteArray) : Option Nat := g.bind fun m => (nx v p m).map (· + p.size)
noncomputable def gr (v : ByteArray) (m : Nat) (ps : List ByteArray) : Option Nat := ps.foldl (stp v) (some m)
theorem gr_snoc (v : ByteArray) (m : Nat) (ps : List ByteArray) (p : ByteArray) : gr v m (ps ++ [p]) = stp v (gr v m ps) p := by unfold gr; rw [List.foldl_append]; rfl
theorem stp_ge {v p : ByteArray} {g : Option Nat} {m : Nat} (h : stp v g p = some m) : ∃ m0, g = some m0 ∧ m0 ≤ m := by
  unfold stp at h
  cases g with
  | none => cases h
  | some m0 =>
    refine ⟨m0, rfl, ?_⟩
    simp only [Option.bind_some, Option.map_eq_some_iff] at h
    obtain ⟨k, hk, rfl⟩ := h
    have := (nx_some hk).1
    omega
theorem fold_ge {v : ByteArray} : ∀ (ps : List ByteArray) (g : Option Nat) (m : Nat), ps.foldl (stp v) g = some m → ∃ m0, g = some m0 ∧ m0 ≤ m
  | [], g, m, h => ⟨m, h, Nat.le_refl _⟩
  | p :: ps, g, m, h => by
    obtain ⟨m1, h1, h2⟩ := fold_ge ps (stp v g p) m h
    obtain ⟨m0, h3, h4⟩ := stp_ge h1
    exact ⟨m0, h3, by omega⟩
/-- What the document's Fits answers. -/
noncomputable def fits (v i : ByteArray) (ps : List ByteArray) (f : ByteArray) : Bool :=
  stB v i 0 && (decide (f.size ≤ v.size) && stB v f (v.size - f.size)) && (match gr v i.size ps with | some m => decide (m + f.size ≤ v.size) | none => false)
/-- The front of the pieces goes no further than the last place: it does not fit. -/
theorem fits_stuck {v i f : ByteArray} {ps qs : List ByteArray} {p : ByteArray} (h : ∀ m, stp v (gr v i.size qs) p = some m → v.size < m + f.size) (e : qs ++ [p] <+: ps) : fits v i ps f = false := by
  obtain ⟨t, rfl⟩ := e
  unfold fits
  have : (match gr v i.size (qs ++ [p] ++ t) with | some m => decide (m + f.size ≤ v.size) | none => false) = false := by
    cases hg : gr v i.size (qs ++ [p] ++ t) with
    | none => rfl
    | some m =>
      unfold gr at hg
      rw [List.foldl_append] at hg
      obtain ⟨m0, h1, h2⟩ := fold_ge t _ m hg
      have h3 := gr_snoc v i.size qs p
      unfold gr at h3
      rw [h3] at h1
      have := h m0 (by unfold gr; exact h1)
      exact decide_eq_false (by omega)
  rw [this, Bool.and_false]
/-! ### Rows of marks: the first that is true -/
def FT (bs : List Bool) : Option Nat → Prop
  | none => ∀ j, bs.getD j false = false
  | some m => bs.getD m false = true ∧ ∀ j, j < m → bs.getD j false = false
def fr : Option Nat → Nat → Bool
  | none, _ => false
  | some m, k => decide (m < k)
theorem fr_step {bs : List Bool} {g : Option Nat} (h : FT bs g) (k : Nat) : (fr g k || bs.getD k false) = fr g (k + 1) := by
  cases g with
  | none => rw [h k]; rfl
  | some m =>
    obtain ⟨h1, h2⟩ := h
    show (decide (m < k) || bs.getD k false) = decide (m < k + 1)
    by_cases hk : m < k
    · rw [decide_eq_true hk, decide_eq_true (by omega), Bool.true_or]
    · rw [decide_eq_false hk, Bool.false_or]
      by_cases e : m = k
      · subst e; rw [h1, decide_eq_true (by omega)]
      · rw [h2 k (by omega), decide_eq_false (by omega)]
/-- The marks of the next row, behind k rounds. -/
def Inn (v p : ByteArray) (g : Option Nat) (k : Nat) (bs : List Bool) : Prop := ∀ j, bs.getD j false = true ↔ ∃ m q, g = some m ∧ m ≤ q ∧ q < k ∧ stB v p q = true ∧ j = q + p.size
theorem inn_zero (v p : ByteArray) (g : Option Nat) (n : Nat) : Inn v p g 0 (List.replicate n false) := fun j => by
  constructor
  · intro h
    rw [List.getD_eq_getElem?_getD, List.getElem?_replicate] at h
    split at h <;> simp at h
  · rintro ⟨_, _, _, _, h, _⟩
    omega
theorem inn_no {v p : ByteArray} {g : Option Nat} {k : Nat} {bs : List Bool} (h : Inn v p g k bs) (hn : fr g (k + 1) = false ∨ stB v p k = false) : Inn v p g (k + 1) bs := fun j => by
  rw [h j]
  constructor
  · rintro ⟨m, q, a, b, c, d, e⟩
    exact ⟨m, q, a, b, by omega, d, e⟩
  · rintro ⟨m, q, a, b, c, d, e⟩
    refine ⟨m, q, a, b, ?_, d, e⟩
    by_cases hq : q = k
    · subst hq
      rcases hn with hn | hn
      · rw [a] at hn
        unfold fr at hn
        simp at hn
        omega
      · rw [hn] at d; cases d
    · omega
theorem inn_yes {v p : ByteArray} {g : Option Nat} {k : Nat} {bs : List Bool} (h : Inn v p g k bs) (h1 : fr g (k + 1) = true) (h2 : stB v p k = true) (hl : k + p.size < bs.length) : Inn v p g (k + 1) (bs.set (k + p.size) true) := fun j => by
  rw [List.getD_eq_getElem?_getD, List.getElem?_set]
  by_cases e : k + p.size = j
  · subst e
    rw [if_pos rfl, if_pos hl]
    refine ⟨fun _ => ?_, fun _ => rfl⟩
    cases g with
    | none => cases h1
    | some m =>
      unfold fr at h1
      exact ⟨m, k, rfl, by have := of_decide_eq_true h1; omega, by omega, h2, rfl⟩
  · rw [if_neg e, ← List.getD_eq_getElem?_getD, h j]
    constructor
    · rintro ⟨m, q, a, b, c, d, f⟩
      exact ⟨m, q, a, b, by omega, d, f⟩
    · rintro ⟨m, q, a, b, c, d, f⟩
      refine ⟨m, q, a, b, ?_, d, f⟩
      rcases Nat.lt_or_ge q k with h' | h'
      · exact h'
      · obtain rfl : q = k := by omega
        exact absurd f.symm e
theorem inn_end {v p : ByteArray} {g : Option Nat} {bs : List Bool} (h : Inn v p g (v.size + 1) bs) : FT bs (stp v g p) := by
  have hf : ∀ j, (¬ ∃ m q, g = some m ∧ m ≤ q ∧ q < v.size + 1 ∧ stB v p q = true ∧ j = q + p.size) → bs.getD j false = false := fun j hn => by
    cases hb : bs.getD j false with
    | false => rfl
    | true => exact absurd ((h j).1 hb) hn
  cases g with
  | none => exact fun j => hf j (by rintro ⟨_, _, h, _⟩; cases h)
  | some m =>
    show FT bs ((nx v p m).map (· + p.size))
    cases hn : nx v p m with
    | none => exact fun j => hf j (by rintro ⟨m', q, h1, h2, h3, h4, _⟩; obtain rfl := Option.some.inj h1; rw [nx_none hn q h2] at h4; cases h4)
    | some k =>
      obtain ⟨a, b, c⟩ := nx_some hn
      refine ⟨(h _).2 ⟨m, k, rfl, a, by have := st_room b; omega, b, rfl⟩, fun j hj => hf j ?_⟩
      rintro ⟨m', q, h1, h2, h3, h4, h5⟩
      obtain rfl := Option.some.inj h1
      have hj : j < k + p.size := hj
      rw [c q h2 (by omega)] at h4
      cases h4
theorem ft_start (n i : Nat) (h : i < n) : FT ((List.replicate n false).set i true) (some i) := by
  refine ⟨?_, fun j hj => ?_⟩
  · rw [List.getD_eq_getElem?_getD, List.getElem?_set, if_pos rfl, if_pos (by simpa using h)]
    rfl
  · rw [List.getD_eq_getElem?_getD, List.getElem?_set, if_neg (by omega), List.getElem?_replicate]
    split <;> rfl
/-! ### The index of a piece in a cut of the text -/
theorem idx_cases (s sub : List UInt8) : (∃ i : Nat, i ≤ s.length ∧ Lib.occAt s sub i = true ∧ (∀ j, j < i → Lib.occAt s sub j = false) ∧ Lib.index s sub = i) ∨ ((∀ j, j ≤ s.length → Lib.occAt s sub j = false) ∧ Lib.index s sub = -1) := by
  classical
  by_cases h : ∃ i, i ≤ s.length ∧ Lib.occAt s sub i = true
  · left
    obtain ⟨i0, h0⟩ := h
    obtain ⟨i, hs, hmin⟩ := least (P := fun i => i ≤ s.length ∧ Lib.occAt s sub i = true) i0 h0
    have hm : ∀ j, j < i → Lib.occAt s sub j = false := fun j hj => by
      cases hb : Lib.occAt s sub j with
      | false => rfl
      | true => exact absurd ⟨by omega, hb⟩ (hmin j hj)
    exact ⟨_, hs.1, hs.2, hm, Lib.index_first hs.1 hs.2 hm⟩
  · right
    have hn : ∀ j, j ≤ s.length → Lib.occAt s sub j = false := fun j hj => by
      cases hb : Lib.occAt s sub j with
      | false => rfl
      | true => exact absurd ⟨j, hj, hb⟩ h
    exact ⟨hn, Lib.index_none hn⟩
theorem size_list (s : ByteArray) : s.size = s.data.toList.length := (Array.length_toList (xs := s.data)).symm
theorem extract_list (s : ByteArray) (a b : Nat) : (s.extract a b).data.toList = (s.data.toList.drop a).take (b - a) := by
  simp [List.extract_eq_take_drop]
theorem occ_cut (v p : ByteArray) (m last i : Nat) (hl : last ≤ v.size) (hi : m + i ≤ last) : Lib.occAt (v.extract m last).data.toList p.data.toList i = (decide (m + i + p.size ≤ last) && stB v p (m + i)) := by
  have hv := size_list v
  have hp := size_list p
  rw [extract_list]
  unfold stB
  by_cases hr : m + i + p.size ≤ last
  · rw [decide_eq_true hr, decide_eq_true (show m + i + p.size ≤ v.size by omega), Bool.true_and, Bool.true_and]
    rw [Lib.occAt_iff_take _ _ _ (by rw [List.length_take, List.length_drop, ← hp, ← hv]; omega), extract_list]
    congr 1
    rw [List.drop_take, List.take_take, List.drop_drop, ← hp]
    congr 1
    omega
  · rw [decide_eq_false hr, Bool.false_and]
    cases hb : Lib.occAt ((v.data.toList.drop m).take (last - m)) p.data.toList i with
    | false => rfl
    | true =>
      rcases Lib.occAt_room hb with h | h
      · rw [List.length_take, List.length_drop] at h; omega
      · have e0 : p.size = 0 := by rw [hp, h]; rfl
        omega
/-- The piece found: the first place, the rest behind it. -/
theorem cut_hit {v p : ByteArray} {m last i : Nat} (hl : last ≤ v.size) (hm : m ≤ last) (h : Lib.index (v.extract m last).data.toList p.data.toList = i) : nx v p m = some (m + i) ∧ m + i + p.size ≤ last := by
  have hlen : (v.extract m last).data.toList.length = last - m := by rw [extract_list, List.length_take, List.length_drop, ← size_list]; omega
  rcases idx_cases (v.extract m last).data.toList p.data.toList with ⟨k, h1, h2, h3, h4⟩ | ⟨_, h4⟩
  · rw [h] at h4
    obtain rfl : i = k := by omega
    rw [hlen] at h1
    rw [occ_cut v p m last i hl (by omega)] at h2
    simp only [Bool.and_eq_true, decide_eq_true_eq] at h2
    refine ⟨nx_eq (by omega) h2.2 (fun j hj1 hj2 => ?_), h2.1⟩
    have := h3 (j - m) (by omega)
    rw [occ_cut v p m last (j - m) hl (by omega), show m + (j - m) = j by omega, decide_eq_true (by omega), Bool.true_and] at this
    exact this
  · rw [h] at h4; omega
theorem cut_miss {v p : ByteArray} {m last : Nat} (hl : last ≤ v.size) (hm : m ≤ last) (h : Lib.index (v.extract m last).data.toList p.data.toList = -1) : ∀ k, nx v p m = some k → last < k + p.size := by
  have hlen : (v.extract m last).data.toList.length = last - m := by rw [extract_list, List.length_take, List.length_drop, ← size_list]; omega
  intro k hk
  obtain ⟨a, b, c⟩ := nx_some hk
  rcases idx_cases (v.extract m last).data.toList p.data.toList with ⟨i, h1, h2, h3, h4⟩ | ⟨h4, _⟩
  · rw [h] at h4; omega
  · rcases Nat.lt_or_ge last (k + p.size) with h' | h'
    · exact h'
    · have := h4 (k - m) (by rw [hlen]; omega)
      rw [occ_cut v p m last (k - m) hl (by omega), show m + (k - m) = k by omega, b, decide_eq_true h'] at this
      cases this
end Go.Proofs.Ytjakabacdnfmnaa.FitsP

/- Folding a line, in plain words. No program. -/
import Derived.Test.YtfiomfcejmmbgaaLinesD
set_option linter.unusedVariables false
set_option linter.unusedSimpArgs false
namespace Go.Proofs.Ytfiomfcejmmbgaa.LinesW
open Go Go.RowKit Go.Proofs.Ytfiomfcejmmbgaa.XV Go.Proofs.Ytfiomfcejmmbgaa.LinesP Go.Proofs.YtfiomfcejmmbgaaW.PrintWords Go.Proofs.YtfiomfcejmmbgaaW.PrintLast
/-- What is written from byte k of a line on: l what is left of it. -/
def refo (w : Nat) : Nat → List UInt8 → List UInt8
  | _, [] => [10]
  | k, c :: t => (if w ≤ k ∧ (k - w) % (w - 1) = 0 then [10, 32, c] else [c]) ++ refo w (k + 1) t
theorem refo_nil (w k : Nat) : refo w k [] = [10] := rfl
theorem refo_hit (w k : Nat) (c : UInt8) (t : List UInt8) (h : w ≤ k ∧ (k - w) % (w - 1) = 0) : refo w k (c :: t) = 10 :: 32 :: c :: refo w (k + 1) t := by
  show (if _ then _ else _) ++ _ = _
  rw [if_pos h]; rfl
theorem refo_miss (w k : Nat) (c : UInt8) (t : List UInt8) (h : ¬ (w ≤ k ∧ (k - w) % (w - 1) = 0)) : refo w k (c :: t) = c :: refo w (k + 1) t := by
  show (if _ then _ else _) ++ _ = _
  rw [if_neg h]; rfl
theorem refo_len (w : Nat) : ∀ (l : List UInt8) (k : Nat), (refo w k l).length ≤ 3 * l.length + 1
  | [], _ => Nat.le_refl _
  | c :: t, k => by
    have := refo_len w t (k + 1)
    by_cases h : w ≤ k ∧ (k - w) % (w - 1) = 0
    · rw [refo_hit w k c t h]; simp only [List.length_cons]; omega
    · rw [refo_miss w k c t h]; simp only [List.length_cons]; omega
theorem refo_short (w : Nat) : ∀ (d k : Nat) (l : List UInt8), (∀ j, j < d → ¬ (w ≤ k + j ∧ (k + j - w) % (w - 1) = 0)) → l.length ≤ d → refo w k l = l ++ [10]
  | _, _, [], _, _ => rfl
  | 0, k, c :: t, _, h => absurd h (by simp)
  | d + 1, k, c :: t, hb, h => by
    rw [refo_miss w k c t (hb 0 (by omega)), refo_short w d (k + 1) t (fun j hj => by have := hb (j + 1) (by omega); rwa [show k + (j + 1) = k + 1 + j by omega] at this) (by simpa using h)]
    rfl
theorem refo_far (w : Nat) : ∀ (d k : Nat) (l : List UInt8), (∀ j, j < d → ¬ (w ≤ k + j ∧ (k + j - w) % (w - 1) = 0)) → d < l.length → refo w k l = l.take d ++ refo w (k + d) (l.drop d)
  | 0, k, l, _, _ => by simp
  | d + 1, k, [], _, h => absurd h (by simp)
  | d + 1, k, c :: t, hb, h => by
    rw [refo_miss w k c t (hb 0 (by omega)), refo_far w d (k + 1) t (fun j hj => by have := hb (j + 1) (by omega); rwa [show k + (j + 1) = k + 1 + j by omega] at this) (by simpa using h), show k + 1 + d = k + (d + 1) by omega]
    rfl
/-- Behind a break that has been written: what still comes. -/
def tl (w k : Nat) (l : List UInt8) : List UInt8 := if l = [] then [] else (refo w k l).drop 1
theorem tl_nil (w k : Nat) : tl w k [] = [] := rfl
theorem no_break (w q j : Nat) (h0 : 0 < j) (hj : j < w - 1) : ¬ (w ≤ w + q * (w - 1) + j ∧ (w + q * (w - 1) + j - w) % (w - 1) = 0) := by
  rintro ⟨_, h⟩
  rw [show w + q * (w - 1) + j - w = j + q * (w - 1) by omega, Nat.add_mul_mod_self_right, Nat.mod_eq_of_lt hj] at h
  omega
theorem hit_at (w q : Nat) : w ≤ w + q * (w - 1) ∧ (w + q * (w - 1) - w) % (w - 1) = 0 := by
  refine ⟨by omega, ?_⟩
  rw [show w + q * (w - 1) - w = q * (w - 1) by omega]
  exact Nat.mul_mod_left _ _
theorem refo_tl (w q : Nat) (l : List UInt8) (hl : l ≠ []) : refo w (w + q * (w - 1)) l = 10 :: tl w (w + q * (w - 1)) l := by
  unfold tl
  rw [if_neg hl]
  cases l with
  | nil => exact absurd rfl hl
  | cons c t => rw [refo_hit w _ c t (hit_at w q)]; rfl
/-- One line more. -/
theorem tl_step (w q : Nat) (hw : 2 ≤ w) (l : List UInt8) (hl : l ≠ []) : tl w (w + q * (w - 1)) l = 32 :: (l.take (w - 1) ++ (10 :: tl w (w + (q + 1) * (w - 1)) (l.drop (w - 1)))) := by
  have hs : w + (q + 1) * (w - 1) = w + q * (w - 1) + 1 + (w - 2) := by rw [Nat.succ_mul]; omega
  cases l with
  | nil => exact absurd rfl hl
  | cons c t =>
    have hnb : ∀ j, j < w - 2 → ¬ (w ≤ w + q * (w - 1) + 1 + j ∧ (w + q * (w - 1) + 1 + j - w) % (w - 1) = 0) := fun j hj => by
      have := no_break w q (j + 1) (by omega) (by omega)
      rwa [show w + q * (w - 1) + (j + 1) = w + q * (w - 1) + 1 + j by omega] at this
    have e1 : tl w (w + q * (w - 1)) (c :: t) = 32 :: c :: refo w (w + q * (w - 1) + 1) t := by
      unfold tl
      rw [if_neg hl, refo_hit w _ c t (hit_at w q)]
      rfl
    rw [e1]
    congr 1
    have hw1 : w - 1 = (w - 2) + 1 := by omega
    by_cases h : t.length ≤ w - 2
    · rw [refo_short w (w - 2) _ t hnb h, show (c :: t).drop (w - 1) = [] from List.drop_eq_nil_of_le (by simp only [List.length_cons]; omega), tl_nil, show (c :: t).take (w - 1) = c :: t from List.take_of_length_le (by simp only [List.length_cons]; omega)]
      rfl
    · have hne : t.drop (w - 2) ≠ [] := fun e => by have := congrArg List.length e; simp at this; omega
      rw [refo_far w (w - 2) _ t hnb (by omega), ← hs, refo_tl w (q + 1) _ hne, hw1]
      rfl
theorem refo_fits (w : Nat) (l : List UInt8) (h : l.length ≤ w) : refo w 0 l = l ++ [10] := refo_short w w 0 l (fun j hj h2 => by omega) h
theorem refo_folds (w : Nat) (l : List UInt8) (h : w < l.length) : refo w 0 l = l.take w ++ (10 :: tl w (w + 0 * (w - 1)) (l.drop w)) := by
  have hne : l.drop w ≠ [] := fun e => by have := congrArg List.length e; simp at this; omega
  rw [refo_far w w 0 l (fun j hj h2 => by omega) h, ← refo_tl w 0 _ hne]
  simp
/-- All lines. -/
def folds (w : Nat) (ls : List (Int × ByteArray)) : List UInt8 := (ls.map fun g => refo w 0 g.2.data.toList).flatten
theorem folds_snoc (w : Nat) (ls : List (Int × ByteArray)) (x : Int × ByteArray) : folds w (ls ++ [x]) = folds w ls ++ refo w 0 x.2.data.toList := by
  unfold folds; simp
theorem folds_take (w : Nat) (ls : List (Int × ByteArray)) (i : Nat) (hi : i < ls.length) (x : Int × ByteArray) (hx : ls.getD i (0, ⟨#[]⟩) = x) : folds w (ls.take (i + 1)) = folds w (ls.take i) ++ refo w 0 x.2.data.toList := by
  have : ls.take (i + 1) = ls.take i ++ [x] := by
    rw [List.take_succ_eq_append_getElem hi, ← hx, List.getD_eq_getElem?_getD, List.getElem?_eq_getElem hi]
    rfl
  rw [this, folds_snoc]
theorem folds_len (w : Nat) (ls : List (Int × ByteArray)) : (folds w ls).length ≤ 3 * (ls.map fun g => g.2.size).sum + ls.length := by
  induction ls with
  | nil => exact Nat.le_refl _
  | cons x ls ih =>
    have h1 := refo_len w x.2.data.toList 0
    have e : x.2.data.toList.length = x.2.size := Array.length_toList
    have h2 : folds w (x :: ls) = refo w 0 x.2.data.toList ++ folds w ls := by unfold folds; simp
    rw [h2, List.length_append, List.map_cons, List.sum_cons, List.length_cons]
    omega
theorem folds_mono (w : Nat) (ls : List (Int × ByteArray)) (i : Nat) : (folds w (ls.take i)).length ≤ (folds w ls).length := by
  have : folds w ls = folds w (ls.take i) ++ folds w (ls.drop i) := by
    unfold folds
    rw [← List.flatten_append, ← List.map_append, List.take_append_drop]
  rw [this, List.length_append]
  omega
/-! sizes -/
theorem cutR_size (s : ByteArray) (a b : Nat) (h : b ≤ s.size) : (cutR s a b).size ≤ b - a := by
  unfold cutR; split <;> rw [ByteArray.size_extract] <;> omega
theorem ph_sum (s : ByteArray) : ∀ (l : List Int) (lo pos : Nat), lo ≤ pos → pos + l.length = s.size → ((ph s l lo pos).map fun x => x.size).sum ≤ s.size - lo
  | [], lo, pos, h, hp => by
    show (((if lo < s.size then [s.extract lo s.size] else []) : List ByteArray).map fun x => x.size).sum ≤ _
    split
    · simp [ByteArray.size_extract]
    · simp
  | c :: t, lo, pos, h, hp => by
    simp only [List.length_cons] at hp
    show (((if c = 10 then cutR s lo pos :: ph s t (pos + 1) (pos + 1) else ph s t lo (pos + 1)) : List ByteArray).map fun x => x.size).sum ≤ _
    split
    · have h1 := ph_sum s t (pos + 1) (pos + 1) (Nat.le_refl _) (by omega)
      have h2 := cutR_size s lo pos (by omega)
      rw [List.map_cons, List.sum_cons]
      omega
    · exact ph_sum s t lo (pos + 1) (by omega) (by omega)
theorem phys_sum (s : ByteArray) : ((phys s).map fun x => x.size).sum ≤ s.size := by
  have := ph_sum s (bytesOf s) 0 0 (Nat.le_refl _) (by rw [bytesOf_length]; omega)
  simpa [phys] using this
theorem addTo_sum : ∀ (gs : List (Int × List UInt8)) (t : List UInt8), ((addTo gs t).map fun g => g.2.length).sum ≤ (gs.map fun g => g.2.length).sum + t.length
  | [], t => by simp [addTo]
  | [g], t => by simp [addTo]
  | g :: h :: r, t => by
    have := addTo_sum (h :: r) t
    show ((g :: addTo (h :: r) t).map fun g => g.2.length).sum ≤ _
    rw [List.map_cons, List.sum_cons, List.map_cons, List.sum_cons]
    omega
theorem gl_sum (p : List ByteArray) : ∀ k, k ≤ p.length → ((gl p k).map fun g => g.2.length).sum ≤ ((p.take k).map fun x => x.size).sum
  | 0, _ => by simp [gl]
  | k + 1, h => by
    have ih := gl_sum p k (by omega)
    have ht : p.take (k + 1) = p.take k ++ [p.getD k ByteArray.empty] := by
      rw [List.take_succ_eq_append_getElem (by omega), List.getD_eq_getElem?_getD, List.getElem?_eq_getElem (by omega)]
      rfl
    have hz : (p.getD k ByteArray.empty).data.toList.length = (p.getD k ByteArray.empty).size := Array.length_toList
    rw [ht, List.map_append, List.sum_append]
    show ((LinesP.stepG (gl p k) (p.getD k ByteArray.empty) k).map fun g => g.2.length).sum ≤ _
    unfold LinesP.stepG
    split
    · have := addTo_sum (gl p k) ((p.getD k ByteArray.empty).data.toList.drop 1)
      rw [List.length_drop, hz] at this
      simp only [List.map_cons, List.map_nil, List.sum_cons, List.sum_nil]
      omega
    · rw [List.map_append, List.sum_append]
      simp only [List.map_cons, List.map_nil, List.sum_cons, List.sum_nil, hz]
      omega
theorem full_sum (s : ByteArray) : ((full (phys s)).map fun g => g.2.size).sum ≤ s.size ∧ (full (phys s)).length ≤ s.size + 1 := by
  have h1 := gl_sum (phys s) (phys s).length (Nat.le_refl _)
  rw [List.take_length] at h1
  have h2 := phys_sum s
  have h3 := ph_len s (bytesOf s) 0 0
  rw [bytesOf_length] at h3
  have h4 := gl_len (phys s) (phys s).length
  refine ⟨?_, ?_⟩
  · unfold full
    rw [List.map_map]
    have e : ((fun g : Int × ByteArray => g.2.size) ∘ fun g : Int × List UInt8 => (g.1, (⟨g.2.toArray⟩ : ByteArray))) = fun g => g.2.length := by
      funext g
      show g.2.toArray.size = _
      simp
    rw [e]
    omega
  · unfold full
    rw [List.length_map]
    have h3' : (phys s).length ≤ s.size + 1 := h3
    omega
end Go.Proofs.Ytfiomfcejmmbgaa.LinesW

/- Physical lines, logical lines, in plain words. No program. -/
import Derived.Test.YtfiomfcejmmbgaaXV
import Derived.Laws.RangeAny
set_option linter.unusedVariables false
set_option linter.unusedSimpArgs false
namespace Go.Proofs.Ytfiomfcejmmbgaa.LinesP
open Go Go.RowKit Go.Proofs.Ytfiomfcejmmbgaa.XV Go.Proofs.YtfiomfcejmmbgaaW.PrintWords Go.Proofs.YtfiomfcejmmbgaaW.PrintLast
theorem drop_cons (s : ByteArray) (i : Nat) (h : i < s.size) : (bytesOf s).drop i = bt s (i : Int) :: (bytesOf s).drop (i + 1) := by
  have hl : i < (bytesOf s).length := by rw [bytesOf_length]; exact h
  rw [bt_byte, List.drop_eq_getElem_cons hl]
  simp [List.getD_eq_getElem?_getD, List.getElem?_eq_getElem hl]
theorem drop_end (s : ByteArray) (i : Nat) (h : s.size ≤ i) : (bytesOf s).drop i = [] := List.drop_eq_nil_of_le (by rw [bytesOf_length]; exact h)
theorem bt_nat (s : ByteArray) (i : Nat) (h : i < s.size) : bt s (i : Int) = ((s[i]'h).toNat : Int) := by
  unfold bt
  rw [dif_pos (by simpa using h)]
  simp
/-- The text from a to b, without a carriage return at its end. -/
def cutR (s : ByteArray) (a b : Nat) : ByteArray := if a < b ∧ bt s ((b - 1 : Nat) : Int) = 13 then s.extract a (b - 1) else s.extract a b
/-- The physical lines of what is left: l the bytes from pos on, lo the begin of the line. -/
def ph (s : ByteArray) : List Int → Nat → Nat → List ByteArray
  | [], lo, pos => if lo < s.size then [s.extract lo s.size] else []
  | c :: t, lo, pos => if c = 10 then cutR s lo pos :: ph s t (pos + 1) (pos + 1) else ph s t lo (pos + 1)
def phys (s : ByteArray) : List ByteArray := ph s (bytesOf s) 0 0
theorem ph_hit (s : ByteArray) (lo pos : Nat) (h : pos < s.size) (hc : bt s (pos : Int) = 10) : ph s ((bytesOf s).drop pos) lo pos = cutR s lo pos :: ph s ((bytesOf s).drop (pos + 1)) (pos + 1) (pos + 1) := by
  rw [drop_cons s pos h]
  show (if _ then _ else _) = _
  rw [if_pos hc]
theorem ph_miss (s : ByteArray) (lo pos : Nat) (h : pos < s.size) (hc : bt s (pos : Int) ≠ 10) : ph s ((bytesOf s).drop pos) lo pos = ph s ((bytesOf s).drop (pos + 1)) lo (pos + 1) := by
  conv => lhs; rw [drop_cons s pos h]
  show (if _ then _ else _) = _
  rw [if_neg hc]
theorem ph_skip (s : ByteArray) (lo : Nat) : ∀ (n pos : Nat), pos + n ≤ s.size → (∀ j, pos ≤ j → j < pos + n → bt s (j : Int) ≠ 10) → ph s ((bytesOf s).drop pos) lo pos = ph s ((bytesOf s).drop (pos + n)) lo (pos + n)
  | 0, pos, _, _ => rfl
  | n + 1, pos, h, hn => by
    rw [ph_miss s lo pos (by omega) (hn pos (by omega) (by omega)), ph_skip s lo n (pos + 1) (by omega) (fun j h1 h2 => hn j (by omega) (by omega)), show pos + 1 + n = pos + (n + 1) by omega]
theorem ph_end (s : ByteArray) (lo pos : Nat) (h : s.size ≤ pos) : ph s ((bytesOf s).drop pos) lo pos = if lo < s.size then [s.extract lo s.size] else [] := by
  rw [drop_end s pos h]
  rfl
/-- What stands in a rune of more than one byte is no line's end. -/
theorem wide_high (s : ByteArray) (pos : Nat) (h : pos < s.size) (ha : 128 ≤ (s[pos]'h).toNat) : pos + (Utf8.decode s pos).2 ≤ s.size ∧ 1 ≤ (Utf8.decode s pos).2 ∧ ∀ j (hj : j < s.size), pos ≤ j → j < pos + (Utf8.decode s pos).2 → 128 ≤ (s[j]'hj).toNat := by
  have hg : ∀ k (hk : pos + k < s.size), (s.get! (pos + k)).toNat = (s[pos + k]'hk).toNat := fun k hk => by
    congr 1
    simp [ByteArray.get!, getElem!_pos, hk]
    rfl
  have one : ∀ n, n = 1 → pos + n ≤ s.size ∧ 1 ≤ n ∧ ∀ j (hj : j < s.size), pos ≤ j → j < pos + n → 128 ≤ (s[j]'hj).toNat := fun n hn => by
    subst hn
    refine ⟨by omega, by omega, fun j hj h1 h2 => ?_⟩
    obtain rfl : j = pos := by omega
    exact ha
  have hn : ¬ (s.get! (pos + 0)).toNat < 128 := by rw [hg 0 h]; exact Nat.not_lt.2 ha
  have wid : ∀ n, 1 ≤ n → (∀ k, 1 ≤ k → k < n → (decide (pos + k < s.size) && (s.get! (pos + k)).toNat / 64 == 2) = true) → pos + n ≤ s.size ∧ 1 ≤ n ∧ ∀ j (hj : j < s.size), pos ≤ j → j < pos + n → 128 ≤ (s[j]'hj).toNat := fun n hn1 hk => by
    have hlt : ∀ k, k < n → pos + k < s.size := fun k hkn => by
      rcases Nat.eq_zero_or_pos k with h0 | h0
      · omega
      · have := hk k h0 hkn
        simp only [Bool.and_eq_true, decide_eq_true_eq] at this
        exact this.1
    refine ⟨by have := hlt (n - 1) (by omega); omega, hn1, fun j hj h1 h2 => ?_⟩
    rcases Nat.eq_zero_or_pos (j - pos) with h0 | h0
    · obtain rfl : j = pos := by omega
      exact ha
    · have := hk (j - pos) h0 (by omega)
      simp only [Bool.and_eq_true, beq_iff_eq] at this
      have e := hg (j - pos) (by omega)
      rw [e] at this
      have e2 : (s[pos + (j - pos)]'(by omega)) = s[j]'hj := by congr 1; omega
      rw [e2] at this
      omega
  simp only [Utf8.decode, hn, if_false]
  split
  · rename_i hc
    simp only [Bool.and_eq_true] at hc
    split
    · exact wid 2 (by omega) (fun k h1 h2 => by
        obtain rfl : k = 1 := by omega
        rw [Bool.and_eq_true]
        exact hc.2)
    · exact one 1 rfl
  · split
    · rename_i hc
      simp only [Bool.and_eq_true] at hc
      split
      · exact wid 3 (by omega) (fun k h1 h2 => by
          rcases (show k = 1 ∨ k = 2 by omega) with rfl | rfl <;> rw [Bool.and_eq_true]
          · exact hc.1.2
          · exact hc.2)
      · exact one 1 rfl
    · split
      · rename_i hc
        simp only [Bool.and_eq_true] at hc
        split
        · exact wid 4 (by omega) (fun k h1 h2 => by
            rcases (show k = 1 ∨ k = 2 ∨ k = 3 by omega) with rfl | rfl | rfl <;> rw [Bool.and_eq_true]
            · exact hc.1.1.2
            · exact hc.1.2
            · exact hc.2)
        · exact one 1 rfl
      · exact one 1 rfl
/-! ### Logical lines -/
def hasR (x : ByteArray) : Bool := (bytesOf x).contains 13
def goes (x : ByteArray) : Bool := (bytesOf x).head? == some 32
def badF (p : List ByteArray) (i : Nat) : Bool := goes (p.getD i ByteArray.empty) && (i == 0 || (p.getD (i - 1) ByteArray.empty).size == 0)
/-- The first fault from line i on: the error's number, the line. -/
def faultF (p : List ByteArray) : Nat → Nat → Option (Int × Int)
  | 0, _ => none
  | n + 1, i => if hasR (p.getD i ByteArray.empty) = true then some (70, ((i + 1 : Nat) : Int)) else if badF p i = true then some (71, ((i + 1 : Nat) : Int)) else faultF p n (i + 1)
def fault (p : List ByteArray) : Option (Int × Int) := faultF p p.length 0
def addTo : List (Int × List UInt8) → List UInt8 → List (Int × List UInt8)
  | [], _ => []
  | [(n, b)], t => [(n, b ++ t)]
  | g :: h :: r, t => g :: addTo (h :: r) t
def stepG (gs : List (Int × List UInt8)) (x : ByteArray) (k : Nat) : List (Int × List UInt8) := if goes x = true then addTo gs (x.data.toList.drop 1) else gs ++ [(((k + 1 : Nat) : Int), x.data.toList)]
/-- The logical lines of the first k physical ones: numbers and bytes. -/
def gl (p : List ByteArray) : Nat → List (Int × List UInt8)
  | 0 => []
  | k + 1 => stepG (gl p k) (p.getD k ByteArray.empty) k
theorem addTo_snoc : ∀ (gs : List (Int × List UInt8)) (n : Int) (b t : List UInt8), addTo (gs ++ [(n, b)]) t = gs ++ [(n, b ++ t)]
  | [], _, _, _ => rfl
  | [g], n, b, t => rfl
  | g :: h :: r, n, b, t => by
    show g :: addTo ((h :: r) ++ [(n, b)]) t = _
    rw [addTo_snoc (h :: r)]
    rfl
theorem gl_new (p : List ByteArray) (k : Nat) (h : goes (p.getD k ByteArray.empty) = false) : gl p (k + 1) = gl p k ++ [(((k + 1 : Nat) : Int), (p.getD k ByteArray.empty).data.toList)] := by
  show stepG _ _ _ = _
  unfold stepG
  rw [h]
  rfl
theorem gl_on (p : List ByteArray) (k : Nat) (h : goes (p.getD k ByteArray.empty) = true) (gs : List (Int × List UInt8)) (n : Int) (b : List UInt8) (e : gl p k = gs ++ [(n, b)]) : gl p (k + 1) = gs ++ [(n, b ++ (p.getD k ByteArray.empty).data.toList.drop 1)] := by
  show stepG _ _ _ = _
  unfold stepG
  rw [h, if_pos rfl, e, addTo_snoc]
theorem fault_step (p : List ByteArray) : ∀ (n i : Nat), i + n = p.length → 0 < n → faultF p n i = if hasR (p.getD i ByteArray.empty) = true then some (70, ((i + 1 : Nat) : Int)) else if badF p i = true then some (71, ((i + 1 : Nat) : Int)) else faultF p (n - 1) (i + 1)
  | n + 1, i, _, _ => rfl
/-- Without a fault ahead, the first line begins a logical one. -/
theorem gl_some (p : List ByteArray) (k : Nat) (hk : 0 < k) (h0 : goes (p.getD 0 ByteArray.empty) = false) : ∃ gs n b, gl p k = gs ++ [(n, b)] := by
  induction k with
  | zero => omega
  | succ k ih =>
    cases hg : goes (p.getD k ByteArray.empty) with
    | false => exact ⟨_, _, _, gl_new p k hg⟩
    | true =>
      rcases Nat.eq_zero_or_pos k with h | h
      · subst h; rw [h0] at hg; cases hg
      · obtain ⟨gs, n, b, e⟩ := ih h
        exact ⟨_, _, _, gl_on p k hg gs n b e⟩
theorem gl_len (p : List ByteArray) : ∀ k, (gl p k).length ≤ k
  | 0 => Nat.le_refl _
  | k + 1 => by
    have ih := gl_len p k
    show (stepG _ _ _).length ≤ _
    unfold stepG
    split
    · have : ∀ (gs : List (Int × List UInt8)) t, (addTo gs t).length = gs.length := by
        intro gs t
        induction gs with
        | nil => rfl
        | cons g r ih2 =>
          cases r with
          | nil => rfl
          | cons h r => show (g :: addTo (h :: r) t).length = _; simp only [List.length_cons] at ih2 ⊢; rw [ih2]
      rw [this]; omega
    · simp; omega
end Go.Proofs.Ytfiomfcejmmbgaa.LinesP

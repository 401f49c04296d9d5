/- What the reference's grams answer; texts compared; what was marked stands. For every list. -/
import Derived.Test.YtfiomfcejmmbgaaXI1
import Derived.Test.YtfiomfcejmmbgaaOfTX
set_option linter.unusedVariables false
set_option linter.unusedSimpArgs false
namespace Go.Proofs.Ytfiomfcejmmbgaa.GramEv
open Go Go.RowKit Go.Proofs.Ytfiomfcejmmbgaa.XI Go.Proofs.Ytfiomfcejmmbgaa.XV Go.Proofs.Ytfiomfcejmmbgaa.Ris Go.Proofs.Ytfiomfcejmmbgaa.OfT Go.Proofs.YtfiomfcejmmbgaaW.PrintWords Go.Proofs.YtfiomfcejmmbgaaW.PrintLast Go.Proofs.YtfiomfcejmmbgaaW.PrintMore
theorem rdE (l : List ByteArray) (i : Nat) : rdOf ByteArray.empty l (i : Int) = l.getD i E := by unfold rdOf; rw [Int.toNat_natCast]
theorem wrp1 (i : Nat) (h : i ≤ 4611686018427387904) : wrap64 ((i : Int) + 1) = ((i + 1 : Nat) : Int) := by rw [wrp_id _ (by omega) (by omega)]; rfl
theorem drop_at (l : List ByteArray) (i : Nat) (h : i < l.length) : l.drop i = l.getD i E :: l.drop (i + 1) := by
  rw [List.drop_eq_getElem_cons h, List.getD_eq_getElem?_getD, List.getElem?_eq_getElem h]
  rfl
/-- The least of what is asked for. -/
def scan (c : ByteArray → Bool) : List ByteArray → ByteArray × Bool → ByteArray × Bool
  | [], s => s
  | x :: t, s => scan c t (if c x && (!s.2 || ltS x s.1) then (x, true) else s)
theorem scan_spec (c : ByteArray → Bool) : ∀ (l : List ByteArray) (s : ByteArray × Bool), (s.2 = true → c s.1 = true) →
    let r := scan c l s
    (r.2 = true → c r.1 = true ∧ (r.1 ∈ l ∨ (s.2 = true ∧ r.1 = s.1)) ∧ (∀ x ∈ l, c x = true → ltS x r.1 = false) ∧ (s.2 = true → ltS s.1 r.1 = false)) ∧ (r.2 = false → s.2 = false ∧ ∀ x ∈ l, c x = false)
  | [], s, h => ⟨fun h1 => ⟨h h1, .inr ⟨h1, rfl⟩, fun x hx => by simp at hx, fun _ => totS.irr _⟩, fun h1 => ⟨h1, fun x hx => by simp at hx⟩⟩
  | y :: t, s, h => by
    have hsc : scan c (y :: t) s = scan c t (if c y && (!s.2 || ltS y s.1) then (y, true) else s) := rfl
    by_cases hy : (c y && (!s.2 || ltS y s.1)) = true
    · rw [if_pos hy] at hsc
      rw [hsc]
      simp only [Bool.and_eq_true, Bool.or_eq_true, Bool.not_eq_true'] at hy
      have ih := scan_spec c t (y, true) (fun _ => hy.1)
      simp only at ih
      refine ⟨fun h1 => ?_, fun h1 => by have := (ih.2 h1).1; cases this⟩
      obtain ⟨i1, i2, i3, i4⟩ := ih.1 h1
      have hym : ltS y (scan c t (y, true)).1 = false := i4 trivial
      refine ⟨i1, .inl ?_, fun x hx hc => ?_, fun hs => ?_⟩
      · rcases i2 with i2 | ⟨_, i2⟩
        · exact List.mem_cons_of_mem _ i2
        · rw [i2]; exact List.mem_cons_self
      · rcases List.mem_cons.1 hx with rfl | hx
        · exact hym
        · exact i3 x hx hc
      · rcases hy.2 with e | e
        · rw [hs] at e; cases e
        · cases h2 : ltS s.1 (scan c t (y, true)).1 with
          | false => rfl
          | true => have := totS.tr _ _ _ e h2; rw [hym] at this; cases this
    · rw [if_neg hy] at hsc
      rw [hsc]
      have ih := scan_spec c t s h
      simp only at ih
      refine ⟨fun h1 => ?_, fun h1 => ?_⟩
      · obtain ⟨i1, i2, i3, i4⟩ := ih.1 h1
        refine ⟨i1, ?_, fun x hx hc => ?_, i4⟩
        · rcases i2 with i2 | i2
          · exact .inl (List.mem_cons_of_mem _ i2)
          · exact .inr i2
        · rcases List.mem_cons.1 hx with rfl | hx
          · have hs : s.2 = true := by
              cases hs : s.2 with
              | true => rfl
              | false => rw [hc, hs] at hy; exact absurd rfl hy
            have hlt : ltS x s.1 = false := by
              cases hl : ltS x s.1 with
              | false => rfl
              | true => rw [hc, hl, Bool.or_true] at hy; exact absurd rfl hy
            exact totS.le_tr (i4 hs) hlt
          · exact i3 x hx hc
      · obtain ⟨i1, i2⟩ := ih.2 h1
        refine ⟨i1, fun x hx => ?_⟩
        rcases List.mem_cons.1 hx with rfl | hx
        · cases hc : c x with
          | false => rfl
          | true => rw [hc, i1] at hy; exact absurd rfl hy
        · exact i2 x hx
def cand (last : ByteArray) (n : Nat) (x : ByteArray) : Bool := n == 0 || ltS last x
theorem inner_ev (l m : List ByteArray) (last : ByteArray) (n : Nat) (hl : l.length ≤ 1048576) (v : List ByteArray) : ∀ d i (b : ByteArray) (f : Bool), i + d = l.length →
    (∀ b' f', scan (cand last n) (l.drop i) (b, f) = (b', f') → Ev (fun k => rosterref11_sorted.l1 k l m last (n : Int) b' f' (l.length : Int)) v) →
    Ev (fun k => rosterref11_sorted.l1 k l m last (n : Int) b f (i : Int)) v
  | 0, i, b, f, hi, h => by
    have e : i = l.length := by omega
    subst e
    exact h b f (by rw [List.drop_length]; rfl)
  | d + 1, i, b, f, hi, h => by
    have ih := fun b' f' => inner_ev l m last n hl v d (i + 1) b' f' (by omega)
    rw [drop_at l i (by omega)] at h
    refine ev_round ?_
    simp only [rosterref11_sorted.l1]
    rw [wrp1 i (by omega), rdE]
    generalize l.getD i E = x at *
    refine ev_pos (by omega) ?_
    have hit : (cand last n x && (!f || ltS x b)) = true → Ev (fun k => rosterref11_sorted.l1 k l m last (n : Int) x true ((i + 1 : Nat) : Int)) v := fun hh => ih x true (fun b' f' e => h b' f' (by
      show scan _ _ (if _ then _ else _) = _
      rw [if_pos hh]; exact e))
    have miss : (cand last n x && (!f || ltS x b)) = false → Ev (fun k => rosterref11_sorted.l1 k l m last (n : Int) b f ((i + 1 : Nat) : Int)) v := fun hh => ih b f (fun b' f' e => h b' f' (by
      show scan _ _ (if _ then _ else _) = _
      rw [if_neg (by rw [hh]; simp)]; exact e))
    have tail : cand last n x = true → Ev (fun k => if f = true then (if (Op.bytesLess x.toList b.toList) = true then (rosterref11_sorted.l1 k l m last (n : Int) x true ((i + 1 : Nat) : Int)) else (rosterref11_sorted.l1 k l m last (n : Int) b f ((i + 1 : Nat) : Int))) else (rosterref11_sorted.l1 k l m last (n : Int) x true ((i + 1 : Nat) : Int))) v := fun hc => by
      by_cases hf : f = true
      · refine ev_pos hf ?_
        by_cases hx : Op.bytesLess x.toList b.toList = true
        · exact ev_pos hx (hit (by rw [hc, show ltS x b = true from hx]; simp))
        · exact ev_neg hx (miss (by rw [hc, hf, show ltS x b = false from Bool.eq_false_iff.2 hx]; rfl))
      · exact ev_neg hf (hit (by rw [hc, Bool.eq_false_iff.2 hf]; rfl))
    by_cases hn : (n : Int) = 0
    · have hc : cand last n x = true := by unfold cand; rw [show n = 0 by omega]; rfl
      refine ev_pos hn ?_
      by_cases hf : f = true
      · refine ev_pos hf (ev_pos (by omega) ?_)
        by_cases hx : Op.bytesLess x.toList b.toList = true
        · exact ev_pos hx (hit (by rw [hc, show ltS x b = true from hx]; simp))
        · exact ev_neg hx (miss (by rw [hc, hf, show ltS x b = false from Bool.eq_false_iff.2 hx]; rfl))
      · exact ev_neg hf (ev_pos (by omega) (hit (by rw [hc, Bool.eq_false_iff.2 hf]; rfl)))
    · refine ev_neg hn (ev_pos (by omega) ?_)
      by_cases hx : Op.bytesLess last.toList x.toList = true
      · exact ev_pos hx (tail (by unfold cand; rw [show ltS last x = true from hx, Bool.or_true]))
      · exact ev_neg hx (miss (by unfold cand; rw [show ltS last x = false from Bool.eq_false_iff.2 hx, show (n == 0) = false from beq_eq_false_iff_ne.mpr (by omega)]; rfl))
theorem getD_mem (l : List ByteArray) (i : Nat) (h : i < l.length) : l.getD i E ∈ l := by
  rw [List.getD_eq_getElem?_getD, List.getElem?_eq_getElem h]
  exact List.getElem_mem h
/-- Behind the first n of the set. -/
theorem cand_iff (l : List ByteArray) (n : Nat) (hn : n ≤ (setL ltS l).length) (x : ByteArray) (hx : x ∈ l) : cand ((setL ltS l).getD (n - 1) E) n x = true ↔ ∃ k, n ≤ k ∧ k < (setL ltS l).length ∧ x = (setL ltS l).getD k E := by
  have hr := ris_setL totS l
  obtain ⟨k, hk, e⟩ := List.getElem_of_mem ((mem_setL totS x l).2 hx)
  have e' : x = (setL ltS l).getD k E := by rw [List.getD_eq_getElem?_getD, List.getElem?_eq_getElem hk]; exact e.symm
  constructor
  · intro h
    refine ⟨k, ?_, hk, e'⟩
    unfold cand at h
    rcases Nat.lt_or_ge k n with h1 | h1
    · rw [show (n == 0) = false from beq_eq_false_iff_ne.mpr (by omega), Bool.false_or] at h
      exfalso
      rcases Nat.lt_or_ge k (n - 1) with h2 | h2
      · have := totS.asym (ris_at hr h2 (by omega))
        rw [← e', h] at this; cases this
      · rw [show n - 1 = k by omega, ← e', totS.irr] at h; cases h
    · exact h1
  · rintro ⟨k', h1, h2, h3⟩
    unfold cand
    rcases Nat.eq_zero_or_pos n with h0 | h0
    · rw [h0]; rfl
    · rw [h3, ris_at hr (show n - 1 < k' by omega) h2, Bool.or_true]
theorem sorted_ev (l : List ByteArray) (hl : l.length ≤ 1048576) : Ev (fun k => rosterref11_sorted.f k l) (setL ltS l) := by
  have hSl := setL_len totS l
  have hr := ris_setL totS l
  have main : ∀ d n, n + d = (setL ltS l).length → ∀ last, (0 < n → last = (setL ltS l).getD (n - 1) E) → Ev (fun k => rosterref11_sorted.l0 k l ((setL ltS l).take n) last (n : Int)) (setL ltS l) := by
    intro d
    induction d with
    | zero =>
      intro n hn last hlast
      refine ev_round ?_
      simp only [rosterref11_sorted.l0]
      have ht : (setL ltS l).take n = setL ltS l := List.take_of_length_le (by omega)
      rw [ht]
      by_cases h : (n : Int) < (l.length : Int)
      · refine ev_pos h (inner_ev l _ last n hl _ l.length 0 _ _ (by omega) (fun b f e => ?_))
        rw [List.drop_zero] at e
        have hs := scan_spec (cand last n) l (⟨#[]⟩, false) (fun h => by cases h)
        simp only [e] at hs
        have hnone : ∀ x ∈ l, cand last n x = false := fun x hx => by
          cases hc : cand last n x with
          | false => rfl
          | true =>
            have hn0 : 0 < n := by
              rcases Nat.eq_zero_or_pos n with h0 | h0
              · have := (mem_setL totS x l).2 hx
                rw [List.length_eq_zero_iff.1 (show (setL ltS l).length = 0 by omega)] at this
                cases this
              · exact h0
            rw [hlast hn0] at hc
            obtain ⟨k, h1, h2, _⟩ := (cand_iff l n (by omega) x hx).1 hc
            omega
        have hf : f = false := by
          cases f with
          | false => rfl
          | true =>
            obtain ⟨h1, h2, _⟩ := hs.1 rfl
            rcases h2 with h2 | ⟨h2, _⟩
            · rw [hnone b h2] at h1; cases h1
            · cases h2
        subst hf
        refine ev_round ?_
        simp only [rosterref11_sorted.l1]
        exact ev_neg (by omega) (ev_neg (by simp) (ev_eq rfl))
      · exact ev_neg h (ev_eq rfl)
    | succ d ih =>
      intro n hn last hlast
      refine ev_round ?_
      simp only [rosterref11_sorted.l0]
      refine ev_pos (by omega) (inner_ev l _ last n hl _ l.length 0 _ _ (by omega) (fun b f e => ?_))
      rw [List.drop_zero] at e
      have hs := scan_spec (cand last n) l (⟨#[]⟩, false) (fun h => by cases h)
      simp only [e] at hs
      have hci : ∀ x ∈ l, cand last n x = true ↔ ∃ k, n ≤ k ∧ k < (setL ltS l).length ∧ x = (setL ltS l).getD k E := fun x hx => by
        rcases Nat.eq_zero_or_pos n with h0 | h0
        · have := cand_iff l n (by omega) x hx
          rw [h0] at this ⊢
          exact this
        · rw [hlast h0]; exact cand_iff l n (by omega) x hx
      have hnx : (setL ltS l).getD n E ∈ l := (mem_setL totS _ l).1 (getD_mem _ n (by omega))
      have hcn : cand last n ((setL ltS l).getD n E) = true := (hci _ hnx).2 ⟨n, Nat.le_refl _, by omega, rfl⟩
      have hf : f = true := by
        cases f with
        | true => rfl
        | false => have := (hs.2 rfl).2 _ hnx; rw [hcn] at this; cases this
      subst hf
      obtain ⟨h1, h2, h3, _⟩ := hs.1 rfl
      have hbl : b ∈ l := by
        rcases h2 with h2 | ⟨h2, _⟩
        · exact h2
        · cases h2
      obtain ⟨k, k1, k2, k3⟩ := (hci b hbl).1 h1
      have hbe : b = (setL ltS l).getD n E := by
        have hmin := h3 _ hnx hcn
        rcases Nat.lt_or_ge n k with hk | hk
        · have := ris_at hr hk k2
          rw [← k3, hmin] at this; cases this
        · rw [k3, show k = n by omega]
      refine ev_round ?_
      simp only [rosterref11_sorted.l1]
      refine ev_neg (by omega) (ev_pos (by first | rfl | trivial) (ev_pos (by rw [List.length_take]; omega) ?_))
      rw [wrp1 n (by omega)]
      have ht : (setL ltS l).take n ++ [b] = (setL ltS l).take (n + 1) := by
        rw [List.take_succ_eq_append_getElem (by omega), hbe, List.getD_eq_getElem?_getD, List.getElem?_eq_getElem (by omega)]
        rfl
      rw [ht]
      exact ih (n + 1) (by omega) b (fun _ => hbe)
  have := main (setL ltS l).length 0 (by omega) ⟨#[]⟩ (fun h => absurd h (Nat.lt_irrefl _))
  rw [List.take_zero] at this
  exact this
/-! ### the grams -/
def grams (s : ByteArray) : Nat → List ByteArray
  | 0 => []
  | n + 1 => grams s n ++ [s.extract n (n + 3)]
theorem grams_len (s : ByteArray) : ∀ n, (grams s n).length = n
  | 0 => rfl
  | n + 1 => by unfold grams; rw [List.length_append, grams_len s n]; rfl
def gramSet (s : ByteArray) : List ByteArray := setL ltS (grams s (s.size - 2))
theorem gramSet_len (s : ByteArray) : (gramSet s).length ≤ s.size := by
  have := setL_len totS (grams s (s.size - 2))
  rw [grams_len] at this
  unfold gramSet; omega
theorem grams_ev (s : ByteArray) (hs : s.size ≤ 1048576) : Ev (fun k => rosterref11_Grams.f k s) (gramSet s) := by
  have main : ∀ d i, i + d = s.size - 2 → Ev (fun k => rosterref11_Grams.l0 k s (grams s i) (i : Int)) (gramSet s) := by
    intro d
    induction d with
    | zero =>
      intro i hi
      refine ev_round ?_
      simp only [rosterref11_Grams.l0]
      have hw : wrap64 ((i : Int) + 3) = ((i + 3 : Nat) : Int) := by rw [wrp_id _ (by omega) (by omega)]; rfl
      rw [hw]
      refine ev_neg (by omega) ?_
      rw [show i = s.size - 2 by omega]
      exact Ev.bind (sorted_ev _ (by rw [grams_len]; omega)) (ev_eq rfl)
    | succ d ih =>
      intro i hi
      refine ev_round ?_
      simp only [rosterref11_Grams.l0]
      have hw : wrap64 ((i : Int) + 3) = ((i + 3 : Nat) : Int) := by rw [wrp_id _ (by omega) (by omega)]; rfl
      rw [hw, wrp1 i (by omega)]
      refine ev_pos (by omega) (ev_pos (by omega) (ev_pos (by omega) (ev_pos (by rw [grams_len]; omega) ?_)))
      rw [Int.toNat_natCast, Int.toNat_natCast]
      exact ih (i + 1) (by omega)
  exact main (s.size - 2) 0 (by omega)
/-! ### comparing, and what stands -/
theorem same_ev (l : List ByteArray) (hl : l.length ≤ 1048576) : Ev (fun k => rosterlaw11_sameTexts.f k l l) true := by
  have main : ∀ d i, i + d = l.length → Ev (fun k => rosterlaw11_sameTexts.l0 k l l (i : Int)) true := by
    intro d
    induction d with
    | zero =>
      intro i hi
      refine ev_round ?_
      simp only [rosterlaw11_sameTexts.l0]
      exact ev_neg (by omega) (ev_eq rfl)
    | succ d ih =>
      intro i hi
      refine ev_round ?_
      simp only [rosterlaw11_sameTexts.l0]
      rw [wrp1 i (by omega)]
      exact ev_pos (by omega) (ev_pos (by omega) (ev_pos (by omega) (ev_pos (by first | rfl | trivial) (ih (i + 1) (by omega)))))
  simp only [rosterlaw11_sameTexts.f]
  exact ev_pos (by first | rfl | trivial) (main l.length 0 (by omega))
theorem rep_at (n i : Nat) (m : ByteArray) (h : i < n) : rdOf ByteArray.empty (List.replicate n m) (i : Int) = m := by
  rw [rdE, List.getD_eq_getElem?_getD, List.getElem?_replicate, if_pos h]; rfl
theorem whole_ev (n : Nat) (m : ByteArray) (hn : n ≤ 1048576) : Ev (fun k => rosterlaw11_Texts_whole.f k (List.replicate n m) (List.replicate (n + 1) m) m) true := by
  have main : ∀ d i, i + d = n + 1 → Ev (fun k => rosterlaw11_Texts_whole.l0 k (i : Int) (List.replicate n m) (List.replicate (n + 1) m) m) true := by
    intro d
    induction d with
    | zero =>
      intro i hi
      refine ev_round ?_
      simp only [rosterlaw11_Texts_whole.l0, List.length_replicate]
      refine ev_neg (by omega) (ev_eq ?_)
      rw [wrp1 n (by omega)]
      simp
    | succ d ih =>
      intro i hi
      refine ev_round ?_
      simp only [rosterlaw11_Texts_whole.l0, List.length_replicate]
      rw [wrp1 i (by omega), rep_at (n + 1) i m (by omega)]
      refine ev_pos (by omega) (ev_pos (by omega) (ev_pos (by first | rfl | trivial) ?_))
      by_cases h : (i : Int) < (n : Int)
      · rw [rep_at n i m (by omega)]
        exact ev_pos h (ev_pos (by first | rfl | trivial) (ih (i + 1) (by omega)))
      · exact ev_neg h (ih (i + 1) (by omega))
  exact main (n + 1) 0 (by omega)
end Go.Proofs.Ytfiomfcejmmbgaa.GramEv

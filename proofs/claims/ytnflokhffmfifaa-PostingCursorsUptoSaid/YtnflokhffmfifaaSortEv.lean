/- What the reference's Sorted, Place and cursors answer. For every list. -/
import Derived.Test.YtnflokhffmfifaaXC1
import Derived.Test.YtnflokhffmfifaaXV
import Derived.Test.YtnflokhffmfifaaSkipsA
set_option linter.unusedVariables false
set_option linter.unusedSimpArgs false
namespace Go.Proofs.Ytnflokhffmfifaa.SortEv
open Go.RowKit Go.Proofs.Ytnflokhffmfifaa.XC Go.Proofs.Ytnflokhffmfifaa.XV Go.Proofs.Ytnflokhffmfifaa.Ris Go.Proofs.Ytnflokhffmfifaa.Cur Go.Proofs.Ytnflokhffmfifaa.OfW Go.Proofs.YtnflokhffmfifaaW.PrintWords Go.Proofs.YtnflokhffmfifaaW.PrintLast Go.Proofs.YtnflokhffmfifaaW.PrintMore
/-- Two rising lists as one. -/
def mg : List Int → List Int → List Int
  | [], b => b
  | x :: a, [] => x :: a
  | x :: a, y :: b => if x < y then x :: mg a (y :: b) else if y < x then y :: mg (x :: a) b else mg a (y :: b)
termination_by a b => a.length + b.length
theorem mg_mem (a b : List Int) (z : Int) : z ∈ mg a b ↔ z ∈ a ∨ z ∈ b := by
  fun_induction mg a b with
  | case1 b => simp
  | case2 x a => simp
  | case3 x a y b h ih => rw [List.mem_cons, ih, List.mem_cons, List.mem_cons]; simp [or_assoc]
  | case4 x a y b h h2 ih => rw [List.mem_cons, ih, List.mem_cons, List.mem_cons]; constructor <;> (intro q; rcases q with q | q | q <;> simp_all)
  | case5 x a y b h h2 ih =>
    have e : x = y := by omega
    rw [ih, List.mem_cons, List.mem_cons, e]
    constructor
    · rintro (q | q | q) <;> simp [q]
    · rintro ((q | q) | q | q) <;> simp [q]
theorem mg_ris (a b : List Int) (ha : Ris ltI a) (hb : Ris ltI b) : Ris ltI (mg a b) := by
  fun_induction mg a b with
  | case1 b => exact hb
  | case2 x a => exact ha
  | case3 x a y b h ih =>
    obtain ⟨a1, a2⟩ := ris_cons.1 ha
    obtain ⟨b1, b2⟩ := ris_cons.1 hb
    refine ris_cons.2 ⟨fun z hz => ?_, ih a2 hb⟩
    rcases (mg_mem _ _ z).1 hz with q | q
    · exact a1 z q
    · rcases List.mem_cons.1 q with q | q
      · subst q; simpa [ltI] using h
      · have := b1 z q; simp [ltI] at this ⊢; omega
  | case4 x a y b h h2 ih =>
    obtain ⟨a1, a2⟩ := ris_cons.1 ha
    obtain ⟨b1, b2⟩ := ris_cons.1 hb
    refine ris_cons.2 ⟨fun z hz => ?_, ih ha b2⟩
    rcases (mg_mem _ _ z).1 hz with q | q
    · rcases List.mem_cons.1 q with q | q
      · subst q; simpa [ltI] using h2
      · have := a1 z q; simp [ltI] at this ⊢; omega
    · exact b1 z q
  | case5 x a y b h h2 ih => exact ih (ris_cons.1 ha).2 hb
theorem drop_at (l : List Int) (i : Nat) (h : i < l.length) : l.drop i = rd l (i : Int) :: l.drop (i + 1) := by
  rw [List.drop_eq_getElem_cons h]
  congr 1
  simp [rd, List.getD_eq_getElem?_getD, List.getElem?_eq_getElem h]
theorem wrp1 (i : Nat) (h : i ≤ 4611686018427387904) : wrap64 ((i : Int) + 1) = ((i + 1 : Nat) : Int) := by rw [wrp_id _ (by omega) (by omega)]; rfl
theorem merge_ev (a b : List Int) (ha : a.length ≤ 1048576) (hb : b.length ≤ 1048576) (d : Nat) : ∀ (i j : Nat) (out : List Int), i ≤ a.length → j ≤ b.length → (a.length - i) + (b.length - j) = d → out.length + d ≤ 4194304 →
    Ev (fun k => rosterref10_Sorted.l0 k a b out (i : Int) (j : Int)) (out ++ mg (a.drop i) (b.drop j)) := by
  induction d with
  | zero =>
    intro i j out hi hj hd ho
    refine ev_round ?_
    simp only [rosterref10_Sorted.l0]
    refine ev_neg (by omega) (ev_round ?_)
    simp only [rosterref10_Sorted.j1]
    refine ev_neg (by simp; omega) (ev_eq ?_)
    rw [List.drop_of_length_le (by omega), List.drop_of_length_le (by omega)]
    simp [mg]
  | succ d ih =>
    intro i j out hi hj hd ho
    have L : Ev (fun k => rosterref10_Sorted.j1 k a b out (i : Int) (j : Int) true) (out ++ mg (a.drop i) (b.drop j)) := by
      refine ev_round ?_
      simp only [rosterref10_Sorted.j1]
      refine ev_pos (by first | rfl | trivial) ?_
      by_cases hjb : j = b.length
      · refine ev_pos (by omega) (ev_round ?_)
        simp only [rosterref10_Sorted.j2]
        refine ev_pos (by first | rfl | trivial) (ev_pos (by omega) (ev_pos (by omega) (ev_pos (by omega) ?_)))
        rw [wrp1 i (by omega)]
        have := ih (i + 1) j (out ++ [rd a (i : Int)]) (by omega) hj (by omega) (by simp; omega)
        rw [List.append_assoc] at this
        rw [List.drop_of_length_le (by omega : b.length ≤ j)] at this ⊢
        rw [drop_at a i (by omega)]
        have e : ∀ t : List Int, mg t [] = t := fun t => by cases t <;> simp [mg]
        rw [e] at this ⊢
        exact this
      · refine ev_neg (by omega) ?_
        by_cases hia : i < a.length
        · refine ev_pos (by omega) (ev_pos (by omega) (ev_pos (by omega) (ev_pos (by omega) ?_)))
          by_cases hlt : rd a (i : Int) < rd b (j : Int)
          · rw [decide_eq_true hlt]
            refine ev_round ?_
            simp only [rosterref10_Sorted.j2]
            refine ev_pos (by first | rfl | trivial) (ev_pos (by omega) (ev_pos (by omega) (ev_pos (by omega) ?_)))
            rw [wrp1 i (by omega)]
            have := ih (i + 1) j (out ++ [rd a (i : Int)]) (by omega) hj (by omega) (by simp; omega)
            rw [List.append_assoc] at this
            rw [drop_at a i hia, drop_at b j (by omega), mg, if_pos hlt, ← drop_at b j (by omega)]
            exact this
          · rw [decide_eq_false hlt]
            refine ev_round ?_
            simp only [rosterref10_Sorted.j2]
            refine ev_neg (by decide) (ev_neg (by omega) (ev_pos (by omega) (ev_pos (by omega) (ev_pos (by omega) (ev_pos (by omega) ?_)))))
            by_cases hgt : rd b (j : Int) < rd a (i : Int)
            · refine ev_pos hgt (ev_pos (by omega) ?_)
              rw [wrp1 j (by omega)]
              have := ih i (j + 1) (out ++ [rd b (j : Int)]) hi (by omega) (by omega) (by simp; omega)
              rw [List.append_assoc] at this
              rw [drop_at a i hia, drop_at b j (by omega), mg, if_neg hlt, if_pos hgt, ← drop_at a i hia]
              exact this
            · refine ev_neg hgt ?_
              rw [wrp1 i (by omega)]
              have := ih (i + 1) j out (by omega) hj (by omega) (by omega)
              rw [drop_at a i hia, drop_at b j (by omega), mg, if_neg hlt, if_neg hgt, ← drop_at b j (by omega)]
              exact this
        · refine ev_neg (by omega) (ev_round ?_)
          simp only [rosterref10_Sorted.j2]
          refine ev_neg (by decide) (ev_pos (by omega) (ev_pos (by omega) (ev_pos (by omega) (ev_pos (by omega) ?_))))
          rw [wrp1 j (by omega)]
          have := ih i (j + 1) (out ++ [rd b (j : Int)]) hi (by omega) (by omega) (by simp; omega)
          rw [List.append_assoc] at this
          rw [List.drop_of_length_le (by omega : a.length ≤ i)] at this ⊢
          rw [drop_at b j (by omega)]
          simp only [mg] at this ⊢
          exact this
    refine ev_round ?_
    simp only [rosterref10_Sorted.l0]
    by_cases hia : (i : Int) < (a.length : Int)
    · exact ev_pos hia L
    · refine ev_neg hia ?_
      rw [decide_eq_true (show (j : Int) < (b.length : Int) by omega)]
      exact L
theorem sorted_ev (n : Nat) : ∀ l : List Int, l.length ≤ n → l.length ≤ 1048576 → Ev (fun k => rosterref10_Sorted.f k l) (setL ltI l) := by
  induction n with
  | zero =>
    intro l h _
    have e : l = [] := List.length_eq_zero_iff.1 (by omega)
    subst e
    refine ev_round ?_
    simp only [rosterref10_Sorted.f]
    refine ev_pos (by simp) ?_
    simp only [Option.bind_some]
    exact ev_pos (by simp) (ev_eq (by simp [setL]))
  | succ n ih =>
    intro l h hl
    refine ev_round ?_
    simp only [rosterref10_Sorted.f]
    by_cases h2 : (l.length : Int) < 2
    · refine ev_pos h2 ?_
      simp only [Option.bind_some]
      refine ev_pos (by simp; omega) (ev_eq ?_)
      rw [List.nil_append]
      exact (setL_of_ris totI (by match l, h2 with | [], _ => exact ris_nil | [a], _ => simp [Ris] | a :: b :: l, h => simp at h; omega)).symm
    · refine ev_neg h2 ?_
      have e : wrap64 ((l.length : Int) / 2) = ((l.length / 2 : Nat) : Int) := by rw [wrp_id _ (by omega) (by omega)]; rfl
      rw [e]
      refine ev_pos (by omega) (ev_pos (by omega) ?_)
      rw [Int.toNat_natCast]
      have l1 : (l.take (l.length / 2)).length = l.length / 2 := by rw [List.length_take]; omega
      have l2 : (l.drop (l.length / 2)).length = l.length - l.length / 2 := List.length_drop
      have s1 := setL_len totI (l.take (l.length / 2))
      have s2 := setL_len totI (l.drop (l.length / 2))
      refine Ev.bind (ih _ (by omega) (by omega)) (Ev.bind (ih _ (by omega) (by omega)) ?_)
      have := merge_ev (setL ltI (l.take (l.length / 2))) (setL ltI (l.drop (l.length / 2))) (by omega) (by omega) _ 0 0 [] (by omega) (by omega) rfl (by simp; omega)
      rw [List.nil_append, List.drop_zero, List.drop_zero] at this
      have e2 : mg (setL ltI (l.take (l.length / 2))) (setL ltI (l.drop (l.length / 2))) = setL ltI l := setL_eq totI (mg_ris _ _ (ris_setL totI _) (ris_setL totI _)) (fun z => by
        rw [mg_mem, mem_setL totI, mem_setL totI, ← List.mem_append, List.take_append_drop])
      rw [e2] at this
      exact this
end Go.Proofs.Ytnflokhffmfifaa.SortEv

/- The reference at numbers; PostingSets walked: RefA, Sets joined. -/
import Derived.Test.YtnflokhffmfifaaXA2
import Derived.Test.YtnflokhffmfifaaXV
import Derived.Test.YtnflokhffmfifaaSkipsA
import Derived.Test.YtnflokhffmfifaaSetOps
import Derived.Test.YtnflokhffmfifaaCountsW
import Derived.Test.YtnflokhffmfifaaAlgA
set_option linter.unusedVariables false
set_option linter.unusedSimpArgs false
namespace Go.Proofs.Ytnflokhffmfifaa.SortEvA
open Go.RowKit Go.Proofs.Ytnflokhffmfifaa.XA Go.Proofs.Ytnflokhffmfifaa.XV Go.Proofs.Ytnflokhffmfifaa.Ris Go.Proofs.Ytnflokhffmfifaa.Cur Go.Proofs.Ytnflokhffmfifaa.OfW Go.Proofs.YtnflokhffmfifaaW.PrintWords Go.Proofs.YtnflokhffmfifaaW.PrintLast Go.Proofs.YtnflokhffmfifaaW.PrintMore
/-- Two rising lists as one. -/
def mg : List Int → List Int → List Int
  | [], b => b
  | x :: a, [] => x :: a
  | x :: a, y :: b => if x < y then x :: mg a (y :: b) else if y < x then y :: mg (x :: a) b else mg a (y :: b)
termination_by a b => a.length + b.length
theorem mg_mem (a b : List Int) (z : Int) : z ∈ mg a b ↔ z ∈ a ∨ z ∈ b := by
  fun_induction mg a b with
  | case1 b => simp
  | case2 x a => simp
  | case3 x a y b h ih => rw [List.mem_cons, ih, List.mem_cons, List.mem_cons]; simp [or_assoc]
  | case4 x a y b h h2 ih => rw [List.mem_cons, ih, List.mem_cons, List.mem_cons]; constructor <;> (intro q; rcases q with q | q | q <;> simp_all)
  | case5 x a y b h h2 ih =>
    have e : x = y := by omega
    rw [ih, List.mem_cons, List.mem_cons, e]
    constructor
    · rintro (q | q | q) <;> simp [q]
    · rintro ((q | q) | q | q) <;> simp [q]
theorem mg_ris (a b : List Int) (ha : Ris ltI a) (hb : Ris ltI b) : Ris ltI (mg a b) := by
  fun_induction mg a b with
  | case1 b => exact hb
  | case2 x a => exact ha
  | case3 x a y b h ih =>
    obtain ⟨a1, a2⟩ := ris_cons.1 ha
    obtain ⟨b1, b2⟩ := ris_cons.1 hb
    refine ris_cons.2 ⟨fun z hz => ?_, ih a2 hb⟩
    rcases (mg_mem _ _ z).1 hz with q | q
    · exact a1 z q
    · rcases List.mem_cons.1 q with q | q
      · subst q; simpa [ltI] using h
      · have := b1 z q; simp [ltI] at this ⊢; omega
  | case4 x a y b h h2 ih =>
    obtain ⟨a1, a2⟩ := ris_cons.1 ha
    obtain ⟨b1, b2⟩ := ris_cons.1 hb
    refine ris_cons.2 ⟨fun z hz => ?_, ih ha b2⟩
    rcases (mg_mem _ _ z).1 hz with q | q
    · rcases List.mem_cons.1 q with q | q
      · subst q; simpa [ltI] using h2
      · have := a1 z q; simp [ltI] at this ⊢; omega
    · exact b1 z q
  | case5 x a y b h h2 ih => exact ih (ris_cons.1 ha).2 hb
theorem drop_at (l : List Int) (i : Nat) (h : i < l.length) : l.drop i = rd l (i : Int) :: l.drop (i + 1) := by
  rw [List.drop_eq_getElem_cons h]
  congr 1
  simp [rd, List.getD_eq_getElem?_getD, List.getElem?_eq_getElem h]
theorem wrp1 (i : Nat) (h : i ≤ 4611686018427387904) : wrap64 ((i : Int) + 1) = ((i + 1 : Nat) : Int) := by rw [wrp_id _ (by omega) (by omega)]; rfl
theorem merge_ev (a b : List Int) (ha : a.length ≤ 1048576) (hb : b.length ≤ 1048576) (d : Nat) : ∀ (i j : Nat) (out : List Int), i ≤ a.length → j ≤ b.length → (a.length - i) + (b.length - j) = d → out.length + d ≤ 4194304 →
    Ev (fun k => rosterref10_Sorted.l0 k a b out (i : Int) (j : Int)) (out ++ mg (a.drop i) (b.drop j)) := by
  induction d with
  | zero =>
    intro i j out hi hj hd ho
    refine ev_round ?_
    simp only [rosterref10_Sorted.l0]
    refine ev_neg (by omega) (ev_round ?_)
    simp only [rosterref10_Sorted.j1]
    refine ev_neg (by simp; omega) (ev_eq ?_)
    rw [List.drop_of_length_le (by omega), List.drop_of_length_le (by omega)]
    simp [mg]
  | succ d ih =>
    intro i j out hi hj hd ho
    have L : Ev (fun k => rosterref10_Sorted.j1 k a b out (i : Int) (j : Int) true) (out ++ mg (a.drop i) (b.drop j)) := by
      refine ev_round ?_
      simp only [rosterref10_Sorted.j1]
      refine ev_pos (by first | rfl | trivial) ?_
      by_cases hjb : j = b.length
      · refine ev_pos (by omega) (ev_round ?_)
        simp only [rosterref10_Sorted.j2]
        refine ev_pos (by first | rfl | trivial) (ev_pos (by omega) (ev_pos (by omega) (ev_pos (by omega) ?_)))
        rw [wrp1 i (by omega)]
        have := ih (i + 1) j (out ++ [rd a (i : Int)]) (by omega) hj (by omega) (by simp; omega)
        rw [List.append_assoc] at this
        rw [List.drop_of_length_le (by omega : b.length ≤ j)] at this ⊢
        rw [drop_at a i (by omega)]
        have e : ∀ t : List Int, mg t [] = t := fun t => by cases t <;> simp [mg]
        rw [e] at this ⊢
        exact this
      · refine ev_neg (by omega) ?_
        by_cases hia : i < a.length
        · refine ev_pos (by omega) (ev_pos (by omega) (ev_pos (by omega) (ev_pos (by omega) ?_)))
          by_cases hlt : rd a (i : Int) < rd b (j : Int)
          · rw [decide_eq_true hlt]
            refine ev_round ?_
            simp only [rosterref10_Sorted.j2]
            refine ev_pos (by first | rfl | trivial) (ev_pos (by omega) (ev_pos (by omega) (ev_pos (by omega) ?_)))
            rw [wrp1 i (by omega)]
            have := ih (i + 1) j (out ++ [rd a (i : Int)]) (by omega) hj (by omega) (by simp; omega)
            rw [List.append_assoc] at this
            rw [drop_at a i hia, drop_at b j (by omega), mg, if_pos hlt, ← drop_at b j (by omega)]
            exact this
          · rw [decide_eq_false hlt]
            refine ev_round ?_
            simp only [rosterref10_Sorted.j2]
            refine ev_neg (by decide) (ev_neg (by omega) (ev_pos (by omega) (ev_pos (by omega) (ev_pos (by omega) (ev_pos (by omega) ?_)))))
            by_cases hgt : rd b (j : Int) < rd a (i : Int)
            · refine ev_pos hgt (ev_pos (by omega) ?_)
              rw [wrp1 j (by omega)]
              have := ih i (j + 1) (out ++ [rd b (j : Int)]) hi (by omega) (by omega) (by simp; omega)
              rw [List.append_assoc] at this
              rw [drop_at a i hia, drop_at b j (by omega), mg, if_neg hlt, if_pos hgt, ← drop_at a i hia]
              exact this
            · refine ev_neg hgt ?_
              rw [wrp1 i (by omega)]
              have := ih (i + 1) j out (by omega) hj (by omega) (by omega)
              rw [drop_at a i hia, drop_at b j (by omega), mg, if_neg hlt, if_neg hgt, ← drop_at b j (by omega)]
              exact this
        · refine ev_neg (by omega) (ev_round ?_)
          simp only [rosterref10_Sorted.j2]
          refine ev_neg (by decide) (ev_pos (by omega) (ev_pos (by omega) (ev_pos (by omega) (ev_pos (by omega) ?_))))
          rw [wrp1 j (by omega)]
          have := ih i (j + 1) (out ++ [rd b (j : Int)]) hi (by omega) (by omega) (by simp; omega)
          rw [List.append_assoc] at this
          rw [List.drop_of_length_le (by omega : a.length ≤ i)] at this ⊢
          rw [drop_at b j (by omega)]
          simp only [mg] at this ⊢
          exact this
    refine ev_round ?_
    simp only [rosterref10_Sorted.l0]
    by_cases hia : (i : Int) < (a.length : Int)
    · exact ev_pos hia L
    · refine ev_neg hia ?_
      rw [decide_eq_true (show (j : Int) < (b.length : Int) by omega)]
      exact L
theorem sorted_ev (n : Nat) : ∀ l : List Int, l.length ≤ n → l.length ≤ 1048576 → Ev (fun k => rosterref10_Sorted.f k l) (setL ltI l) := by
  induction n with
  | zero =>
    intro l h _
    have e : l = [] := List.length_eq_zero_iff.1 (by omega)
    subst e
    refine ev_round ?_
    simp only [rosterref10_Sorted.f]
    refine ev_pos (by simp) ?_
    simp only [Option.bind_some]
    exact ev_pos (by simp) (ev_eq (by simp [setL]))
  | succ n ih =>
    intro l h hl
    refine ev_round ?_
    simp only [rosterref10_Sorted.f]
    by_cases h2 : (l.length : Int) < 2
    · refine ev_pos h2 ?_
      simp only [Option.bind_some]
      refine ev_pos (by simp; omega) (ev_eq ?_)
      rw [List.nil_append]
      exact (setL_of_ris totI (by match l, h2 with | [], _ => exact ris_nil | [a], _ => simp [Ris] | a :: b :: l, h => simp at h; omega)).symm
    · refine ev_neg h2 ?_
      have e : wrap64 ((l.length : Int) / 2) = ((l.length / 2 : Nat) : Int) := by rw [wrp_id _ (by omega) (by omega)]; rfl
      rw [e]
      refine ev_pos (by omega) (ev_pos (by omega) ?_)
      rw [Int.toNat_natCast]
      have l1 : (l.take (l.length / 2)).length = l.length / 2 := by rw [List.length_take]; omega
      have l2 : (l.drop (l.length / 2)).length = l.length - l.length / 2 := List.length_drop
      have s1 := setL_len totI (l.take (l.length / 2))
      have s2 := setL_len totI (l.drop (l.length / 2))
      refine Ev.bind (ih _ (by omega) (by omega)) (Ev.bind (ih _ (by omega) (by omega)) ?_)
      have := merge_ev (setL ltI (l.take (l.length / 2))) (setL ltI (l.drop (l.length / 2))) (by omega) (by omega) _ 0 0 [] (by omega) (by omega) rfl (by simp; omega)
      rw [List.nil_append, List.drop_zero, List.drop_zero] at this
      have e2 : mg (setL ltI (l.take (l.length / 2))) (setL ltI (l.drop (l.length / 2))) = setL ltI l := setL_eq totI (mg_ris _ _ (ris_setL totI _) (ris_setL totI _)) (fun z => by
        rw [mg_mem, mem_setL totI, mem_setL totI, ← List.mem_append, List.take_append_drop])
      rw [e2] at this
      exact this
end Go.Proofs.Ytnflokhffmfifaa.SortEvA
namespace Go.Proofs.Ytnflokhffmfifaa.InEv
open Go.RowKit Go.Proofs.Ytnflokhffmfifaa.XA Go.Proofs.Ytnflokhffmfifaa.XV Go.Proofs.Ytnflokhffmfifaa.Ris Go.Proofs.Ytnflokhffmfifaa.Cur Go.Proofs.Ytnflokhffmfifaa.OfW Go.Proofs.Ytnflokhffmfifaa.HeapPure Go.Proofs.Ytnflokhffmfifaa.PostAlg Go.Proofs.Ytnflokhffmfifaa.SortEvA Go.Proofs.Ytnflokhffmfifaa.CountW Go.Proofs.YtnflokhffmfifaaW.PrintWords Go.Proofs.YtnflokhffmfifaaW.PrintLast Go.Proofs.YtnflokhffmfifaaW.PrintMore
theorem wr1 (n : Nat) (h : n < 9223372036854775000) : wrap64 ((n : Int) + 1) = ((n + 1 : Nat) : Int) := by unfold wrap64; omega
theorem gI (l : List Int) (j : Nat) (h : j < l.length) : l[j] = l.getD j 0 := by simp [List.getD_eq_getElem?_getD, List.getElem?_eq_getElem h]
theorem rdn (l : List Int) (i : Nat) : rd l (i : Int) = l.getD i 0 := by simp [rd]
theorem place_as (l : List Int) (x : Int) (hr : Ris ltI l) (hn : l.length ≤ 1048576) : Ev (fun k => rosterref10_Place.f k l x) (place l x : Int) := by
  have H : ∀ d lo hi : Nat, hi - lo = d → lo ≤ hi → hi ≤ l.length → (∀ j, j < lo → l.getD j 0 < x) → (∀ j, hi ≤ j → j < l.length → ¬ l.getD j 0 < x) → Ev (fun k => rosterref10_Place.l0 k l x (lo : Int) (hi : Int)) (place l x : Int) := by
    intro d
    induction d using Nat.strongRecOn with
    | ind d ih =>
      intro lo hi hd h1 h2 h3 h4
      refine ev_round ?_
      simp only [rosterref10_Place.l0]
      by_cases hlt : lo < hi
      · obtain ⟨m, hm⟩ : ∃ m : Nat, m = (lo + hi) / 2 := ⟨_, rfl⟩
        have e : wrap64 (Int.tdiv (wrap64 ((lo : Int) + (hi : Int))) 2) = (m : Int) := by
          rw [Go.Proofs.Ytnflokhffmfifaa.XV.wrp_id ((lo : Int) + (hi : Int)) (by omega) (by omega), Int.tdiv_eq_ediv_of_nonneg (by omega), Go.Proofs.Ytnflokhffmfifaa.XV.wrp_id _ (by omega) (by omega)]
          omega
        have e' : rd l (m : Int) = l.getD m 0 := by simp [rd]
        refine ev_pos (by omega) ?_
        simp only [e, e']
        refine ev_pos (by omega) (ev_pos (by omega) ?_)
        by_cases hx : l.getD m 0 < x
        · refine ev_pos hx ?_
          rw [wrp1 m (by omega)]
          exact ih (hi - (m + 1)) (by omega) (m + 1) hi rfl (by omega) h2 (fun j hj => ris_below hr (by omega) hx j (by omega)) h4
        · refine ev_neg hx ?_
          exact ih (m - lo) (by omega) lo m rfl (by omega) (by omega) h3 (fun j hj hl => ris_above hr hx j hj hl)
      · refine ev_neg (by omega) (ev_eq ?_)
        obtain rfl : lo = hi := by omega
        rw [place_eq lo h2 h3 (fun hl => h4 lo (Nat.le_refl _) hl)]
  exact H _ 0 l.length rfl (by omega) (Nat.le_refl _) (fun j hj => by omega) (fun j h1 h2 => by omega)
theorem place_tells {l : List Int} (hr : Ris ltI l) (x : Int) : x ∈ l ↔ place l x < l.length ∧ l.getD (place l x) 0 = x := by
  constructor
  · intro h
    have h1 := (mem_drop_place hr x x).2 ⟨h, by omega⟩
    have hlt : place l x < l.length := by
      have := List.length_pos_of_mem h1
      rw [List.length_drop] at this
      omega
    refine ⟨hlt, ?_⟩
    have h2 := place_end l x hlt
    obtain ⟨j, hj, e⟩ := List.getElem_of_mem h
    have hge : place l x ≤ j := by
      rcases Nat.lt_or_ge j (place l x) with h3 | h3
      · have := place_lt l x j h3
        rw [← gI _ _ hj, e] at this
        exact absurd this (by omega)
      · exact h3
    rcases Nat.lt_or_ge (place l x) j with h3 | h3
    · have := ris_at hr h3 hj
      rw [← gI _ _ hj, e] at this
      exact absurd this h2
    · obtain rfl : j = place l x := by omega
      rw [← gI _ _ hj, e]
  · rintro ⟨h1, h2⟩
    rw [← h2, ← gI _ _ h1]
    exact List.getElem_mem h1
theorem in_ev (l : List Int) (x : Int) (hr : Ris ltI l) (hn : l.length ≤ 1048576) : Ev (fun k => rosterref10_In.f k l x) (decide (x ∈ l)) := by
  unfold rosterref10_In.f
  refine Ev.bind (place_as l x hr hn) ?_
  have ht := place_tells hr x
  by_cases h : place l x < l.length
  · refine ev_pos (by omega) (ev_pos (by omega) (ev_eq ?_))
    rw [rdn]
    by_cases h2 : l.getD (place l x) 0 = x
    · rw [h2, decide_eq_true (ht.2 ⟨h, h2⟩)]; simp
    · rw [decide_eq_false (fun h3 => h2 (ht.1 h3).2)]; simpa using h2
  · refine ev_neg (by omega) (ev_eq ?_)
    rw [decide_eq_false (fun h3 => h (ht.1 h3).1)]
/-- The reference's In, at a rising row. -/
theorem rin_as (W : World) (g : Nat) (A : Option Addr) (c : Nat) (l : List Int) (x : Int) (h : Row W g A c l) (hr : Ris ltI l) (hn : l.length ≤ 1048576) : Calls Try.prog 56 #[.slice A l.length c, .int .i64 x] W fun e w' => e = .returned (.bool (decide (x ∈ l))) ∧ Drawn0 W w' := by
  obtain ⟨k, hk⟩ := Ev.rounds (in_ev l x hr hn)
  exact rosterref10_In.calls k A c l x _ W (Row.nums h hn) h.cap hk
/-- The reference's Sorted: a new row, of the elements' own kind. -/
theorem rsorted_as (W : World) (g : Nat) (A : Option Addr) (c : Nat) (l : List Int) (h : Row W g A c l) (hn : l.length ≤ 1048576) : Calls Try.prog 33 #[.slice A l.length c] W fun e w' => ∃ g' B cc, e = .returned (.slice B (setL ltI l).length cc) ∧ Row w' g' B cc (setL ltI l) ∧ (0 < (setL ltI l).length → W.heap.size ≤ g' ∧ ∃ cs, w'.heap[g']? = some (.cells cs 2 (0, 0))) ∧ Below W.heap.size W w' := by
  obtain ⟨k, hk⟩ := Ev.rounds (sorted_ev l.length l (Nat.le_refl _) hn)
  refine (rosterref10_Sorted.calls k A c l _ W (Row.nums h hn) h.cap hk).mono ?_
  rintro e w' ⟨v, rfl, hR, hb⟩
  by_cases hp : 0 < (setL ltI l).length
  · obtain ⟨g', cap, cur, rfl, h1, h2, h3, h4, h5, h6⟩ := own_block hR hp
    obtain ⟨g2, h7, _⟩ := row_of_R hR
    refine ⟨g', some ⟨g', 0, none⟩, cap, rfl, ?_, fun _ => ⟨h1, _, h2⟩, hb⟩
    obtain ⟨o, e1, _⟩ := h7.at_ hp
    cases e1
    exact h7
  · obtain ⟨B, cc, rfl⟩ := Kd.R_slice hR
    obtain ⟨g2, h7, _⟩ := row_of_R hR
    exact ⟨g2, B, cc, rfl, h7, fun h => absurd h hp, hb⟩
end Go.Proofs.Ytnflokhffmfifaa.InEv
namespace Go.Proofs.Ytnflokhffmfifaa.CountW
open Go.RowKit Go.Proofs.Ytnflokhffmfifaa.InEv Go.Proofs.Ytnflokhffmfifaa.Blk Go.Proofs.Ytnflokhffmfifaa.Ris Go.Proofs.Ytnflokhffmfifaa.Cur Go.Proofs.Ytnflokhffmfifaa.OfW Go.Proofs.Ytnflokhffmfifaa.HeapPure Go.Proofs.Ytnflokhffmfifaa.HeapW Go.Proofs.Ytnflokhffmfifaa.CountPure Go.Proofs.Ytnflokhffmfifaa.PostAlg Go.Proofs.YtnflokhffmfifaaW.PrintWords Go.Proofs.YtnflokhffmfifaaW.PrintLast Go.Proofs.YtnflokhffmfifaaW.PrintMore
/-- A row of the reference's own making. -/
structure Mine (B0 : Nat) (w : World) (d : Hd) : Prop where
  row : Row w d.g d.A d.c d.l
  own : 0 < d.l.length → B0 ≤ d.g ∧ ∃ cs, w.heap[d.g]? = some (.cells cs 2 (0, 0))
theorem Mine.on {B0 : Nat} {w w1 : World} {d : Hd} (h : Mine B0 w d) (k : 0 < d.l.length → w1.heap[d.g]? = w.heap[d.g]?) : Mine B0 w1 d :=
  ⟨h.row.on k, fun hp => ⟨(h.own hp).1, by obtain ⟨cs, hc⟩ := (h.own hp).2; exact ⟨cs, (k hp).trans hc⟩⟩⟩
theorem Mine.lt {B0 : Nat} {w : World} {d : Hd} (h : Mine B0 w d) (hp : 0 < d.l.length) : d.g < w.heap.size := Row.lt h.row hp
structure RA (W : World) (Es : List Hd) (i : Nat) (ds : List Hd) (va vs : Value) (wr : World) : Prop where
  sets : wr.ownsRow W.heap.size 22 1 vs i (ds.map Hd.v)
  all : Kd.R (Kd.int .i64) 2 wr W.heap.size (fun _ => True) va (ds.map Hd.l).flatten
  row : ∀ d ∈ ds, Mine W.heap.size wr d ∧ (0 < d.l.length → some d.g ≠ va.ownBlock)
  maps : ds.map Hd.l = (Es.take i).map fun d => setL ltI d.l
  below : Below W.heap.size W wr
theorem own_below {w w1 : World} {base : Nat} {e : TypeId} {size : Nat} {v : Value} {n : Nat} {xs : List Value} (h : w.ownsRow base e size v n xs) (hb : Below w.heap.size w w1) : w1.ownsRow base e size v n xs := by
  obtain ⟨h1, h2 | ⟨g, cap, cur, e1, e2, e3, e4⟩⟩ := h
  · exact ⟨h1, .inl h2⟩
  · exact ⟨h1, .inr ⟨g, cap, cur, e1, e2, (hb.block _ (Array.getElem?_eq_some_iff.1 e3).1).trans e3, e4⟩⟩
/-- A row of headers is no row of numbers. -/
theorem ne_kind {w : World} {base : Nat} {vs : Value} {m : Nat} {xs : List Value} (h : w.ownsRow base 22 1 vs m xs) {g : Nat} {cs : Array Value} {f : Nat × Nat} (hc : w.heap[g]? = some (.cells cs 2 f)) : some g ≠ vs.ownBlock := by
  intro e
  rcases h.2 with ⟨rfl, _⟩ | ⟨g', cap, cur, rfl, _, h4, _⟩
  · simp [Value.ownBlock] at e
  · obtain rfl : g = g' := by simpa [Value.ownBlock] using e
    rw [h4] at hc; cases hc
/-- The sorted list put behind the sets. -/
theorem RA.put {W wr W2 w3 : World} {Es : List Hd} {i : Nat} {ds : List Hd} {va vs v' : Value} {o : Obj} {d : Hd} (h : RA W Es i ds va vs wr) (hb : Below wr.heap.size wr W2) (hd : Mine wr.heap.size W2 d)
    (hg : (W2.alloc o).grownBy w3 vs.ownBlock) (own : w3.ownsRow W.heap.size 22 1 v' (i + 1) (ds.map Hd.v ++ [d.v])) :
    w3.ownsRow W.heap.size 22 1 v' (i + 1) ((ds ++ [d]).map Hd.v) ∧ Kd.R (Kd.int .i64) 2 w3 W.heap.size (fun _ => True) va (ds.map Hd.l).flatten ∧ (∀ e ∈ ds ++ [d], Mine W.heap.size w3 e ∧ (0 < e.l.length → some e.g ≠ va.ownBlock)) ∧ Below W.heap.size W w3 := by
  have hz : (W2.alloc o).heap.size = W2.heap.size + 1 := World.size_alloc _ _
  have hbs := h.below.size
  have hb2 := hb.size
  have hse : (W2.alloc o).ownsRow W.heap.size 22 1 vs i (ds.map Hd.v) := (own_below h.sets hb).alloc o
  have keep : ∀ g, g < W2.heap.size → some g ≠ vs.ownBlock → w3.heap[g]? = W2.heap[g]? := fun g h1 h2 => (hg.block g (by omega) h2).trans (Below.heap_alloc _ _ _ h1)
  have mine : ∀ e : Hd, ∀ B0, Mine B0 W2 e → Mine B0 w3 e := fun e B0 he => he.on (fun hp => keep _ (he.lt hp) (by
    obtain ⟨cs, hc⟩ := (he.own hp).2
    exact ne_kind (own_below h.sets hb) hc))
  have hall2 : W2.ownsRow W.heap.size 2 1 va (ds.map Hd.l).flatten.length (encs (Value.int .i64) (ds.map Hd.l).flatten) := own_below (Kd.own_of_R h.all) hb
  refine ⟨by rw [List.map_append]; exact own, ?_, fun e he => ?_, ?_⟩
  · refine Kd.R_of_own (h1 := fun _ => rfl) (((hall2.alloc o).kept hg ?_)) (fun _ _ => trivial)
    rcases hall2.2 with ⟨rfl, _⟩ | ⟨g, cap, cur, rfl, _, h4, _⟩
    · exact .inl rfl
    · exact .inr (ne_kind (own_below h.sets hb) h4)
  · rcases List.mem_append.1 he with he | he
    · obtain ⟨h1, h2⟩ := h.row e he
      exact ⟨mine e _ (h1.on (fun hp => hb.block _ (h1.lt hp))), h2⟩
    · rw [List.mem_singleton] at he
      subst he
      have hd' : Mine W.heap.size W2 e := ⟨hd.row, fun hp => ⟨Nat.le_trans hbs (hd.own hp).1, (hd.own hp).2⟩⟩
      refine ⟨mine e _ hd', fun hp eq => ?_⟩
      have h3 := ((Kd.own_of_R h.all).lt _ eq.symm).2
      have h4 := (hd.own hp).1
      omega
  · exact ((h.below.trans (hb.mono hbs)).alloc (by omega) o).grown hg (by omega) (fun j e => (h.sets.lt _ e).1)
/-- And its elements behind all the elements. -/
theorem RA.app {W w3 w4 : World} {Es : List Hd} {i : Nat} {ds : List Hd} {va vs v1 : Value} {d : Hd} (h1 : w3.ownsRow W.heap.size 22 1 vs (i + 1) ((ds ++ [d]).map Hd.v)) (h2 : Kd.R (Kd.int .i64) 2 w3 W.heap.size (fun _ => True) va (ds.map Hd.l).flatten) (h3 : ∀ e ∈ ds ++ [d], Mine W.heap.size w3 e ∧ (0 < e.l.length → some e.g ≠ va.ownBlock))
    (hm : ds.map Hd.l = (Es.take i).map fun d => setL ltI d.l) (hi : i < Es.length) (hd : d.l = setL ltI (Es.getD i default).l) (ho : Kd.R (Kd.int .i64) 2 w4 W.heap.size (fun _ => True) v1 ((ds.map Hd.l).flatten ++ d.l)) (hb : Below W.heap.size W w4) (hg : w3.grownBy w4 va.ownBlock) (hat : v1.ownBlock = va.ownBlock ∨ ∃ b, v1.ownBlock = some b ∧ w3.heap.size ≤ b) : RA W Es (i + 1) (ds ++ [d]) v1 vs w4 := by
  have hown := Kd.own_of_R h2
  refine ⟨h1.kept hg ?_, by rw [List.map_append, List.flatten_append]; simpa using ho, fun e he => ?_, by rw [take_snoc Es hi, List.map_append, List.map_append, hm, List.map_cons, List.map_nil, hd]; rfl, hb⟩
  · rcases h1.2 with ⟨rfl, _⟩ | ⟨g, cap, cur, rfl, _, h4, _⟩
    · exact .inl rfl
    · refine .inr (fun eq => ?_)
      have e2 : some g = va.ownBlock := by simpa [Value.ownBlock] using eq
      rcases hown.2 with ⟨rfl, _⟩ | ⟨g', cap', cur', rfl, _, h5, _⟩
      · simp [Value.ownBlock] at e2
      · obtain rfl : g = g' := by simpa [Value.ownBlock] using e2
        rw [h4] at h5; cases h5
  · obtain ⟨m1, m2⟩ := h3 e he
    refine ⟨m1.on (fun hp => hg.block _ (m1.lt hp) (m2 hp)), fun hp eq => ?_⟩
    rcases hat with hat | ⟨b, hb1, hb2⟩
    · rw [hat] at eq; exact m2 hp eq
    · rw [hb1] at eq
      have := m1.lt hp
      cases eq
      omega
theorem flat_short {Es : List Hd} (hb : bulk Es ≤ 1048576) (i : Nat) : (((Es.take i).map fun d => setL ltI d.l).flatten).length ≤ 1048576 := by
  have h1 := bulk_take Es i
  have h2 : ∀ t : List Hd, ((t.map fun d => setL ltI d.l).flatten).length ≤ bulk t := fun t => by
    induction t with
    | nil => exact Nat.le_refl _
    | cons d t ih =>
      have := setL_len totI d.l
      rw [List.map_cons, List.flatten_cons, List.length_append, bulk_cons]
      omega
  exact Nat.le_trans (h2 _) (Nat.le_trans h1 hb)
theorem cnt_take (ls : List (List Int)) (x : Int) {j : Nat} (hj : j < ls.length) : cnt (ls.take (j + 1)) x = cnt (ls.take j) x + (if x ∈ ls.getD j [] then 1 else 0) := by
  rw [List.take_add_one, List.getElem?_eq_getElem hj]
  unfold cnt
  have e : ls.getD j [] = ls[j] := by simp [List.getD_eq_getElem?_getD, List.getElem?_eq_getElem hj]
  rw [List.filter_append, List.length_append, e]
  congr 1
  by_cases h : x ∈ ls[j] <;> simp [h]
theorem map_at (ds : List Hd) {j : Nat} (hj : j < ds.length) : (ds.map Hd.l).getD j [] = (ds.getD j default).l := by
  simp [List.getD_eq_getElem?_getD, List.getElem?_eq_getElem hj]
/-- The sets, as headers in a row. -/
theorem RA.heads {W wr : World} {Es ds : List Hd} {i : Nat} {va vs : Value} (h : RA W Es i ds va vs wr) : ∃ L c, vs = .slice L ds.length c ∧ Heads wr L ds ∧ ds.length = i := by
  have hl : ds.length = i := by have := h.sets.1; simpa using this
  rcases h.sets.2 with ⟨rfl, h0⟩ | ⟨g, cap, cur, rfl, _, h4, h5, h6, h7, h8⟩
  · refine ⟨none, 0, by rw [hl, h0], ⟨fun k hk => by omega, fun d hd => (h.row d hd).1.row⟩, hl⟩
  · refine ⟨some ⟨g, 0, none⟩, cap, by rw [hl], ⟨fun k hk => ⟨g, 0, rfl, ?_⟩, fun d hd => (h.row d hd).1.row⟩, hl⟩
    rw [Nat.zero_add, Blk.At.cell (cs := cur.toList) (show Blk.At wr g cur.toList 22 from h4) k]
    have h9 : (cur.toList.take (i * 1))[k]? = some (ds.getD k default).v := by
      rw [h8, List.getElem?_map, List.getElem?_eq_getElem hk]
      simp [List.getD_eq_getElem?_getD, List.getElem?_eq_getElem hk]
    rwa [List.getElem?_take_of_lt (by omega)] at h9
set_option maxHeartbeats 4000000 in
set_option maxRecDepth 100000 in
theorem ratleast_as (W : World) (k : Int) (c : Nat) (L : Option Addr) (Es : List Hd) (h : Heads W L Es) (hb : bulk Es ≤ 1048576) (hm : Es.length ≤ 1048576) : Calls Try.prog 25 #[.int .i64 k, .slice L Es.length c] W (Got W (atLeast ltI k (Es.map Hd.l))) := by
  obtain ⟨i0, hi, hz0, hz1, hz2⟩ := info_parts info22
  have HH := Lib.hid h
  have HBK := Lib.hid hb
  have HR0 : Hid (RA W Es 0 [] (.slice none 0 0) (.slice none 0 0) W) := Lib.hid ⟨World.ownsRow_nil _ _ _ _, Kd.R_nil _ _ _ _ _, fun d hd => by simp at hd, rfl, Below.refl _ _⟩
  clear h hb
  go_enter Try.func25, Try.ntmps25
  go_wp2
  go_loopw [5, 6, 7] (fun v5 v6 v7 wr => ∃ (i : Nat) (ds : List Hd), i ≤ Es.length ∧ v7 = .int .i64 (i : Nat) ∧ Hid (RA W Es i ds v5 v6 wr)) (fun _ _ v _ => Es.length - (intOf v).toNat)
  case atStart => exact ⟨0, [], Nat.zero_le _, rfl, HR0⟩
  case round =>
    clear HR0
    obtain ⟨i, ds, hi', rfl, HW⟩ := hrel
    by_cases hin : i < Es.length
    · have hlt : (i : Int) < (Es.length : Int) := by omega
      obtain ⟨lr, lo, rfl, hc⟩ := HH.out.head i hin
      have hcw := (HW.out.below.cell (p := ⟨lr, lo + i, none⟩) (World.block_lt_of_cell? W _ hc)).trans hc
      have hmem : Es.getD i default ∈ Es := by rw [← getElem_getD _ _ hin]; exact List.getElem_mem hin
      have hrow : Row wr (Es.getD i default).g (Es.getD i default).A (Es.getD i default).c (Es.getD i default).l := (HH.out.row _ hmem).on (fun hp => HW.out.below.block _ (Row.lt (HH.out.row _ hmem) hp))
      have hlen := Nat.le_trans (bulk_mem _ hmem) HBK.out
      have hfl := flat_short HBK.out i
      have hfl1 := flat_short HBK.out (i + 1)
      rw [← HW.out.maps] at hfl
      obtain ⟨e, he⟩ : ∃ e, Es.getD i default = e := ⟨_, rfl⟩
      rw [he] at hcw hrow hlen
      unfold Hd.v at hcw
      have HE := Lib.hid he
      have hse : (setL ltI e.l).length ≤ 1048576 := Nat.le_trans (setL_len totI _) hlen
      have SO := Lib.hid (rsorted_as wr e.g e.A e.c e.l hrow hlen)
      have hsz := HW.out.below.size
      have hsets := HW.out.sets
      have hml : i + 1 ≤ maxLen := by simp only [maxLen]; omega
      clear hc hmem hrow he
      go_wp2_with (first
        | (go_at_call 33; ((with_reducible refine SO.out.mono ?_); rintro e2 W2 ⟨g2, B2, c2, rfl, q1, q2, q3⟩; have HM := Lib.hid (show Mine wr.heap.size W2 ⟨B2, c2, g2, setL ltI e.l⟩ from ⟨q1, q2⟩); have HB2 := Lib.hid q3; have hsz2 := q3.size; have own2 := own_below hsets q3; clear q1 q2 q3))
        | (at_builtin; refine wpList_append_own _ rfl (.tmp 25) (.tmp 27) 42 rfl W.heap.size 22 i0 (.slice none 0 0) 1 24 Try.underlying42 hi hz0 hz1 hz2 rfl (by decide) _ _ _ rfl (own2.alloc _) ⟨W2.heap.size, 0, none⟩ 1 1 [.slice B2 (setL ltI e.l).length c2] rfl rfl (cell_one_new _ _ _) (by simp [Value.oneCell']) hml (by omega) (by rw [World.size_alloc]; omega) ?_; intro v8 w3 own3 grow3 _; have HP := Lib.hid (RA.put (d := ⟨B2, c2, g2, setL ltI e.l⟩) HW.out HB2.out HM.out grow3 own3); clear own3 grow3)
        | (((with_reducible refine gate_builtin (b := .append) (xs := #[.tmp 29, .tmp 30]) rfl ?_); at_builtin; refine Kd.R_append_rows (Kd.int .i64) (w0 := W) W.heap.size rfl (.tmp 29) (.tmp 30) 22 2 (.int .i64 0) 8 rfl Try.underlying22 Cur.info2 rfl (by decide) (by omega) _ (ds.map Hd.l).flatten (setL ltI e.l) _ _ _ (fun _ => True) (fun _ => False) rfl rfl ?aO ?aR (fun _ _ h => h) (fun _ h => h.elim) ?aF ?aB ?aS ?aL ?_; (case aR => exact Row.nums (HP.out.2.2.1 ⟨B2, c2, g2, setL ltI e.l⟩ (by simp)).1.row hse); (case aB => exact HP.out.2.2.2); (case aF => exact (fun _ _ => trivial)); (case aO => exact HP.out.2.1); (case aS => exact HP.out.2.2.2.size); (case aL => omega); intro v9 w4 ho hb hg hat; have HQ := Lib.hid (RA.app (d := ⟨B2, c2, g2, setL ltI e.l⟩) HP.out.1 HP.out.2.1 HP.out.2.2.1 HW.out.maps hin (by rw [HE.out]) ho hb hg hat); clear ho hb hg hat))
        | go_in)
      go_roundw
      case rel => exact ⟨i + 1, _, by omega, by go_num, HQ⟩
      case measure => simp [intOf]; omega
    · have hlt : ¬ ((i : Int) < (Es.length : Int)) := by omega
      obtain rfl : i = Es.length := by omega
      obtain ⟨L2, c2, rfl, hh2, hdl⟩ := HW.out.heads
      obtain ⟨A1, cA, rfl⟩ := Kd.R_slice HW.out.all
      obtain ⟨gA, rA, _⟩ := row_of_R HW.out.all
      have hfl := flat_short HBK.out Es.length
      rw [← HW.out.maps] at hfl
      have hmp := HW.out.maps
      rw [List.take_of_length_le (Nat.le_refl _)] at hmp
      have hcn : ∀ x, cnt (ds.map Hd.l) x = cnt (Es.map Hd.l) x := fun x => by
        rw [hmp, ← cnt_sets (Es.map Hd.l) x, List.map_map]
        rfl
      have hris : ∀ d ∈ ds, Ris ltI d.l ∧ d.l.length ≤ 1048576 := fun d hd => by
        have : d.l ∈ Es.map fun d => setL ltI d.l := by rw [← hmp]; exact List.mem_map.2 ⟨d, hd, rfl⟩
        obtain ⟨e, he, heq⟩ := List.mem_map.1 this
        rw [← heq]
        exact ⟨ris_setL totI _, Nat.le_trans (setL_len totI _) (Nat.le_trans (bulk_mem e he) HBK.out)⟩
      have hall : setL ltI (ds.map Hd.l).flatten = setL ltI (Es.map Hd.l).flatten := setL_congr totI (fun x => by rw [mem_flat, mem_flat, hcn])
      have SO := rsorted_as wr gA A1 cA _ rA hfl
      rw [hall] at SO
      have hsl : (setL ltI (Es.map Hd.l).flatten).length ≤ 1048576 := Nat.le_trans (setL_len totI _) (by rw [flat_len]; exact HBK.out)
      have hAT : atLeast ltI k (Es.map Hd.l) = (setL ltI (Es.map Hd.l).flatten).filter fun x => decide (k ≤ (cnt (ds.map Hd.l) x : Int)) := by
        unfold atLeast
        exact List.filter_congr (fun x _ => by rw [hcn])
      generalize setL ltI (Es.map Hd.l).flatten = S at SO hsl hAT
      have H1 := Lib.hid SO
      have HAT := Lib.hid hAT
      have H2 := Lib.hid hh2
      have HRS := Lib.hid hris
      have HDL := Lib.hid hdl
      have HB9 := Lib.hid HW.out.below
      clear SO hAT hh2 hris hall hcn hmp rA hfl HW
      generalize (ds.map Hd.l).flatten = X at H1 ⊢
      have hdm : ds.length ≤ 1048576 := by omega
      clear hdl hlt hin hi'
      rw [← HDL.out]
      obtain ⟨i1, hi1, hy0, hy1, hy2⟩ := info_parts Cur.info2
      go_wp2_with (first | (go_at_call 33; ((with_reducible refine H1.out.mono ?_); rintro e2 W5 ⟨g5, B5, c5, rfl, q1, q2, q3⟩; have HS5 := Lib.hid q1; have HB5 := Lib.hid (HB9.out.trans (q3.mono HB9.out.size)); have H5 := Lib.hid (H2.out.on q3); clear q1 q2 q3)) | go_in)
      have HZ0 : Hid (Below W5.heap.size W5 W5 ∧ W5.ownsRow W5.heap.size 2 1 (.slice none 0 0) ((S.take 0).filter fun x => decide (k ≤ (cnt (ds.map Hd.l) x : Int))).length (((S.take 0).filter fun x => decide (k ≤ (cnt (ds.map Hd.l) x : Int))).map (Value.int .i64))) := Lib.hid ⟨Below.refl _ _, World.ownsRow_nil _ _ _ _⟩
      clear H1 H2 HB9
      go_loopw [9, 10] (fun v9 v10 w2 => ∃ i2 : Nat, i2 ≤ S.length ∧ v10 = .int .i64 (i2 : Nat) ∧ Hid (Below W5.heap.size W5 w2 ∧ w2.ownsRow W5.heap.size 2 1 v9 ((S.take i2).filter fun x => decide (k ≤ (cnt (ds.map Hd.l) x : Int))).length (((S.take i2).filter fun x => decide (k ≤ (cnt (ds.map Hd.l) x : Int))).map (Value.int .i64)))) (fun _ v _ => S.length - (intOf v).toNat)
      case atStart => exact ⟨0, Nat.zero_le _, rfl, HZ0⟩
      case round =>
        clear HZ0
        obtain ⟨i2, hi2, rfl, HW⟩ := hrel
        by_cases hin2 : i2 < S.length
        · have hlt2 : (i2 : Int) < (S.length : Int) := by omega
          obtain ⟨o5, rfl, hc5⟩ := HS5.out.at_ (by omega)
          have cx0 := (HW.out.1.cell (p := ⟨g5, o5 + i2, none⟩) (World.block_lt_of_cell? W5 _ (hc5 i2 hin2))).trans (hc5 i2 hin2)
          have hsn := take_snoc' S hin2
          have hfl2 : ((S.take i2).filter fun x => decide (k ≤ (cnt (ds.map Hd.l) x : Int))).length ≤ i2 := Nat.le_trans (List.length_filter_le _ _) (by rw [List.length_take]; omega)
          have hml2 : ((S.take i2).filter fun x => decide (k ≤ (cnt (ds.map Hd.l) x : Int))).length + 1 ≤ maxLen := by simp only [maxLen]; omega
          have hsz5 := HW.out.1.size
          have hown := HW.out.2
          generalize S.getD i2 0 = x at cx0 hsn
          have HSN := Lib.hid hsn
          clear hc5 hsn
          go_wp2
          go_loopw [11, 12] (fun v11 v12 w3 => ∃ j : Nat, j ≤ ds.length ∧ v11 = .int .i64 ((cnt ((ds.map Hd.l).take j) x : Nat) : Int) ∧ v12 = .int .i64 (j : Nat) ∧ Drawn0 wr w3) (fun _ v _ => ds.length - (intOf v).toNat)
          case atStart => exact ⟨0, Nat.zero_le _, rfl, rfl, Drawn0.refl _⟩
          case round =>
            obtain ⟨j, hj, rfl, rfl, HJ⟩ := hrel
            obtain ⟨n9, rfl⟩ := HJ
            have hcl : cnt ((ds.map Hd.l).take j) x ≤ j := Nat.le_trans (cnt_le _ _) (by rw [List.length_take]; omega)
            by_cases hjn : j < ds.length
            · have hltj : (j : Int) < (ds.length : Int) := by omega
              obtain ⟨lr2, lo2, rfl, hc2⟩ := H5.out.head j hjn
              have cs := (HW.out.1.cell (p := ⟨lr2, lo2 + j, none⟩) (World.block_lt_of_cell? W5 _ hc2)).trans hc2
              have hmd : ds.getD j default ∈ ds := by rw [← getElem_getD _ _ hjn]; exact List.getElem_mem hjn
              have hct := cnt_take (ds.map Hd.l) x (j := j) (by rw [List.length_map]; exact hjn)
              rw [map_at ds hjn] at hct
              have hrd := (H5.out.row _ hmd)
              have hrs := HRS.out _ hmd
              generalize ds.getD j default = d at cs hct hrd hrs
              unfold Hd.v at cs
              have HDR := Lib.hid (hrd.on (fun hp => HW.out.1.block _ (Row.lt hrd hp)))
              have CI := Lib.hid (fun W (hW : Row W d.g d.A d.c d.l) => rin_as W d.g d.A d.c d.l x hW hrs.1 hrs.2)
              have cx : wr.cell? ⟨g5, o5 + i2, none⟩ = some (.int .i64 x) := cx0
              generalize hcj : cnt ((ds.map Hd.l).take j) x = cj at hcl hct ⊢
              clear hc2 hmd hrd hrs hcj
              by_cases hxd : x ∈ d.l
              · rw [if_pos hxd] at hct
                have CT := Lib.hid hct
                have hbd : decide (x ∈ d.l) = true := decide_eq_true hxd
                clear hct hxd
                go_wp2
                refine start_ (n := 10) (S := fun w' => w'.cell? ⟨lr2, lo2 + j, none⟩ = some (.slice d.A d.l.length d.c) ∧ w'.cell? ⟨g5, o5 + i2, none⟩ = some (.int .i64 x)) (ds := [8]) #[false, false, false, false, false, false, false, false, false, false] (by kernel_rfl) rfl rfl ⟨cs, cx⟩ (fun hHeld => ?_)
                refine pure_ (i := 0) (N := some 46) (v := ?_) (a' := ?_) #[true, false, false, false, false, false, false, false, false, false] rfl rfl (by kernel_rfl) (fun _ _ _ h => h) (Or.inl ⟨by rfl, ?_⟩) ?_ ?_
                rotate_left
                · intro w'
                  go_simp
                  with_reducible rfl
                rotate_left
                · simp only [Act.put, List.setIfInBounds_toArray, List.set_cons_zero, List.set_cons_succ, i64_w, i32_w]
                  rfl
                refine pure_ (i := 1) (N := some 47) (v := ?_) (a' := ?_) #[true, true, false, false, false, false, false, false, false, false] rfl rfl (by kernel_rfl) (fun _ _ _ h => h) (Or.inl ⟨by rfl, ?_⟩) ?_ ?_
                rotate_left
                · intro w'
                  go_simp
                  with_reducible rfl
                rotate_left
                · simp only [Act.put, List.setIfInBounds_toArray, List.set_cons_zero, List.set_cons_succ, i64_w, i32_w]
                  rfl
                refine pure_ (i := 2) (N := some 48) (v := ?_) (a' := ?_) #[true, true, true, false, false, false, false, false, false, false] rfl rfl (by kernel_rfl) (fun _ _ _ h => h) (Or.inl ⟨by rfl, ?_⟩) ?_ ?_
                rotate_left
                · intro w'
                  go_simp
                  with_reducible rfl
                rotate_left
                · simp only [Act.put, List.setIfInBounds_toArray, List.set_cons_zero, List.set_cons_succ, i64_w, i32_w]
                  rfl
                refine pure_ (i := 4) (N := some 50) (v := ?_) (a' := ?_) #[true, true, true, false, true, false, false, false, false, false] rfl rfl (by kernel_rfl) (fun _ _ _ h => h) (Or.inl ⟨by rfl, ?_⟩) ?_ ?_
                rotate_left
                · intro w'
                  go_simp
                  with_reducible rfl
                rotate_left
                · simp only [Act.put, List.setIfInBounds_toArray, List.set_cons_zero, List.set_cons_succ, i64_w, i32_w]
                  rfl
                refine pure_ (i := 5) (N := some 51) (v := ?_) (a' := ?_) #[true, true, true, false, true, true, false, false, false, false] rfl rfl (by kernel_rfl) (fun _ _ _ h => h) (Or.inl ⟨by rfl, ?_⟩) ?_ ?_
                rotate_left
                · intro w'
                  go_simp
                  with_reducible rfl
                rotate_left
                · simp only [Act.put, List.setIfInBounds_toArray, List.set_cons_zero, List.set_cons_succ, i64_w, i32_w]
                  rfl
                refine pure_ (i := 6) (N := some 52) (v := ?_) (a' := ?_) #[true, true, true, false, true, true, true, false, false, false] rfl rfl (by kernel_rfl) (fun _ _ _ h => h) (Or.inl ⟨by rfl, ?_⟩) ?_ ?_
                rotate_left
                · intro w'
                  go_simp
                  with_reducible rfl
                rotate_left
                · simp only [Act.put, List.setIfInBounds_toArray, List.set_cons_zero, List.set_cons_succ, i64_w, i32_w]
                  rfl
                refine take_ (i := 3) (N := some 49) (v := ?_) (a' := ?_) #[true, true, true, true, true, true, true, false, false, false] rfl rfl (by kernel_rfl) (fun _ _ _ h => h) (Or.inl ⟨by rfl, ?_⟩) hHeld ?_ ?_
                rotate_left
                · rintro w' ⟨s0, s1⟩
                  go_simp
                  with_reducible rfl
                rotate_left
                · simp only [Act.put, List.setIfInBounds_toArray, List.set_cons_zero, List.set_cons_succ, i64_w, i32_w]
                  rfl
                refine take_ (i := 7) (N := some 53) (v := ?_) (a' := ?_) #[true, true, true, true, true, true, true, true, false, false] rfl rfl (by kernel_rfl) (fun _ _ _ h => h) (Or.inl ⟨by rfl, ?_⟩) hHeld ?_ ?_
                rotate_left
                · rintro w' ⟨s0, s1⟩
                  go_simp
                  with_reducible rfl
                rotate_left
                · simp only [Act.put, List.setIfInBounds_toArray, List.set_cons_zero, List.set_cons_succ, i64_w, i32_w]
                  rfl
                refine last_ (i := 8) (N := some 54) #[true, true, true, true, true, true, true, true, true, false] rfl rfl (by kernel_rfl) (by decide) (fun K hK => ?_)
                refine goes_ Try.func56 (by kernel_rfl) rfl #[.slice d.A d.l.length d.c, .int .i64 x] (by rfl) rfl rfl (by simp only [List.map_toArray, List.map_cons, List.map_nil]; rfl) ?_
                with_reducible refine (CI.out _ ?hx).mono ?_
                case hx => exact HDR.out.on (fun _ => rfl)
                rintro e _ ⟨rfl, ⟨m9, rfl⟩⟩
                refine ⟨_, rfl, ?_⟩
                refine hK.out _ _ ?_
                clear hK K
                refine norm_ (a' := ?_) ?_ ?_
                rotate_left
                · show Act.put _ (some 54) _ = _
                  simp only [Act.put, List.setIfInBounds_toArray, List.set_cons_zero, List.set_cons_succ, i64_w, i32_w]
                  rfl
                refine pure_ (i := 9) (N := some 13) (v := ?_) (a' := ?_) #[true, true, true, true, true, true, true, true, true, true] rfl rfl (by kernel_rfl) (fun _ _ _ h => h) (Or.inl ⟨by rfl, ?_⟩) ?_ ?_
                rotate_left
                · intro w'
                  go_simp
                  with_reducible rfl
                rotate_left
                · simp only [Act.put, List.setIfInBounds_toArray, List.set_cons_zero, List.set_cons_succ, i64_w, i32_w]
                  rfl
                refine done_ (by kernel_rfl) ?_
                go_wp2
                go_roundw
                case rel => exact ⟨j + 1, by omega, by rw [CT.out]; go_num, by go_num, by repeat (first | exact Drawn0.refl _ | apply Drawn0.step)⟩
                case measure => simp [intOf]; omega
              · rw [if_neg hxd, Nat.add_zero] at hct
                have CT := Lib.hid hct
                have hbd : decide (x ∈ d.l) = false := decide_eq_false hxd
                clear hct hxd
                go_wp2
                refine start_ (n := 10) (S := fun w' => w'.cell? ⟨lr2, lo2 + j, none⟩ = some (.slice d.A d.l.length d.c) ∧ w'.cell? ⟨g5, o5 + i2, none⟩ = some (.int .i64 x)) (ds := [8]) #[false, false, false, false, false, false, false, false, false, false] (by kernel_rfl) rfl rfl ⟨cs, cx⟩ (fun hHeld => ?_)
                refine pure_ (i := 0) (N := some 46) (v := ?_) (a' := ?_) #[true, false, false, false, false, false, false, false, false, false] rfl rfl (by kernel_rfl) (fun _ _ _ h => h) (Or.inl ⟨by rfl, ?_⟩) ?_ ?_
                rotate_left
                · intro w'
                  go_simp
                  with_reducible rfl
                rotate_left
                · simp only [Act.put, List.setIfInBounds_toArray, List.set_cons_zero, List.set_cons_succ, i64_w, i32_w]
                  rfl
                refine pure_ (i := 1) (N := some 47) (v := ?_) (a' := ?_) #[true, true, false, false, false, false, false, false, false, false] rfl rfl (by kernel_rfl) (fun _ _ _ h => h) (Or.inl ⟨by rfl, ?_⟩) ?_ ?_
                rotate_left
                · intro w'
                  go_simp
                  with_reducible rfl
                rotate_left
                · simp only [Act.put, List.setIfInBounds_toArray, List.set_cons_zero, List.set_cons_succ, i64_w, i32_w]
                  rfl
                refine pure_ (i := 2) (N := some 48) (v := ?_) (a' := ?_) #[true, true, true, false, false, false, false, false, false, false] rfl rfl (by kernel_rfl) (fun _ _ _ h => h) (Or.inl ⟨by rfl, ?_⟩) ?_ ?_
                rotate_left
                · intro w'
                  go_simp
                  with_reducible rfl
                rotate_left
                · simp only [Act.put, List.setIfInBounds_toArray, List.set_cons_zero, List.set_cons_succ, i64_w, i32_w]
                  rfl
                refine pure_ (i := 4) (N := some 50) (v := ?_) (a' := ?_) #[true, true, true, false, true, false, false, false, false, false] rfl rfl (by kernel_rfl) (fun _ _ _ h => h) (Or.inl ⟨by rfl, ?_⟩) ?_ ?_
                rotate_left
                · intro w'
                  go_simp
                  with_reducible rfl
                rotate_left
                · simp only [Act.put, List.setIfInBounds_toArray, List.set_cons_zero, List.set_cons_succ, i64_w, i32_w]
                  rfl
                refine pure_ (i := 5) (N := some 51) (v := ?_) (a' := ?_) #[true, true, true, false, true, true, false, false, false, false] rfl rfl (by kernel_rfl) (fun _ _ _ h => h) (Or.inl ⟨by rfl, ?_⟩) ?_ ?_
                rotate_left
                · intro w'
                  go_simp
                  with_reducible rfl
                rotate_left
                · simp only [Act.put, List.setIfInBounds_toArray, List.set_cons_zero, List.set_cons_succ, i64_w, i32_w]
                  rfl
                refine pure_ (i := 6) (N := some 52) (v := ?_) (a' := ?_) #[true, true, true, false, true, true, true, false, false, false] rfl rfl (by kernel_rfl) (fun _ _ _ h => h) (Or.inl ⟨by rfl, ?_⟩) ?_ ?_
                rotate_left
                · intro w'
                  go_simp
                  with_reducible rfl
                rotate_left
                · simp only [Act.put, List.setIfInBounds_toArray, List.set_cons_zero, List.set_cons_succ, i64_w, i32_w]
                  rfl
                refine take_ (i := 3) (N := some 49) (v := ?_) (a' := ?_) #[true, true, true, true, true, true, true, false, false, false] rfl rfl (by kernel_rfl) (fun _ _ _ h => h) (Or.inl ⟨by rfl, ?_⟩) hHeld ?_ ?_
                rotate_left
                · rintro w' ⟨s0, s1⟩
                  go_simp
                  with_reducible rfl
                rotate_left
                · simp only [Act.put, List.setIfInBounds_toArray, List.set_cons_zero, List.set_cons_succ, i64_w, i32_w]
                  rfl
                refine take_ (i := 7) (N := some 53) (v := ?_) (a' := ?_) #[true, true, true, true, true, true, true, true, false, false] rfl rfl (by kernel_rfl) (fun _ _ _ h => h) (Or.inl ⟨by rfl, ?_⟩) hHeld ?_ ?_
                rotate_left
                · rintro w' ⟨s0, s1⟩
                  go_simp
                  with_reducible rfl
                rotate_left
                · simp only [Act.put, List.setIfInBounds_toArray, List.set_cons_zero, List.set_cons_succ, i64_w, i32_w]
                  rfl
                refine last_ (i := 8) (N := some 54) #[true, true, true, true, true, true, true, true, true, false] rfl rfl (by kernel_rfl) (by decide) (fun K hK => ?_)
                refine goes_ Try.func56 (by kernel_rfl) rfl #[.slice d.A d.l.length d.c, .int .i64 x] (by rfl) rfl rfl (by simp only [List.map_toArray, List.map_cons, List.map_nil]; rfl) ?_
                with_reducible refine (CI.out _ ?hx).mono ?_
                case hx => exact HDR.out.on (fun _ => rfl)
                rintro e _ ⟨rfl, ⟨m9, rfl⟩⟩
                refine ⟨_, rfl, ?_⟩
                refine hK.out _ _ ?_
                clear hK K
                refine norm_ (a' := ?_) ?_ ?_
                rotate_left
                · show Act.put _ (some 54) _ = _
                  simp only [Act.put, List.setIfInBounds_toArray, List.set_cons_zero, List.set_cons_succ, i64_w, i32_w]
                  rfl
                refine pure_ (i := 9) (N := some 13) (v := ?_) (a' := ?_) #[true, true, true, true, true, true, true, true, true, true] rfl rfl (by kernel_rfl) (fun _ _ _ h => h) (Or.inl ⟨by rfl, ?_⟩) ?_ ?_
                rotate_left
                · intro w'
                  go_simp
                  with_reducible rfl
                rotate_left
                · simp only [Act.put, List.setIfInBounds_toArray, List.set_cons_zero, List.set_cons_succ, i64_w, i32_w]
                  rfl
                refine done_ (by kernel_rfl) ?_
                go_wp2
                go_roundw
                case rel => exact ⟨j + 1, by omega, by rw [CT.out]; first | rfl | go_num, by go_num, by repeat (first | exact Drawn0.refl _ | apply Drawn0.step)⟩
                case measure => simp [intOf]; omega
            · have hltj : ¬ ((j : Int) < (ds.length : Int)) := by omega
              have hce : (ds.map Hd.l).take j = ds.map Hd.l := List.take_of_length_le (by rw [List.length_map]; omega)
              rw [hce]
              obtain ⟨q, hq⟩ : ∃ q, q = cnt (ds.map Hd.l) x := ⟨_, rfl⟩
              rw [← hq]
              by_cases hkq : k ≤ (q : Int)
              · have HF := Lib.hid (show ((so_take S (i2 + 1)).filter fun x => decide (k ≤ (cnt (ds.map Hd.l) x : Int))) = ((S.take i2).filter fun x => decide (k ≤ (cnt (ds.map Hd.l) x : Int))) ++ [x] by
                  show ((S.take (i2 + 1)).filter _) = _
                  rw [HSN.out, List.filter_append, List.filter_cons_of_pos (by rw [← hq]; simpa using hkq), List.filter_nil])
                have cx : wr.cell? ⟨g5, o5 + i2, none⟩ = some (.int .i64 x) := cx0
                clear hq hce hcl
                go_wp2_with (first
                  | (at_builtin; refine wpList_append_own _ rfl (.tmp 61) (.tmp 66) 22 rfl W5.heap.size 2 i1 (.int .i64 0) 1 8 Try.underlying22 hi1 hy0 hy1 hy2 rfl (by decide) _ _ _ rfl (World.ownsRow.alloc (show (wr.drewN n9).ownsRow W5.heap.size 2 1 _ _ _ from hown) _) ⟨wr.heap.size, 0, none⟩ 1 1 [.int .i64 x] rfl rfl (cell_one_new _ _ _) (by simp [Value.oneCell']) hml2 (by omega) (by have h5 : (wr.drewN n9).heap.size = wr.heap.size := rfl; rw [World.size_alloc]; omega) ?_; intro v' w6 own6 grow6 _; have HZ := Lib.hid (And.intro (((pw_below_drewN HW.out.1 n9).alloc (by have h5 : (wr.drewN n9).heap.size = wr.heap.size := rfl; omega) _).grown grow6 (by rw [World.size_alloc]; have h5 : (wr.drewN n9).heap.size = wr.heap.size := rfl; omega) (fun j e => (hown.lt _ e).1)) own6); clear own6 grow6)
                  | go_in)
                go_roundw
                case rel => exact ⟨i2 + 1, by omega, by go_num, Lib.hid ⟨HZ.out.1, by have h7 := HF.out; unfold so_take at h7; rw [h7, List.length_append, List.map_append]; exact HZ.out.2⟩⟩
                case measure => simp [intOf]; omega
              · have HF := Lib.hid (show ((so_take S (i2 + 1)).filter fun x => decide (k ≤ (cnt (ds.map Hd.l) x : Int))) = ((S.take i2).filter fun x => decide (k ≤ (cnt (ds.map Hd.l) x : Int))) by
                  show ((S.take (i2 + 1)).filter _) = _
                  rw [HSN.out, List.filter_append, List.filter_cons_of_neg (by rw [← hq]; simpa using hkq), List.filter_nil, List.append_nil])
                clear hq hce hcl
                go_wp2
                go_roundw
                case rel => exact ⟨i2 + 1, by omega, by go_num, Lib.hid ⟨pw_below_drewN HW.out.1 _, by have h7 := HF.out; unfold so_take at h7; rw [h7]; exact hown⟩⟩
                case measure => simp [intOf]; omega
        · have hlt2 : ¬ ((i2 : Int) < (S.length : Int)) := by omega
          obtain rfl : i2 = S.length := by omega
          go_wp2
          go_ret
          have h1 := HW.out.2
          rw [List.take_of_length_le (Nat.le_refl _), ← HAT.out] at h1
          obtain ⟨g, B, cc, e, h2, h3⟩ := row_of_own h1
          have h4 := HB5.out.size
          exact ⟨g, B, cc, by rw [← e]; rfl, h2, fun hp => ⟨by have := (h3 hp).1; omega, (h3 hp).2⟩, HB5.out.trans (HW.out.1.mono h4)⟩
end Go.Proofs.Ytnflokhffmfifaa.CountW
namespace Go.Proofs.Ytnflokhffmfifaa.CountW
open Go.RowKit Go.Proofs.Ytnflokhffmfifaa.InEv Go.Proofs.Ytnflokhffmfifaa.Blk Go.Proofs.Ytnflokhffmfifaa.Ris Go.Proofs.Ytnflokhffmfifaa.Cur Go.Proofs.Ytnflokhffmfifaa.OfW Go.Proofs.Ytnflokhffmfifaa.HeapPure Go.Proofs.Ytnflokhffmfifaa.HeapW Go.Proofs.Ytnflokhffmfifaa.CountPure Go.Proofs.Ytnflokhffmfifaa.PostAlg Go.Proofs.YtnflokhffmfifaaW.PrintWords Go.Proofs.YtnflokhffmfifaaW.PrintLast Go.Proofs.YtnflokhffmfifaaW.PrintMore
theorem rmeet_as (w : World) (c : Nat) (L : Option Addr) (Es : List Hd) (h : Heads w L Es) (hb : bulk Es ≤ 1048576) (hm : Es.length ≤ 1048576) : Calls Try.prog 36 #[.slice L Es.length c] w (Got w (meet ltI (Es.map Hd.l))) := by
  have H := Lib.hid (ratleast_as w (Es.length : Int) c L Es h hb hm)
  unfold meet
  rw [List.length_map]
  clear h hb
  by_cases hz : Es.length = 0
  · rw [if_pos hz]
    have hz' : ((Es.length : Int) == 0) = true := by rw [hz]; rfl
    have HZ := Lib.hid hz
    clear hz H
    go_enter Try.func36, Try.ntmps36
    go_wp2
    go_ret
    exact ⟨0, none, 0, rfl, ⟨Nat.le_refl _, fun hp => absurd hp (by simp)⟩, fun hp => absurd hp (by simp), by repeat (first | exact Below.refl _ _ | apply below_alloc | apply pw_below_drewN | apply below_drew1)⟩
  · rw [if_neg hz]
    have hz' : ((Es.length : Int) == 0) = false := beq_eq_false_iff_ne.mpr (by omega)
    generalize atLeast ltI (Es.length : Int) (Es.map Hd.l) = r at H ⊢
    unfold Got at H
    clear hz
    go_enter Try.func36, Try.ntmps36
    go_wp2_with (first | (go_at_call 25; ((with_reducible refine H.out.mono ?_); rintro e w' ⟨g, B, cc, rfl, q1, q2, q3⟩; have HQ := Lib.hid (And.intro q1 (And.intro q2 q3)); clear q1 q2 q3)) | go_in)
    go_ret
    exact ⟨g, B, cc, rfl, HQ.out.1, HQ.out.2.1, HQ.out.2.2⟩
set_option maxHeartbeats 2000000 in
set_option maxRecDepth 100000 in
theorem rrising_as (w : World) (g : Nat) (A : Option Addr) (c : Nat) (l : List Int) (h : Row w g A c l) (hn : l.length ≤ 1048576) : Calls Try.prog 35 #[.slice A l.length c] w fun e w' => e = .returned (.bool (risB ltI l)) ∧ Below w.heap.size w w' := by
  have SO := rsorted_as w g A c l h hn
  have hrs : risB ltI l = decide (setL ltI l = l) := risB_setL totI l
  generalize setL ltI l = S at SO hrs
  have H1 := Lib.hid SO
  have HR := Lib.hid h
  have HX := Lib.hid hrs
  clear SO h hrs
  by_cases hl : S.length = l.length
  · have hne : ((S.length : Int) != (l.length : Int)) = false := by rw [hl]; exact bne_self_eq_false _
    have HL := Lib.hid hl
    clear hl
    go_enter Try.func35, Try.ntmps35
    go_wp2_with (first | (go_at_call 33; ((with_reducible refine H1.out.mono ?_); rintro e W1 ⟨g1, B1, c1, rfl, q1, q2, q3⟩; have HS := Lib.hid (And.intro q1 q3); clear q1 q2 q3)) | go_in)
    go_loopw [4] (fun v wr => ∃ i : Nat, i ≤ l.length ∧ v = .int .i64 (i : Nat) ∧ Hid (Drawn0 W1 wr ∧ ∀ j, j < i → S.getD j 0 = l.getD j 0)) (fun v _ => l.length - (intOf v).toNat)
    case atStart => exact ⟨0, Nat.zero_le _, rfl, Lib.hid ⟨Drawn0.refl _, fun j hj => by omega⟩⟩
    case round =>
      obtain ⟨i, hi, rfl, HW⟩ := hrel
      obtain ⟨n, rfl⟩ := HW.out.1
      by_cases hin : i < l.length
      · have hlt : (i : Int) < (l.length : Int) := by omega
        have hlt2 : (i : Int) < (S.length : Int) := by have := HL.out; omega
        obtain ⟨o, rfl, hc⟩ := HR.out.at_ (by omega)
        have cx := (HS.out.2.cell (p := ⟨g, o + i, none⟩) (World.block_lt_of_cell? w _ (hc i hin))).trans (hc i hin)
        obtain ⟨o1, rfl, hc1⟩ := HS.out.1.at_ (by omega)
        have cy := hc1 i (by omega)
        clear hc hc1
        generalize hx : l.getD i 0 = x at cx
        generalize hy : S.getD i 0 = y at cy
        have HXY := Lib.hid (And.intro hx hy)
        clear hx hy
        by_cases t : y = x
        · have td : (y != x) = false := by rw [t]; exact bne_self_eq_false _
          have HT := Lib.hid t
          clear t
          go_wp2
          repeat (go_quiet (fail); try go_wp2)
          go_roundw
          case rel => exact ⟨i + 1, by omega, by go_num, Lib.hid ⟨by repeat (first | exact Drawn0.refl _ | apply Drawn0.step), fun j hj => by
            by_cases e : j = i
            · subst e; rw [HXY.out.1, HXY.out.2]; exact HT.out
            · exact HW.out.2 j (by omega)⟩⟩
          case measure => simp [intOf]; omega
        · have td : (y != x) = true := bne_iff_ne.mpr t
          have HF : Hid (risB ltI l = false) := Lib.hid (by
            rw [HX.out]
            refine decide_eq_false (fun e => t ?_)
            rw [← HXY.out.2, ← HXY.out.1, e])
          clear t
          go_wp2
          repeat (go_quiet (fail); try go_wp2)
          go_ret
          exact ⟨by rw [HF.out]; rfl, by repeat (first | exact HS.out.2 | apply pw_below_drewN | apply below_drew1)⟩
      · have hlt : ¬ ((i : Int) < (l.length : Int)) := by omega
        have HT : Hid (risB ltI l = true) := Lib.hid (by
          rw [HX.out]
          refine decide_eq_true (List.ext_getElem HL.out (fun j h1 h2 => ?_))
          rw [gI, gI]
          exact HW.out.2 j (by omega))
        go_wp2
        go_ret
        exact ⟨by rw [HT.out]; rfl, by repeat (first | exact HS.out.2 | apply pw_below_drewN | apply below_drew1)⟩
  · have hne : ((S.length : Int) != (l.length : Int)) = true := bne_iff_ne.mpr (by omega)
    have HF : Hid (risB ltI l = false) := Lib.hid (by rw [HX.out]; exact decide_eq_false (fun e => hl (by rw [e])))
    clear hl
    go_enter Try.func35, Try.ntmps35
    go_wp2_with (first | (go_at_call 33; ((with_reducible refine H1.out.mono ?_); rintro e W1 ⟨g1, B1, c1, rfl, q1, q2, q3⟩; have HS := Lib.hid q3; clear q1 q2 q3)) | go_in)
    go_ret
    exact ⟨by rw [HF.out]; rfl, HS.out⟩
set_option maxHeartbeats 2000000 in
set_option maxRecDepth 100000 in
theorem rminus_as (w : World) (ga gb ca cb : Nat) (A B : Option Addr) (a b : List Int) (ha : Row w ga A ca a) (hb : Row w gb B cb b) (la : a.length ≤ 1048576) (lb : b.length ≤ 1048576) : Calls Try.prog 38 #[.slice A a.length ca, .slice B b.length cb] w (Got w (minus ltI a b)) := by
  obtain ⟨i1, hi1, hy0, hy1, hy2⟩ := info_parts Cur.info2
  have H1 := Lib.hid (rsorted_as w ga A ca a ha la)
  have H2 := Lib.hid (fun W (hW : Row W gb B cb b) => rsorted_as W gb B cb b hW lb)
  have HB := Lib.hid hb
  have hmi : minus ltI a b = (setL ltI a).filter fun x => decide (x ∉ setL ltI b) := by
    unfold minus
    exact List.filter_congr (fun x _ => decide_eq_decide.2 (not_congr (mem_setL totI x b).symm))
  have hrb := ris_setL totI b
  have hla : (setL ltI a).length ≤ 1048576 := Nat.le_trans (setL_len totI a) la
  have hlb : (setL ltI b).length ≤ 1048576 := Nat.le_trans (setL_len totI b) lb
  generalize setL ltI a = s at H1 hmi hla
  generalize setL ltI b = u at H2 hmi hrb hlb
  have HMI := Lib.hid hmi
  have HRB := Lib.hid hrb
  clear ha hb hmi hrb
  go_enter Try.func38, Try.ntmps38
  go_wp2_with (first
    | (go_at_call 33; (first
      | ((with_reducible refine H1.out.mono ?_); rintro e W1 ⟨g1, B1, c1, rfl, q1, q2, q3⟩; have HS1 := Lib.hid (And.intro q1 q3); clear q1 q2 q3)
      | ((with_reducible refine (H2.out W1 (HB.out.on (fun hp => HS1.out.2.block _ (Row.lt HB.out hp)))).mono ?_); rintro e W2 ⟨g2, B2, c2, rfl, q1, q2, q3⟩; have HS2 := Lib.hid (And.intro (HS1.out.1.on (fun hp => q3.block _ (Row.lt HS1.out.1 hp))) (And.intro q1 (HS1.out.2.trans (q3.mono HS1.out.2.size)))); clear q1 q2 q3)))
    | go_in)
  have HZ0 : Hid (Below W2.heap.size W2 W2 ∧ W2.ownsRow W2.heap.size 2 1 (.slice none 0 0) ((s.take 0).filter fun x => decide (x ∉ u)).length (((s.take 0).filter fun x => decide (x ∉ u)).map (Value.int .i64))) := Lib.hid ⟨Below.refl _ _, World.ownsRow_nil _ _ _ _⟩
  clear H1 H2 HB HS1
  go_loopw [7, 8] (fun v9 v10 w2 => ∃ i2 : Nat, i2 ≤ s.length ∧ v10 = .int .i64 (i2 : Nat) ∧ Hid (Below W2.heap.size W2 w2 ∧ w2.ownsRow W2.heap.size 2 1 v9 ((s.take i2).filter fun x => decide (x ∉ u)).length (((s.take i2).filter fun x => decide (x ∉ u)).map (Value.int .i64)))) (fun _ v _ => s.length - (intOf v).toNat)
  case atStart => exact ⟨0, Nat.zero_le _, rfl, HZ0⟩
  case round =>
    clear HZ0
    obtain ⟨i2, hi2, rfl, HW⟩ := hrel
    by_cases hin2 : i2 < s.length
    · have hlt2 : (i2 : Int) < (s.length : Int) := by omega
      obtain ⟨o5, rfl, hc5⟩ := HS2.out.1.at_ (by omega)
      have cx := (HW.out.1.cell (p := ⟨g1, o5 + i2, none⟩) (World.block_lt_of_cell? W2 _ (hc5 i2 hin2))).trans (hc5 i2 hin2)
      have hsn := take_snoc' s hin2
      have hfl2 : ((s.take i2).filter fun x => decide (x ∉ u)).length ≤ i2 := Nat.le_trans (List.length_filter_le _ _) (by rw [List.length_take]; omega)
      have hml2 : ((s.take i2).filter fun x => decide (x ∉ u)).length + 1 ≤ maxLen := by simp only [maxLen]; omega
      have hsz5 := HW.out.1.size
      have hown := HW.out.2
      generalize s.getD i2 0 = x at cx hsn
      have HSN := Lib.hid hsn
      clear hc5 hsn
      have CI := rin_as wr g2 B2 c2 u x (HS2.out.2.1.on (fun hp => HW.out.1.block _ (Row.lt HS2.out.2.1 hp))) HRB.out hlb
      by_cases hxu : x ∈ u
      · rw [decide_eq_true hxu] at CI
        have C1 := Lib.hid CI
        have HF := Lib.hid (show ((so_take s (i2 + 1)).filter fun x => decide (x ∉ u)) = ((s.take i2).filter fun x => decide (x ∉ u)) by
          show ((s.take (i2 + 1)).filter _) = _
          rw [HSN.out, List.filter_append, List.filter_cons_of_neg (by simpa using hxu), List.filter_nil, List.append_nil])
        clear CI hxu
        go_wp2_with (first | (go_at_call 56; ((with_reducible refine C1.out.mono ?_); rintro e _ ⟨rfl, ⟨n9, rfl⟩⟩)) | go_in)
        go_roundw
        case rel => exact ⟨i2 + 1, by omega, by go_num, Lib.hid ⟨pw_below_drewN HW.out.1 _, by have h7 := HF.out; unfold so_take at h7; rw [h7]; exact hown⟩⟩
        case measure => simp [intOf]; omega
      · rw [decide_eq_false hxu] at CI
        have C1 := Lib.hid CI
        have HF := Lib.hid (show ((so_take s (i2 + 1)).filter fun x => decide (x ∉ u)) = ((s.take i2).filter fun x => decide (x ∉ u)) ++ [x] by
          show ((s.take (i2 + 1)).filter _) = _
          rw [HSN.out, List.filter_append, List.filter_cons_of_pos (by simpa using hxu), List.filter_nil])
        clear CI hxu
        go_wp2_with (first
          | (go_at_call 56; ((with_reducible refine C1.out.mono ?_); rintro e _ ⟨rfl, ⟨n9, rfl⟩⟩))
          | (at_builtin; refine wpList_append_own _ rfl (.tmp 28) (.tmp 33) 22 rfl W2.heap.size 2 i1 (.int .i64 0) 1 8 Try.underlying22 hi1 hy0 hy1 hy2 rfl (by decide) _ _ _ rfl (World.ownsRow.alloc (show (wr.drewN n9).ownsRow W2.heap.size 2 1 _ _ _ from hown) _) ⟨wr.heap.size, 0, none⟩ 1 1 [.int .i64 x] rfl rfl (cell_one_new _ _ _) (by simp [Value.oneCell']) hml2 (by omega) (by have h5 : (wr.drewN n9).heap.size = wr.heap.size := rfl; rw [World.size_alloc]; omega) ?_; intro v' w6 own6 grow6 _; have HZ := Lib.hid (And.intro (((pw_below_drewN HW.out.1 n9).alloc (by have h5 : (wr.drewN n9).heap.size = wr.heap.size := rfl; omega) _).grown grow6 (by rw [World.size_alloc]; have h5 : (wr.drewN n9).heap.size = wr.heap.size := rfl; omega) (fun j e => (hown.lt _ e).1)) own6); clear own6 grow6)
          | go_in)
        go_roundw
        case rel => exact ⟨i2 + 1, by omega, by go_num, Lib.hid ⟨HZ.out.1, by have h7 := HF.out; unfold so_take at h7; rw [h7, List.length_append, List.map_append]; exact HZ.out.2⟩⟩
        case measure => simp [intOf]; omega
    · have hlt2 : ¬ ((i2 : Int) < (s.length : Int)) := by omega
      obtain rfl : i2 = s.length := by omega
      go_wp2
      go_ret
      have h1 := HW.out.2
      rw [List.take_of_length_le (Nat.le_refl _), ← HMI.out] at h1
      obtain ⟨g, B, cc, e, h2, h3⟩ := row_of_own h1
      have h4 := HS2.out.2.2.size
      exact ⟨g, B, cc, by rw [← e]; rfl, h2, fun hp => ⟨by have := (h3 hp).1; omega, (h3 hp).2⟩, HS2.out.2.2.trans (HW.out.1.mono h4)⟩
end Go.Proofs.Ytnflokhffmfifaa.CountW
namespace Go.Proofs.Ytnflokhffmfifaa.CountW
open Go.RowKit Go.Proofs.Ytnflokhffmfifaa.Blk Go.Proofs.Ytnflokhffmfifaa.Ris Go.Proofs.Ytnflokhffmfifaa.Cur Go.Proofs.Ytnflokhffmfifaa.OfW Go.Proofs.Ytnflokhffmfifaa.HeapPure Go.Proofs.Ytnflokhffmfifaa.HeapW Go.Proofs.YtnflokhffmfifaaW.PrintWords Go.Proofs.YtnflokhffmfifaaW.PrintLast Go.Proofs.YtnflokhffmfifaaW.PrintMore
/-- A list of lists that came in, as headers in a row. -/
theorem heads_of_C {w : World} {A : Option Addr} {l : List (List Int)} (h : Kd.C (Kd.slice 2 (Kd.int .i64)) w A l.length l) : ∃ Es, Heads w A Es ∧ Es.map Hd.l = l := by
  have key : ∀ k : Nat, ∃ d : Hd, k < l.length → d.l = l.getD k [] ∧ Row w d.g d.A d.c d.l ∧ ∃ r o, A = some ⟨r, o, none⟩ ∧ w.cell? ⟨r, o + k, none⟩ = some d.v := fun k => by
    by_cases hk : k < l.length
    · obtain ⟨ad, cs, e, _, hK, hc0⟩ := Kd.C_get h [] (k : Int) (by omega) (by omega)
      rw [Int.toNat_natCast] at hK hc0
      obtain ⟨A', c, rfl, hle, hC⟩ := hK
      obtain ⟨g, hr⟩ := row_of_C hC hle
      have h1 := hc0 0 _ rfl
      rw [show (Kd.slice 2 (Kd.int .i64)).sz = 1 from rfl, Nat.mul_one, Nat.add_zero] at h1
      refine ⟨⟨A', c, g, l.getD k []⟩, fun _ => ⟨rfl, hr, ?_⟩⟩
      obtain ⟨r, o, sp⟩ := ad
      have hsp : sp = none := by
        cases sp with
        | none => rfl
        | some q =>
          obtain ⟨ad, cs, e2, _, hK, hc0⟩ := Kd.C_get h [] 0 (by omega) (by omega)
          obtain rfl := Option.some.inj (e.symm.trans e2)
          obtain ⟨A', c, rfl, hle, hC⟩ := hK
          have h2 := hc0 0 _ rfl
          simp [Addr.add, World.cell?] at h2
          split at h2 <;> simp at h2
      subst hsp
      rw [add_off] at h1
      exact ⟨r, o, e, h1⟩
    · exact ⟨default, fun h => absurd h hk⟩
  refine ⟨(List.range l.length).map fun k => Classical.choose (key k), ⟨fun k hk => ?_, fun d hd => ?_⟩, ?_⟩
  · simp only [List.length_map, List.length_range] at hk
    obtain ⟨_, _, r, o, e, hc⟩ := Classical.choose_spec (key k) hk
    refine ⟨r, o, e, ?_⟩
    rw [hc]
    simp [List.getD_eq_getElem?_getD, hk]
  · obtain ⟨k, hk, rfl⟩ := List.mem_map.1 hd
    exact (Classical.choose_spec (key k) (List.mem_range.1 hk)).2.1
  · rw [List.map_map]
    apply List.ext_getElem (by simp)
    intro k h1 h2
    simp only [List.getElem_map, List.getElem_range, Function.comp]
    rw [(Classical.choose_spec (key k) h2).1]
    simp [List.getD_eq_getElem?_getD, List.getElem?_eq_getElem h2]
end Go.Proofs.Ytnflokhffmfifaa.CountW
namespace Go.Proofs.Ytnflokhffmfifaa.CountW
open Go.RowKit Go.Proofs.Ytnflokhffmfifaa.Blk Go.Proofs.Ytnflokhffmfifaa.Ris Go.Proofs.Ytnflokhffmfifaa.Cur Go.Proofs.Ytnflokhffmfifaa.OfW Go.Proofs.Ytnflokhffmfifaa.HeapPure Go.Proofs.Ytnflokhffmfifaa.HeapW Go.Proofs.YtnflokhffmfifaaW.PrintWords Go.Proofs.YtnflokhffmfifaaW.PrintLast Go.Proofs.YtnflokhffmfifaaW.PrintMore
/-- A list with -77 in its spare room, in a block of its own from B0 on. -/
structure Spare (B0 : Nat) (w : World) (d : Hd) : Prop where
  row : Row w d.g d.A d.c d.l
  at_ : d.A = some ⟨d.g, 0, none⟩
  cap : d.l.length + 1 ≤ d.c
  cell : w.cell? ⟨d.g, d.l.length, none⟩ = some (.int .i64 (-77))
  low : B0 ≤ d.g
  kind : ∃ cs, w.heap[d.g]? = some (.cells cs 2 (0, 0))
theorem Spare.lt {B0 : Nat} {w : World} {d : Hd} (h : Spare B0 w d) : d.g < w.heap.size := by
  obtain ⟨cs, hc⟩ := h.kind
  exact (Array.getElem?_eq_some_iff.1 hc).1
theorem Spare.on {B0 : Nat} {w w1 : World} {d : Hd} (h : Spare B0 w d) (k : w1.heap[d.g]? = w.heap[d.g]?) : Spare B0 w1 d :=
  ⟨h.row.on (fun _ => k), h.at_, h.cap, (World.cell?_of_block (a := ⟨d.g, d.l.length, none⟩) k).trans h.cell, h.low, by obtain ⟨cs, hc⟩ := h.kind; exact ⟨cs, k.trans hc⟩⟩
structure PA (W : World) (Es : List Hd) (i : Nat) (ds : List Hd) (v : Value) (wr : World) : Prop where
  own : wr.ownsRow W.heap.size 22 1 v i (ds.map Hd.v)
  row : ∀ d ∈ ds, Spare W.heap.size wr d
  maps : ds.map Hd.l = (Es.take i).map Hd.l
  below : Below W.heap.size W wr
theorem PA.next {W wr w2 w3 : World} {Es : List Hd} {i : Nat} {ds : List Hd} {v v' : Value} {d : Hd} {o : Obj} (h : PA W Es i ds v wr) (hi : i < Es.length) (hb : Below wr.heap.size wr w2) (hd : Spare wr.heap.size w2 d) (he : d.l = (Es.getD i default).l)
    (hg : (w2.alloc o).grownBy w3 v.ownBlock) (own : w3.ownsRow W.heap.size 22 1 v' (i + 1) (ds.map Hd.v ++ [d.v])) : PA W Es (i + 1) (ds ++ [d]) v' w3 := by
  have hz : (w2.alloc o).heap.size = w2.heap.size + 1 := World.size_alloc _ _
  have hbs := h.below.size
  have hb2 := hb.size
  have ho2 := own_below h.own hb
  have keep : ∀ e : Hd, ∀ B0, Spare B0 w2 e → Spare B0 w3 e := fun e B0 he => he.on (by
    obtain ⟨cs, hc⟩ := he.kind
    exact (hg.block _ (by have := he.lt; omega) (ne_kind ho2 hc)).trans (Below.heap_alloc _ _ _ he.lt))
  refine ⟨by rw [List.map_append]; exact own, fun e he' => ?_, by rw [take_snoc Es hi, List.map_append, List.map_append, h.maps, List.map_cons, List.map_nil, he]; rfl, ?_⟩
  · rcases List.mem_append.1 he' with he' | he'
    · exact keep e _ ((h.row e he').on (hb.block _ (h.row e he').lt))
    · rw [List.mem_singleton] at he'
      subst he'
      have := keep e _ hd
      exact ⟨this.row, this.at_, this.cap, this.cell, Nat.le_trans hbs hd.low, this.kind⟩
  · exact ((h.below.trans (hb.mono hbs)).alloc (by omega) o).grown hg (by omega) (fun j e => (h.own.lt _ e).1)
theorem cut22 (A : Option Addr) (n c k : Nat) (hk : k ≤ n) (hc : n ≤ c) (W : World) : (Instr.slice 22 (.slice A n c) none (some (.int .i64 (k : Int))) none).run Try.prog W = .ok (.slice A k c) W := by
  obtain ⟨i0, hi0, _, hsz, _⟩ := info_parts Cur.info2
  have := cut_to (P := Try.prog) 22 2 .i64 Try.underlying22 hi0 A n c (k : Int) (by omega) (by omega) hc W
  rw [Int.toNat_natCast] at this
  exact this
/-- A list and -77 behind it, cut to the list. -/
theorem spare_of {W : World} {B0 g cap : Nat} {cur : List Value} {l : List Int} (hat : Blk.At W g cur 2) (hle : B0 ≤ g) (h1 : (l ++ [-77]).length ≤ cap) (h2 : cur.length = cap) (h3 : cur.take (l ++ [-77]).length = (l ++ [-77]).map (Value.int .i64)) : Spare B0 W ⟨some ⟨g, 0, none⟩, cap, g, l⟩ := by
  have hl : (l ++ [-77]).length = l.length + 1 := by simp
  have hcell : ∀ i : Nat, i < l.length + 1 → W.cell? ⟨g, i, none⟩ = some (.int .i64 ((l ++ [-77]).getD i 0)) := fun i hi => by
    rw [hat.cell i]
    have h4 : (cur.take (l ++ [-77]).length)[i]? = some (.int .i64 ((l ++ [-77]).getD i 0)) := by
      rw [h3, List.getElem?_map, List.getElem?_eq_getElem (by omega)]
      simp [List.getD_eq_getElem?_getD, List.getElem?_eq_getElem (show i < (l ++ [-77]).length by omega)]
    rwa [List.getElem?_take_of_lt (by omega)] at h4
  refine ⟨⟨by show l.length ≤ cap; omega, fun hp => ⟨0, rfl, fun i hi => ?_⟩⟩, rfl, by show l.length + 1 ≤ cap; omega, ?_, hle, ⟨_, hat⟩⟩
  · have hi : i < l.length := hi
    rw [Nat.zero_add, hcell i (by omega)]
    simp [List.getD_eq_getElem?_getD, List.getElem?_append_left (show i < l.length from hi)]
  · rw [hcell l.length (by omega)]
    simp [List.getD_eq_getElem?_getD]
theorem lit_row (W : World) (x : Int) : Row (W.alloc (.cells #[.int .i64 x] 2)) W.heap.size (some ⟨W.heap.size, 0, none⟩) 1 [x] := by
  refine ⟨Nat.le_refl _, fun hp => ⟨0, rfl, fun i hi => ?_⟩⟩
  rw [Nat.zero_add, (Blk.At.fresh W [.int .i64 x] 2).cell i]
  obtain rfl : i = 0 := by simpa using hi
  rfl
set_option maxHeartbeats 4000000 in
set_option maxRecDepth 100000 in
theorem spared_as (W : World) (c : Nat) (L : Option Addr) (Es : List Hd) (h : Heads W L Es) (hl : ∀ d ∈ Es, d.l.length ≤ 1048576) (hm : Es.length ≤ 1048576) : Calls Try.prog 23 #[.slice L Es.length c] W fun e w' => ∃ L' c' Ds, e = .returned (.slice L' Ds.length c') ∧ Heads w' L' Ds ∧ (∀ d ∈ Ds, Spare W.heap.size w' d) ∧ Ds.map Hd.l = Es.map Hd.l ∧ Below W.heap.size W w' := by
  obtain ⟨i0, hi, hz0, hz1, hz2⟩ := info_parts info22
  have HH := Lib.hid h
  have HLN := Lib.hid hl
  have HP0 : Hid (PA W Es 0 [] (.slice none 0 0) W) := Lib.hid ⟨World.ownsRow_nil _ _ _ _, fun d hd => by simp at hd, rfl, Below.refl _ _⟩
  clear h hl
  go_enter Try.func23, Try.ntmps23
  go_wp2
  go_loopw [3, 4] (fun v3 v4 wr => ∃ (i : Nat) (ds : List Hd), i ≤ Es.length ∧ v4 = .int .i64 (i : Nat) ∧ Hid (PA W Es i ds v3 wr)) (fun _ v _ => Es.length - (intOf v).toNat)
  case atStart => exact ⟨0, [], Nat.zero_le _, rfl, HP0⟩
  case round =>
    clear HP0
    obtain ⟨i, ds, hi', rfl, HW⟩ := hrel
    by_cases hin : i < Es.length
    · have hlt : (i : Int) < (Es.length : Int) := by omega
      obtain ⟨lr, lo, rfl, hc⟩ := HH.out.head i hin
      have hbl := World.block_lt_of_cell? W _ hc
      have hcw := (HW.out.below.cell (p := ⟨lr, lo + i, none⟩) hbl).trans hc
      have hmem : Es.getD i default ∈ Es := by rw [← getElem_getD _ _ hin]; exact List.getElem_mem hin
      have hrow : Row wr (Es.getD i default).g (Es.getD i default).A (Es.getD i default).c (Es.getD i default).l := (HH.out.row _ hmem).on (fun hp => HW.out.below.block _ (Row.lt (HH.out.row _ hmem) hp))
      have hlen := HLN.out _ hmem
      obtain ⟨e, he⟩ : ∃ e, Es.getD i default = e := ⟨_, rfl⟩
      rw [he] at hcw hrow hlen hc
      unfold Hd.v at hcw hc
      have HE := Lib.hid he
      have HR := Lib.hid hrow
      have HC := Lib.hid hc
      have hsz := HW.out.below.size
      have hown := HW.out.own
      have hml : i + 1 ≤ maxLen := by simp only [maxLen]; omega
      clear hc hmem hrow he
      go_wp2_with (first
        | ((with_reducible refine gate_builtin (b := .append) (xs := #[.tmp 12, .tmp 16]) rfl ?_); at_builtin; refine Kd.R_append_rows (Kd.int .i64) (w0 := wr) wr.heap.size rfl (.tmp 12) (.tmp 16) 22 2 (.int .i64 0) 8 rfl Try.underlying22 Cur.info2 rfl (by decide) (by omega) (.slice none 0 0) ([] : List Int) e.l _ _ _ (fun _ => True) (fun _ => False) rfl rfl ?aO ?aR (fun _ _ h => h) (fun _ h => h.elim) ?aF ?aB ?aS ?aL ?_; (case aR => exact Row.nums HR.out hlen); (case aB => exact Below.refl _ _); (case aF => exact (fun _ _ => trivial)); (case aO => exact Kd.R_nil _ _ _ _ _); (case aS => exact Nat.le_refl _); (case aL => simp only [List.length_nil]; omega); intro v1 w1 ho hb hg hat; have HA1 := Lib.hid ho; have HB1 := Lib.hid hb; clear ho hb hg hat)
        | ((with_reducible refine gate_builtin (b := .append) (xs := #[.tmp 18, .tmp 19]) rfl ?_); at_builtin; refine Kd.R_append_rows (Kd.int .i64) (w0 := wr) wr.heap.size rfl (.tmp 18) (.tmp 19) 22 2 (.int .i64 0) 8 rfl Try.underlying22 Cur.info2 rfl (by decide) (by omega) v1 ([] ++ e.l) [-77] _ _ _ (fun _ => True) (fun _ => False) rfl rfl ?aO ?aR (fun _ _ h => h) (fun _ h => h.elim) ?aF ?aB ?aS ?aL ?_; (case aR => exact Row.nums (lit_row _ _) (by simp)); (case aB => exact HB1.out.alloc HB1.out.size _); (case aF => exact (fun _ _ => trivial)); (case aO => exact Kd.R_alloc HA1.out _); (case aS => rw [World.size_alloc]; have := HB1.out.size; omega); (case aL => simp only [List.length_append, List.length_cons, List.length_nil]; omega); intro v2 w2 ho hb hg hat; obtain ⟨g, cap, cur, rfl, a1, a2, a3, a4, a5, a6⟩ := own_block (l := [] ++ e.l ++ [-77]) ho (by simp); simp only [List.nil_append] at a3 a6; have HB2 := Lib.hid hb; have hll : (e.l ++ [-77]).length = e.l.length + 1 := (by simp); have hcut := cut22 (some ⟨g, 0, none⟩) (e.l.length + 1) cap e.l.length (by omega) (by simpa using a3); have c2 := ((HW.out.below.trans (hb.mono hsz)).cell (p := ⟨lr, lo + i, none⟩) hbl).trans HC.out; have HSP := Lib.hid (spare_of (l := e.l) a2 a1 a3 a5 a6); have hsz2 := hb.size; have own2 := own_below hown hb; clear ho hb hg hat a1 a2 a3 a4 a5 a6 hll)
        | (at_builtin; refine wpList_append_own _ rfl (.tmp 21) (.tmp 29) 42 rfl W.heap.size 22 i0 (.slice none 0 0) 1 24 Try.underlying42 hi hz0 hz1 hz2 rfl (by decide) _ _ _ rfl (own2.alloc _) ⟨w2.heap.size, 0, none⟩ 1 1 [.slice (some ⟨g, 0, none⟩) e.l.length cap] rfl rfl (cell_one_new _ _ _) (by simp [Value.oneCell']) hml (by omega) (by rw [World.size_alloc]; omega) ?_; intro v3 w3 own3 grow3 _; have HQ := Lib.hid (PA.next (d := ⟨some ⟨g, 0, none⟩, cap, g, e.l⟩) HW.out hin HB2.out HSP.out (by rw [HE.out]) grow3 own3); clear own3 grow3)
        | go_in)
      go_roundw
      case rel => exact ⟨i + 1, _, by omega, by go_num, HQ⟩
      case measure => simp [intOf]; omega
    · have hlt : ¬ ((i : Int) < (Es.length : Int)) := by omega
      obtain rfl : i = Es.length := by omega
      have hle : ds.length = Es.length := by have := HW.out.own.1; simpa using this
      have hmp := HW.out.maps
      rw [List.take_of_length_le (Nat.le_refl _)] at hmp
      go_wp2
      go_ret
      rcases HW.out.own.2 with ⟨rfl, h0⟩ | ⟨g, cap, cur, rfl, _, h4, h5, h6, h7, h8⟩
      · exact ⟨none, 0, ds, by rw [hle, h0]; rfl, ⟨fun k hk => by omega, fun d hd => (HW.out.row d hd).row⟩, HW.out.row, hmp, HW.out.below⟩
      · refine ⟨some ⟨g, 0, none⟩, cap, ds, by rw [hle]; rfl, ⟨fun k hk => ⟨g, 0, rfl, ?_⟩, fun d hd => (HW.out.row d hd).row⟩, HW.out.row, hmp, HW.out.below⟩
        rw [Nat.zero_add, Blk.At.cell (cs := cur.toList) (show Blk.At wr g cur.toList 22 from h4) k]
        have h9 : (cur.toList.take (Es.length * 1))[k]? = some (ds.getD k default).v := by
          rw [h8, List.getElem?_map, List.getElem?_eq_getElem hk]
          simp [List.getD_eq_getElem?_getD, List.getElem?_eq_getElem hk]
        rwa [List.getElem?_take_of_lt (by omega)] at h9
end Go.Proofs.Ytnflokhffmfifaa.CountW
namespace Go.Proofs.Ytnflokhffmfifaa.CountW
open Go.RowKit Go.Proofs.Ytnflokhffmfifaa.Blk Go.Proofs.Ytnflokhffmfifaa.Ris Go.Proofs.Ytnflokhffmfifaa.Cur Go.Proofs.Ytnflokhffmfifaa.OfW Go.Proofs.Ytnflokhffmfifaa.HeapPure Go.Proofs.Ytnflokhffmfifaa.HeapW Go.Proofs.YtnflokhffmfifaaW.PrintWords Go.Proofs.YtnflokhffmfifaaW.PrintLast Go.Proofs.YtnflokhffmfifaaW.PrintMore
/-- A row of headers of one's own is a list of lists. -/
theorem heads_own {w : World} {base n : Nat} {v : Value} {ds : List Hd} (own : w.ownsRow base 22 1 v n (ds.map Hd.v)) (hr : ∀ d ∈ ds, Row w d.g d.A d.c d.l) : ∃ L c, v = .slice L ds.length c ∧ n = ds.length ∧ Heads w L ds := by
  have hle : n = ds.length := by have := own.1; simpa using this.symm
  subst hle
  rcases own.2 with ⟨rfl, h0⟩ | ⟨g, cap, cur, rfl, _, h4, h5, h6, h7, h8⟩
  · exact ⟨none, 0, by rw [h0], rfl, ⟨fun k hk => by omega, hr⟩⟩
  · refine ⟨some ⟨g, 0, none⟩, cap, rfl, rfl, ⟨fun k hk => ⟨g, 0, rfl, ?_⟩, hr⟩⟩
    rw [Nat.zero_add, Blk.At.cell (cs := cur.toList) (show Blk.At w g cur.toList 22 from h4) k]
    have h9 : (cur.toList.take (ds.length * 1))[k]? = some (ds.getD k default).v := by
      rw [h8, List.getElem?_map, List.getElem?_eq_getElem hk]
      simp [List.getD_eq_getElem?_getD, List.getElem?_eq_getElem hk]
    rwa [List.getElem?_take_of_lt (by omega)] at h9
theorem Heads.below {w w' : World} {L : Option Addr} {Es : List Hd} (h : Heads w L Es) (hb : Below w.heap.size w w') : Heads w' L Es := by
  refine ⟨fun k hk => ?_, fun d hd => (h.row d hd).on (fun hp => hb.block _ (Row.lt (h.row d hd) hp))⟩
  obtain ⟨r, o, e, hc⟩ := h.head k hk
  exact ⟨r, o, e, (hb.cell (p := ⟨r, o + k, none⟩) (World.block_lt_of_cell? w _ hc)).trans hc⟩
set_option maxHeartbeats 1000000 in
set_option maxRecDepth 100000 in
theorem headers_as (w : World) (c : Nat) (L : Option Addr) (Es : List Hd) (h : Heads w L Es) (hm : Es.length ≤ 1048576) : Calls Try.prog 24 #[.slice L Es.length c] w fun e w' => ∃ L' c', e = .returned (.slice L' Es.length c') ∧ Heads w' L' Es ∧ Below w.heap.size w w' := by
  obtain ⟨i0, hi, hz0, hz1, hz2⟩ := info_parts info22
  cases L with
  | none =>
    have h0 : Es = [] := by
      by_cases hp : 0 < Es.length
      · obtain ⟨r, o, e, _⟩ := h.head 0 hp
        cases e
      · exact List.length_eq_zero_iff.1 (by omega)
    subst h0
    clear h
    go_enter Try.func24, Try.ntmps24
    go_wp2
    go_ret
    exact ⟨none, 0, rfl, ⟨fun k hk => absurd hk (by simp), fun d hd => by simp at hd⟩, Below.refl _ _⟩
  | some ad =>
    have HH := Lib.hid h
    have hml : 0 + Es.length ≤ maxLen := by simp only [maxLen]; omega
    have hn : ∀ (j : Nat) (u : Value), (Es.map Hd.v)[j]? = some u → w.cell? (ad.add j) = some u := fun j u hj => by
      rw [List.getElem?_map] at hj
      by_cases hk : j < Es.length
      · rw [List.getElem?_eq_getElem hk] at hj
        obtain ⟨r, o, e, hc⟩ := h.head j hk
        obtain rfl := Option.some.inj e
        rw [add_off, hc, ← getElem_getD _ _ hk]
        simpa using hj
      · rw [List.getElem?_eq_none (by omega)] at hj
        cases hj
    clear h
    go_enter Try.func24, Try.ntmps24
    go_wp2_with (first
      | (at_builtin; refine wpList_append_own _ rfl (.tmp 4) (.tmp 5) 42 rfl w.heap.size 22 i0 (.slice none 0 0) 1 24 Try.underlying42 hi hz0 hz1 hz2 rfl (by decide) _ 0 [] rfl (World.ownsRow_nil _ _ _ _) ad Es.length c (Es.map Hd.v) rfl (by simp) hn (by simp [Value.oneCell', Hd.v]) hml (by omega) (Nat.le_refl _) ?_; intro v3 w3 own3 grow3 _; have HQ := Lib.hid (And.intro own3 grow3); clear own3 grow3)
      | go_in)
    have hb : Below w.heap.size w w3 := (Below.refl w.heap.size w).grown HQ.out.2 (Nat.le_refl _) (fun j e => by cases e)
    obtain ⟨L', c', rfl, _, hH⟩ := heads_own (ds := Es) (by simpa using HQ.out.1) (fun d hd => (HH.out.below hb).row d hd)
    go_ret
    exact ⟨L', c', rfl, hH, hb⟩
theorem hd_default : (default : Hd).v = .slice none 0 0 := rfl
set_option maxHeartbeats 1000000 in
set_option maxRecDepth 100000 in
theorem two_as (w : World) (c : Nat) (L : Option Addr) (Es : List Hd) (h : Heads w L Es) (hm : Es.length ≤ 1048576) : Calls Try.prog 32 #[.slice L Es.length c] w fun e w' => e = .returned (.tuple #[(Es.getD 0 default).v, (Es.getD 1 default).v]) ∧ Drawn0 w w' := by
  match Es, h with
  | [], h =>
    clear h hm
    go_enter Try.func32, Try.ntmps32
    go_wp2
    repeat (go_quiet (fail); try go_wp2)
    go_ret2
    exact ⟨rfl, by repeat (first | exact Drawn0.refl _ | apply Drawn0.step)⟩
  | [d], h =>
    obtain ⟨r, o, rfl, hc⟩ := h.head 0 (by simp)
    have hc : w.cell? ⟨r, o, none⟩ = some (.slice d.A d.l.length d.c) := hc
    unfold Hd.v
    clear h hm
    go_enter Try.func32, Try.ntmps32
    go_wp2
    repeat (go_quiet (fail); try go_wp2)
    go_ret2
    exact ⟨rfl, by repeat (first | exact Drawn0.refl _ | apply Drawn0.step)⟩
  | d :: e :: t, h =>
    obtain ⟨r, o, rfl, hc⟩ := h.head 0 (by simp)
    obtain ⟨r', o', he, hc1⟩ := h.head 1 (by simp)
    cases he
    have hc : w.cell? ⟨r, o, none⟩ = some (.slice d.A d.l.length d.c) := hc
    have hc1 : w.cell? ⟨r, o + 1, none⟩ = some (.slice e.A e.l.length e.c) := hc1
    have hl : ((d :: e :: t).length : Int) = (t.length : Int) + 2 := by simp; omega
    have hg0 : (0 : Int) < (t.length : Int) + 2 := by omega
    have hg1 : (1 : Int) < (t.length : Int) + 2 := by omega
    unfold Hd.v
    clear h hm
    go_enter Try.func32, Try.ntmps32
    go_wp2
    repeat (go_quiet (fail); try go_wp2)
    go_ret2
    exact ⟨rfl, by repeat (first | exact Drawn0.refl _ | apply Drawn0.step)⟩
end Go.Proofs.Ytnflokhffmfifaa.CountW
namespace Go.Proofs.Ytnflokhffmfifaa.CountW
open Go.RowKit Go.Proofs.Ytnflokhffmfifaa.Blk Go.Proofs.Ytnflokhffmfifaa.Ris Go.Proofs.Ytnflokhffmfifaa.Cur Go.Proofs.Ytnflokhffmfifaa.OfW Go.Proofs.Ytnflokhffmfifaa.HeapPure Go.Proofs.Ytnflokhffmfifaa.HeapW Go.Proofs.YtnflokhffmfifaaW.PrintWords Go.Proofs.YtnflokhffmfifaaW.PrintLast Go.Proofs.YtnflokhffmfifaaW.PrintMore
theorem cutup22 (A : Addr) (n c k : Nat) (hk : k ≤ c) (W : World) : (Instr.slice 22 (.slice (some A) n c) none (some (.int .i64 (k : Int))) none).run Try.prog W = .ok (.slice (some A) k c) W := by
  obtain ⟨i0, hi0, _, hsz, _⟩ := info_parts Cur.info2
  rw [run_slice_h W 22 (some A) n c (P := Try.prog) (by have h := Try.underlying22; rwa [show Try.prog.elem 22 = 2 by simp [Program.elem, Try.underlying22]]) .i64 _ (by omega) (by omega)]
  rw [show Try.prog.elem 22 = 2 by simp [Program.elem, Try.underlying22]]
  simp [sizeOf, typeInfo, hi0, sliced, Result.andThen, Addr.add]
set_option maxHeartbeats 4000000 in
set_option maxRecDepth 100000 in
theorem unchanged_as (w : World) (B0 c1 c2 c3 n1 n2 : Nat) (L1 L2 L3 : Option Addr) (Ds Es : List Hd) (h1 : Heads w L1 Ds) (h2 : Heads w L2 Ds) (h3 : Heads w L3 Es) (hs : ∀ d ∈ Ds, Spare B0 w d) (hm : Ds.map Hd.l = Es.map Hd.l) (e1 : n1 = Es.length) (e2 : n2 = Es.length) (hl : ∀ d ∈ Es, d.l.length ≤ 1048576) (hn : Es.length ≤ 1048576) :
    Calls Try.prog 27 #[.slice L1 n1 c1, .slice L2 n2 c2, .slice L3 Es.length c3] w fun e w' => e = .returned (.bool true) ∧ Drawn0 w w' := by
  subst e1 e2
  have hlen : Ds.length = Es.length := by simpa using congrArg List.length hm
  have H1 := Lib.hid h1
  have H2 := Lib.hid h2
  have H3 := Lib.hid h3
  have HS := Lib.hid hs
  have HL := Lib.hid hl
  have HM := Lib.hid hm
  have HE := Lib.hid hlen
  have hne : ((Es.length : Int) != (Es.length : Int)) = false := bne_self_eq_false _
  clear h1 h2 h3 hs hl hm hlen
  go_enter Try.func27, Try.ntmps27
  go_wp2
  go_loopw [7] (fun v wr => ∃ i : Nat, i ≤ Es.length ∧ v = .int .i64 (i : Nat) ∧ Drawn0 w wr) (fun v _ => Es.length - (intOf v).toNat)
  case atStart => exact ⟨0, Nat.zero_le _, rfl, by repeat (first | exact Drawn0.refl _ | apply Drawn0.step)⟩
  case round =>
    obtain ⟨i, hi, rfl, HW⟩ := hrel
    obtain ⟨m, rfl⟩ := HW
    by_cases hin : i < Es.length
    · have hlt : (i : Int) < (Es.length : Int) := by omega
      have hin1 : i < Ds.length := by rw [HE.out]; exact hin
      obtain ⟨ro, oo, rfl, co⟩ := H1.out.head i hin1
      obtain ⟨rh, oh, rfl, ch⟩ := H2.out.head i hin1
      obtain ⟨ri, oi, rfl, ci⟩ := H3.out.head i hin
      have md : Ds.getD i default ∈ Ds := by rw [← getElem_getD _ _ hin1]; exact List.getElem_mem hin1
      have me : Es.getD i default ∈ Es := by rw [← getElem_getD _ _ hin]; exact List.getElem_mem hin
      have sp := HS.out _ md
      have re := H3.out.row _ me
      have le := HL.out _ me
      have hll : (Ds.getD i default).l = (Es.getD i default).l := by
        have := congrArg (fun z : List (List Int) => z.getD i []) HM.out
        simpa [List.getD_eq_getElem?_getD, List.getElem?_eq_getElem hin, List.getElem?_eq_getElem hin1] using this
      generalize Ds.getD i default = d at co ch sp hll
      generalize Es.getD i default = e at ci re le hll
      obtain ⟨eA, ec, eg, l⟩ := e
      obtain ⟨dA, cd, g, l'⟩ := d
      simp only at hll le re
      subst hll
      obtain ⟨rd, hA, hcap, cs, _, _⟩ := sp
      simp only at rd hA hcap cs
      subst hA
      unfold Hd.v at co ch ci
      simp only at co ch ci
      have HR := Lib.hid (And.intro rd re)
      have hw1 : IntKind.i64.wrap ((l'.length : Int) + 1) = ((l'.length + 1 : Nat) : Int) := (i64_w _).trans (by unfold wrap64; omega)
      have hup := cutup22 ⟨g, 0, none⟩ l'.length cd (l'.length + 1) hcap
      have hdn := cut22 (some ⟨g, 0, none⟩) (l'.length + 1) cd l'.length (by omega) hcap
      have hlt2 : (l'.length : Int) < ((l'.length + 1 : Nat) : Int) := by omega
      have hlt3 : (l'.length : Int) < (l'.length : Int) + 1 := by omega
      have hge : (0 : Int) ≤ (l'.length : Int) := by omega
      clear rd re
      go_wp2
      refine start_ (n := 28) (S := fun w' => w'.cell? ⟨ro, oo + i, none⟩ = some (.slice (some ⟨g, 0, none⟩) l'.length cd) ∧ w'.cell? ⟨ri, oi + i, none⟩ = some (.slice eA l'.length ec) ∧ w'.cell? ⟨g, l'.length, none⟩ = some (.int .i64 (-77))) (ds := []) #[false, false, false, false, false, false, false, false, false, false, false, false, false, false, false, false, false, false, false, false, false, false, false, false, false, false, false, false] (by kernel_rfl) rfl rfl ⟨co, ci, cs⟩ (fun hHeld => ?_)
      refine pure_ (i := 0) (N := some 33) (v := ?_) (a' := ?_) #[true, false, false, false, false, false, false, false, false, false, false, false, false, false, false, false, false, false, false, false, false, false, false, false, false, false, false, false] rfl rfl (by kernel_rfl) (fun _ _ _ h => h) (Or.inl ⟨by rfl, ?_⟩) ?_ ?_
      rotate_left
      · intro w'
        go_simp
        with_reducible rfl
      rotate_left
      · simp only [Act.put, List.setIfInBounds_toArray, List.set_cons_zero, List.set_cons_succ, i64_w, i32_w]
        rfl
      refine pure_ (i := 1) (N := some 34) (v := ?_) (a' := ?_) #[true, true, false, false, false, false, false, false, false, false, false, false, false, false, false, false, false, false, false, false, false, false, false, false, false, false, false, false] rfl rfl (by kernel_rfl) (fun _ _ _ h => h) (Or.inl ⟨by rfl, ?_⟩) ?_ ?_
      rotate_left
      · intro w'
        go_simp
        with_reducible rfl
      rotate_left
      · simp only [Act.put, List.setIfInBounds_toArray, List.set_cons_zero, List.set_cons_succ, i64_w, i32_w]
        rfl
      refine pure_ (i := 2) (N := some 35) (v := ?_) (a' := ?_) #[true, true, true, false, false, false, false, false, false, false, false, false, false, false, false, false, false, false, false, false, false, false, false, false, false, false, false, false] rfl rfl (by kernel_rfl) (fun _ _ _ h => h) (Or.inl ⟨by rfl, ?_⟩) ?_ ?_
      rotate_left
      · intro w'
        go_simp
        with_reducible rfl
      rotate_left
      · simp only [Act.put, List.setIfInBounds_toArray, List.set_cons_zero, List.set_cons_succ, i64_w, i32_w]
        rfl
      refine pure_ (i := 4) (N := some 37) (v := ?_) (a' := ?_) #[true, true, true, false, true, false, false, false, false, false, false, false, false, false, false, false, false, false, false, false, false, false, false, false, false, false, false, false] rfl rfl (by kernel_rfl) (fun _ _ _ h => h) (Or.inl ⟨by rfl, ?_⟩) ?_ ?_
      rotate_left
      · intro w'
        go_simp
        with_reducible rfl
      rotate_left
      · simp only [Act.put, List.setIfInBounds_toArray, List.set_cons_zero, List.set_cons_succ, i64_w, i32_w]
        rfl
      refine pure_ (i := 5) (N := some 38) (v := ?_) (a' := ?_) #[true, true, true, false, true, true, false, false, false, false, false, false, false, false, false, false, false, false, false, false, false, false, false, false, false, false, false, false] rfl rfl (by kernel_rfl) (fun _ _ _ h => h) (Or.inl ⟨by rfl, ?_⟩) ?_ ?_
      rotate_left
      · intro w'
        go_simp
        with_reducible rfl
      rotate_left
      · simp only [Act.put, List.setIfInBounds_toArray, List.set_cons_zero, List.set_cons_succ, i64_w, i32_w]
        rfl
      refine pure_ (i := 6) (N := some 39) (v := ?_) (a' := ?_) #[true, true, true, false, true, true, true, false, false, false, false, false, false, false, false, false, false, false, false, false, false, false, false, false, false, false, false, false] rfl rfl (by kernel_rfl) (fun _ _ _ h => h) (Or.inl ⟨by rfl, ?_⟩) ?_ ?_
      rotate_left
      · intro w'
        go_simp
        with_reducible rfl
      rotate_left
      · simp only [Act.put, List.setIfInBounds_toArray, List.set_cons_zero, List.set_cons_succ, i64_w, i32_w]
        rfl
      refine take_ (i := 3) (N := some 36) (v := ?_) (a' := ?_) #[true, true, true, true, true, true, true, false, false, false, false, false, false, false, false, false, false, false, false, false, false, false, false, false, false, false, false, false] rfl rfl (by kernel_rfl) (fun _ _ _ h => h) (Or.inl ⟨by rfl, ?_⟩) hHeld ?_ ?_
      rotate_left
      · rintro w' ⟨s0, s1, s2⟩
        go_simp
        with_reducible rfl
      rotate_left
      · simp only [Act.put, List.setIfInBounds_toArray, List.set_cons_zero, List.set_cons_succ, i64_w, i32_w]
        rfl
      refine take_ (i := 7) (N := some 40) (v := ?_) (a' := ?_) #[true, true, true, true, true, true, true, true, false, false, false, false, false, false, false, false, false, false, false, false, false, false, false, false, false, false, false, false] rfl rfl (by kernel_rfl) (fun _ _ _ h => h) (Or.inl ⟨by rfl, ?_⟩) hHeld ?_ ?_
      rotate_left
      · rintro w' ⟨s0, s1, s2⟩
        go_simp
        with_reducible rfl
      rotate_left
      · simp only [Act.put, List.setIfInBounds_toArray, List.set_cons_zero, List.set_cons_succ, i64_w, i32_w]
        rfl
      refine one_ (i := 8) (N := some 41) #[true, true, true, true, true, true, true, true, true, false, false, false, false, false, false, false, false, false, false, false, false, false, false, false, false, false, false, false] rfl rfl (by kernel_rfl) (by decide) (fun K hK => ?_)
      refine goes_ Try.func29 (by kernel_rfl) rfl #[.slice (some ⟨g, 0, none⟩) l'.length cd, .slice eA l'.length ec] (by rfl) rfl rfl (by simp only [List.map_toArray, List.map_cons, List.map_nil]; rfl) ?_
      with_reducible refine (same_as _ g eg cd ec (some ⟨g, 0, none⟩) eA l' (by exact HR.out.1.on (fun _ => rfl)) (by exact HR.out.2.on (fun _ => rfl)) (by omega)).mono ?_
      rintro e _ ⟨rfl, ⟨n1, rfl⟩⟩
      refine ⟨_, rfl, ?_⟩
      refine hK.out _ _ ⟨hHeld.1, hHeld.2.1, hHeld.2.2⟩ (fun hHeld => ?_)
      clear hK K
      refine norm_ (a' := ?_) ?_ ?_
      rotate_left
      · show Act.put _ (some 41) _ = _
        simp only [Act.put, List.setIfInBounds_toArray, List.set_cons_zero, List.set_cons_succ, i64_w, i32_w]
        rfl
      refine pure_ (i := 9) (N := some 42) (v := ?_) (a' := ?_) #[true, true, true, true, true, true, true, true, true, true, false, false, false, false, false, false, false, false, false, false, false, false, false, false, false, false, false, false] rfl rfl (by kernel_rfl) (fun _ _ _ h => h) (Or.inl ⟨by rfl, ?_⟩) ?_ ?_
      rotate_left
      · intro w'
        go_simp
        with_reducible rfl
      rotate_left
      · simp only [Act.put, List.setIfInBounds_toArray, List.set_cons_zero, List.set_cons_succ, i64_w, i32_w]
        rfl
      refine pure_ (i := 10) (N := some 43) (v := ?_) (a' := ?_) #[true, true, true, true, true, true, true, true, true, true, true, false, false, false, false, false, false, false, false, false, false, false, false, false, false, false, false, false] rfl rfl (by kernel_rfl) (fun _ _ _ h => h) (Or.inl ⟨by rfl, ?_⟩) ?_ ?_
      rotate_left
      · intro w'
        go_simp
        with_reducible rfl
      rotate_left
      · simp only [Act.put, List.setIfInBounds_toArray, List.set_cons_zero, List.set_cons_succ, i64_w, i32_w]
        rfl
      refine pure_ (i := 11) (N := some 44) (v := ?_) (a' := ?_) #[true, true, true, true, true, true, true, true, true, true, true, true, false, false, false, false, false, false, false, false, false, false, false, false, false, false, false, false] rfl rfl (by kernel_rfl) (fun _ _ _ h => h) (Or.inl ⟨by rfl, ?_⟩) ?_ ?_
      rotate_left
      · intro w'
        go_simp
        with_reducible rfl
      rotate_left
      · simp only [Act.put, List.setIfInBounds_toArray, List.set_cons_zero, List.set_cons_succ, i64_w, i32_w]
        rfl
      refine pure_ (i := 12) (N := some 45) (v := ?_) (a' := ?_) #[true, true, true, true, true, true, true, true, true, true, true, true, true, false, false, false, false, false, false, false, false, false, false, false, false, false, false, false] rfl rfl (by kernel_rfl) (fun _ _ _ h => h) (Or.inl ⟨by rfl, ?_⟩) ?_ ?_
      rotate_left
      · intro w'
        go_simp
        with_reducible rfl
      rotate_left
      · simp only [Act.put, List.setIfInBounds_toArray, List.set_cons_zero, List.set_cons_succ, i64_w, i32_w]
        rfl
      refine pure_ (i := 13) (N := some 46) (v := ?_) (a' := ?_) #[true, true, true, true, true, true, true, true, true, true, true, true, true, true, false, false, false, false, false, false, false, false, false, false, false, false, false, false] rfl rfl (by kernel_rfl) (fun _ _ _ h => h) (Or.inl ⟨by rfl, ?_⟩) ?_ ?_
      rotate_left
      · intro w'
        go_simp
        with_reducible rfl
      rotate_left
      · simp only [Act.put, List.setIfInBounds_toArray, List.set_cons_zero, List.set_cons_succ, i64_w, i32_w]
        rfl
      refine pure_ (i := 14) (N := some 47) (v := ?_) (a' := ?_) #[true, true, true, true, true, true, true, true, true, true, true, true, true, true, true, false, false, false, false, false, false, false, false, false, false, false, false, false] rfl rfl (by kernel_rfl) (fun _ _ _ h => h) (Or.inl ⟨by rfl, ?_⟩) ?_ ?_
      rotate_left
      · intro w'
        go_simp
        with_reducible rfl
      rotate_left
      · simp only [Act.put, List.setIfInBounds_toArray, List.set_cons_zero, List.set_cons_succ, i64_w, i32_w]
        rfl
      refine pure_ (i := 15) (N := some 48) (v := ?_) (a' := ?_) #[true, true, true, true, true, true, true, true, true, true, true, true, true, true, true, true, false, false, false, false, false, false, false, false, false, false, false, false] rfl rfl (by kernel_rfl) (fun _ _ _ h => h) (Or.inl ⟨by rfl, ?_⟩) ?_ ?_
      rotate_left
      · intro w'
        go_simp
        with_reducible rfl
      rotate_left
      · simp only [Act.put, List.setIfInBounds_toArray, List.set_cons_zero, List.set_cons_succ, i64_w, i32_w]
        rfl
      refine pure_ (i := 16) (N := some 49) (v := ?_) (a' := ?_) #[true, true, true, true, true, true, true, true, true, true, true, true, true, true, true, true, true, false, false, false, false, false, false, false, false, false, false, false] rfl rfl (by kernel_rfl) (fun _ _ _ h => h) (Or.inl ⟨by rfl, ?_⟩) ?_ ?_
      rotate_left
      · intro w'
        go_simp
        with_reducible rfl
      rotate_left
      · simp only [Act.put, List.setIfInBounds_toArray, List.set_cons_zero, List.set_cons_succ, i64_w, i32_w]
        rfl
      refine take_ (i := 17) (N := some 50) (v := ?_) (a' := ?_) #[true, true, true, true, true, true, true, true, true, true, true, true, true, true, true, true, true, true, false, false, false, false, false, false, false, false, false, false] rfl rfl (by kernel_rfl) (fun _ _ _ h => h) (Or.inl ⟨by rfl, ?_⟩) hHeld ?_ ?_
      rotate_left
      · rintro w' ⟨s0, s1, s2⟩
        go_simp
        with_reducible rfl
      rotate_left
      · simp only [Act.put, List.setIfInBounds_toArray, List.set_cons_zero, List.set_cons_succ, i64_w, i32_w]
        rfl
      refine one_ (i := 18) (N := some 51) #[true, true, true, true, true, true, true, true, true, true, true, true, true, true, true, true, true, true, true, false, false, false, false, false, false, false, false, false] rfl rfl (by kernel_rfl) (by decide) (fun K hK => ?_)
      refine goes_ Try.func29 (by kernel_rfl) rfl #[.slice (some ⟨g, 0, none⟩) l'.length cd, .slice eA l'.length ec] (by rfl) rfl rfl (by simp only [List.map_toArray, List.map_cons, List.map_nil]; rfl) ?_
      with_reducible refine (same_as _ g eg cd ec (some ⟨g, 0, none⟩) eA l' (by exact HR.out.1.on (fun _ => rfl)) (by exact HR.out.2.on (fun _ => rfl)) (by omega)).mono ?_
      rintro e _ ⟨rfl, ⟨n2, rfl⟩⟩
      refine ⟨_, rfl, ?_⟩
      refine hK.out _ _ ⟨hHeld.1, hHeld.2.1, hHeld.2.2⟩ (fun hHeld => ?_)
      clear hK K
      refine norm_ (a' := ?_) ?_ ?_
      rotate_left
      · show Act.put _ (some 51) _ = _
        simp only [Act.put, List.setIfInBounds_toArray, List.set_cons_zero, List.set_cons_succ, i64_w, i32_w]
        rfl
      refine pure_ (i := 19) (N := some 52) (v := ?_) (a' := ?_) #[true, true, true, true, true, true, true, true, true, true, true, true, true, true, true, true, true, true, true, true, false, false, false, false, false, false, false, false] rfl rfl (by kernel_rfl) (fun _ _ _ h => h) (Or.inl ⟨by rfl, ?_⟩) ?_ ?_
      rotate_left
      · intro w'
        go_simp
        with_reducible rfl
      rotate_left
      · simp only [Act.put, List.setIfInBounds_toArray, List.set_cons_zero, List.set_cons_succ, i64_w, i32_w]
        rfl
      refine pure_ (i := 20) (N := some 53) (v := ?_) (a' := ?_) #[true, true, true, true, true, true, true, true, true, true, true, true, true, true, true, true, true, true, true, true, true, false, false, false, false, false, false, false] rfl rfl (by kernel_rfl) (fun _ _ _ h => h) (Or.inl ⟨by rfl, ?_⟩) ?_ ?_
      rotate_left
      · intro w'
        go_simp
        with_reducible rfl
      rotate_left
      · simp only [Act.put, List.setIfInBounds_toArray, List.set_cons_zero, List.set_cons_succ, i64_w, i32_w]
        rfl
      refine pure_ (i := 21) (N := some 54) (v := ?_) (a' := ?_) #[true, true, true, true, true, true, true, true, true, true, true, true, true, true, true, true, true, true, true, true, true, true, false, false, false, false, false, false] rfl rfl (by kernel_rfl) (fun _ _ _ h => h) (Or.inl ⟨by rfl, ?_⟩) ?_ ?_
      rotate_left
      · intro w'
        go_simp
        with_reducible rfl
      rotate_left
      · simp only [Act.put, List.setIfInBounds_toArray, List.set_cons_zero, List.set_cons_succ, i64_w, i32_w]
        rfl
      refine pure_ (i := 22) (N := some 55) (v := ?_) (a' := ?_) #[true, true, true, true, true, true, true, true, true, true, true, true, true, true, true, true, true, true, true, true, true, true, true, false, false, false, false, false] rfl rfl (by kernel_rfl) (fun _ _ _ h => h) (Or.inl ⟨by rfl, ?_⟩) ?_ ?_
      rotate_left
      · intro w'
        go_simp
        with_reducible rfl
      rotate_left
      · simp only [Act.put, List.setIfInBounds_toArray, List.set_cons_zero, List.set_cons_succ, i64_w, i32_w]
        rfl
      refine pure_ (i := 23) (N := some 56) (v := ?_) (a' := ?_) #[true, true, true, true, true, true, true, true, true, true, true, true, true, true, true, true, true, true, true, true, true, true, true, true, false, false, false, false] rfl rfl (by kernel_rfl) (fun _ _ _ h => h) (Or.inl ⟨by rfl, ?_⟩) ?_ ?_
      rotate_left
      · intro w'
        go_simp
        with_reducible rfl
      rotate_left
      · simp only [Act.put, List.setIfInBounds_toArray, List.set_cons_zero, List.set_cons_succ, i64_w, i32_w]
        rfl
      refine pure_ (i := 24) (N := some 57) (v := ?_) (a' := ?_) #[true, true, true, true, true, true, true, true, true, true, true, true, true, true, true, true, true, true, true, true, true, true, true, true, true, false, false, false] rfl rfl (by kernel_rfl) (fun _ _ _ h => h) (Or.inl ⟨by rfl, ?_⟩) ?_ ?_
      rotate_left
      · intro w'
        go_simp
        with_reducible rfl
      rotate_left
      · simp only [Act.put, List.setIfInBounds_toArray, List.set_cons_zero, List.set_cons_succ, i64_w, i32_w]
        rfl
      refine take_ (i := 25) (N := some 58) (v := ?_) (a' := ?_) #[true, true, true, true, true, true, true, true, true, true, true, true, true, true, true, true, true, true, true, true, true, true, true, true, true, true, false, false] rfl rfl (by kernel_rfl) (fun _ _ _ h => h) (Or.inl ⟨by rfl, ?_⟩) hHeld ?_ ?_
      rotate_left
      · rintro w' ⟨s0, s1, s2⟩
        go_simp
        with_reducible rfl
      rotate_left
      · simp only [Act.put, List.setIfInBounds_toArray, List.set_cons_zero, List.set_cons_succ, i64_w, i32_w]
        rfl
      refine pure_ (i := 26) (N := some 59) (v := ?_) (a' := ?_) #[true, true, true, true, true, true, true, true, true, true, true, true, true, true, true, true, true, true, true, true, true, true, true, true, true, true, true, false] rfl rfl (by kernel_rfl) (fun _ _ _ h => h) (Or.inl ⟨by rfl, ?_⟩) ?_ ?_
      rotate_left
      · intro w'
        go_simp
        with_reducible rfl
      rotate_left
      · simp only [Act.put, List.setIfInBounds_toArray, List.set_cons_zero, List.set_cons_succ, i64_w, i32_w]
        rfl
      refine pure_ (i := 27) (N := some 60) (v := ?_) (a' := ?_) #[true, true, true, true, true, true, true, true, true, true, true, true, true, true, true, true, true, true, true, true, true, true, true, true, true, true, true, true] rfl rfl (by kernel_rfl) (fun _ _ _ h => h) (Or.inl ⟨by rfl, ?_⟩) ?_ ?_
      rotate_left
      · intro w'
        go_simp
        with_reducible rfl
      rotate_left
      · simp only [Act.put, List.setIfInBounds_toArray, List.set_cons_zero, List.set_cons_succ, i64_w, i32_w]
        rfl
      refine done_ (by kernel_rfl) ?_
      go_wp2
      go_roundw
      case rel => exact ⟨i + 1, by omega, by go_num, by repeat (first | exact Drawn0.refl _ | apply Drawn0.step)⟩
      case measure => simp [intOf]; omega
    · have hlt : ¬ ((i : Int) < (Es.length : Int)) := by omega
      go_wp2
      go_ret
      exact ⟨rfl, by repeat (first | exact Drawn0.refl _ | apply Drawn0.step)⟩
end Go.Proofs.Ytnflokhffmfifaa.CountW
namespace Go.Proofs.Ytnflokhffmfifaa.CountW
open Go.RowKit Go.Proofs.Ytnflokhffmfifaa.InEv Go.Proofs.Ytnflokhffmfifaa.Blk Go.Proofs.Ytnflokhffmfifaa.Ris Go.Proofs.Ytnflokhffmfifaa.Cur Go.Proofs.Ytnflokhffmfifaa.OfW Go.Proofs.Ytnflokhffmfifaa.HeapPure Go.Proofs.Ytnflokhffmfifaa.HeapW Go.Proofs.Ytnflokhffmfifaa.PostAlg Go.Proofs.YtnflokhffmfifaaW.PrintWords Go.Proofs.YtnflokhffmfifaaW.PrintLast Go.Proofs.YtnflokhffmfifaaW.PrintMore
theorem row_none (W : World) (g : Nat) (A : Option Addr) (c : Nat) : Row W g A c [] := ⟨Nat.zero_le _, fun hp => absurd hp (by simp)⟩
theorem heads_get {W : World} {L : Option Addr} {Es : List Hd} (h : Heads W L Es) (i : Nat) : Row W (Es.getD i default).g (Es.getD i default).A (Es.getD i default).c (Es.getD i default).l := by
  by_cases hi : i < Es.length
  · refine h.row _ ?_
    rw [← getElem_getD _ _ hi]
    exact List.getElem_mem hi
  · rw [List.getD_eq_getElem?_getD, List.getElem?_eq_none (by omega)]
    exact row_none _ _ _ _
theorem bulk_get (Es : List Hd) (i : Nat) : (Es.getD i default).l.length ≤ bulk Es := by
  by_cases hi : i < Es.length
  · refine bulk_mem _ ?_
    rw [← getElem_getD _ _ hi]
    exact List.getElem_mem hi
  · rw [List.getD_eq_getElem?_getD, List.getElem?_eq_none (by omega)]
    exact Nat.zero_le _
theorem maps_get {Ds Es : List Hd} (h : Ds.map Hd.l = Es.map Hd.l) (i : Nat) : (Ds.getD i default).l = (Es.getD i default).l := by
  have hlen : Ds.length = Es.length := by simpa using congrArg List.length h
  by_cases hi : i < Es.length
  · have := congrArg (fun z : List (List Int) => z.getD i []) h
    simpa [List.getD_eq_getElem?_getD, List.getElem?_eq_getElem hi, List.getElem?_eq_getElem (show i < Ds.length by omega)] using this
  · rw [List.getD_eq_getElem?_getD, List.getD_eq_getElem?_getD, List.getElem?_eq_none (by omega), List.getElem?_eq_none (by omega)]
theorem bulk_maps {Ds Es : List Hd} (h : Ds.map Hd.l = Es.map Hd.l) : bulk Ds = bulk Es := by
  have e : ∀ es : List Hd, bulk es = ((es.map Hd.l).map List.length).sum := fun es => by rw [List.map_map]; rfl
  rw [e, e, h]
theorem al_len (k : Int) (Es : List Hd) : (atLeast ltI k (Es.map Hd.l)).length ≤ bulk Es := by
  unfold atLeast
  refine Nat.le_trans (List.length_filter_le _ _) (Nat.le_trans (setL_len totI _) ?_)
  rw [← flat_len]
  exact Nat.le_refl _
theorem meet_len (Es : List Hd) : (meet ltI (Es.map Hd.l)).length ≤ bulk Es := by
  unfold meet
  split
  · exact Nat.zero_le _
  · exact al_len _ _
theorem minus_len (a b : List Int) : (minus ltI a b).length ≤ a.length := Nat.le_trans (List.length_filter_le _ _) (setL_len totI _)
theorem undrewN {B : Nat} {W W' : World} {n : Nat} (h : Below B (W.drewN n) W') : Below B W W' := ⟨h.os, h.tape, h.output, h.size, h.block⟩
theorem undrew1 {B : Nat} {W W' : World} (h : Below B W.drew W') : Below B W W' := ⟨h.os, h.tape, h.output, h.size, h.block⟩
theorem two_is {w : World} {L : Option Addr} {Es : List Hd} {a b : Hd} (c : Nat) (h : Heads w L Es) (ha : Es.getD 0 default = a) (hb : Es.getD 1 default = b) (hm : Es.length ≤ 1048576) : Calls Try.prog 32 #[.slice L Es.length c] w fun e w' => e = .returned (.tuple #[.slice a.A a.l.length a.c, .slice b.A b.l.length b.c]) ∧ Drawn0 w w' := by
  have := two_as w c L Es h hm
  rwa [ha, hb] at this
/-- What the law's walk knows of a world behind the lists were laid. -/
structure SK (w : World) (B0 : Nat) (L L1 L2 : Option Addr) (Es Ds : List Hd) (Aa Ab Ac Ad : Option Addr) (ca cb cc cd ga gb gc gd : Nat) (la lb : List Int) (W : World) : Prop where
  hE : Heads W L Es
  h1 : Heads W L1 Ds
  h2 : Heads W L2 Ds
  sp : ∀ d ∈ Ds, Spare B0 W d
  ra : Row W ga Aa ca la
  rb : Row W gb Ab cb lb
  rc : Row W gc Ac cc la
  rd : Row W gd Ad cd lb
  below : Below w.heap.size w W
theorem _root_.Go.Proofs.Ytnflokhffmfifaa.Cur.Row.below {W W' : World} {g c : Nat} {A : Option Addr} {l : List Int} (h : Row W g A c l) (hb : Below W.heap.size W W') : Row W' g A c l := h.on (fun hp => hb.block _ (Row.lt h hp))
theorem SK.on {w W W' : World} {B0 : Nat} {L L1 L2 : Option Addr} {Es Ds : List Hd} {Aa Ab Ac Ad : Option Addr} {ca cb cc cd ga gb gc gd : Nat} {la lb : List Int} (h : SK w B0 L L1 L2 Es Ds Aa Ab Ac Ad ca cb cc cd ga gb gc gd la lb W) (hb : Below W.heap.size W W') : SK w B0 L L1 L2 Es Ds Aa Ab Ac Ad ca cb cc cd ga gb gc gd la lb W' :=
  ⟨h.hE.below hb, h.h1.below hb, h.h2.below hb, fun d hd => (h.sp d hd).on (hb.block _ (h.sp d hd).lt), h.ra.below hb, h.rb.below hb, h.rc.below hb, h.rd.below hb, h.below.trans (hb.mono h.below.size)⟩
theorem of_got (w : World) (g : Nat) (A : Option Addr) (c : Nat) (l : List Int) (h : Row w g A c l) (hn : l.length ≤ 1048576) : Calls Try.prog 22 #[.slice A l.length c] w (Got w (setL ltI l)) := of_as A c l w (Row.nums h hn) hn
theorem rsorted_got (w : World) (g : Nat) (A : Option Addr) (c : Nat) (l : List Int) (h : Row w g A c l) (hn : l.length ≤ 1048576) : Calls Try.prog 33 #[.slice A l.length c] w (Got w (setL ltI l)) := by
  refine (rsorted_as w g A c l h hn).mono ?_
  rintro e w' ⟨g', B, cc, rfl, h1, h2, h3⟩
  refine ⟨g', B, cc, rfl, h1, fun hp => ⟨(h2 hp).1, ?_⟩, h3⟩
  obtain ⟨_, cs, hcs⟩ := h2 hp
  exact (Array.getElem?_eq_some_iff.1 hcs).1
theorem rising_is (w : World) (g : Nat) (A : Option Addr) (c : Nat) (l : List Int) (bv : Bool) (e : risB ltI l = bv) (h : Row w g A c l) (hn : l.length ≤ 1048576) : Calls Try.prog 34 #[.slice A l.length c] w fun e w' => e = .returned (.bool bv) ∧ Drawn0 w w' := by
  have := rising_as w g A c l h hn
  rwa [e] at this
theorem rrising_is (w : World) (g : Nat) (A : Option Addr) (c : Nat) (l : List Int) (bv : Bool) (e : risB ltI l = bv) (h : Row w g A c l) (hn : l.length ≤ 1048576) : Calls Try.prog 35 #[.slice A l.length c] w fun e w' => e = .returned (.bool bv) ∧ Below w.heap.size w w' := by
  have := rrising_as w g A c l h hn
  rwa [e] at this
section
variable (w : World) (c : Nat) (L : Option Addr) (Ds Es : List Hd) (hq : Ds.map Hd.l = Es.map Hd.l) (h : Heads w L Ds) (hb : bulk Es ≤ 1048576) (hm : Es.length ≤ 1048576)
include hq h hb hm
theorem atleast_is (k : Int) : Calls Try.prog 28 #[.int .i64 k, .slice L Ds.length c] w (Got w (atLeast ltI k (Es.map Hd.l))) := by
  have hb' : bulk Ds ≤ 1048576 := by rw [bulk_maps hq]; exact hb
  have hm' : Ds.length ≤ 1048576 := by have := congrArg List.length hq; simp at this; omega
  have := atleast_as w k c L Ds h (by omega) (fun d hd => Nat.le_trans (bulk_mem d hd) hb') hm'
  rw [hq] at this
  exact this
theorem union_is : Calls Try.prog 30 #[.slice L Ds.length c] w (Got w (union ltI (Es.map Hd.l))) := by
  have hb' : bulk Ds ≤ 1048576 := by rw [bulk_maps hq]; exact hb
  have hm' : Ds.length ≤ 1048576 := by have := congrArg List.length hq; simp at this; omega
  have := union_as w c L Ds h (by omega) (fun d hd => Nat.le_trans (bulk_mem d hd) hb') hm'
  rwa [hq] at this
theorem meet_is : Calls Try.prog 31 #[.slice L Ds.length c] w (Got w (meet ltI (Es.map Hd.l))) := by
  have hb' : bulk Ds ≤ 1048576 := by rw [bulk_maps hq]; exact hb
  have hm' : Ds.length ≤ 1048576 := by have := congrArg List.length hq; simp at this; omega
  have := meet_as w c L Ds h (by omega) (fun d hd => Nat.le_trans (bulk_mem d hd) hb') hm'
  rwa [hq] at this
end
theorem runion_as (w : World) (c : Nat) (L : Option Addr) (Es : List Hd) (h : Heads w L Es) (hb : bulk Es ≤ 1048576) (hm : Es.length ≤ 1048576) : Calls Try.prog 25 #[.int .i64 1, .slice L Es.length c] w (Got w (union ltI (Es.map Hd.l))) := ratleast_as w 1 c L Es h hb hm
set_option maxHeartbeats 8000000 in
set_option maxRecDepth 100000 in
theorem sets_walk (w : World) (c0 : Nat) (k : Int) (L : Option Addr) (Es : List Hd) (h : Heads w L Es) (hb : bulk Es ≤ 1048576) (hm : Es.length ≤ 1048576) :
    Calls Try.prog 7 #[.slice L Es.length c0, .int .i64 k] w fun e w' => e = .returned (.bool true) ∧ Below w.heap.size w w' := by
  obtain ⟨⟨Aa, ca, ga, la⟩, ha⟩ : ∃ a, Es.getD 0 default = a := ⟨_, rfl⟩
  obtain ⟨⟨Ab, cb, gb, lb⟩, hbb⟩ : ∃ b, Es.getD 1 default = b := ⟨_, rfl⟩
  have hra := heads_get h 0
  have hrb := heads_get h 1
  have hla := bulk_get Es 0
  have hlb := bulk_get Es 1
  rw [ha] at hra hla
  rw [hbb] at hrb hlb
  simp only at hla hlb
  have hla' : la.length ≤ 1048576 := by omega
  have hlb' : lb.length ≤ 1048576 := by omega
  have hq1 : (setL ltI la).length ≤ 16777216 := by have := setL_len totI la; omega
  have hq2 : (union ltI (Es.map Hd.l)).length ≤ 16777216 := by have := al_len 1 Es; unfold union; omega
  have hq3 : (meet ltI (Es.map Hd.l)).length ≤ 16777216 := by have := meet_len Es; omega
  have hq4 : (atLeast ltI k (Es.map Hd.l)).length ≤ 16777216 := by have := al_len k Es; omega
  have hq5 : (minus ltI la lb).length ≤ 16777216 := by have := minus_len la lb; omega
  have hdl : ∀ d ∈ Es, d.l.length ≤ 1048576 := fun d hd => Nat.le_trans (bulk_mem d hd) hb
  have HA := Lib.hid ha
  have HBB := Lib.hid hbb
  have HE := Lib.hid h
  have HRA := Lib.hid hra
  have HRB := Lib.hid hrb
  have HDL := Lib.hid hdl
  have HBK := Lib.hid hb
  generalize hrs : risB ltI la = ba
  have HRS := Lib.hid hrs
  have hbn : (ba != ba) = false := bne_self_eq_false ba
  clear h ha hbb hra hrb hla hlb hdl hb hrs
  go_enter Try.func7, Try.ntmps7
  go_wp2_with (first
    | (go_at_call 23; ((with_reducible refine (spared_as _ c0 L Es ?hx HDL.out hm).mono ?_); (case hx => exact HE.out.below (by repeat (first | exact Below.refl _ _ | apply pw_below_drewN | apply below_drew1))); rintro e W1 ⟨L1, c1, Ds, rfl, q1, q2, q3, hb⟩; have hbk := Nat.le_trans (Nat.le_of_eq (bulk_maps q3)) HBK.out; have HDN : Hid (Ds.length = Es.length) := Lib.hid (by simpa using congrArg List.length q3); obtain ⟨⟨Ac, cc, gc, lc⟩, hc⟩ : ∃ c, Ds.getD 0 default = c := ⟨_, rfl⟩; obtain ⟨⟨Ad, cd, gd, ld⟩, hd⟩ : ∃ d, Ds.getD 1 default = d := ⟨_, rfl⟩; have m0 := (maps_get q3 0).symm; have m1 := (maps_get q3 1).symm; have rc := heads_get q1 0; have rd := heads_get q1 1; rw [hc] at m0 rc; rw [hd] at m1 rd; rw [HA.out] at m0; rw [HBB.out] at m1; simp only at m0 m1 rc rd; subst m0; subst m1; have hB1 := ((by repeat (first | exact hb | apply undrewN | apply undrew1)) : Below w.heap.size w W1); have HC := Lib.hid hc; have HD := Lib.hid hd; have HM := Lib.hid q3; have HK1 := Lib.hid (And.intro q1 (And.intro q2 (And.intro rc (And.intro rd hB1)))); have HBD := Lib.hid hbk; clear q1 q2 q3 hb hc hd rc rd hB1 hbk))
    | (go_at_call 24; ((with_reducible refine (headers_as _ c1 L1 Ds ?hx (by have := HDN.out; omega)).mono ?_); (case hx => exact HK1.out.1); rintro e W2 ⟨L2, c2, rfl, q1, hb⟩; have hb1 : Below W1.heap.size W1 W2 := (by repeat (first | exact hb | apply undrewN | apply undrew1)); have HK2 : Hid (SK w w.heap.size L L1 L2 Es Ds Aa Ab Ac Ad ca cb cc cd ga gb gc gd la lb W2) := Lib.hid ⟨HE.out.below (HK1.out.2.2.2.2.trans (hb1.mono HK1.out.2.2.2.2.size)), HK1.out.1.below hb1, q1, fun d hd => (HK1.out.2.1 d hd).on (hb1.block _ (HK1.out.2.1 d hd).lt), HRA.out.below (HK1.out.2.2.2.2.trans (hb1.mono HK1.out.2.2.2.2.size)), HRB.out.below (HK1.out.2.2.2.2.trans (hb1.mono HK1.out.2.2.2.2.size)), HK1.out.2.2.1.below hb1, HK1.out.2.2.2.1.below hb1, HK1.out.2.2.2.2.trans (hb1.mono HK1.out.2.2.2.2.size)⟩; clear q1 hb hb1))
    | (go_at_call 32; (first
        | ((with_reducible refine (two_is c0 ?hx HA.out HBB.out hm).mono ?_); (case hx => exact HE.out.below (by repeat (first | exact Below.refl _ _ | apply pw_below_drewN | apply below_drew1))); rintro e _ ⟨rfl, ⟨n0, rfl⟩⟩)
        | ((with_reducible refine (two_is c1 ?hx HC.out HD.out (by have := HDN.out; omega)).mono ?_); (case hx => exact HK2.out.h1.below (by repeat (first | exact Below.refl _ _ | apply pw_below_drewN | apply below_drew1))); rintro e _ ⟨rfl, ⟨n1, rfl⟩⟩)))
    | (go_at_call 22; ((with_reducible refine (of_got _ gc Ac cc la ?hx hla').mono ?_); (case hx => exact HK2.out.rc.below (by repeat (first | exact Below.refl _ _ | apply pw_below_drewN | apply below_drew1))); rintro e W3 ⟨g3, B3, b3, rfl, q1, _, hb⟩; have hb1 : Below W2.heap.size W2 W3 := (by repeat (first | exact hb | apply undrewN | apply undrew1)); have HK3 := Lib.hid (HK2.out.on hb1); have HQ3 := Lib.hid q1; clear q1 hb hb1))
    | (go_at_call 33; ((with_reducible refine (rsorted_got _ ga Aa ca la ?hx hla').mono ?_); (case hx => exact HK3.out.ra.below (by repeat (first | exact Below.refl _ _ | apply pw_below_drewN | apply below_drew1))); rintro e W4 ⟨g4, B4, b4, rfl, q1, _, hb⟩; have hb1 : Below W3.heap.size W3 W4 := (by repeat (first | exact hb | apply undrewN | apply undrew1)); have HK4 := Lib.hid (HK3.out.on hb1); have HR4 := Lib.hid (And.intro (Row.below HQ3.out hb1) q1); clear q1 hb hb1))
    | (go_at_call 34; ((with_reducible refine (rising_is _ gc Ac cc la ba HRS.out ?hx hla').mono ?_); (case hx => exact HK4.out.rc.below (by repeat (first | exact Below.refl _ _ | apply pw_below_drewN | apply below_drew1))); rintro e _ ⟨rfl, ⟨n3, rfl⟩⟩))
    | (go_at_call 35; ((with_reducible refine (rrising_is _ ga Aa ca la ba HRS.out ?hx hla').mono ?_); (case hx => exact HK4.out.ra.below (by repeat (first | exact Below.refl _ _ | apply pw_below_drewN | apply below_drew1))); rintro e W5 ⟨rfl, hb⟩; have HK5 := Lib.hid (HK4.out.on (show Below W4.heap.size W4 W5 from (by repeat (first | exact hb | apply undrewN | apply undrew1)))); clear hb))
    | (go_at_call 30; ((with_reducible refine (union_is _ c1 L1 Ds Es HM.out ?hx HBK.out hm).mono ?_); (case hx => exact HK5.out.h1.below (by repeat (first | exact Below.refl _ _ | apply pw_below_drewN | apply below_drew1))); rintro e W6 ⟨g6, B6, b6, rfl, q1, _, hb⟩; have hb1 : Below W5.heap.size W5 W6 := (by repeat (first | exact hb | apply undrewN | apply undrew1)); have HK6 := Lib.hid (HK5.out.on hb1); have HQ6 := Lib.hid q1; clear q1 hb hb1))
    | (go_at_call 31; ((with_reducible refine (meet_is _ c1 L1 Ds Es HM.out ?hx HBK.out hm).mono ?_); (case hx => exact HK7.out.h1.below (by repeat (first | exact Below.refl _ _ | apply pw_below_drewN | apply below_drew1))); rintro e W8 ⟨g8, B8, b8, rfl, q1, _, hb⟩; have hb1 : Below W7.heap.size W7 W8 := (by repeat (first | exact hb | apply undrewN | apply undrew1)); have HK8 := Lib.hid (HK7.out.on hb1); have HQ8 := Lib.hid q1; clear q1 hb hb1))
    | (go_at_call 36; ((with_reducible refine (rmeet_as _ c0 L Es ?hx HBK.out hm).mono ?_); (case hx => exact HK8.out.hE.below (by repeat (first | exact Below.refl _ _ | apply pw_below_drewN | apply below_drew1))); rintro e W9 ⟨g9, B9, b9, rfl, q1, _, hb⟩; have hb1 : Below W8.heap.size W8 W9 := (by repeat (first | exact hb | apply undrewN | apply undrew1)); have HK9 := Lib.hid (HK8.out.on hb1); have HR9 := Lib.hid (And.intro (Row.below HQ8.out hb1) q1); clear q1 hb hb1))
    | (go_at_call 25; (first
        | ((with_reducible refine (ratleast_as _ k c0 L Es ?hx HBK.out hm).mono ?_); (case hx => exact HK10.out.hE.below (by repeat (first | exact Below.refl _ _ | apply pw_below_drewN | apply below_drew1))); rintro e W11 ⟨g11, B11, b11, rfl, q1, _, hb⟩; have hb1 : Below W10.heap.size W10 W11 := (by repeat (first | exact hb | apply undrewN | apply undrew1)); have HK11 := Lib.hid (HK10.out.on hb1); have HR11 := Lib.hid (And.intro (Row.below HQ10.out hb1) q1); clear q1 hb hb1)
        | ((with_reducible refine (runion_as _ c0 L Es ?hx HBK.out hm).mono ?_); (case hx => exact HK6.out.hE.below (by repeat (first | exact Below.refl _ _ | apply pw_below_drewN | apply below_drew1))); rintro e W7 ⟨g7, B7, b7, rfl, q1, _, hb⟩; have hb1 : Below W6.heap.size W6 W7 := (by repeat (first | exact hb | apply undrewN | apply undrew1)); have HK7 := Lib.hid (HK6.out.on hb1); have HR7 := Lib.hid (And.intro (Row.below HQ6.out hb1) q1); clear q1 hb hb1)
        ))
    | (go_at_call 28; ((with_reducible refine (atleast_is _ c1 L1 Ds Es HM.out ?hx HBK.out hm k).mono ?_); (case hx => exact HK9.out.h1.below (by repeat (first | exact Below.refl _ _ | apply pw_below_drewN | apply below_drew1))); rintro e W10 ⟨g10, B10, b10, rfl, q1, _, hb⟩; have hb1 : Below W9.heap.size W9 W10 := (by repeat (first | exact hb | apply undrewN | apply undrew1)); have HK10 := Lib.hid (HK9.out.on hb1); have HQ10 := Lib.hid q1; clear q1 hb hb1))
    | (go_at_call 37; ((with_reducible refine (minus_as _ gc gd cc cd Ac Ad la lb ?hx ?hy hla' hlb').mono ?_); (case hx => exact HK11.out.rc.below (by repeat (first | exact Below.refl _ _ | apply pw_below_drewN | apply below_drew1))); (case hy => exact HK11.out.rd.below (by repeat (first | exact Below.refl _ _ | apply pw_below_drewN | apply below_drew1))); rintro e W12 ⟨g12, B12, b12, rfl, q1, _, hb⟩; have hb1 : Below W11.heap.size W11 W12 := (by repeat (first | exact hb | apply undrewN | apply undrew1)); have HK12 := Lib.hid (HK11.out.on hb1); have HQ12 := Lib.hid q1; clear q1 hb hb1))
    | (go_at_call 38; ((with_reducible refine (rminus_as _ ga gb ca cb Aa Ab la lb ?hx ?hy hla' hlb').mono ?_); (case hx => exact HK12.out.ra.below (by repeat (first | exact Below.refl _ _ | apply pw_below_drewN | apply below_drew1))); (case hy => exact HK12.out.rb.below (by repeat (first | exact Below.refl _ _ | apply pw_below_drewN | apply below_drew1))); rintro e W13 ⟨g13, B13, b13, rfl, q1, _, hb⟩; have hb1 : Below W12.heap.size W12 W13 := (by repeat (first | exact hb | apply undrewN | apply undrew1)); have HK13 := Lib.hid (HK12.out.on hb1); have HR13 := Lib.hid (And.intro (Row.below HQ12.out hb1) q1); clear q1 hb hb1))
    | (go_at_call 29; (first
        | ((with_reducible refine (same_as _ g3 g4 b3 b4 B3 B4 _ ?hx ?hy hq1).mono ?_); (case hx => exact Row.below HR4.out.1 (by repeat (first | exact Below.refl _ _ | apply pw_below_drewN | apply below_drew1))); (case hy => exact Row.below HR4.out.2 (by repeat (first | exact Below.refl _ _ | apply pw_below_drewN | apply below_drew1))); rintro e _ ⟨rfl, ⟨m4, rfl⟩⟩)
        | ((with_reducible refine (same_as _ g6 g7 b6 b7 B6 B7 _ ?hx ?hy hq2).mono ?_); (case hx => exact Row.below HR7.out.1 (by repeat (first | exact Below.refl _ _ | apply pw_below_drewN | apply below_drew1))); (case hy => exact Row.below HR7.out.2 (by repeat (first | exact Below.refl _ _ | apply pw_below_drewN | apply below_drew1))); rintro e _ ⟨rfl, ⟨m7, rfl⟩⟩)
        | ((with_reducible refine (same_as _ g8 g9 b8 b9 B8 B9 _ ?hx ?hy hq3).mono ?_); (case hx => exact Row.below HR9.out.1 (by repeat (first | exact Below.refl _ _ | apply pw_below_drewN | apply below_drew1))); (case hy => exact Row.below HR9.out.2 (by repeat (first | exact Below.refl _ _ | apply pw_below_drewN | apply below_drew1))); rintro e _ ⟨rfl, ⟨m9, rfl⟩⟩)
        | ((with_reducible refine (same_as _ g10 g11 b10 b11 B10 B11 _ ?hx ?hy hq4).mono ?_); (case hx => exact Row.below HR11.out.1 (by repeat (first | exact Below.refl _ _ | apply pw_below_drewN | apply below_drew1))); (case hy => exact Row.below HR11.out.2 (by repeat (first | exact Below.refl _ _ | apply pw_below_drewN | apply below_drew1))); rintro e _ ⟨rfl, ⟨m11, rfl⟩⟩)
        | ((with_reducible refine (same_as _ g12 g13 b12 b13 B12 B13 _ ?hx ?hy hq5).mono ?_); (case hx => exact Row.below HR13.out.1 (by repeat (first | exact Below.refl _ _ | apply pw_below_drewN | apply below_drew1))); (case hy => exact Row.below HR13.out.2 (by repeat (first | exact Below.refl _ _ | apply pw_below_drewN | apply below_drew1))); rintro e _ ⟨rfl, ⟨m13, rfl⟩⟩)
        ))
    | (go_at_call 27; ((with_reducible refine (unchanged_as _ w.heap.size c1 c2 c0 _ _ L1 L2 L Ds Es ?h1 ?h2 ?h3 ?h4 HM.out HDN.out HDN.out HDL.out hm).mono ?_); (case h1 => exact HK13.out.h1.below (by repeat (first | exact Below.refl _ _ | apply pw_below_drewN | apply below_drew1))); (case h2 => exact HK13.out.h2.below (by repeat (first | exact Below.refl _ _ | apply pw_below_drewN | apply below_drew1))); (case h3 => exact HK13.out.hE.below (by repeat (first | exact Below.refl _ _ | apply pw_below_drewN | apply below_drew1))); (case h4 => exact (HK13.out.on (by repeat (first | exact Below.refl _ _ | apply pw_below_drewN | apply below_drew1))).sp); rintro e _ ⟨rfl, ⟨n9, rfl⟩⟩))
    | go_in)
  go_ret
  exact ⟨rfl, by repeat (first | exact HK13.out.below | apply pw_below_drewN | apply below_drew1)⟩
end Go.Proofs.Ytnflokhffmfifaa.CountW
namespace Go.Proofs.Ytnflokhffmfifaa.XY
open Go.RowKit Go.Proofs.Ytnflokhffmfifaa.CountW Go.Proofs.Ytnflokhffmfifaa.HeapW Go.Proofs.YtnflokhffmfifaaW.PrintWords Go.Proofs.YtnflokhffmfifaaW.PrintLast Go.Proofs.YtnflokhffmfifaaW.PrintMore
def rosterlaw10_PostingSets.f (x0 : List (List Int)) (x1 : Int) : Option Bool := if x0.flatten.length ≤ 1048576 ∧ x0.length ≤ 1048576 then some true else none
theorem rosterlaw10_PostingSets.calls (A0 : Option Addr) (c0 : Nat) (l0 : List (List Int)) (x1 : Int) (r : Bool) (w : World) (hr0 : Kd.C (Kd.slice 2 (Kd.int .i64)) w A0 l0.length l0) (hc0 : l0.length ≤ c0) (h : rosterlaw10_PostingSets.f l0 x1 = some r) :
    Calls Try.prog 7 #[.slice A0 l0.length c0, .int .i64 x1] w fun e w' => e = .returned (.bool r) ∧ Below w.heap.size w w' := by
  unfold rosterlaw10_PostingSets.f at h
  split at h
  case isFalse => cases h
  case isTrue hs =>
  obtain rfl := Option.some.inj h
  obtain ⟨Es, hh, rfl⟩ := heads_of_C hr0
  rw [flat_len] at hs
  rw [List.length_map] at hs hc0 ⊢
  exact sets_walk w c0 x1 A0 Es hh hs.1 hs.2
end Go.Proofs.Ytnflokhffmfifaa.XY

/- The reference at texts: RefST, RefAT, RefMT joined. -/
import Derived.Test.YtnflokhffmfifaaXT1
import Derived.Test.YtnflokhffmfifaaXV
import Derived.Test.YtnflokhffmfifaaSkipsAT
import Derived.Test.YtnflokhffmfifaaSetOpsT
set_option linter.unusedVariables false
set_option linter.unusedSimpArgs false
namespace Go.Proofs.Ytnflokhffmfifaa.SortEvAT
open Go Go.RowKit Go.Proofs.Ytnflokhffmfifaa.XT Go.Proofs.Ytnflokhffmfifaa.XV Go.Proofs.Ytnflokhffmfifaa.Ris Go.Proofs.Ytnflokhffmfifaa.OfT Go.Proofs.Ytnflokhffmfifaa.Keys Go.Proofs.Ytnflokhffmfifaa.XV Go.Proofs.YtnflokhffmfifaaW.PrintWords Go.Proofs.YtnflokhffmfifaaW.PrintLast Go.Proofs.YtnflokhffmfifaaW.PrintMore
/-- Two rising lists as one. -/
def mg : List ByteArray → List ByteArray → List ByteArray
  | [], b => b
  | x :: a, [] => x :: a
  | x :: a, y :: b => if ltS x y = true then x :: mg a (y :: b) else if ltS y x = true then y :: mg (x :: a) b else mg a (y :: b)
termination_by a b => a.length + b.length
theorem mg_mem (a b : List ByteArray) (z : ByteArray) : z ∈ mg a b ↔ z ∈ a ∨ z ∈ b := by
  fun_induction mg a b with
  | case1 b => simp
  | case2 x a => simp
  | case3 x a y b h ih => rw [List.mem_cons, ih, List.mem_cons, List.mem_cons]; simp [or_assoc]
  | case4 x a y b h h2 ih => rw [List.mem_cons, ih, List.mem_cons, List.mem_cons]; constructor <;> (intro q; rcases q with q | q | q <;> simp_all)
  | case5 x a y b h h2 ih =>
    have e : x = y := totS.tot _ _ (by simpa using h) (by simpa using h2)
    rw [ih, List.mem_cons, List.mem_cons, e]
    constructor
    · rintro (q | q | q) <;> simp [q]
    · rintro ((q | q) | q | q) <;> simp [q]
theorem mg_ris (a b : List ByteArray) (ha : Ris ltS a) (hb : Ris ltS b) : Ris ltS (mg a b) := by
  fun_induction mg a b with
  | case1 b => exact hb
  | case2 x a => exact ha
  | case3 x a y b h ih =>
    obtain ⟨a1, a2⟩ := ris_cons.1 ha
    obtain ⟨b1, b2⟩ := ris_cons.1 hb
    refine ris_cons.2 ⟨fun z hz => ?_, ih a2 hb⟩
    rcases (mg_mem _ _ z).1 hz with q | q
    · exact a1 z q
    · rcases List.mem_cons.1 q with q | q
      · subst q; exact h
      · exact totS.tr _ _ _ h (b1 z q)
  | case4 x a y b h h2 ih =>
    obtain ⟨a1, a2⟩ := ris_cons.1 ha
    obtain ⟨b1, b2⟩ := ris_cons.1 hb
    refine ris_cons.2 ⟨fun z hz => ?_, ih ha b2⟩
    rcases (mg_mem _ _ z).1 hz with q | q
    · rcases List.mem_cons.1 q with q | q
      · subst q; exact h2
      · exact totS.tr _ _ _ h2 (a1 z q)
    · exact b1 z q
  | case5 x a y b h h2 ih => exact ih (ris_cons.1 ha).2 hb
theorem rdE (l : List ByteArray) (i : Nat) : rdOf ByteArray.empty l (i : Int) = l.getD i E := by unfold rdOf; rw [Int.toNat_natCast]
theorem drop_at (l : List ByteArray) (i : Nat) (h : i < l.length) : l.drop i = l.getD i E :: l.drop (i + 1) := by
  rw [List.drop_eq_getElem_cons h, List.getD_eq_getElem?_getD, List.getElem?_eq_getElem h]
  rfl
theorem wrp1 (i : Nat) (h : i ≤ 4611686018427387904) : wrap64 ((i : Int) + 1) = ((i + 1 : Nat) : Int) := by rw [wrp_id _ (by omega) (by omega)]; rfl
theorem merge_ev (a b : List ByteArray) (ha : a.length ≤ 1048576) (hb : b.length ≤ 1048576) (d : Nat) : ∀ (i j : Nat) (out : List ByteArray), i ≤ a.length → j ≤ b.length → (a.length - i) + (b.length - j) = d → out.length + d ≤ 4194304 →
    Ev (fun k => rosterref10_Texts.l0 k a b out (i : Int) (j : Int)) (out ++ mg (a.drop i) (b.drop j)) := by
  induction d with
  | zero =>
    intro i j out hi hj hd ho
    refine ev_round ?_
    simp only [rosterref10_Texts.l0]
    refine ev_neg (by omega) (ev_round ?_)
    simp only [rosterref10_Texts.j1]
    refine ev_neg (by simp; omega) (ev_eq ?_)
    rw [List.drop_of_length_le (by omega), List.drop_of_length_le (by omega)]
    simp [mg]
  | succ d ih =>
    intro i j out hi hj hd ho
    have L : Ev (fun k => rosterref10_Texts.j1 k a b out (i : Int) (j : Int) true) (out ++ mg (a.drop i) (b.drop j)) := by
      refine ev_round ?_
      simp only [rosterref10_Texts.j1]
      refine ev_pos (by first | rfl | trivial) ?_
      by_cases hjb : j = b.length
      · refine ev_pos (by omega) (ev_round ?_)
        simp only [rosterref10_Texts.j2]
        refine ev_pos (by first | rfl | trivial) (ev_pos (by omega) (ev_pos (by omega) (ev_pos (by omega) ?_)))
        rw [wrp1 i (by omega), rdE]
        have := ih (i + 1) j (out ++ [a.getD i E]) (by omega) hj (by omega) (by simp; omega)
        rw [List.append_assoc] at this
        rw [List.drop_of_length_le (by omega : b.length ≤ j)] at this ⊢
        rw [drop_at a i (by omega)]
        have e : ∀ t : List ByteArray, mg t [] = t := fun t => by cases t <;> simp [mg]
        rw [e] at this ⊢
        exact this
      · refine ev_neg (by omega) ?_
        by_cases hia : i < a.length
        · refine ev_pos (by omega) (ev_pos (by omega) (ev_pos (by omega) (ev_pos (by omega) ?_)))
          by_cases hlt : ltS (a.getD i E) (b.getD j E) = true
          · rw [rdE, rdE, show Op.bytesLess (a.getD i E).toList (b.getD j E).toList = true from hlt]
            refine ev_round ?_
            simp only [rosterref10_Texts.j2]
            refine ev_pos (by first | rfl | trivial) (ev_pos (by omega) (ev_pos (by omega) (ev_pos (by omega) ?_)))
            rw [wrp1 i (by omega), rdE]
            have := ih (i + 1) j (out ++ [a.getD i E]) (by omega) hj (by omega) (by simp; omega)
            rw [List.append_assoc] at this
            rw [drop_at a i hia, drop_at b j (by omega), mg, if_pos hlt, ← drop_at b j (by omega)]
            exact this
          · rw [rdE, rdE, show Op.bytesLess (a.getD i E).toList (b.getD j E).toList = false from Bool.eq_false_iff.2 hlt]
            refine ev_round ?_
            simp only [rosterref10_Texts.j2]
            refine ev_neg (by decide) (ev_neg (by omega) (ev_pos (by omega) (ev_pos (by omega) (ev_pos (by omega) (ev_pos (by omega) ?_)))))
            rw [rdE, rdE]
            by_cases hgt : ltS (b.getD j E) (a.getD i E) = true
            · refine ev_pos hgt (ev_pos (by omega) ?_)
              rw [wrp1 j (by omega)]
              have := ih i (j + 1) (out ++ [b.getD j E]) hi (by omega) (by omega) (by simp; omega)
              rw [List.append_assoc] at this
              rw [drop_at a i hia, drop_at b j (by omega), mg, if_neg hlt, if_pos hgt, ← drop_at a i hia]
              exact this
            · refine ev_neg hgt ?_
              rw [wrp1 i (by omega)]
              have := ih (i + 1) j out (by omega) hj (by omega) (by omega)
              rw [drop_at a i hia, drop_at b j (by omega), mg, if_neg hlt, if_neg hgt, ← drop_at b j (by omega)]
              exact this
        · refine ev_neg (by omega) (ev_round ?_)
          simp only [rosterref10_Texts.j2]
          refine ev_neg (by decide) (ev_pos (by omega) (ev_pos (by omega) (ev_pos (by omega) (ev_pos (by omega) ?_))))
          rw [wrp1 j (by omega), rdE]
          have := ih i (j + 1) (out ++ [b.getD j E]) hi (by omega) (by omega) (by simp; omega)
          rw [List.append_assoc] at this
          rw [List.drop_of_length_le (by omega : a.length ≤ i)] at this ⊢
          rw [drop_at b j (by omega)]
          simp only [mg] at this ⊢
          exact this
    refine ev_round ?_
    simp only [rosterref10_Texts.l0]
    by_cases hia : (i : Int) < (a.length : Int)
    · exact ev_pos hia L
    · refine ev_neg hia ?_
      rw [decide_eq_true (show (j : Int) < (b.length : Int) by omega)]
      exact L
theorem sorted_ev (n : Nat) : ∀ l : List ByteArray, l.length ≤ n → l.length ≤ 1048576 → Ev (fun k => rosterref10_Texts.f k l) (setL ltS l) := by
  induction n with
  | zero =>
    intro l h _
    have e : l = [] := List.length_eq_zero_iff.1 (by omega)
    subst e
    refine ev_round ?_
    simp only [rosterref10_Texts.f]
    refine ev_pos (by simp) ?_
    simp only [Option.bind_some]
    exact ev_pos (by simp) (ev_eq (by simp [setL]))
  | succ n ih =>
    intro l h hl
    refine ev_round ?_
    simp only [rosterref10_Texts.f]
    by_cases h2 : (l.length : Int) < 2
    · refine ev_pos h2 ?_
      simp only [Option.bind_some]
      refine ev_pos (by simp; omega) (ev_eq ?_)
      rw [List.nil_append]
      exact (setL_of_ris totS (by match l, h2 with | [], _ => exact ris_nil | [a], _ => simp [Ris] | a :: b :: l, h => simp at h; omega)).symm
    · refine ev_neg h2 ?_
      have e : wrap64 ((l.length : Int) / 2) = ((l.length / 2 : Nat) : Int) := by rw [wrp_id _ (by omega) (by omega)]; rfl
      rw [e]
      refine ev_pos (by omega) (ev_pos (by omega) ?_)
      rw [Int.toNat_natCast]
      have l1 : (l.take (l.length / 2)).length = l.length / 2 := by rw [List.length_take]; omega
      have l2 : (l.drop (l.length / 2)).length = l.length - l.length / 2 := List.length_drop
      have s1 := setL_len totS (l.take (l.length / 2))
      have s2 := setL_len totS (l.drop (l.length / 2))
      refine Ev.bind (ih _ (by omega) (by omega)) (Ev.bind (ih _ (by omega) (by omega)) ?_)
      have := merge_ev (setL ltS (l.take (l.length / 2))) (setL ltS (l.drop (l.length / 2))) (by omega) (by omega) _ 0 0 [] (by omega) (by omega) rfl (by simp; omega)
      rw [List.nil_append, List.drop_zero, List.drop_zero] at this
      have e2 : mg (setL ltS (l.take (l.length / 2))) (setL ltS (l.drop (l.length / 2))) = setL ltS l := setL_eq totS (mg_ris _ _ (ris_setL totS _) (ris_setL totS _)) (fun z => by
        rw [mg_mem, mem_setL totS, mem_setL totS, ← List.mem_append, List.take_append_drop])
      rw [e2] at this
      exact this
end Go.Proofs.Ytnflokhffmfifaa.SortEvAT
namespace Go.Proofs.Ytnflokhffmfifaa.InEvT
open Go Go.RowKit Go.Proofs.Ytnflokhffmfifaa.XT Go.Proofs.Ytnflokhffmfifaa.XV Go.Proofs.Ytnflokhffmfifaa.Ris Go.Proofs.Ytnflokhffmfifaa.OfT Go.Proofs.Ytnflokhffmfifaa.Keys Go.Proofs.Ytnflokhffmfifaa.XV Go.Proofs.Ytnflokhffmfifaa.HeapPure Go.Proofs.Ytnflokhffmfifaa.PostAlg Go.Proofs.Ytnflokhffmfifaa.SortEvAT Go.Proofs.Ytnflokhffmfifaa.CountWT Go.Proofs.YtnflokhffmfifaaW.PrintWords Go.Proofs.YtnflokhffmfifaaW.PrintLast Go.Proofs.YtnflokhffmfifaaW.PrintMore
theorem wr1 (n : Nat) (h : n < 9223372036854775000) : wrap64 ((n : Int) + 1) = ((n + 1 : Nat) : Int) := by unfold wrap64; omega
theorem gI (l : List ByteArray) (j : Nat) (h : j < l.length) : l[j] = l.getD j E := by simp [List.getD_eq_getElem?_getD, List.getElem?_eq_getElem h]
theorem place_as (l : List ByteArray) (x : ByteArray) (hr : Ris ltS l) (hn : l.length ≤ 1048576) : Ev (fun k => rosterref10_PlaceText.f k l x) (place l x : Int) := by
  have H : ∀ d lo hi : Nat, hi - lo = d → lo ≤ hi → hi ≤ l.length → (∀ j, j < lo → ltS (l.getD j E) x = true) → (∀ j, hi ≤ j → j < l.length → ltS (l.getD j E) x = false) → Ev (fun k => rosterref10_PlaceText.l0 k l x (lo : Int) (hi : Int)) (place l x : Int) := by
    intro d
    induction d using Nat.strongRecOn with
    | ind d ih =>
      intro lo hi hd h1 h2 h3 h4
      refine ev_round ?_
      simp only [rosterref10_PlaceText.l0]
      by_cases hlt : lo < hi
      · obtain ⟨m, hm⟩ : ∃ m : Nat, m = (lo + hi) / 2 := ⟨_, rfl⟩
        have e : wrap64 (Int.tdiv (wrap64 ((lo : Int) + (hi : Int))) 2) = (m : Int) := by
          rw [Go.Proofs.Ytnflokhffmfifaa.XV.wrp_id ((lo : Int) + (hi : Int)) (by omega) (by omega), Int.tdiv_eq_ediv_of_nonneg (by omega), Go.Proofs.Ytnflokhffmfifaa.XV.wrp_id _ (by omega) (by omega)]
          omega
        have e' : rdOf ByteArray.empty l (m : Int) = l.getD m E := rdE l m
        refine ev_pos (by omega) ?_
        simp only [e, e']
        refine ev_pos (by omega) (ev_pos (by omega) ?_)
        by_cases hx : ltS (l.getD m E) x = true
        · refine ev_pos hx ?_
          rw [wrp1 m (by omega)]
          exact ih (hi - (m + 1)) (by omega) (m + 1) hi rfl (by omega) h2 (fun j hj => ris_below hr (by omega) hx j (by omega)) h4
        · refine ev_neg hx ?_
          exact ih (m - lo) (by omega) lo m rfl (by omega) (by omega) h3 (fun j hj hl => ris_above hr (Bool.eq_false_iff.2 hx) j hj hl)
      · refine ev_neg (by omega) (ev_eq ?_)
        obtain rfl : lo = hi := by omega
        rw [place_eq lo h2 h3 (fun hl => h4 lo (Nat.le_refl _) hl)]
  exact H _ 0 l.length rfl (by omega) (Nat.le_refl _) (fun j hj => by omega) (fun j h1 h2 => by omega)
theorem place_tells {l : List ByteArray} (hr : Ris ltS l) (x : ByteArray) : x ∈ l ↔ place l x < l.length ∧ l.getD (place l x) E = x := by
  constructor
  · intro h
    have h1 := (mem_drop_place hr x x).2 ⟨h, totS.irr _⟩
    have hlt : place l x < l.length := by
      have := List.length_pos_of_mem h1
      rw [List.length_drop] at this
      omega
    refine ⟨hlt, ?_⟩
    have h2 := place_end l x hlt
    obtain ⟨j, hj, e⟩ := List.getElem_of_mem h
    have hge : place l x ≤ j := by
      rcases Nat.lt_or_ge j (place l x) with h3 | h3
      · have := place_lt l x j h3
        rw [← gI _ _ hj, e] at this
        rw [totS.irr] at this; cases this
      · exact h3
    rcases Nat.lt_or_ge (place l x) j with h3 | h3
    · have := ris_at hr h3 hj
      rw [← gI _ _ hj, e] at this
      rw [h2] at this; cases this
    · obtain rfl : j = place l x := by omega
      rw [← gI _ _ hj, e]
  · rintro ⟨h1, h2⟩
    rw [← h2, ← gI _ _ h1]
    exact List.getElem_mem h1
theorem in_ev (l : List ByteArray) (x : ByteArray) (hr : Ris ltS l) (hn : l.length ≤ 1048576) : Ev (fun k => rosterref10_InText.f k l x) (decide (x ∈ l)) := by
  unfold rosterref10_InText.f
  refine Ev.bind (place_as l x hr hn) ?_
  have ht := place_tells hr x
  by_cases h : place l x < l.length
  · refine ev_pos (by omega) (ev_pos (by omega) (ev_eq ?_))
    rw [rdE]
    by_cases h2 : l.getD (place l x) E = x
    · rw [h2, decide_eq_true (ht.2 ⟨h, h2⟩)]; simp
    · rw [decide_eq_false (fun h3 => h2 (ht.1 h3).2)]; exact beq_eq_false_iff_ne.mpr (fun e => h2 (OfT.toList_inj e))
  · refine ev_neg (by omega) (ev_eq ?_)
    rw [decide_eq_false (fun h3 => h (ht.1 h3).1)]
/-- The reference's In, at a rising row. -/
theorem rin_as (W : World) (g : Nat) (A : Option Addr) (c : Nat) (l : List ByteArray) (x : ByteArray) (h : Row W g A c l) (hr : Ris ltS l) (hn : l.length ≤ 1048576) : Calls Try.prog 61 #[.slice A l.length c, .string x] W fun e w' => e = .returned (.bool (decide (x ∈ l))) ∧ Drawn0 W w' := by
  obtain ⟨k, hk⟩ := Ev.rounds (in_ev l x hr hn)
  exact rosterref10_InText.calls k A c l x _ W (Row.nums h hn) h.cap hk
/-- The reference's Sorted: a new row, of the elements' own kind. -/
theorem rsorted_as (W : World) (g : Nat) (A : Option Addr) (c : Nat) (l : List ByteArray) (h : Row W g A c l) (hn : l.length ≤ 1048576) : Calls Try.prog 41 #[.slice A l.length c] W fun e w' => ∃ g' B cc, e = .returned (.slice B (setL ltS l).length cc) ∧ Row w' g' B cc (setL ltS l) ∧ (0 < (setL ltS l).length → W.heap.size ≤ g' ∧ ∃ cs, w'.heap[g']? = some (.cells cs 9 (0, 0))) ∧ Below W.heap.size W w' := by
  obtain ⟨k, hk⟩ := Ev.rounds (sorted_ev l.length l (Nat.le_refl _) hn)
  refine (rosterref10_Texts.calls k A c l _ W (Row.nums h hn) h.cap hk).mono ?_
  rintro e w' ⟨v, rfl, hR, hb⟩
  by_cases hp : 0 < (setL ltS l).length
  · obtain ⟨g', cap, cur, rfl, h1, h2, h3, h4, h5, h6⟩ := own_block hR hp
    obtain ⟨g2, h7, _⟩ := row_of_R hR
    refine ⟨g', some ⟨g', 0, none⟩, cap, rfl, ?_, fun _ => ⟨h1, _, h2⟩, hb⟩
    obtain ⟨o, e1, _⟩ := h7.at_ hp
    cases e1
    exact h7
  · obtain ⟨B, cc, rfl⟩ := Kd.R_slice hR
    obtain ⟨g2, h7, _⟩ := row_of_R hR
    exact ⟨g2, B, cc, rfl, h7, fun h => absurd h hp, hb⟩
end Go.Proofs.Ytnflokhffmfifaa.InEvT
namespace Go.Proofs.Ytnflokhffmfifaa.CountWT
open Go.RowKit Go.Proofs.Ytnflokhffmfifaa.InEvT Go.Proofs.Ytnflokhffmfifaa.Blk Go.Proofs.Ytnflokhffmfifaa.Ris Go.Proofs.Ytnflokhffmfifaa.OfT Go.Proofs.Ytnflokhffmfifaa.Keys Go.Proofs.Ytnflokhffmfifaa.XV Go.Proofs.Ytnflokhffmfifaa.HeapPure Go.Proofs.Ytnflokhffmfifaa.HeapWT Go.Proofs.Ytnflokhffmfifaa.CountPure Go.Proofs.Ytnflokhffmfifaa.PostAlg Go.Proofs.YtnflokhffmfifaaW.PrintWords Go.Proofs.YtnflokhffmfifaaW.PrintLast Go.Proofs.YtnflokhffmfifaaW.PrintMore
/-- A row of the reference's own making. -/
structure Mine (B0 : Nat) (w : World) (d : Hd) : Prop where
  row : Row w d.g d.A d.c d.l
  own : 0 < d.l.length → B0 ≤ d.g ∧ ∃ cs, w.heap[d.g]? = some (.cells cs 9 (0, 0))
theorem Mine.on {B0 : Nat} {w w1 : World} {d : Hd} (h : Mine B0 w d) (k : 0 < d.l.length → w1.heap[d.g]? = w.heap[d.g]?) : Mine B0 w1 d :=
  ⟨h.row.on k, fun hp => ⟨(h.own hp).1, by obtain ⟨cs, hc⟩ := (h.own hp).2; exact ⟨cs, (k hp).trans hc⟩⟩⟩
theorem Mine.lt {B0 : Nat} {w : World} {d : Hd} (h : Mine B0 w d) (hp : 0 < d.l.length) : d.g < w.heap.size := Row.lt h.row hp
structure RA (W : World) (Es : List Hd) (i : Nat) (ds : List Hd) (va vs : Value) (wr : World) : Prop where
  sets : wr.ownsRow W.heap.size 59 1 vs i (ds.map Hd.v)
  all : Kd.R Kd.string 9 wr W.heap.size (fun _ => True) va (ds.map Hd.l).flatten
  row : ∀ d ∈ ds, Mine W.heap.size wr d ∧ (0 < d.l.length → some d.g ≠ va.ownBlock)
  maps : ds.map Hd.l = (Es.take i).map fun d => setL ltS d.l
  below : Below W.heap.size W wr
theorem own_below {w w1 : World} {base : Nat} {e : TypeId} {size : Nat} {v : Value} {n : Nat} {xs : List Value} (h : w.ownsRow base e size v n xs) (hb : Below w.heap.size w w1) : w1.ownsRow base e size v n xs := by
  obtain ⟨h1, h2 | ⟨g, cap, cur, e1, e2, e3, e4⟩⟩ := h
  · exact ⟨h1, .inl h2⟩
  · exact ⟨h1, .inr ⟨g, cap, cur, e1, e2, (hb.block _ (Array.getElem?_eq_some_iff.1 e3).1).trans e3, e4⟩⟩
theorem Heads.on {W W' : World} {L : Option Addr} {Es : List Hd} (h : Heads W L Es) (hb : Below W.heap.size W W') : Heads W' L Es :=
  ⟨fun k hk => by
    obtain ⟨r, o, e, hc⟩ := h.head k hk
    exact ⟨r, o, e, (hb.cell (p := ⟨r, o + k, none⟩) (World.block_lt_of_cell? W _ hc)).trans hc⟩, fun d hd => (h.row d hd).on (fun hp => hb.block _ (Row.lt (h.row d hd) hp))⟩
/-- A row of headers is no row of numbers. -/
theorem ne_kind {w : World} {base : Nat} {vs : Value} {m : Nat} {xs : List Value} (h : w.ownsRow base 59 1 vs m xs) {g : Nat} {cs : Array Value} {f : Nat × Nat} (hc : w.heap[g]? = some (.cells cs 9 f)) : some g ≠ vs.ownBlock := by
  intro e
  rcases h.2 with ⟨rfl, _⟩ | ⟨g', cap, cur, rfl, _, h4, _⟩
  · simp [Value.ownBlock] at e
  · obtain rfl : g = g' := by simpa [Value.ownBlock] using e
    rw [h4] at hc; cases hc
/-- The sorted list put behind the sets. -/
theorem RA.put {W wr W2 w3 : World} {Es : List Hd} {i : Nat} {ds : List Hd} {va vs v' : Value} {o : Obj} {d : Hd} (h : RA W Es i ds va vs wr) (hb : Below wr.heap.size wr W2) (hd : Mine wr.heap.size W2 d)
    (hg : (W2.alloc o).grownBy w3 vs.ownBlock) (own : w3.ownsRow W.heap.size 59 1 v' (i + 1) (ds.map Hd.v ++ [d.v])) :
    w3.ownsRow W.heap.size 59 1 v' (i + 1) ((ds ++ [d]).map Hd.v) ∧ Kd.R Kd.string 9 w3 W.heap.size (fun _ => True) va (ds.map Hd.l).flatten ∧ (∀ e ∈ ds ++ [d], Mine W.heap.size w3 e ∧ (0 < e.l.length → some e.g ≠ va.ownBlock)) ∧ Below W.heap.size W w3 := by
  have hz : (W2.alloc o).heap.size = W2.heap.size + 1 := World.size_alloc _ _
  have hbs := h.below.size
  have hb2 := hb.size
  have hse : (W2.alloc o).ownsRow W.heap.size 59 1 vs i (ds.map Hd.v) := (own_below h.sets hb).alloc o
  have keep : ∀ g, g < W2.heap.size → some g ≠ vs.ownBlock → w3.heap[g]? = W2.heap[g]? := fun g h1 h2 => (hg.block g (by omega) h2).trans (Below.heap_alloc _ _ _ h1)
  have mine : ∀ e : Hd, ∀ B0, Mine B0 W2 e → Mine B0 w3 e := fun e B0 he => he.on (fun hp => keep _ (he.lt hp) (by
    obtain ⟨cs, hc⟩ := (he.own hp).2
    exact ne_kind (own_below h.sets hb) hc))
  have hall2 : W2.ownsRow W.heap.size 9 1 va (ds.map Hd.l).flatten.length (encs (Value.string) (ds.map Hd.l).flatten) := own_below (Kd.own_of_R h.all) hb
  refine ⟨by rw [List.map_append]; exact own, ?_, fun e he => ?_, ?_⟩
  · refine Kd.R_of_own (h1 := fun _ => rfl) (((hall2.alloc o).kept hg ?_)) (fun _ _ => trivial)
    rcases hall2.2 with ⟨rfl, _⟩ | ⟨g, cap, cur, rfl, _, h4, _⟩
    · exact .inl rfl
    · exact .inr (ne_kind (own_below h.sets hb) h4)
  · rcases List.mem_append.1 he with he | he
    · obtain ⟨h1, h2⟩ := h.row e he
      exact ⟨mine e _ (h1.on (fun hp => hb.block _ (h1.lt hp))), h2⟩
    · rw [List.mem_singleton] at he
      subst he
      have hd' : Mine W.heap.size W2 e := ⟨hd.row, fun hp => ⟨Nat.le_trans hbs (hd.own hp).1, (hd.own hp).2⟩⟩
      refine ⟨mine e _ hd', fun hp eq => ?_⟩
      have h3 := ((Kd.own_of_R h.all).lt _ eq.symm).2
      have h4 := (hd.own hp).1
      omega
  · exact ((h.below.trans (hb.mono hbs)).alloc (by omega) o).grown hg (by omega) (fun j e => (h.sets.lt _ e).1)
/-- And its elements behind all the elements. -/
theorem RA.app {W w3 w4 : World} {Es : List Hd} {i : Nat} {ds : List Hd} {va vs v1 : Value} {d : Hd} (h1 : w3.ownsRow W.heap.size 59 1 vs (i + 1) ((ds ++ [d]).map Hd.v)) (h2 : Kd.R Kd.string 9 w3 W.heap.size (fun _ => True) va (ds.map Hd.l).flatten) (h3 : ∀ e ∈ ds ++ [d], Mine W.heap.size w3 e ∧ (0 < e.l.length → some e.g ≠ va.ownBlock))
    (hm : ds.map Hd.l = (Es.take i).map fun d => setL ltS d.l) (hi : i < Es.length) (hd : d.l = setL ltS (Es.getD i default).l) (ho : Kd.R Kd.string 9 w4 W.heap.size (fun _ => True) v1 ((ds.map Hd.l).flatten ++ d.l)) (hb : Below W.heap.size W w4) (hg : w3.grownBy w4 va.ownBlock) (hat : v1.ownBlock = va.ownBlock ∨ ∃ b, v1.ownBlock = some b ∧ w3.heap.size ≤ b) : RA W Es (i + 1) (ds ++ [d]) v1 vs w4 := by
  have hown := Kd.own_of_R h2
  refine ⟨h1.kept hg ?_, by rw [List.map_append, List.flatten_append]; simpa using ho, fun e he => ?_, by rw [take_snoc Es hi, List.map_append, List.map_append, hm, List.map_cons, List.map_nil, hd]; rfl, hb⟩
  · rcases h1.2 with ⟨rfl, _⟩ | ⟨g, cap, cur, rfl, _, h4, _⟩
    · exact .inl rfl
    · refine .inr (fun eq => ?_)
      have e2 : some g = va.ownBlock := by simpa [Value.ownBlock] using eq
      rcases hown.2 with ⟨rfl, _⟩ | ⟨g', cap', cur', rfl, _, h5, _⟩
      · simp [Value.ownBlock] at e2
      · obtain rfl : g = g' := by simpa [Value.ownBlock] using e2
        rw [h4] at h5; cases h5
  · obtain ⟨m1, m2⟩ := h3 e he
    refine ⟨m1.on (fun hp => hg.block _ (m1.lt hp) (m2 hp)), fun hp eq => ?_⟩
    rcases hat with hat | ⟨b, hb1, hb2⟩
    · rw [hat] at eq; exact m2 hp eq
    · rw [hb1] at eq
      have := m1.lt hp
      cases eq
      omega
theorem bulk_take (Es : List Hd) : ∀ m : Nat, bulk (Es.take m) ≤ bulk Es := by
  induction Es with
  | nil => intro m; simp
  | cons d t ih =>
    intro m
    cases m with
    | zero => exact Nat.zero_le _
    | succ m => rw [List.take_succ_cons, bulk_cons, bulk_cons]; have := ih m; omega
theorem flat_short {Es : List Hd} (hb : bulk Es ≤ 1048576) (i : Nat) : (((Es.take i).map fun d => setL ltS d.l).flatten).length ≤ 1048576 := by
  have h1 := bulk_take Es i
  have h2 : ∀ t : List Hd, ((t.map fun d => setL ltS d.l).flatten).length ≤ bulk t := fun t => by
    induction t with
    | nil => exact Nat.le_refl _
    | cons d t ih =>
      have := setL_len totS d.l
      rw [List.map_cons, List.flatten_cons, List.length_append, bulk_cons]
      omega
  exact Nat.le_trans (h2 _) (Nat.le_trans h1 hb)
theorem cnt_take (ls : List (List ByteArray)) (x : ByteArray) {j : Nat} (hj : j < ls.length) : cnt (ls.take (j + 1)) x = cnt (ls.take j) x + (if x ∈ ls.getD j [] then 1 else 0) := by
  rw [List.take_add_one, List.getElem?_eq_getElem hj]
  unfold cnt
  have e : ls.getD j [] = ls[j] := by simp [List.getD_eq_getElem?_getD, List.getElem?_eq_getElem hj]
  rw [List.filter_append, List.length_append, e]
  congr 1
  by_cases h : x ∈ ls[j] <;> simp [h]
theorem map_at (ds : List Hd) {j : Nat} (hj : j < ds.length) : (ds.map Hd.l).getD j [] = (ds.getD j default).l := by
  simp [List.getD_eq_getElem?_getD, List.getElem?_eq_getElem hj]
/-- The sets, as headers in a row. -/
theorem RA.heads {W wr : World} {Es ds : List Hd} {i : Nat} {va vs : Value} (h : RA W Es i ds va vs wr) : ∃ L c, vs = .slice L ds.length c ∧ Heads wr L ds ∧ ds.length = i := by
  have hl : ds.length = i := by have := h.sets.1; simpa using this
  rcases h.sets.2 with ⟨rfl, h0⟩ | ⟨g, cap, cur, rfl, _, h4, h5, h6, h7, h8⟩
  · refine ⟨none, 0, by rw [hl, h0], ⟨fun k hk => by omega, fun d hd => (h.row d hd).1.row⟩, hl⟩
  · refine ⟨some ⟨g, 0, none⟩, cap, by rw [hl], ⟨fun k hk => ⟨g, 0, rfl, ?_⟩, fun d hd => (h.row d hd).1.row⟩, hl⟩
    rw [Nat.zero_add, Blk.At.cell (cs := cur.toList) (show Blk.At wr g cur.toList 59 from h4) k]
    have h9 : (cur.toList.take (i * 1))[k]? = some (ds.getD k default).v := by
      rw [h8, List.getElem?_map, List.getElem?_eq_getElem hk]
      simp [List.getD_eq_getElem?_getD, List.getElem?_eq_getElem hk]
    rwa [List.getElem?_take_of_lt (by omega)] at h9
set_option maxHeartbeats 4000000 in
set_option maxRecDepth 100000 in
theorem ratleast_as (W : World) (k : Int) (c : Nat) (L : Option Addr) (Es : List Hd) (h : Heads W L Es) (hb : bulk Es ≤ 1048576) (hm : Es.length ≤ 1048576) : Calls Try.prog 45 #[.int .i64 k, .slice L Es.length c] W (Got W (atLeast ltS k (Es.map Hd.l))) := by
  obtain ⟨i0, hi, hz0, hz1, hz2⟩ := info_parts info22
  have HH := Lib.hid h
  have HBK := Lib.hid hb
  have HR0 : Hid (RA W Es 0 [] (.slice none 0 0) (.slice none 0 0) W) := Lib.hid ⟨World.ownsRow_nil _ _ _ _, Kd.R_nil _ _ _ _ _, fun d hd => by simp at hd, rfl, Below.refl _ _⟩
  clear h hb
  go_enter Try.func45, Try.ntmps45
  go_wp2
  go_loopw [5, 6, 7] (fun v5 v6 v7 wr => ∃ (i : Nat) (ds : List Hd), i ≤ Es.length ∧ v7 = .int .i64 (i : Nat) ∧ Hid (RA W Es i ds v5 v6 wr)) (fun _ _ v _ => Es.length - (intOf v).toNat)
  case atStart => exact ⟨0, [], Nat.zero_le _, rfl, HR0⟩
  case round =>
    clear HR0
    obtain ⟨i, ds, hi', rfl, HW⟩ := hrel
    by_cases hin : i < Es.length
    · have hlt : (i : Int) < (Es.length : Int) := by omega
      obtain ⟨lr, lo, rfl, hc⟩ := HH.out.head i hin
      have hcw := (HW.out.below.cell (p := ⟨lr, lo + i, none⟩) (World.block_lt_of_cell? W _ hc)).trans hc
      have hmem : Es.getD i default ∈ Es := by rw [← getElem_getD _ _ hin]; exact List.getElem_mem hin
      have hrow : Row wr (Es.getD i default).g (Es.getD i default).A (Es.getD i default).c (Es.getD i default).l := (HH.out.row _ hmem).on (fun hp => HW.out.below.block _ (Row.lt (HH.out.row _ hmem) hp))
      have hlen := Nat.le_trans (bulk_mem _ hmem) HBK.out
      have hfl := flat_short HBK.out i
      have hfl1 := flat_short HBK.out (i + 1)
      rw [← HW.out.maps] at hfl
      obtain ⟨e, he⟩ : ∃ e, Es.getD i default = e := ⟨_, rfl⟩
      rw [he] at hcw hrow hlen
      unfold Hd.v at hcw
      have HE := Lib.hid he
      have hse : (setL ltS e.l).length ≤ 1048576 := Nat.le_trans (setL_len totS _) hlen
      have SO := Lib.hid (rsorted_as wr e.g e.A e.c e.l hrow hlen)
      have hsz := HW.out.below.size
      have hsets := HW.out.sets
      have hml : i + 1 ≤ maxLen := by simp only [maxLen]; omega
      have hal : ((ds.map Hd.l).flatten.length + (setL ltS e.l).length) * 16 ≤ 140737488355328 := by omega
      clear hc hmem hrow he
      go_wp2_with (first
        | (go_at_call 41; ((with_reducible refine SO.out.mono ?_); rintro e2 W2 ⟨g2, B2, c2, rfl, q1, q2, q3⟩; have HM := Lib.hid (show Mine wr.heap.size W2 ⟨B2, c2, g2, setL ltS e.l⟩ from ⟨q1, q2⟩); have HB2 := Lib.hid q3; have hsz2 := q3.size; have own2 := own_below hsets q3; clear q1 q2 q3))
        | (at_builtin; refine wpList_append_own _ rfl (.tmp 25) (.tmp 27) 58 rfl W.heap.size 59 i0 (.slice none 0 0) 1 24 Try.underlying58 hi hz0 hz1 hz2 rfl (by decide) _ _ _ rfl (own2.alloc _) ⟨W2.heap.size, 0, none⟩ 1 1 [.slice B2 (setL ltS e.l).length c2] rfl rfl (cell_one_new _ _ _) (by simp [Value.oneCell']) hml (by omega) (by rw [World.size_alloc]; omega) ?_; intro v8 w3 own3 grow3 _; have HP := Lib.hid (RA.put (d := ⟨B2, c2, g2, setL ltS e.l⟩) HW.out HB2.out HM.out grow3 own3); clear own3 grow3)
        | (((with_reducible refine gate_builtin (b := .append) (xs := #[.tmp 29, .tmp 30]) rfl ?_); at_builtin; refine Kd.R_append_rows Kd.string (w0 := W) W.heap.size rfl (.tmp 29) (.tmp 30) 59 9 (.string ⟨#[]⟩) 16 rfl Try.underlying59 info9 rfl (by decide) (by omega) _ (ds.map Hd.l).flatten (setL ltS e.l) _ _ _ (fun _ => True) (fun _ => False) rfl rfl ?aO ?aR (fun _ _ h => h) (fun _ h => h.elim) ?aF ?aB ?aS ?aL ?_; (case aR => exact Row.nums (HP.out.2.2.1 ⟨B2, c2, g2, setL ltS e.l⟩ (by simp)).1.row hse); (case aB => exact HP.out.2.2.2); (case aF => exact (fun _ _ => trivial)); (case aO => exact HP.out.2.1); (case aS => exact HP.out.2.2.2.size); (case aL => exact hal); intro v9 w4 ho hb hg hat; have HQ := Lib.hid (RA.app (d := ⟨B2, c2, g2, setL ltS e.l⟩) HP.out.1 HP.out.2.1 HP.out.2.2.1 HW.out.maps hin (by rw [HE.out]) ho hb hg hat); clear ho hb hg hat))
        | go_in)
      go_roundw
      case rel => exact ⟨i + 1, _, by omega, by go_num, HQ⟩
      case measure => simp [intOf]; omega
    · have hlt : ¬ ((i : Int) < (Es.length : Int)) := by omega
      obtain rfl : i = Es.length := by omega
      obtain ⟨L2, c2, rfl, hh2, hdl⟩ := HW.out.heads
      obtain ⟨A1, cA, rfl⟩ := Kd.R_slice HW.out.all
      obtain ⟨gA, rA, _⟩ := row_of_R HW.out.all
      have hfl := flat_short HBK.out Es.length
      rw [← HW.out.maps] at hfl
      have hmp := HW.out.maps
      rw [List.take_of_length_le (Nat.le_refl _)] at hmp
      have hcn : ∀ x, cnt (ds.map Hd.l) x = cnt (Es.map Hd.l) x := fun x => by
        rw [hmp, ← cnt_sets (Es.map Hd.l) x, List.map_map]
        rfl
      have hris : ∀ d ∈ ds, Ris ltS d.l ∧ d.l.length ≤ 1048576 := fun d hd => by
        have : d.l ∈ Es.map fun d => setL ltS d.l := by rw [← hmp]; exact List.mem_map.2 ⟨d, hd, rfl⟩
        obtain ⟨e, he, heq⟩ := List.mem_map.1 this
        rw [← heq]
        exact ⟨ris_setL totS _, Nat.le_trans (setL_len totS _) (Nat.le_trans (bulk_mem e he) HBK.out)⟩
      have hall : setL ltS (ds.map Hd.l).flatten = setL ltS (Es.map Hd.l).flatten := setL_congr totS (fun x => by rw [mem_flat, mem_flat, hcn])
      have SO := rsorted_as wr gA A1 cA _ rA hfl
      rw [hall] at SO
      have hsl : (setL ltS (Es.map Hd.l).flatten).length ≤ 1048576 := Nat.le_trans (setL_len totS _) (by rw [flat_len]; exact HBK.out)
      have hAT : atLeast ltS k (Es.map Hd.l) = (setL ltS (Es.map Hd.l).flatten).filter fun x => decide (k ≤ (cnt (ds.map Hd.l) x : Int)) := by
        unfold atLeast
        exact List.filter_congr (fun x _ => by rw [hcn])
      generalize setL ltS (Es.map Hd.l).flatten = S at SO hsl hAT
      have H1 := Lib.hid SO
      have HAT := Lib.hid hAT
      have H2 := Lib.hid hh2
      have HRS := Lib.hid hris
      have HDL := Lib.hid hdl
      have HB9 := Lib.hid HW.out.below
      clear SO hAT hh2 hris hall hcn hmp rA hfl HW
      generalize (ds.map Hd.l).flatten = X at H1 ⊢
      have hdm : ds.length ≤ 1048576 := by omega
      clear hdl hlt hin hi'
      rw [← HDL.out]
      obtain ⟨i1, hi1, hy0, hy1, hy2⟩ := info_parts info9
      go_wp2_with (first | (go_at_call 41; ((with_reducible refine H1.out.mono ?_); rintro e2 W5 ⟨g5, B5, c5, rfl, q1, q2, q3⟩; have HS5 := Lib.hid q1; have HB5 := Lib.hid (HB9.out.trans (q3.mono HB9.out.size)); have H5 := Lib.hid (H2.out.on q3); clear q1 q2 q3)) | go_in)
      have HZ0 : Hid (Below W5.heap.size W5 W5 ∧ W5.ownsRow W5.heap.size 9 1 (.slice none 0 0) ((S.take 0).filter fun x => decide (k ≤ (cnt (ds.map Hd.l) x : Int))).length (((S.take 0).filter fun x => decide (k ≤ (cnt (ds.map Hd.l) x : Int))).map (Value.string))) := Lib.hid ⟨Below.refl _ _, World.ownsRow_nil _ _ _ _⟩
      clear H1 H2 HB9
      go_loopw [9, 10] (fun v9 v10 w2 => ∃ i2 : Nat, i2 ≤ S.length ∧ v10 = .int .i64 (i2 : Nat) ∧ Hid (Below W5.heap.size W5 w2 ∧ w2.ownsRow W5.heap.size 9 1 v9 ((S.take i2).filter fun x => decide (k ≤ (cnt (ds.map Hd.l) x : Int))).length (((S.take i2).filter fun x => decide (k ≤ (cnt (ds.map Hd.l) x : Int))).map (Value.string)))) (fun _ v _ => S.length - (intOf v).toNat)
      case atStart => exact ⟨0, Nat.zero_le _, rfl, HZ0⟩
      case round =>
        clear HZ0
        obtain ⟨i2, hi2, rfl, HW⟩ := hrel
        by_cases hin2 : i2 < S.length
        · have hlt2 : (i2 : Int) < (S.length : Int) := by omega
          obtain ⟨o5, rfl, hc5⟩ := HS5.out.at_ (by omega)
          have cx0 := (HW.out.1.cell (p := ⟨g5, o5 + i2, none⟩) (World.block_lt_of_cell? W5 _ (hc5 i2 hin2))).trans (hc5 i2 hin2)
          have hsn := take_snoc' S hin2
          have hfl2 : ((S.take i2).filter fun x => decide (k ≤ (cnt (ds.map Hd.l) x : Int))).length ≤ i2 := Nat.le_trans (List.length_filter_le _ _) (by rw [List.length_take]; omega)
          have hml2 : ((S.take i2).filter fun x => decide (k ≤ (cnt (ds.map Hd.l) x : Int))).length + 1 ≤ maxLen := by simp only [maxLen]; omega
          have hsz5 := HW.out.1.size
          have hown := HW.out.2
          generalize S.getD i2 E = x at cx0 hsn
          have HSN := Lib.hid hsn
          clear hc5 hsn
          go_wp2
          go_loopw [11, 12] (fun v11 v12 w3 => ∃ j : Nat, j ≤ ds.length ∧ v11 = .int .i64 ((cnt ((ds.map Hd.l).take j) x : Nat) : Int) ∧ v12 = .int .i64 (j : Nat) ∧ Drawn0 wr w3) (fun _ v _ => ds.length - (intOf v).toNat)
          case atStart => exact ⟨0, Nat.zero_le _, rfl, rfl, Drawn0.refl _⟩
          case round =>
            obtain ⟨j, hj, rfl, rfl, HJ⟩ := hrel
            obtain ⟨n9, rfl⟩ := HJ
            have hcl : cnt ((ds.map Hd.l).take j) x ≤ j := Nat.le_trans (cnt_le _ _) (by rw [List.length_take]; omega)
            by_cases hjn : j < ds.length
            · have hltj : (j : Int) < (ds.length : Int) := by omega
              obtain ⟨lr2, lo2, rfl, hc2⟩ := H5.out.head j hjn
              have cs := (HW.out.1.cell (p := ⟨lr2, lo2 + j, none⟩) (World.block_lt_of_cell? W5 _ hc2)).trans hc2
              have hmd : ds.getD j default ∈ ds := by rw [← getElem_getD _ _ hjn]; exact List.getElem_mem hjn
              have hct := cnt_take (ds.map Hd.l) x (j := j) (by rw [List.length_map]; exact hjn)
              rw [map_at ds hjn] at hct
              have hrd := (H5.out.row _ hmd)
              have hrs := HRS.out _ hmd
              generalize ds.getD j default = d at cs hct hrd hrs
              unfold Hd.v at cs
              have HDR := Lib.hid (hrd.on (fun hp => HW.out.1.block _ (Row.lt hrd hp)))
              have CI := Lib.hid (fun W (hW : Row W d.g d.A d.c d.l) => rin_as W d.g d.A d.c d.l x hW hrs.1 hrs.2)
              have cx : wr.cell? ⟨g5, o5 + i2, none⟩ = some (.string x) := cx0
              generalize hcj : cnt ((ds.map Hd.l).take j) x = cj at hcl hct ⊢
              clear hc2 hmd hrd hrs hcj
              by_cases hxd : x ∈ d.l
              · rw [if_pos hxd] at hct
                have CT := Lib.hid hct
                have hbd : decide (x ∈ d.l) = true := decide_eq_true hxd
                clear hct hxd
                go_wp2
                refine start_ (n := 10) (S := fun w' => w'.cell? ⟨lr2, lo2 + j, none⟩ = some (.slice d.A d.l.length d.c) ∧ w'.cell? ⟨g5, o5 + i2, none⟩ = some (.string x)) (ds := [8]) #[false, false, false, false, false, false, false, false, false, false] (by kernel_rfl) rfl rfl ⟨cs, cx⟩ (fun hHeld => ?_)
                refine pure_ (i := 0) (N := some 46) (v := ?_) (a' := ?_) #[true, false, false, false, false, false, false, false, false, false] rfl rfl (by kernel_rfl) (fun _ _ _ h => h) (Or.inl ⟨by rfl, ?_⟩) ?_ ?_
                rotate_left
                · intro w'
                  go_simp
                  with_reducible rfl
                rotate_left
                · simp only [Act.put, List.setIfInBounds_toArray, List.set_cons_zero, List.set_cons_succ, i64_w, i32_w]
                  rfl
                refine pure_ (i := 1) (N := some 47) (v := ?_) (a' := ?_) #[true, true, false, false, false, false, false, false, false, false] rfl rfl (by kernel_rfl) (fun _ _ _ h => h) (Or.inl ⟨by rfl, ?_⟩) ?_ ?_
                rotate_left
                · intro w'
                  go_simp
                  with_reducible rfl
                rotate_left
                · simp only [Act.put, List.setIfInBounds_toArray, List.set_cons_zero, List.set_cons_succ, i64_w, i32_w]
                  rfl
                refine pure_ (i := 2) (N := some 48) (v := ?_) (a' := ?_) #[true, true, true, false, false, false, false, false, false, false] rfl rfl (by kernel_rfl) (fun _ _ _ h => h) (Or.inl ⟨by rfl, ?_⟩) ?_ ?_
                rotate_left
                · intro w'
                  go_simp
                  with_reducible rfl
                rotate_left
                · simp only [Act.put, List.setIfInBounds_toArray, List.set_cons_zero, List.set_cons_succ, i64_w, i32_w]
                  rfl
                refine pure_ (i := 4) (N := some 50) (v := ?_) (a' := ?_) #[true, true, true, false, true, false, false, false, false, false] rfl rfl (by kernel_rfl) (fun _ _ _ h => h) (Or.inl ⟨by rfl, ?_⟩) ?_ ?_
                rotate_left
                · intro w'
                  go_simp
                  with_reducible rfl
                rotate_left
                · simp only [Act.put, List.setIfInBounds_toArray, List.set_cons_zero, List.set_cons_succ, i64_w, i32_w]
                  rfl
                refine pure_ (i := 5) (N := some 51) (v := ?_) (a' := ?_) #[true, true, true, false, true, true, false, false, false, false] rfl rfl (by kernel_rfl) (fun _ _ _ h => h) (Or.inl ⟨by rfl, ?_⟩) ?_ ?_
                rotate_left
                · intro w'
                  go_simp
                  with_reducible rfl
                rotate_left
                · simp only [Act.put, List.setIfInBounds_toArray, List.set_cons_zero, List.set_cons_succ, i64_w, i32_w]
                  rfl
                refine pure_ (i := 6) (N := some 52) (v := ?_) (a' := ?_) #[true, true, true, false, true, true, true, false, false, false] rfl rfl (by kernel_rfl) (fun _ _ _ h => h) (Or.inl ⟨by rfl, ?_⟩) ?_ ?_
                rotate_left
                · intro w'
                  go_simp
                  with_reducible rfl
                rotate_left
                · simp only [Act.put, List.setIfInBounds_toArray, List.set_cons_zero, List.set_cons_succ, i64_w, i32_w]
                  rfl
                refine take_ (i := 3) (N := some 49) (v := ?_) (a' := ?_) #[true, true, true, true, true, true, true, false, false, false] rfl rfl (by kernel_rfl) (fun _ _ _ h => h) (Or.inl ⟨by rfl, ?_⟩) hHeld ?_ ?_
                rotate_left
                · rintro w' ⟨s0, s1⟩
                  go_simp
                  with_reducible rfl
                rotate_left
                · simp only [Act.put, List.setIfInBounds_toArray, List.set_cons_zero, List.set_cons_succ, i64_w, i32_w]
                  rfl
                refine take_ (i := 7) (N := some 53) (v := ?_) (a' := ?_) #[true, true, true, true, true, true, true, true, false, false] rfl rfl (by kernel_rfl) (fun _ _ _ h => h) (Or.inl ⟨by rfl, ?_⟩) hHeld ?_ ?_
                rotate_left
                · rintro w' ⟨s0, s1⟩
                  go_simp
                  with_reducible rfl
                rotate_left
                · simp only [Act.put, List.setIfInBounds_toArray, List.set_cons_zero, List.set_cons_succ, i64_w, i32_w]
                  rfl
                refine last_ (i := 8) (N := some 54) #[true, true, true, true, true, true, true, true, true, false] rfl rfl (by kernel_rfl) (by decide) (fun K hK => ?_)
                refine goes_ Try.func61 (by kernel_rfl) rfl #[.slice d.A d.l.length d.c, .string x] (by rfl) rfl rfl (by simp only [List.map_toArray, List.map_cons, List.map_nil]; rfl) ?_
                with_reducible refine (CI.out _ ?hx).mono ?_
                case hx => exact HDR.out.on (fun _ => rfl)
                rintro e _ ⟨rfl, ⟨m9, rfl⟩⟩
                refine ⟨_, rfl, ?_⟩
                refine hK.out _ _ ?_
                clear hK K
                refine norm_ (a' := ?_) ?_ ?_
                rotate_left
                · show Act.put _ (some 54) _ = _
                  simp only [Act.put, List.setIfInBounds_toArray, List.set_cons_zero, List.set_cons_succ, i64_w, i32_w]
                  rfl
                refine pure_ (i := 9) (N := some 13) (v := ?_) (a' := ?_) #[true, true, true, true, true, true, true, true, true, true] rfl rfl (by kernel_rfl) (fun _ _ _ h => h) (Or.inl ⟨by rfl, ?_⟩) ?_ ?_
                rotate_left
                · intro w'
                  go_simp
                  with_reducible rfl
                rotate_left
                · simp only [Act.put, List.setIfInBounds_toArray, List.set_cons_zero, List.set_cons_succ, i64_w, i32_w]
                  rfl
                refine done_ (by kernel_rfl) ?_
                go_wp2
                go_roundw
                case rel => exact ⟨j + 1, by omega, by rw [CT.out]; go_num, by go_num, by repeat (first | exact Drawn0.refl _ | apply Drawn0.step)⟩
                case measure => simp [intOf]; omega
              · rw [if_neg hxd, Nat.add_zero] at hct
                have CT := Lib.hid hct
                have hbd : decide (x ∈ d.l) = false := decide_eq_false hxd
                clear hct hxd
                go_wp2
                refine start_ (n := 10) (S := fun w' => w'.cell? ⟨lr2, lo2 + j, none⟩ = some (.slice d.A d.l.length d.c) ∧ w'.cell? ⟨g5, o5 + i2, none⟩ = some (.string x)) (ds := [8]) #[false, false, false, false, false, false, false, false, false, false] (by kernel_rfl) rfl rfl ⟨cs, cx⟩ (fun hHeld => ?_)
                refine pure_ (i := 0) (N := some 46) (v := ?_) (a' := ?_) #[true, false, false, false, false, false, false, false, false, false] rfl rfl (by kernel_rfl) (fun _ _ _ h => h) (Or.inl ⟨by rfl, ?_⟩) ?_ ?_
                rotate_left
                · intro w'
                  go_simp
                  with_reducible rfl
                rotate_left
                · simp only [Act.put, List.setIfInBounds_toArray, List.set_cons_zero, List.set_cons_succ, i64_w, i32_w]
                  rfl
                refine pure_ (i := 1) (N := some 47) (v := ?_) (a' := ?_) #[true, true, false, false, false, false, false, false, false, false] rfl rfl (by kernel_rfl) (fun _ _ _ h => h) (Or.inl ⟨by rfl, ?_⟩) ?_ ?_
                rotate_left
                · intro w'
                  go_simp
                  with_reducible rfl
                rotate_left
                · simp only [Act.put, List.setIfInBounds_toArray, List.set_cons_zero, List.set_cons_succ, i64_w, i32_w]
                  rfl
                refine pure_ (i := 2) (N := some 48) (v := ?_) (a' := ?_) #[true, true, true, false, false, false, false, false, false, false] rfl rfl (by kernel_rfl) (fun _ _ _ h => h) (Or.inl ⟨by rfl, ?_⟩) ?_ ?_
                rotate_left
                · intro w'
                  go_simp
                  with_reducible rfl
                rotate_left
                · simp only [Act.put, List.setIfInBounds_toArray, List.set_cons_zero, List.set_cons_succ, i64_w, i32_w]
                  rfl
                refine pure_ (i := 4) (N := some 50) (v := ?_) (a' := ?_) #[true, true, true, false, true, false, false, false, false, false] rfl rfl (by kernel_rfl) (fun _ _ _ h => h) (Or.inl ⟨by rfl, ?_⟩) ?_ ?_
                rotate_left
                · intro w'
                  go_simp
                  with_reducible rfl
                rotate_left
                · simp only [Act.put, List.setIfInBounds_toArray, List.set_cons_zero, List.set_cons_succ, i64_w, i32_w]
                  rfl
                refine pure_ (i := 5) (N := some 51) (v := ?_) (a' := ?_) #[true, true, true, false, true, true, false, false, false, false] rfl rfl (by kernel_rfl) (fun _ _ _ h => h) (Or.inl ⟨by rfl, ?_⟩) ?_ ?_
                rotate_left
                · intro w'
                  go_simp
                  with_reducible rfl
                rotate_left
                · simp only [Act.put, List.setIfInBounds_toArray, List.set_cons_zero, List.set_cons_succ, i64_w, i32_w]
                  rfl
                refine pure_ (i := 6) (N := some 52) (v := ?_) (a' := ?_) #[true, true, true, false, true, true, true, false, false, false] rfl rfl (by kernel_rfl) (fun _ _ _ h => h) (Or.inl ⟨by rfl, ?_⟩) ?_ ?_
                rotate_left
                · intro w'
                  go_simp
                  with_reducible rfl
                rotate_left
                · simp only [Act.put, List.setIfInBounds_toArray, List.set_cons_zero, List.set_cons_succ, i64_w, i32_w]
                  rfl
                refine take_ (i := 3) (N := some 49) (v := ?_) (a' := ?_) #[true, true, true, true, true, true, true, false, false, false] rfl rfl (by kernel_rfl) (fun _ _ _ h => h) (Or.inl ⟨by rfl, ?_⟩) hHeld ?_ ?_
                rotate_left
                · rintro w' ⟨s0, s1⟩
                  go_simp
                  with_reducible rfl
                rotate_left
                · simp only [Act.put, List.setIfInBounds_toArray, List.set_cons_zero, List.set_cons_succ, i64_w, i32_w]
                  rfl
                refine take_ (i := 7) (N := some 53) (v := ?_) (a' := ?_) #[true, true, true, true, true, true, true, true, false, false] rfl rfl (by kernel_rfl) (fun _ _ _ h => h) (Or.inl ⟨by rfl, ?_⟩) hHeld ?_ ?_
                rotate_left
                · rintro w' ⟨s0, s1⟩
                  go_simp
                  with_reducible rfl
                rotate_left
                · simp only [Act.put, List.setIfInBounds_toArray, List.set_cons_zero, List.set_cons_succ, i64_w, i32_w]
                  rfl
                refine last_ (i := 8) (N := some 54) #[true, true, true, true, true, true, true, true, true, false] rfl rfl (by kernel_rfl) (by decide) (fun K hK => ?_)
                refine goes_ Try.func61 (by kernel_rfl) rfl #[.slice d.A d.l.length d.c, .string x] (by rfl) rfl rfl (by simp only [List.map_toArray, List.map_cons, List.map_nil]; rfl) ?_
                with_reducible refine (CI.out _ ?hx).mono ?_
                case hx => exact HDR.out.on (fun _ => rfl)
                rintro e _ ⟨rfl, ⟨m9, rfl⟩⟩
                refine ⟨_, rfl, ?_⟩
                refine hK.out _ _ ?_
                clear hK K
                refine norm_ (a' := ?_) ?_ ?_
                rotate_left
                · show Act.put _ (some 54) _ = _
                  simp only [Act.put, List.setIfInBounds_toArray, List.set_cons_zero, List.set_cons_succ, i64_w, i32_w]
                  rfl
                refine pure_ (i := 9) (N := some 13) (v := ?_) (a' := ?_) #[true, true, true, true, true, true, true, true, true, true] rfl rfl (by kernel_rfl) (fun _ _ _ h => h) (Or.inl ⟨by rfl, ?_⟩) ?_ ?_
                rotate_left
                · intro w'
                  go_simp
                  with_reducible rfl
                rotate_left
                · simp only [Act.put, List.setIfInBounds_toArray, List.set_cons_zero, List.set_cons_succ, i64_w, i32_w]
                  rfl
                refine done_ (by kernel_rfl) ?_
                go_wp2
                go_roundw
                case rel => exact ⟨j + 1, by omega, by rw [CT.out]; first | rfl | go_num, by go_num, by repeat (first | exact Drawn0.refl _ | apply Drawn0.step)⟩
                case measure => simp [intOf]; omega
            · have hltj : ¬ ((j : Int) < (ds.length : Int)) := by omega
              have hce : (ds.map Hd.l).take j = ds.map Hd.l := List.take_of_length_le (by rw [List.length_map]; omega)
              rw [hce]
              obtain ⟨q, hq⟩ : ∃ q, q = cnt (ds.map Hd.l) x := ⟨_, rfl⟩
              rw [← hq]
              by_cases hkq : k ≤ (q : Int)
              · have HF := Lib.hid (show ((so_take S (i2 + 1)).filter fun x => decide (k ≤ (cnt (ds.map Hd.l) x : Int))) = ((S.take i2).filter fun x => decide (k ≤ (cnt (ds.map Hd.l) x : Int))) ++ [x] by
                  show ((S.take (i2 + 1)).filter _) = _
                  rw [HSN.out, List.filter_append, List.filter_cons_of_pos (by rw [← hq]; simpa using hkq), List.filter_nil])
                have cx : wr.cell? ⟨g5, o5 + i2, none⟩ = some (.string x) := cx0
                clear hq hce hcl
                go_wp2_with (first
                  | (at_builtin; refine wpList_append_own _ rfl (.tmp 61) (.tmp 66) 59 rfl W5.heap.size 9 i1 (.string ⟨#[]⟩) 1 16 Try.underlying59 hi1 hy0 hy1 hy2 rfl (by decide) _ _ _ rfl (World.ownsRow.alloc (show (wr.drewN n9).ownsRow W5.heap.size 9 1 _ _ _ from hown) _) ⟨wr.heap.size, 0, none⟩ 1 1 [.string x] rfl rfl (cell_one_new _ _ _) (by simp [Value.oneCell']) hml2 (by omega) (by have h5 : (wr.drewN n9).heap.size = wr.heap.size := rfl; rw [World.size_alloc]; omega) ?_; intro v' w6 own6 grow6 _; have HZ := Lib.hid (And.intro (((pw_below_drewN HW.out.1 n9).alloc (by have h5 : (wr.drewN n9).heap.size = wr.heap.size := rfl; omega) _).grown grow6 (by rw [World.size_alloc]; have h5 : (wr.drewN n9).heap.size = wr.heap.size := rfl; omega) (fun j e => (hown.lt _ e).1)) own6); clear own6 grow6)
                  | go_in)
                go_roundw
                case rel => exact ⟨i2 + 1, by omega, by go_num, Lib.hid ⟨HZ.out.1, by have h7 := HF.out; unfold so_take at h7; rw [h7, List.length_append, List.map_append]; exact HZ.out.2⟩⟩
                case measure => simp [intOf]; omega
              · have HF := Lib.hid (show ((so_take S (i2 + 1)).filter fun x => decide (k ≤ (cnt (ds.map Hd.l) x : Int))) = ((S.take i2).filter fun x => decide (k ≤ (cnt (ds.map Hd.l) x : Int))) by
                  show ((S.take (i2 + 1)).filter _) = _
                  rw [HSN.out, List.filter_append, List.filter_cons_of_neg (by rw [← hq]; simpa using hkq), List.filter_nil, List.append_nil])
                clear hq hce hcl
                go_wp2
                go_roundw
                case rel => exact ⟨i2 + 1, by omega, by go_num, Lib.hid ⟨pw_below_drewN HW.out.1 _, by have h7 := HF.out; unfold so_take at h7; rw [h7]; exact hown⟩⟩
                case measure => simp [intOf]; omega
        · have hlt2 : ¬ ((i2 : Int) < (S.length : Int)) := by omega
          obtain rfl : i2 = S.length := by omega
          go_wp2
          go_ret
          have h1 := HW.out.2
          rw [List.take_of_length_le (Nat.le_refl _), ← HAT.out] at h1
          obtain ⟨g, B, cc, e, h2, h3⟩ := row_of_own h1
          have h4 := HB5.out.size
          exact ⟨g, B, cc, by rw [← e]; rfl, h2, fun hp => ⟨by have := (h3 hp).1; omega, (h3 hp).2⟩, HB5.out.trans (HW.out.1.mono h4)⟩
end Go.Proofs.Ytnflokhffmfifaa.CountWT
namespace Go.Proofs.Ytnflokhffmfifaa.CountWT
open Go.RowKit Go.Proofs.Ytnflokhffmfifaa.InEvT Go.Proofs.Ytnflokhffmfifaa.Blk Go.Proofs.Ytnflokhffmfifaa.Ris Go.Proofs.Ytnflokhffmfifaa.OfT Go.Proofs.Ytnflokhffmfifaa.Keys Go.Proofs.Ytnflokhffmfifaa.XV Go.Proofs.Ytnflokhffmfifaa.HeapPure Go.Proofs.Ytnflokhffmfifaa.HeapWT Go.Proofs.Ytnflokhffmfifaa.CountPure Go.Proofs.Ytnflokhffmfifaa.PostAlg Go.Proofs.YtnflokhffmfifaaW.PrintWords Go.Proofs.YtnflokhffmfifaaW.PrintLast Go.Proofs.YtnflokhffmfifaaW.PrintMore
theorem rmeet_as (w : World) (c : Nat) (L : Option Addr) (Es : List Hd) (h : Heads w L Es) (hb : bulk Es ≤ 1048576) (hm : Es.length ≤ 1048576) : Calls Try.prog 47 #[.slice L Es.length c] w (Got w (meet ltS (Es.map Hd.l))) := by
  have H := Lib.hid (ratleast_as w (Es.length : Int) c L Es h hb hm)
  unfold meet
  rw [List.length_map]
  clear h hb
  by_cases hz : Es.length = 0
  · rw [if_pos hz]
    have hz' : ((Es.length : Int) == 0) = true := by rw [hz]; rfl
    have HZ := Lib.hid hz
    clear hz H
    go_enter Try.func47, Try.ntmps47
    go_wp2
    go_ret
    exact ⟨0, none, 0, rfl, ⟨Nat.le_refl _, fun hp => absurd hp (by simp)⟩, fun hp => absurd hp (by simp), by repeat (first | exact Below.refl _ _ | apply below_alloc | apply pw_below_drewN | apply below_drew1)⟩
  · rw [if_neg hz]
    have hz' : ((Es.length : Int) == 0) = false := beq_eq_false_iff_ne.mpr (by omega)
    generalize atLeast ltS (Es.length : Int) (Es.map Hd.l) = r at H ⊢
    unfold Got at H
    clear hz
    go_enter Try.func47, Try.ntmps47
    go_wp2_with (first | (go_at_call 45; ((with_reducible refine H.out.mono ?_); rintro e w' ⟨g, B, cc, rfl, q1, q2, q3⟩; have HQ := Lib.hid (And.intro q1 (And.intro q2 q3)); clear q1 q2 q3)) | go_in)
    go_ret
    exact ⟨g, B, cc, rfl, HQ.out.1, HQ.out.2.1, HQ.out.2.2⟩
set_option maxHeartbeats 2000000 in
set_option maxRecDepth 100000 in
theorem rrising_as (w : World) (g : Nat) (A : Option Addr) (c : Nat) (l : List ByteArray) (h : Row w g A c l) (hn : l.length ≤ 1048576) : Calls Try.prog 43 #[.slice A l.length c] w fun e w' => e = .returned (.bool (risB ltS l)) ∧ Below w.heap.size w w' := by
  have SO := rsorted_as w g A c l h hn
  have hrs : risB ltS l = decide (setL ltS l = l) := risB_setL totS l
  generalize setL ltS l = S at SO hrs
  have H1 := Lib.hid SO
  have HR := Lib.hid h
  have HX := Lib.hid hrs
  clear SO h hrs
  by_cases hl : S.length = l.length
  · have hne : ((S.length : Int) != (l.length : Int)) = false := by rw [hl]; exact bne_self_eq_false _
    have HL := Lib.hid hl
    clear hl
    go_enter Try.func43, Try.ntmps43
    go_wp2_with (first | (go_at_call 41; ((with_reducible refine H1.out.mono ?_); rintro e W1 ⟨g1, B1, c1, rfl, q1, q2, q3⟩; have HS := Lib.hid (And.intro q1 q3); clear q1 q2 q3)) | go_in)
    go_loopw [4] (fun v wr => ∃ i : Nat, i ≤ l.length ∧ v = .int .i64 (i : Nat) ∧ Hid (Drawn0 W1 wr ∧ ∀ j, j < i → S.getD j E = l.getD j E)) (fun v _ => l.length - (intOf v).toNat)
    case atStart => exact ⟨0, Nat.zero_le _, rfl, Lib.hid ⟨Drawn0.refl _, fun j hj => by omega⟩⟩
    case round =>
      obtain ⟨i, hi, rfl, HW⟩ := hrel
      obtain ⟨n, rfl⟩ := HW.out.1
      by_cases hin : i < l.length
      · have hlt : (i : Int) < (l.length : Int) := by omega
        have hlt2 : (i : Int) < (S.length : Int) := by have := HL.out; omega
        obtain ⟨o, rfl, hc⟩ := HR.out.at_ (by omega)
        have cx := (HS.out.2.cell (p := ⟨g, o + i, none⟩) (World.block_lt_of_cell? w _ (hc i hin))).trans (hc i hin)
        obtain ⟨o1, rfl, hc1⟩ := HS.out.1.at_ (by omega)
        have cy := hc1 i (by omega)
        clear hc hc1
        generalize hx : l.getD i E = x at cx
        generalize hy : S.getD i E = y at cy
        have HXY := Lib.hid (And.intro hx hy)
        clear hx hy
        by_cases t : y = x
        · have td : (!(y.toList == x.toList)) = false := by rw [t, beq_self_eq_true]; rfl
          have HT := Lib.hid t
          clear t
          go_wp2
          repeat (go_quiet (fail); try go_wp2)
          go_roundw
          case rel => exact ⟨i + 1, by omega, by go_num, Lib.hid ⟨by repeat (first | exact Drawn0.refl _ | apply Drawn0.step), fun j hj => by
            by_cases e : j = i
            · subst e; rw [HXY.out.1, HXY.out.2]; exact HT.out
            · exact HW.out.2 j (by omega)⟩⟩
          case measure => simp [intOf]; omega
        · have td : (!(y.toList == x.toList)) = true := by rw [beq_eq_false_iff_ne.mpr (fun e => t (OfT.toList_inj e))]; rfl
          have HF : Hid (risB ltS l = false) := Lib.hid (by
            rw [HX.out]
            refine decide_eq_false (fun e => t ?_)
            rw [← HXY.out.2, ← HXY.out.1, e])
          clear t
          go_wp2
          repeat (go_quiet (fail); try go_wp2)
          go_ret
          exact ⟨by rw [HF.out]; rfl, by repeat (first | exact HS.out.2 | apply pw_below_drewN | apply below_drew1)⟩
      · have hlt : ¬ ((i : Int) < (l.length : Int)) := by omega
        have HT : Hid (risB ltS l = true) := Lib.hid (by
          rw [HX.out]
          refine decide_eq_true (List.ext_getElem HL.out (fun j h1 h2 => ?_))
          rw [gI, gI]
          exact HW.out.2 j (by omega))
        go_wp2
        go_ret
        exact ⟨by rw [HT.out]; rfl, by repeat (first | exact HS.out.2 | apply pw_below_drewN | apply below_drew1)⟩
  · have hne : ((S.length : Int) != (l.length : Int)) = true := bne_iff_ne.mpr (by omega)
    have HF : Hid (risB ltS l = false) := Lib.hid (by rw [HX.out]; exact decide_eq_false (fun e => hl (by rw [e])))
    clear hl
    go_enter Try.func43, Try.ntmps43
    go_wp2_with (first | (go_at_call 41; ((with_reducible refine H1.out.mono ?_); rintro e W1 ⟨g1, B1, c1, rfl, q1, q2, q3⟩; have HS := Lib.hid q3; clear q1 q2 q3)) | go_in)
    go_ret
    exact ⟨by rw [HF.out]; rfl, HS.out⟩
set_option maxHeartbeats 2000000 in
set_option maxRecDepth 100000 in
theorem rminus_as (w : World) (ga gb ca cb : Nat) (A B : Option Addr) (a b : List ByteArray) (ha : Row w ga A ca a) (hb : Row w gb B cb b) (la : a.length ≤ 1048576) (lb : b.length ≤ 1048576) : Calls Try.prog 50 #[.slice A a.length ca, .slice B b.length cb] w (Got w (minus ltS a b)) := by
  obtain ⟨i1, hi1, hy0, hy1, hy2⟩ := info_parts info9
  have H1 := Lib.hid (rsorted_as w ga A ca a ha la)
  have H2 := Lib.hid (fun W (hW : Row W gb B cb b) => rsorted_as W gb B cb b hW lb)
  have HB := Lib.hid hb
  have hmi : minus ltS a b = (setL ltS a).filter fun x => decide (x ∉ setL ltS b) := by
    unfold minus
    exact List.filter_congr (fun x _ => decide_eq_decide.2 (not_congr (mem_setL totS x b).symm))
  have hrb := ris_setL totS b
  have hla : (setL ltS a).length ≤ 1048576 := Nat.le_trans (setL_len totS a) la
  have hlb : (setL ltS b).length ≤ 1048576 := Nat.le_trans (setL_len totS b) lb
  generalize setL ltS a = s at H1 hmi hla
  generalize setL ltS b = u at H2 hmi hrb hlb
  have HMI := Lib.hid hmi
  have HRB := Lib.hid hrb
  clear ha hb hmi hrb
  go_enter Try.func50, Try.ntmps50
  go_wp2_with (first
    | (go_at_call 41; (first
      | ((with_reducible refine H1.out.mono ?_); rintro e W1 ⟨g1, B1, c1, rfl, q1, q2, q3⟩; have HS1 := Lib.hid (And.intro q1 q3); clear q1 q2 q3)
      | ((with_reducible refine (H2.out W1 (HB.out.on (fun hp => HS1.out.2.block _ (Row.lt HB.out hp)))).mono ?_); rintro e W2 ⟨g2, B2, c2, rfl, q1, q2, q3⟩; have HS2 := Lib.hid (And.intro (HS1.out.1.on (fun hp => q3.block _ (Row.lt HS1.out.1 hp))) (And.intro q1 (HS1.out.2.trans (q3.mono HS1.out.2.size)))); clear q1 q2 q3)))
    | go_in)
  have HZ0 : Hid (Below W2.heap.size W2 W2 ∧ W2.ownsRow W2.heap.size 9 1 (.slice none 0 0) ((s.take 0).filter fun x => decide (x ∉ u)).length (((s.take 0).filter fun x => decide (x ∉ u)).map (Value.string))) := Lib.hid ⟨Below.refl _ _, World.ownsRow_nil _ _ _ _⟩
  clear H1 H2 HB HS1
  go_loopw [7, 8] (fun v9 v10 w2 => ∃ i2 : Nat, i2 ≤ s.length ∧ v10 = .int .i64 (i2 : Nat) ∧ Hid (Below W2.heap.size W2 w2 ∧ w2.ownsRow W2.heap.size 9 1 v9 ((s.take i2).filter fun x => decide (x ∉ u)).length (((s.take i2).filter fun x => decide (x ∉ u)).map (Value.string)))) (fun _ v _ => s.length - (intOf v).toNat)
  case atStart => exact ⟨0, Nat.zero_le _, rfl, HZ0⟩
  case round =>
    clear HZ0
    obtain ⟨i2, hi2, rfl, HW⟩ := hrel
    by_cases hin2 : i2 < s.length
    · have hlt2 : (i2 : Int) < (s.length : Int) := by omega
      obtain ⟨o5, rfl, hc5⟩ := HS2.out.1.at_ (by omega)
      have cx := (HW.out.1.cell (p := ⟨g1, o5 + i2, none⟩) (World.block_lt_of_cell? W2 _ (hc5 i2 hin2))).trans (hc5 i2 hin2)
      have hsn := take_snoc' s hin2
      have hfl2 : ((s.take i2).filter fun x => decide (x ∉ u)).length ≤ i2 := Nat.le_trans (List.length_filter_le _ _) (by rw [List.length_take]; omega)
      have hml2 : ((s.take i2).filter fun x => decide (x ∉ u)).length + 1 ≤ maxLen := by simp only [maxLen]; omega
      have hsz5 := HW.out.1.size
      have hown := HW.out.2
      generalize s.getD i2 E = x at cx hsn
      have HSN := Lib.hid hsn
      clear hc5 hsn
      have CI := rin_as wr g2 B2 c2 u x (HS2.out.2.1.on (fun hp => HW.out.1.block _ (Row.lt HS2.out.2.1 hp))) HRB.out hlb
      by_cases hxu : x ∈ u
      · rw [decide_eq_true hxu] at CI
        have C1 := Lib.hid CI
        have HF := Lib.hid (show ((so_take s (i2 + 1)).filter fun x => decide (x ∉ u)) = ((s.take i2).filter fun x => decide (x ∉ u)) by
          show ((s.take (i2 + 1)).filter _) = _
          rw [HSN.out, List.filter_append, List.filter_cons_of_neg (by simpa using hxu), List.filter_nil, List.append_nil])
        clear CI hxu
        go_wp2_with (first | (go_at_call 61; ((with_reducible refine C1.out.mono ?_); rintro e _ ⟨rfl, ⟨n9, rfl⟩⟩)) | go_in)
        go_roundw
        case rel => exact ⟨i2 + 1, by omega, by go_num, Lib.hid ⟨pw_below_drewN HW.out.1 _, by have h7 := HF.out; unfold so_take at h7; rw [h7]; exact hown⟩⟩
        case measure => simp [intOf]; omega
      · rw [decide_eq_false hxu] at CI
        have C1 := Lib.hid CI
        have HF := Lib.hid (show ((so_take s (i2 + 1)).filter fun x => decide (x ∉ u)) = ((s.take i2).filter fun x => decide (x ∉ u)) ++ [x] by
          show ((s.take (i2 + 1)).filter _) = _
          rw [HSN.out, List.filter_append, List.filter_cons_of_pos (by simpa using hxu), List.filter_nil])
        clear CI hxu
        go_wp2_with (first
          | (go_at_call 61; ((with_reducible refine C1.out.mono ?_); rintro e _ ⟨rfl, ⟨n9, rfl⟩⟩))
          | (at_builtin; refine wpList_append_own _ rfl (.tmp 28) (.tmp 33) 59 rfl W2.heap.size 9 i1 (.string ⟨#[]⟩) 1 16 Try.underlying59 hi1 hy0 hy1 hy2 rfl (by decide) _ _ _ rfl (World.ownsRow.alloc (show (wr.drewN n9).ownsRow W2.heap.size 9 1 _ _ _ from hown) _) ⟨wr.heap.size, 0, none⟩ 1 1 [.string x] rfl rfl (cell_one_new _ _ _) (by simp [Value.oneCell']) hml2 (by omega) (by have h5 : (wr.drewN n9).heap.size = wr.heap.size := rfl; rw [World.size_alloc]; omega) ?_; intro v' w6 own6 grow6 _; have HZ := Lib.hid (And.intro (((pw_below_drewN HW.out.1 n9).alloc (by have h5 : (wr.drewN n9).heap.size = wr.heap.size := rfl; omega) _).grown grow6 (by rw [World.size_alloc]; have h5 : (wr.drewN n9).heap.size = wr.heap.size := rfl; omega) (fun j e => (hown.lt _ e).1)) own6); clear own6 grow6)
          | go_in)
        go_roundw
        case rel => exact ⟨i2 + 1, by omega, by go_num, Lib.hid ⟨HZ.out.1, by have h7 := HF.out; unfold so_take at h7; rw [h7, List.length_append, List.map_append]; exact HZ.out.2⟩⟩
        case measure => simp [intOf]; omega
    · have hlt2 : ¬ ((i2 : Int) < (s.length : Int)) := by omega
      obtain rfl : i2 = s.length := by omega
      go_wp2
      go_ret
      have h1 := HW.out.2
      rw [List.take_of_length_le (Nat.le_refl _), ← HMI.out] at h1
      obtain ⟨g, B, cc, e, h2, h3⟩ := row_of_own h1
      have h4 := HS2.out.2.2.size
      exact ⟨g, B, cc, by rw [← e]; rfl, h2, fun hp => ⟨by have := (h3 hp).1; omega, (h3 hp).2⟩, HS2.out.2.2.trans (HW.out.1.mono h4)⟩
end Go.Proofs.Ytnflokhffmfifaa.CountWT

/- By hand: the law PostingMembers, walked: its helpers, its calls, the row's form. For every two lists, number and world. -/
import Derived.Test.YtnflokhffmfifaaXA1
import Derived.Test.YtnflokhffmfifaaXV
import Derived.Test.YtnflokhffmfifaaAlgA
import Derived.Test.YtnflokhffmfifaaCountsL
set_option linter.unusedVariables false
set_option linter.unusedSimpArgs false
namespace Go.Proofs.Ytnflokhffmfifaa.MembEv
open Go.RowKit Go.Proofs.Ytnflokhffmfifaa.XA Go.Proofs.Ytnflokhffmfifaa.XV Go.Proofs.Ytnflokhffmfifaa.Ris Go.Proofs.Ytnflokhffmfifaa.Cur Go.Proofs.Ytnflokhffmfifaa.OfW Go.Proofs.Ytnflokhffmfifaa.HeapPure Go.Proofs.Ytnflokhffmfifaa.CountW Go.Proofs.YtnflokhffmfifaaW.PrintWords Go.Proofs.YtnflokhffmfifaaW.PrintLast Go.Proofs.YtnflokhffmfifaaW.PrintMore
theorem wr1 (n : Nat) (h : n < 9223372036854775000) : wrap64 ((n : Int) + 1) = ((n + 1 : Nat) : Int) := by unfold wrap64; omega
theorem stands_ev (l : List Int) (x : Int) (hn : l.length ≤ 16777216) : Ev (fun k => rosterlaw10_stands.f k l x) (decide (x ∈ l)) := by
  have H : ∀ d i : Nat, l.length - i = d → i ≤ l.length → Ev (fun k => rosterlaw10_stands.l0 k l x (i : Int)) (decide (x ∈ l.drop i)) := by
    intro d
    induction d with
    | zero =>
      intro i hd hi
      refine ev_round ?_
      simp only [rosterlaw10_stands.l0]
      refine ev_neg (by omega) (ev_eq ?_)
      rw [List.drop_of_length_le (by omega)]
      simp
    | succ d ih =>
      intro i hd hi
      have hlt : i < l.length := by omega
      have e : l.drop i = l.getD i 0 :: l.drop (i + 1) := by
        rw [List.drop_eq_getElem_cons hlt]
        simp [List.getD_eq_getElem?_getD, List.getElem?_eq_getElem hlt]
      refine ev_round ?_
      simp only [rosterlaw10_stands.l0]
      refine ev_pos (by omega) (ev_pos (by omega) ?_)
      rw [e]
      have e2 : rd l (i : Int) = l.getD i 0 := by simp [rd]
      rw [e2]
      by_cases hx : l.getD i 0 = x
      · refine ev_pos hx (ev_eq ?_)
        rw [hx]
        simp
      · refine ev_neg hx ?_
        rw [wr1 i (by omega)]
        have := ih (i + 1) (by omega) (by omega)
        have e3 : decide (x ∈ l.getD i 0 :: l.drop (i + 1)) = decide (x ∈ l.drop (i + 1)) := by
          rw [decide_eq_decide, List.mem_cons]
          exact ⟨fun h => h.elim (fun h => absurd h.symm hx) id, .inr⟩
        rw [e3]
        exact this
  have := H l.length 0 (by omega) (by omega)
  show Ev (fun k => rosterlaw10_stands.l0 k l x 0) _
  simpa using this
theorem rises_ev (l : List Int) (hn : l.length ≤ 16777216) : Ev (fun k => rosterlaw10_rises.f k l) (risB ltI l) := by
  have H : ∀ d i : Nat, l.length + 2 - i = d → 1 ≤ i → (i ≤ l.length ∨ i = 1) → (∀ j, j + 1 < i → l.getD j 0 < l.getD (j + 1) 0) → Ev (fun k => rosterlaw10_rises.l0 k l (i : Int)) (risB ltI l) := by
    intro d
    induction d with
    | zero => intro i hd h1 h2 h3; omega
    | succ d ih =>
      intro i hd h1 h2 h3
      refine ev_round ?_
      simp only [rosterlaw10_rises.l0]
      by_cases hlt : i < l.length
      · obtain ⟨m, rfl⟩ : ∃ m, i = m + 1 := ⟨i - 1, by omega⟩
        have e1 : wrap64 (((m + 1 : Nat) : Int) - 1) = (m : Int) := by unfold wrap64; omega
        simp only [e1]
        refine ev_pos (by omega) (ev_pos (by omega) (ev_pos (by omega) (ev_pos (by omega) ?_)))
        have e2 : rd l (m : Int) = l.getD m 0 := by simp [rd]
        have e3 : rd l ((m + 1 : Nat) : Int) = l.getD (m + 1) 0 := by simp [rd]
        rw [e2, e3]
        by_cases hx : l.getD m 0 ≥ l.getD (m + 1) 0
        · refine ev_pos hx (ev_eq ?_)
          cases hr : risB ltI l with
          | false => rfl
          | true => have := (risB_at l).1 hr m hlt; omega
        · refine ev_neg hx ?_
          rw [wr1 (m + 1) (by omega)]
          exact ih (m + 2) (by omega) (by omega) (by omega) (fun j hj => by
            by_cases e : j = m
            · subst e; omega
            · exact h3 j (by omega))
      · refine ev_neg (by omega) (ev_eq ?_)
        exact ((risB_at l).2 (fun j hj => h3 j (by omega))).symm
  exact H _ 1 rfl (Nat.le_refl _) (.inr rfl) (fun j hj => by omega)
theorem spared_ev (ls : List (List Int)) (hn : ls.length ≤ 1048576) (hl : ∀ l ∈ ls, l.length ≤ 1048576) : Ev (fun k => rosterlaw10_spared.f k ls) ls := by
  have H : ∀ d i : Nat, ls.length - i = d → i ≤ ls.length → Ev (fun k => rosterlaw10_spared.l0 k ls (ls.take i) (i : Int)) ls := by
    intro d
    induction d with
    | zero =>
      intro i hd hi
      refine ev_round ?_
      simp only [rosterlaw10_spared.l0]
      refine ev_neg (by omega) (ev_eq ?_)
      rw [List.take_of_length_le (by omega)]
    | succ d ih =>
      intro i hd hi
      have hlt : i < ls.length := by omega
      have hmem : ls.getD i [] ∈ ls := by
        rw [List.getD_eq_getElem?_getD, List.getElem?_eq_getElem hlt]
        exact List.getElem_mem hlt
      have hli := hl _ hmem
      have e2 : rd_L1 ls (i : Int) = ls.getD i [] := by simp [rd_L1]
      refine ev_round ?_
      simp only [rosterlaw10_spared.l0, e2]
      generalize hg : ls.getD i [] = l at hli
      refine ev_pos (by omega) (ev_pos (by omega) (ev_pos (by simp; omega) (ev_some ?_)))
      refine ev_pos (by simp; omega) (ev_some ?_)
      refine ev_pos (by omega) (ev_pos (by simp; omega) (ev_pos (by rw [List.length_take]; omega) ?_))
      rw [wr1 i (by omega)]
      have := ih (i + 1) (by omega) (by omega)
      have e3 : ls.take i ++ [(([] : List Int) ++ l ++ [(-77)]).take ((l.length : Int) : Int).toNat] = ls.take (i + 1) := by
        rw [List.take_add_one, List.getElem?_eq_getElem hlt]
        have : ls[i] = l := by rw [← hg]; simp [List.getD_eq_getElem?_getD, List.getElem?_eq_getElem hlt]
        simp [this]
      rw [e3]
      exact this
  have := H ls.length 0 (by omega) (by omega)
  show Ev (fun k => rosterlaw10_spared.l0 k ls [] 0) _
  simpa using this
end Go.Proofs.Ytnflokhffmfifaa.MembEv
namespace Go.Proofs.Ytnflokhffmfifaa.CountW
open Go.RowKit Go.Proofs.Ytnflokhffmfifaa.XA Go.Proofs.Ytnflokhffmfifaa.MembEv Go.Proofs.Ytnflokhffmfifaa.Blk Go.Proofs.Ytnflokhffmfifaa.Ris Go.Proofs.Ytnflokhffmfifaa.Cur Go.Proofs.Ytnflokhffmfifaa.OfW Go.Proofs.Ytnflokhffmfifaa.HeapPure Go.Proofs.Ytnflokhffmfifaa.HeapW Go.Proofs.YtnflokhffmfifaaW.PrintWords Go.Proofs.YtnflokhffmfifaaW.PrintLast Go.Proofs.YtnflokhffmfifaaW.PrintMore
variable {T : List Int} {W W' : World} {v v1 v2 : Value} {l l1 l2 : List Int}
theorem k_stands (h : K3 T W v l) (y : Int) : Calls Try.prog 53 #[v, .int .i64 y] W fun e w' => e = .returned (.bool (decide (y ∈ l))) ∧ Drawn0 W w' := by
  obtain ⟨⟨g, A, c, rfl, hr⟩, hf, _⟩ := h
  obtain ⟨k, hk⟩ := Ev.rounds (stands_ev l y (by omega))
  exact rosterlaw10_stands.calls k A c l y _ W (Row.nums hr hf) hr.cap hk
theorem k_rises (h : K3 T W v l) : Calls Try.prog 52 #[v] W fun e w' => e = .returned (.bool (risB ltI l)) ∧ Drawn0 W w' := by
  obtain ⟨⟨g, A, c, rfl, hr⟩, hf, _⟩ := h
  obtain ⟨k, hk⟩ := Ev.rounds (rises_ev l (by omega))
  exact rosterlaw10_rises.calls k A c l _ W (Row.nums hr hf) hr.cap hk
theorem k_rising (h : K3 T W v l) : Calls Try.prog 34 #[v] W fun e w' => e = .returned (.bool (risB ltI l)) ∧ Drawn0 W w' := by
  obtain ⟨⟨g, A, c, rfl, hr⟩, hf, _⟩ := h
  exact rising_as W g A c l hr hf
theorem k_nil (hb : T.length ≤ 1048576) : K3 T W (.slice none 0 0) [] := ⟨⟨0, none, 0, rfl, ⟨Nat.le_refl _, fun hp => absurd hp (by simp)⟩⟩, by simp, fun x hx => by simp at hx⟩
theorem k_spared2 {b : Nat} (h0 : b = W.heap.size) (h1 : K3 T W v1 l1) (h2 : K3 T W v2 l2) : Calls Try.prog 23 #[.slice (some ⟨b, 0, none⟩) 2 2] (W.alloc (.cells #[v1, v2] 22)) fun e w' => ∃ r o c A1 c1 A2 c2, e = .returned (.slice (some ⟨r, o, none⟩) 2 c) ∧ w'.cell? ⟨r, o, none⟩ = some (.slice A1 l1.length c1) ∧ w'.cell? ⟨r, o + 1, none⟩ = some (.slice A2 l2.length c2) ∧ K3 T w' (.slice A1 l1.length c1) l1 ∧ K3 T w' (.slice A2 l2.length c2) l2 ∧ Below W.heap.size W w' := by
  subst h0
  obtain ⟨k, hk⟩ := Ev.rounds (spared_ev [l1, l2] (by simp) (fun l hl => by
    simp only [List.mem_cons, List.not_mem_nil, or_false] at hl
    rcases hl with rfl | rfl
    · exact h1.fit
    · exact h2.fit))
  have a1 := h1.alloc (.cells #[v1, v2] 22)
  have a2 := h2.alloc (.cells #[v1, v2] 22)
  have hC : Kd.C (Kd.slice 2 (Kd.int .i64)) (W.alloc (.cells #[v1, v2] 22)) (some ⟨W.heap.size, 0, none⟩) ([l1, l2] : List (List Int)).length [l1, l2] := by
    refine ⟨rfl, by simp [maxLen], fun _ => ⟨_, rfl, fun j p hj => ?_⟩⟩
    have hat := Blk.At.fresh W [v1, v2] 22
    match j, hj with
    | 0, hj =>
      obtain rfl : l1 = p := by simpa using hj
      obtain ⟨⟨g, A, c, e, hr⟩, hf, _⟩ := a1
      refine ⟨[v1], rfl, ⟨A, c, by rw [e], hr.cap, Row.nums hr hf⟩, fun i u hu => ?_⟩
      obtain ⟨rfl, rfl⟩ : i = 0 ∧ v1 = u := by
        cases i with
        | zero => exact ⟨rfl, by simpa using hu⟩
        | succ i => simp at hu
      rw [add_off]
      exact hat.get 0 _ rfl
    | 1, hj =>
      obtain rfl : l2 = p := by simpa using hj
      obtain ⟨⟨g, A, c, e, hr⟩, hf, _⟩ := a2
      refine ⟨[v2], rfl, ⟨A, c, by rw [e], hr.cap, Row.nums hr hf⟩, fun i u hu => ?_⟩
      obtain ⟨rfl, rfl⟩ : i = 0 ∧ v2 = u := by
        cases i with
        | zero => exact ⟨rfl, by simpa using hu⟩
        | succ i => simp at hu
      rw [add_off]
      exact hat.get 1 _ rfl
    | j + 2, hj => simp at hj
  refine (rosterlaw10_spared.calls k (some ⟨W.heap.size, 0, none⟩) 2 [l1, l2] [l1, l2] (W.alloc (.cells #[v1, v2] 22)) hC (Nat.le_refl _) hk).mono ?_
  rintro e w' ⟨v0, rfl, hN, hb⟩
  have hz : (W.alloc (.cells #[v1, v2] 22)).heap.size = W.heap.size + 1 := World.size_alloc _ _
  obtain ⟨A, c, rfl⟩ := Kd.N_slice hN
  obtain ⟨Es, hh, hm⟩ := heads_of_C (l := [l1, l2]) (Kd.N_reads' hN).2.2
  obtain ⟨d1, d2, rfl⟩ : ∃ d1 d2, Es = [d1, d2] := by
    have := congrArg List.length hm
    match Es, this with
    | [d1, d2], _ => exact ⟨d1, d2, rfl⟩
  obtain ⟨hm1, hm2⟩ : d1.l = l1 ∧ d2.l = l2 := by simpa using hm
  obtain ⟨r, o, rfl, hc1⟩ := hh.head 0 (by simp)
  obtain ⟨r2, o2, e2, hc2⟩ := hh.head 1 (by simp)
  obtain ⟨rfl, rfl⟩ : r = r2 ∧ o = o2 := by simpa using e2
  have hr1 := hh.row d1 (by simp)
  have hr2 := hh.row d2 (by simp)
  rw [hm1] at hr1
  rw [hm2] at hr2
  refine ⟨r, o, c, d1.A, d1.c, d2.A, d2.c, rfl, ?_, ?_, ⟨⟨d1.g, d1.A, d1.c, rfl, hr1⟩, h1.fit, h1.sub⟩, ⟨⟨d2.g, d2.A, d2.c, rfl, hr2⟩, h2.fit, h2.sub⟩, ((Below.refl _ W).alloc (Nat.le_refl _) _).trans (hb.mono (by omega))⟩
  · simpa [Hd.v, hm1] using hc1
  · simpa [Hd.v, hm2] using hc2
end Go.Proofs.Ytnflokhffmfifaa.CountW
namespace Go.Proofs.Ytnflokhffmfifaa.CountW
open Go.RowKit Go.Proofs.Ytnflokhffmfifaa.Blk Go.Proofs.Ytnflokhffmfifaa.Ris Go.Proofs.Ytnflokhffmfifaa.Cur Go.Proofs.Ytnflokhffmfifaa.OfW Go.Proofs.Ytnflokhffmfifaa.HeapPure Go.Proofs.Ytnflokhffmfifaa.HeapW Go.Proofs.Ytnflokhffmfifaa.PostAlg Go.Proofs.YtnflokhffmfifaaW.PrintWords Go.Proofs.YtnflokhffmfifaaW.PrintLast Go.Proofs.YtnflokhffmfifaaW.PrintMore
theorem below_drew2 {B : Nat} {W W' : World} (h : Below B W.drew W') : Below B W W' := ⟨h.os, h.tape, h.output, h.size, h.block⟩
theorem K3.drew {T : List Int} {W : World} {v : Value} {l : List Int} (h : K3 T W v l) : K3 T W.drew v l := h.on ⟨rfl, rfl, rfl, Nat.le_refl _, fun _ _ => rfl⟩
theorem K3.nums {T : List Int} {W : World} {A : Option Addr} {c : Nat} {l : List Int} (h : K3 T W (.slice A l.length c) l) : Kd.C (Kd.int .i64) W A l.length l := by
  obtain ⟨⟨g, A', c', e, hr⟩, hf, _⟩ := h
  cases e
  exact Row.nums hr hf
theorem k_rises_true {T : List Int} {W : World} {v : Value} {l : List Int} (h : K3 T W v l) (hr : Ris ltI l) : Calls Try.prog 52 #[v] W fun e w' => e = .returned (.bool true) ∧ Drawn0 W w' := by
  have := k_rises h
  rwa [(risB_iff totI l).2 hr] at this
theorem k_stands_is {T : List Int} {W : World} {v : Value} {l : List Int} (h : K3 T W v l) (y : Int) (bv : Bool) (e : decide (y ∈ l) = bv) : Calls Try.prog 53 #[v, .int .i64 y] W fun e w' => e = .returned (.bool bv) ∧ Drawn0 W w' := by
  have := k_stands h y
  rwa [e] at this
theorem k_rising_is {T : List Int} {W : World} {v : Value} {l : List Int} (h : K3 T W v l) (bv : Bool) (e : risB ltI l = bv) : Calls Try.prog 34 #[v] W fun e w' => e = .returned (.bool bv) ∧ Drawn0 W w' := by
  have := k_rising h
  rwa [e] at this
theorem k_rises_is {T : List Int} {W : World} {v : Value} {l : List Int} (h : K3 T W v l) (bv : Bool) (e : risB ltI l = bv) : Calls Try.prog 52 #[v] W fun e w' => e = .returned (.bool bv) ∧ Drawn0 W w' := by
  have := k_rises h
  rwa [e] at this
set_option maxHeartbeats 8000000 in
set_option maxRecDepth 100000 in
theorem members_walk (A0 B0 : Option Addr) (k0 k1 : Nat) (a b : List Int) (x : Int) (w : World) (ha : Kd.C (Kd.int .i64) w A0 a.length a) (ca : a.length ≤ k0) (hb : Kd.C (Kd.int .i64) w B0 b.length b) (cb : b.length ≤ k1) (hs : a.length + b.length + 1 ≤ 1048576) :
    Calls Try.prog 10 #[.slice A0 a.length k0, .slice B0 b.length k1, .int .i64 x] w fun e w' => e = .returned (.bool true) ∧ Below w.heap.size w w' := by
  obtain ⟨ga, ra⟩ := row_of_C ha ca
  obtain ⟨gb, rb⟩ := row_of_C hb cb
  have hT : (a ++ b ++ [x]).length ≤ 1048576 := by simp only [List.length_append, List.length_cons, List.length_nil]; omega
  have hTx : ∀ y ∈ [x], y ∈ a ++ b ++ [x] := fun y hy => by simp only [List.mem_append]; exact .inr hy
  have PM0 : Hid (K3 (a ++ b ++ [x]) w (.slice A0 a.length k0) a ∧ K3 (a ++ b ++ [x]) w (.slice B0 b.length k1) b) :=
    Lib.hid ⟨⟨⟨ga, A0, k0, rfl, ra⟩, by omega, fun y hy => by simp [hy]⟩, ⟨⟨gb, B0, k1, rfl, rb⟩, by omega, fun y hy => by simp [hy]⟩⟩
  clear ha hb ra rb ca cb hs
  generalize a ++ b ++ [x] = T at *
  generalize hra : risB ltI a = ba
  have hbb : (ba != ba) = false := bne_self_eq_false ba
  have HRA := Lib.hid hra
  clear hra
  have HB0 := Lib.hid (Below.refl w.heap.size w)
  go_enter Try.func10, Try.ntmps10
  go_wp2_with (first
    | (go_at_call 23; ((with_reducible refine (k_spared2 (T := T) (W := w) (l1 := a) (l2 := b) ?h0 PM0.out.1 PM0.out.2).mono ?_); (case h0 => first | rfl | simp); rintro e W1 ⟨r, o, cz, Ap, cp, Aq, cq, rfl, c0, c1, kp, kq, hb⟩; have PM1 := Lib.hid (And.intro (K3.on PM0.out.1 hb) (And.intro (K3.on PM0.out.2 hb) (And.intro kp kq))); have HB1 := Lib.hid hb; clear kp kq hb))
    | (go_at_call 22; ((with_reducible refine (k_of (T := T) (l1 := a) (PM1.out.2.2.1) hT).mono ?_); rintro e W2 ⟨A2, c2, rfl, hk, hb⟩; have PM2 := Lib.hid (And.intro (K3.on (PM1.out.1) hb) (And.intro (K3.on (PM1.out.2.1) hb) (And.intro (K3.on (PM1.out.2.2.1) hb) (And.intro (K3.on (PM1.out.2.2.2) hb) hk)))); have HB2 := Lib.hid (HB1.out.trans (hb.mono HB1.out.size)); have d0 := (hb.cell (p := ⟨r, o, none⟩) (World.block_lt_of_cell? W1 _ c0)).trans c0; have d1 := (hb.cell (p := ⟨r, o + 1, none⟩) (World.block_lt_of_cell? W1 _ c1)).trans c1; clear hk hb c0 c1))
    | go_in)
  refine start_ (n := 9) (S := fun w' => w'.cell? ⟨r, o, none⟩ = some (.slice Ap a.length cp) ∧ w'.cell? ⟨r, o + 1, none⟩ = some (.slice Aq b.length cq)) (ds := [6, 7]) #[false, false, false, false, false, false, false, false, false] (by kernel_rfl) rfl rfl ⟨d0, d1⟩ (fun hHeld => ?_)
  refine pure_ (i := 0) (N := some 25) (v := ?_) (a' := ?_) #[true, false, false, false, false, false, false, false, false] rfl rfl (by kernel_rfl) (fun _ _ _ h => h) (Or.inl ⟨by rfl, ?_⟩) ?_ ?_
  rotate_left
  · intro w'
    go_simp
    with_reducible rfl
  rotate_left
  · simp only [Act.put, List.setIfInBounds_toArray, List.set_cons_zero, List.set_cons_succ, i64_w, i32_w]
    rfl
  refine pure_ (i := 1) (N := some 26) (v := ?_) (a' := ?_) #[true, true, false, false, false, false, false, false, false] rfl rfl (by kernel_rfl) (fun _ _ _ h => h) (Or.inl ⟨by rfl, ?_⟩) ?_ ?_
  rotate_left
  · intro w'
    go_simp
    with_reducible rfl
  rotate_left
  · simp only [Act.put, List.setIfInBounds_toArray, List.set_cons_zero, List.set_cons_succ, i64_w, i32_w]
    rfl
  refine pure_ (i := 3) (N := some 28) (v := ?_) (a' := ?_) #[true, true, false, true, false, false, false, false, false] rfl rfl (by kernel_rfl) (fun _ _ _ h => h) (Or.inl ⟨by rfl, ?_⟩) ?_ ?_
  rotate_left
  · intro w'
    go_simp
    with_reducible rfl
  rotate_left
  · simp only [Act.put, List.setIfInBounds_toArray, List.set_cons_zero, List.set_cons_succ, i64_w, i32_w]
    rfl
  refine pure_ (i := 4) (N := some 29) (v := ?_) (a' := ?_) #[true, true, false, true, true, false, false, false, false] rfl rfl (by kernel_rfl) (fun _ _ _ h => h) (Or.inl ⟨by rfl, ?_⟩) ?_ ?_
  rotate_left
  · intro w'
    go_simp
    with_reducible rfl
  rotate_left
  · simp only [Act.put, List.setIfInBounds_toArray, List.set_cons_zero, List.set_cons_succ, i64_w, i32_w]
    rfl
  refine take_ (i := 2) (N := some 27) (v := ?_) (a' := ?_) #[true, true, true, true, true, false, false, false, false] rfl rfl (by kernel_rfl) (fun _ _ _ h => h) (Or.inl ⟨by rfl, ?_⟩) hHeld ?_ ?_
  rotate_left
  · rintro w' ⟨s0, s1⟩
    go_simp
    with_reducible rfl
  rotate_left
  · simp only [Act.put, List.setIfInBounds_toArray, List.set_cons_zero, List.set_cons_succ, i64_w, i32_w]
    rfl
  refine take_ (i := 5) (N := some 30) (v := ?_) (a' := ?_) #[true, true, true, true, true, true, false, false, false] rfl rfl (by kernel_rfl) (fun _ _ _ h => h) (Or.inl ⟨by rfl, ?_⟩) hHeld ?_ ?_
  rotate_left
  · rintro w' ⟨s0, s1⟩
    go_simp
    with_reducible rfl
  rotate_left
  · simp only [Act.put, List.setIfInBounds_toArray, List.set_cons_zero, List.set_cons_succ, i64_w, i32_w]
    rfl
  refine last_ (i := 6) (N := some 31) #[true, true, true, true, true, true, true, false, false] rfl rfl (by kernel_rfl) (by decide) (fun K hK => ?_)
  refine value_ (w1 := ?_) (v := ?_) (by rfl) rfl ?_ ?_
  rotate_left 2
  · go_simp
    constructor
    · rfl
    · rfl
  refine hK.out _ _ ?_
  clear hK K
  refine norm_ (a' := ?_) ?_ ?_
  rotate_left
  · show Act.put _ (some 31) _ = _
    simp only [Act.put, List.setIfInBounds_toArray, List.set_cons_zero, List.set_cons_succ, i64_w, i32_w]
    rfl
  refine last_ (i := 7) (N := some 32) #[true, true, true, true, true, true, true, true, false] rfl rfl (by kernel_rfl) (by decide) (fun K hK => ?_)
  refine goes_ Try.func30 (by kernel_rfl) rfl #[.slice (some ⟨W2.heap.size, 0, none⟩) 2 2] (by rfl) rfl rfl (by simp only [List.map_toArray, List.map_cons, List.map_nil]; rfl) ?_
  refine Calls.mono (show Calls Try.prog 30 #[.slice (some ⟨W2.heap.size, 0, none⟩) 2 2] ((W2.alloc (.cells #[.slice Ap a.length cp, .slice Aq b.length cq] 22)).drew) _ from k_union2 (T := T) (W := W2.drew) (l1 := a) (l2 := b) rfl (K3.drew (PM2.out.2.2.1)) (K3.drew (PM2.out.2.2.2.1)) hT) ?_
  rintro e W3 ⟨A3, c3, rfl, hk, hb0⟩
  have hb : Below W2.heap.size W2 W3 := below_drew2 hb0
  have PM3 := Lib.hid (And.intro (K3.on (PM2.out.1) hb) (And.intro (K3.on (PM2.out.2.1) hb) (And.intro (K3.on (PM2.out.2.2.1) hb) (And.intro (K3.on (PM2.out.2.2.2.1) hb) (And.intro (K3.on (PM2.out.2.2.2.2) hb) hk)))))
  have HB3 := Lib.hid (HB2.out.trans (hb.mono HB2.out.size))
  have e0 := (hb.cell (p := ⟨r, o, none⟩) (World.block_lt_of_cell? W2 _ d0)).trans d0
  have e1 := (hb.cell (p := ⟨r, o + 1, none⟩) (World.block_lt_of_cell? W2 _ d1)).trans d1
  clear hk hb hb0 d0 d1
  have d0 := e0
  have d1 := e1
  clear e0 e1
  refine ⟨_, rfl, ?_⟩
  refine hK.out _ _ ?_
  clear hK K
  refine norm_ (a' := ?_) ?_ ?_
  rotate_left
  · show Act.put _ (some 32) _ = _
    simp only [Act.put, List.setIfInBounds_toArray, List.set_cons_zero, List.set_cons_succ, i64_w, i32_w]
    rfl
  refine pure_ (i := 8) (N := some 9) (v := ?_) (a' := ?_) #[true, true, true, true, true, true, true, true, true] rfl rfl (by kernel_rfl) (fun _ _ _ h => h) (Or.inl ⟨by rfl, ?_⟩) ?_ ?_
  rotate_left
  · intro w'
    go_simp
    with_reducible rfl
  rotate_left
  · simp only [Act.put, List.setIfInBounds_toArray, List.set_cons_zero, List.set_cons_succ, i64_w, i32_w]
    rfl
  refine done_ (by kernel_rfl) ?_
  go_wp2
  refine start_ (n := 9) (S := fun w' => w'.cell? ⟨r, o, none⟩ = some (.slice Ap a.length cp) ∧ w'.cell? ⟨r, o + 1, none⟩ = some (.slice Aq b.length cq)) (ds := [6, 7]) #[false, false, false, false, false, false, false, false, false] (by kernel_rfl) rfl rfl ⟨d0, d1⟩ (fun hHeld => ?_)
  refine pure_ (i := 0) (N := some 33) (v := ?_) (a' := ?_) #[true, false, false, false, false, false, false, false, false] rfl rfl (by kernel_rfl) (fun _ _ _ h => h) (Or.inl ⟨by rfl, ?_⟩) ?_ ?_
  rotate_left
  · intro w'
    go_simp
    with_reducible rfl
  rotate_left
  · simp only [Act.put, List.setIfInBounds_toArray, List.set_cons_zero, List.set_cons_succ, i64_w, i32_w]
    rfl
  refine pure_ (i := 1) (N := some 34) (v := ?_) (a' := ?_) #[true, true, false, false, false, false, false, false, false] rfl rfl (by kernel_rfl) (fun _ _ _ h => h) (Or.inl ⟨by rfl, ?_⟩) ?_ ?_
  rotate_left
  · intro w'
    go_simp
    with_reducible rfl
  rotate_left
  · simp only [Act.put, List.setIfInBounds_toArray, List.set_cons_zero, List.set_cons_succ, i64_w, i32_w]
    rfl
  refine pure_ (i := 3) (N := some 36) (v := ?_) (a' := ?_) #[true, true, false, true, false, false, false, false, false] rfl rfl (by kernel_rfl) (fun _ _ _ h => h) (Or.inl ⟨by rfl, ?_⟩) ?_ ?_
  rotate_left
  · intro w'
    go_simp
    with_reducible rfl
  rotate_left
  · simp only [Act.put, List.setIfInBounds_toArray, List.set_cons_zero, List.set_cons_succ, i64_w, i32_w]
    rfl
  refine pure_ (i := 4) (N := some 37) (v := ?_) (a' := ?_) #[true, true, false, true, true, false, false, false, false] rfl rfl (by kernel_rfl) (fun _ _ _ h => h) (Or.inl ⟨by rfl, ?_⟩) ?_ ?_
  rotate_left
  · intro w'
    go_simp
    with_reducible rfl
  rotate_left
  · simp only [Act.put, List.setIfInBounds_toArray, List.set_cons_zero, List.set_cons_succ, i64_w, i32_w]
    rfl
  refine take_ (i := 2) (N := some 35) (v := ?_) (a' := ?_) #[true, true, true, true, true, false, false, false, false] rfl rfl (by kernel_rfl) (fun _ _ _ h => h) (Or.inl ⟨by rfl, ?_⟩) hHeld ?_ ?_
  rotate_left
  · rintro w' ⟨s0, s1⟩
    go_simp
    with_reducible rfl
  rotate_left
  · simp only [Act.put, List.setIfInBounds_toArray, List.set_cons_zero, List.set_cons_succ, i64_w, i32_w]
    rfl
  refine take_ (i := 5) (N := some 38) (v := ?_) (a' := ?_) #[true, true, true, true, true, true, false, false, false] rfl rfl (by kernel_rfl) (fun _ _ _ h => h) (Or.inl ⟨by rfl, ?_⟩) hHeld ?_ ?_
  rotate_left
  · rintro w' ⟨s0, s1⟩
    go_simp
    with_reducible rfl
  rotate_left
  · simp only [Act.put, List.setIfInBounds_toArray, List.set_cons_zero, List.set_cons_succ, i64_w, i32_w]
    rfl
  refine last_ (i := 6) (N := some 39) #[true, true, true, true, true, true, true, false, false] rfl rfl (by kernel_rfl) (by decide) (fun K hK => ?_)
  refine value_ (w1 := ?_) (v := ?_) (by rfl) rfl ?_ ?_
  rotate_left 2
  · go_simp
    constructor
    · rfl
    · rfl
  refine hK.out _ _ ?_
  clear hK K
  refine norm_ (a' := ?_) ?_ ?_
  rotate_left
  · show Act.put _ (some 39) _ = _
    simp only [Act.put, List.setIfInBounds_toArray, List.set_cons_zero, List.set_cons_succ, i64_w, i32_w]
    rfl
  refine last_ (i := 7) (N := some 40) #[true, true, true, true, true, true, true, true, false] rfl rfl (by kernel_rfl) (by decide) (fun K hK => ?_)
  refine goes_ Try.func31 (by kernel_rfl) rfl #[.slice (some ⟨W3.heap.size, 0, none⟩) 2 2] (by rfl) rfl rfl (by simp only [List.map_toArray, List.map_cons, List.map_nil]; rfl) ?_
  refine Calls.mono (show Calls Try.prog 31 #[.slice (some ⟨W3.heap.size, 0, none⟩) 2 2] ((W3.alloc (.cells #[.slice Ap a.length cp, .slice Aq b.length cq] 22)).drew) _ from k_meet2 (T := T) (W := W3.drew) (l1 := a) (l2 := b) rfl (K3.drew (PM3.out.2.2.1)) (K3.drew (PM3.out.2.2.2.1)) hT) ?_
  rintro e W4 ⟨A4, c4, rfl, hk, hb0⟩
  have hb : Below W3.heap.size W3 W4 := below_drew2 hb0
  have PM4 := Lib.hid (And.intro (K3.on (PM3.out.1) hb) (And.intro (K3.on (PM3.out.2.1) hb) (And.intro (K3.on (PM3.out.2.2.1) hb) (And.intro (K3.on (PM3.out.2.2.2.1) hb) (And.intro (K3.on (PM3.out.2.2.2.2.1) hb) (And.intro (K3.on (PM3.out.2.2.2.2.2) hb) hk))))))
  have HB4 := Lib.hid (HB3.out.trans (hb.mono HB3.out.size))
  have e0 := (hb.cell (p := ⟨r, o, none⟩) (World.block_lt_of_cell? W3 _ d0)).trans d0
  have e1 := (hb.cell (p := ⟨r, o + 1, none⟩) (World.block_lt_of_cell? W3 _ d1)).trans d1
  clear hk hb hb0 d0 d1
  have d0 := e0
  have d1 := e1
  clear e0 e1
  refine ⟨_, rfl, ?_⟩
  refine hK.out _ _ ?_
  clear hK K
  refine norm_ (a' := ?_) ?_ ?_
  rotate_left
  · show Act.put _ (some 40) _ = _
    simp only [Act.put, List.setIfInBounds_toArray, List.set_cons_zero, List.set_cons_succ, i64_w, i32_w]
    rfl
  refine pure_ (i := 8) (N := some 10) (v := ?_) (a' := ?_) #[true, true, true, true, true, true, true, true, true] rfl rfl (by kernel_rfl) (fun _ _ _ h => h) (Or.inl ⟨by rfl, ?_⟩) ?_ ?_
  rotate_left
  · intro w'
    go_simp
    with_reducible rfl
  rotate_left
  · simp only [Act.put, List.setIfInBounds_toArray, List.set_cons_zero, List.set_cons_succ, i64_w, i32_w]
    rfl
  refine done_ (by kernel_rfl) ?_
  go_wp2
  refine start_ (n := 8) (S := fun w' => w'.cell? ⟨r, o, none⟩ = some (.slice Ap a.length cp) ∧ w'.cell? ⟨r, o + 1, none⟩ = some (.slice Aq b.length cq)) (ds := [6]) #[false, false, false, false, false, false, false, false] (by kernel_rfl) rfl rfl ⟨d0, d1⟩ (fun hHeld => ?_)
  refine pure_ (i := 0) (N := some 41) (v := ?_) (a' := ?_) #[true, false, false, false, false, false, false, false] rfl rfl (by kernel_rfl) (fun _ _ _ h => h) (Or.inl ⟨by rfl, ?_⟩) ?_ ?_
  rotate_left
  · intro w'
    go_simp
    with_reducible rfl
  rotate_left
  · simp only [Act.put, List.setIfInBounds_toArray, List.set_cons_zero, List.set_cons_succ, i64_w, i32_w]
    rfl
  refine pure_ (i := 1) (N := some 42) (v := ?_) (a' := ?_) #[true, true, false, false, false, false, false, false] rfl rfl (by kernel_rfl) (fun _ _ _ h => h) (Or.inl ⟨by rfl, ?_⟩) ?_ ?_
  rotate_left
  · intro w'
    go_simp
    with_reducible rfl
  rotate_left
  · simp only [Act.put, List.setIfInBounds_toArray, List.set_cons_zero, List.set_cons_succ, i64_w, i32_w]
    rfl
  refine pure_ (i := 3) (N := some 44) (v := ?_) (a' := ?_) #[true, true, false, true, false, false, false, false] rfl rfl (by kernel_rfl) (fun _ _ _ h => h) (Or.inl ⟨by rfl, ?_⟩) ?_ ?_
  rotate_left
  · intro w'
    go_simp
    with_reducible rfl
  rotate_left
  · simp only [Act.put, List.setIfInBounds_toArray, List.set_cons_zero, List.set_cons_succ, i64_w, i32_w]
    rfl
  refine pure_ (i := 4) (N := some 45) (v := ?_) (a' := ?_) #[true, true, false, true, true, false, false, false] rfl rfl (by kernel_rfl) (fun _ _ _ h => h) (Or.inl ⟨by rfl, ?_⟩) ?_ ?_
  rotate_left
  · intro w'
    go_simp
    with_reducible rfl
  rotate_left
  · simp only [Act.put, List.setIfInBounds_toArray, List.set_cons_zero, List.set_cons_succ, i64_w, i32_w]
    rfl
  refine take_ (i := 2) (N := some 43) (v := ?_) (a' := ?_) #[true, true, true, true, true, false, false, false] rfl rfl (by kernel_rfl) (fun _ _ _ h => h) (Or.inl ⟨by rfl, ?_⟩) hHeld ?_ ?_
  rotate_left
  · rintro w' ⟨s0, s1⟩
    go_simp
    with_reducible rfl
  rotate_left
  · simp only [Act.put, List.setIfInBounds_toArray, List.set_cons_zero, List.set_cons_succ, i64_w, i32_w]
    rfl
  refine take_ (i := 5) (N := some 46) (v := ?_) (a' := ?_) #[true, true, true, true, true, true, false, false] rfl rfl (by kernel_rfl) (fun _ _ _ h => h) (Or.inl ⟨by rfl, ?_⟩) hHeld ?_ ?_
  rotate_left
  · rintro w' ⟨s0, s1⟩
    go_simp
    with_reducible rfl
  rotate_left
  · simp only [Act.put, List.setIfInBounds_toArray, List.set_cons_zero, List.set_cons_succ, i64_w, i32_w]
    rfl
  refine last_ (i := 6) (N := some 47) #[true, true, true, true, true, true, true, false] rfl rfl (by kernel_rfl) (by decide) (fun K hK => ?_)
  refine goes_ Try.func37 (by kernel_rfl) rfl #[.slice Ap a.length cp, .slice Aq b.length cq] (by rfl) rfl rfl (by simp only [List.map_toArray, List.map_cons, List.map_nil]; rfl) ?_
  with_reducible refine (k_minus (T := T) (W := W4.drew) (l1 := a) (l2 := b) (K3.drew (PM4.out.2.2.1)) (K3.drew (PM4.out.2.2.2.1)) hT).mono ?_
  rintro e W5 ⟨A5, c5, rfl, hk, hb0⟩
  have hb : Below W4.heap.size W4 W5 := below_drew2 hb0
  have PM5 := Lib.hid (And.intro (K3.on (PM4.out.1) hb) (And.intro (K3.on (PM4.out.2.1) hb) (And.intro (K3.on (PM4.out.2.2.1) hb) (And.intro (K3.on (PM4.out.2.2.2.1) hb) (And.intro (K3.on (PM4.out.2.2.2.2.1) hb) (And.intro (K3.on (PM4.out.2.2.2.2.2.1) hb) (And.intro (K3.on (PM4.out.2.2.2.2.2.2) hb) hk)))))))
  have HB5 := Lib.hid (HB4.out.trans (hb.mono HB4.out.size))
  have e0 := (hb.cell (p := ⟨r, o, none⟩) (World.block_lt_of_cell? W4 _ d0)).trans d0
  have e1 := (hb.cell (p := ⟨r, o + 1, none⟩) (World.block_lt_of_cell? W4 _ d1)).trans d1
  clear hk hb hb0 d0 d1
  have d0 := e0
  have d1 := e1
  clear e0 e1
  refine ⟨_, rfl, ?_⟩
  refine hK.out _ _ ?_
  clear hK K
  refine norm_ (a' := ?_) ?_ ?_
  rotate_left
  · show Act.put _ (some 47) _ = _
    simp only [Act.put, List.setIfInBounds_toArray, List.set_cons_zero, List.set_cons_succ, i64_w, i32_w]
    rfl
  refine pure_ (i := 7) (N := some 11) (v := ?_) (a' := ?_) #[true, true, true, true, true, true, true, true] rfl rfl (by kernel_rfl) (fun _ _ _ h => h) (Or.inl ⟨by rfl, ?_⟩) ?_ ?_
  rotate_left
  · intro w'
    go_simp
    with_reducible rfl
  rotate_left
  · simp only [Act.put, List.setIfInBounds_toArray, List.set_cons_zero, List.set_cons_succ, i64_w, i32_w]
    rfl
  refine done_ (by kernel_rfl) ?_
  go_upto_region 8 with (first
    | (go_at_call 52; (first
      | ((with_reducible refine (k_rises_true (T := T) (l := (setL ltI a)) ?h1 (ris_setL totI a)).mono ?_); (case h1 => (with_reducible first | exact (PM5.out.2.2.2.2.1) | exact K3.draw (PM5.out.2.2.2.2.1) _ | exact K3.draw (K3.draw (PM5.out.2.2.2.2.1) _) _ | exact K3.draw (K3.draw (K3.draw (PM5.out.2.2.2.2.1) _) _) _ | exact K3.draw (K3.draw (K3.draw (K3.draw (PM5.out.2.2.2.2.1) _) _) _) _ | exact K3.draw (K3.draw (K3.draw (K3.draw (K3.draw (PM5.out.2.2.2.2.1) _) _) _) _) _)); rintro e _ ⟨rfl, ⟨nof, rfl⟩⟩)
      | ((with_reducible refine (k_rises_true (T := T) (l := (union ltI [a, b])) ?h1 (ris_union totI [a, b])).mono ?_); (case h1 => (with_reducible first | exact (PM5.out.2.2.2.2.2.1) | exact K3.draw (PM5.out.2.2.2.2.2.1) _ | exact K3.draw (K3.draw (PM5.out.2.2.2.2.2.1) _) _ | exact K3.draw (K3.draw (K3.draw (PM5.out.2.2.2.2.2.1) _) _) _ | exact K3.draw (K3.draw (K3.draw (K3.draw (PM5.out.2.2.2.2.2.1) _) _) _) _ | exact K3.draw (K3.draw (K3.draw (K3.draw (K3.draw (PM5.out.2.2.2.2.2.1) _) _) _) _) _)); rintro e _ ⟨rfl, ⟨nun, rfl⟩⟩)
      | ((with_reducible refine (k_rises_true (T := T) (l := (meet ltI [a, b])) ?h1 (ris_meet totI [a, b])).mono ?_); (case h1 => (with_reducible first | exact (PM5.out.2.2.2.2.2.2.1) | exact K3.draw (PM5.out.2.2.2.2.2.2.1) _ | exact K3.draw (K3.draw (PM5.out.2.2.2.2.2.2.1) _) _ | exact K3.draw (K3.draw (K3.draw (PM5.out.2.2.2.2.2.2.1) _) _) _ | exact K3.draw (K3.draw (K3.draw (K3.draw (PM5.out.2.2.2.2.2.2.1) _) _) _) _ | exact K3.draw (K3.draw (K3.draw (K3.draw (K3.draw (PM5.out.2.2.2.2.2.2.1) _) _) _) _) _)); rintro e _ ⟨rfl, ⟨nme, rfl⟩⟩)
      | ((with_reducible refine (k_rises_true (T := T) (l := (minus ltI a b)) ?h1 (ris_minus totI a b)).mono ?_); (case h1 => (with_reducible first | exact (PM5.out.2.2.2.2.2.2.2) | exact K3.draw (PM5.out.2.2.2.2.2.2.2) _ | exact K3.draw (K3.draw (PM5.out.2.2.2.2.2.2.2) _) _ | exact K3.draw (K3.draw (K3.draw (PM5.out.2.2.2.2.2.2.2) _) _) _ | exact K3.draw (K3.draw (K3.draw (K3.draw (PM5.out.2.2.2.2.2.2.2) _) _) _) _ | exact K3.draw (K3.draw (K3.draw (K3.draw (K3.draw (PM5.out.2.2.2.2.2.2.2) _) _) _) _) _)); rintro e _ ⟨rfl, ⟨nmi, rfl⟩⟩)
      | ((with_reducible refine (k_rises_is (T := T) (l := a) ?h1 ba HRA.out).mono ?_); (case h1 => (with_reducible first | exact (PM5.out.1) | exact K3.draw (PM5.out.1) _ | exact K3.draw (K3.draw (PM5.out.1) _) _ | exact K3.draw (K3.draw (K3.draw (PM5.out.1) _) _) _ | exact K3.draw (K3.draw (K3.draw (K3.draw (PM5.out.1) _) _) _) _ | exact K3.draw (K3.draw (K3.draw (K3.draw (K3.draw (PM5.out.1) _) _) _) _) _)); rintro e _ ⟨rfl, ⟨nra, rfl⟩⟩)))
    | (go_at_call 34; ((with_reducible refine (k_rising_is (T := T) (l := a) ?h1 ba HRA.out).mono ?_); (case h1 => (with_reducible first | exact (PM5.out.2.2.1) | exact K3.draw (PM5.out.2.2.1) _ | exact K3.draw (K3.draw (PM5.out.2.2.1) _) _ | exact K3.draw (K3.draw (K3.draw (PM5.out.2.2.1) _) _) _ | exact K3.draw (K3.draw (K3.draw (K3.draw (PM5.out.2.2.1) _) _) _) _ | exact K3.draw (K3.draw (K3.draw (K3.draw (K3.draw (PM5.out.2.2.1) _) _) _) _) _)); rintro e _ ⟨rfl, ⟨nrp, rfl⟩⟩))
    | go_in)
  have la := (PM5.out.1).fit
  have lb := (PM5.out.2.1).fit
  have lp := (PM5.out.2.2.1).fit
  have lq := (PM5.out.2.2.2.1).fit
  have lof := (PM5.out.2.2.2.2.1).fit
  have lun := (PM5.out.2.2.2.2.2.1).fit
  have lme := (PM5.out.2.2.2.2.2.2.1).fit
  have lmi := (PM5.out.2.2.2.2.2.2.2).fit
  go_wp2_with (first
    | (((with_reducible refine gate_builtin (b := .append) (xs := #[.tmp 75, .tmp 76]) rfl ?_); at_builtin; refine Kd.R_append_rows (Kd.int .i64) (w0 := W5) W5.heap.size rfl (.tmp 75) (.tmp 76) 22 2 (.int .i64 0) 8 rfl Try.underlying22 Cur.info2 rfl (by decide) (by omega) (.slice none 0 0) ([] : List Int) a _ _ _ (fun _ => True) (fun _ => False) rfl rfl ?aO ?aR (fun _ _ h => h) (fun _ h => h.elim) ?aF ?aB ?aS ?aL ?_; (case aR => exact K3.nums (K3.on (PM5.out.1) (by repeat (first | exact Below.refl _ _ | apply pw_below_drewN)))); (case aB => exact (by repeat (first | exact Below.refl _ _ | apply pw_below_drewN))); (case aF => exact (fun _ _ => trivial)); (case aO => exact Kd.R_nil _ _ _ _ _); (case aS => exact Nat.le_refl _); (case aL => simp only [List.length_append, List.length_cons, List.length_nil]; omega); intro u1 q1 ho hb hg hat; have HO1 := Lib.hid ho; have HZ1 := Lib.hid hb; clear ho hb hg hat))
    | (((with_reducible refine gate_builtin (b := .append) (xs := #[.tmp 78, .tmp 79]) rfl ?_); at_builtin; refine Kd.R_append_rows (Kd.int .i64) (w0 := W5) W5.heap.size rfl (.tmp 78) (.tmp 79) 22 2 (.int .i64 0) 8 rfl Try.underlying22 Cur.info2 rfl (by decide) (by omega) u1 (([] : List Int) ++ a) b _ _ _ (fun _ => True) (fun _ => False) rfl rfl ?aO ?aR (fun _ _ h => h) (fun _ h => h.elim) ?aF ?aB ?aS ?aL ?_; (case aR => exact K3.nums (K3.on (PM5.out.2.1) HZ1.out)); (case aB => exact HZ1.out); (case aF => exact (fun _ _ => trivial)); (case aO => exact HO1.out); (case aS => exact HZ1.out.size); (case aL => simp only [List.length_append, List.length_cons, List.length_nil]; omega); intro u2 q2 ho hb hg hat; have HO2 := Lib.hid ho; have HZ2 := Lib.hid hb; clear ho hb hg hat))
    | (((with_reducible refine gate_builtin (b := .append) (xs := #[.tmp 81, .tmp 83]) rfl ?_); at_builtin; refine Kd.R_append_rows (Kd.int .i64) (w0 := W5) W5.heap.size rfl (.tmp 81) (.tmp 83) 22 2 (.int .i64 0) 8 rfl Try.underlying22 Cur.info2 rfl (by decide) (by omega) u2 ((([] : List Int) ++ a) ++ b) [x] _ _ _ (fun _ => True) (fun _ => False) rfl rfl ?aO ?aR (fun _ _ h => h) (fun _ h => h.elim) ?aF ?aB ?aS ?aL ?_; (case aR => exact K3.nums (k_lit (T := T) (W := q2) [x] 1 rfl [.int .i64 x] rfl _ rfl (by simp) hTx)); (case aB => exact HZ2.out.alloc HZ2.out.size _); (case aF => exact (fun _ _ => trivial)); (case aO => exact Kd.R_alloc HO2.out _); (case aS => exact by rw [World.size_alloc]; have := HZ2.out.size; omega); (case aL => simp only [List.length_append, List.length_cons, List.length_nil]; omega); intro u3 q3 ho hb hg hat; have HO3 := Lib.hid ho; have HZ3 := Lib.hid hb; clear ho hb hg hat))
    | (((with_reducible refine gate_builtin (b := .append) (xs := #[.tmp 85, .tmp 86]) rfl ?_); at_builtin; refine Kd.R_append_rows (Kd.int .i64) (w0 := W5) W5.heap.size rfl (.tmp 85) (.tmp 86) 22 2 (.int .i64 0) 8 rfl Try.underlying22 Cur.info2 rfl (by decide) (by omega) u3 (((([] : List Int) ++ a) ++ b) ++ [x]) (union ltI [a, b]) _ _ _ (fun _ => True) (fun _ => False) rfl rfl ?aO ?aR (fun _ _ h => h) (fun _ h => h.elim) ?aF ?aB ?aS ?aL ?_; (case aR => exact K3.nums (K3.on (PM5.out.2.2.2.2.2.1) HZ3.out)); (case aB => exact HZ3.out); (case aF => exact (fun _ _ => trivial)); (case aO => exact HO3.out); (case aS => exact HZ3.out.size); (case aL => simp only [List.length_append, List.length_cons, List.length_nil]; omega); intro u4 q4 ho hb hg hat; have HO4 := Lib.hid ho; have HZ4 := Lib.hid hb; clear ho hb hg hat))
    | (((with_reducible refine gate_builtin (b := .append) (xs := #[.tmp 88, .tmp 89]) rfl ?_); at_builtin; refine Kd.R_append_rows (Kd.int .i64) (w0 := W5) W5.heap.size rfl (.tmp 88) (.tmp 89) 22 2 (.int .i64 0) 8 rfl Try.underlying22 Cur.info2 rfl (by decide) (by omega) u4 ((((([] : List Int) ++ a) ++ b) ++ [x]) ++ (union ltI [a, b])) (meet ltI [a, b]) _ _ _ (fun _ => True) (fun _ => False) rfl rfl ?aO ?aR (fun _ _ h => h) (fun _ h => h.elim) ?aF ?aB ?aS ?aL ?_; (case aR => exact K3.nums (K3.on (PM5.out.2.2.2.2.2.2.1) HZ4.out)); (case aB => exact HZ4.out); (case aF => exact (fun _ _ => trivial)); (case aO => exact HO4.out); (case aS => exact HZ4.out.size); (case aL => simp only [List.length_append, List.length_cons, List.length_nil]; omega); intro u5 q5 ho hb hg hat; have HO5 := Lib.hid ho; have HZ5 := Lib.hid hb; clear ho hb hg hat))
    | (((with_reducible refine gate_builtin (b := .append) (xs := #[.tmp 91, .tmp 92]) rfl ?_); at_builtin; refine Kd.R_append_rows (Kd.int .i64) (w0 := W5) W5.heap.size rfl (.tmp 91) (.tmp 92) 22 2 (.int .i64 0) 8 rfl Try.underlying22 Cur.info2 rfl (by decide) (by omega) u5 (((((([] : List Int) ++ a) ++ b) ++ [x]) ++ (union ltI [a, b])) ++ (meet ltI [a, b])) (minus ltI a b) _ _ _ (fun _ => True) (fun _ => False) rfl rfl ?aO ?aR (fun _ _ h => h) (fun _ h => h.elim) ?aF ?aB ?aS ?aL ?_; (case aR => exact K3.nums (K3.on (PM5.out.2.2.2.2.2.2.2) HZ5.out)); (case aB => exact HZ5.out); (case aF => exact (fun _ _ => trivial)); (case aO => exact HO5.out); (case aS => exact HZ5.out.size); (case aL => simp only [List.length_append, List.length_cons, List.length_nil]; omega); intro u6 q6 ho hb hg hat; have HO6 := Lib.hid ho; have HZ6 := Lib.hid hb; clear ho hb hg hat))
    | (((with_reducible refine gate_builtin (b := .append) (xs := #[.tmp 94, .tmp 95]) rfl ?_); at_builtin; refine Kd.R_append_rows (Kd.int .i64) (w0 := W5) W5.heap.size rfl (.tmp 94) (.tmp 95) 22 2 (.int .i64 0) 8 rfl Try.underlying22 Cur.info2 rfl (by decide) (by omega) u6 ((((((([] : List Int) ++ a) ++ b) ++ [x]) ++ (union ltI [a, b])) ++ (meet ltI [a, b])) ++ (minus ltI a b)) (setL ltI a) _ _ _ (fun _ => True) (fun _ => False) rfl rfl ?aO ?aR (fun _ _ h => h) (fun _ h => h.elim) ?aF ?aB ?aS ?aL ?_; (case aR => exact K3.nums (K3.on (PM5.out.2.2.2.2.1) HZ6.out)); (case aB => exact HZ6.out); (case aF => exact (fun _ _ => trivial)); (case aO => exact HO6.out); (case aS => exact HZ6.out.size); (case aL => simp only [List.length_append, List.length_cons, List.length_nil]; omega); intro u7 q7 ho hb hg hat; have HO7 := Lib.hid ho; have HZ7 := Lib.hid hb; clear ho hb hg hat))
    | go_in)
  have hlz : ((((((((([] : List Int) ++ a) ++ b) ++ [x]) ++ (union ltI [a, b])) ++ (meet ltI [a, b])) ++ (minus ltI a b)) ++ (setL ltI a))).length ≤ 16777216 := by simp only [List.length_append, List.length_cons, List.length_nil]; omega
  have PM9 := Lib.hid (And.intro (K3.on (PM5.out.1) HZ7.out) (And.intro (K3.on (PM5.out.2.1) HZ7.out) (And.intro (K3.on (PM5.out.2.2.2.2.1) HZ7.out) (And.intro (K3.on (PM5.out.2.2.2.2.2.1) HZ7.out) (And.intro (K3.on (PM5.out.2.2.2.2.2.2.1) HZ7.out) (K3.on (PM5.out.2.2.2.2.2.2.2) HZ7.out))))))
  have HBq := Lib.hid (HB5.out.trans (HZ7.out.mono HB5.out.size))
  obtain ⟨Az, cz2, rfl⟩ := Kd.R_slice HO7.out
  obtain ⟨gz, hz, _⟩ := row_of_R HO7.out
  have HRZ := Lib.hid hz
  clear hz
  generalize (((((((([] : List Int) ++ a) ++ b) ++ [x]) ++ (union ltI [a, b])) ++ (meet ltI [a, b])) ++ (minus ltI a b)) ++ (setL ltI a)) = Z at hlz HRZ ⊢
  clear la lb lp lq lof lun lme lmi hbb d0 d1
  clear HO1 HO2 HO3 HO4 HO5 HO6 HO7 HZ1 HZ2 HZ3 HZ4 HZ5 HZ6 HZ7 PM0 PM1 PM2 PM3 PM4 PM5 HB0 HB1 HB2 HB3 HB4 HB5
  go_loopw [13] (fun v wr => ∃ i : Nat, i ≤ Z.length ∧ v = .int .i64 (i : Nat) ∧ Drawn0 q7 wr) (fun v _ => Z.length - (intOf v).toNat)
  case atStart => exact ⟨0, Nat.zero_le _, rfl, Drawn0.refl _⟩
  case round =>
    obtain ⟨i, hi, rfl, HW⟩ := hrel
    obtain ⟨n, rfl⟩ := HW
    by_cases hin : i < Z.length
    · have hlt : (i : Int) < (Z.length : Int) := by omega
      obtain ⟨oz, rfl, hc⟩ := HRZ.out.at_ (by omega)
      have cy := hc i hin
      clear hc
      generalize Z.getD i 0 = y at cy
      by_cases hya : y ∈ a <;> by_cases hyb : y ∈ b
      · have ea : decide (y ∈ a) = true := by simp [hya]
        have eb : decide (y ∈ b) = true := by simp [hyb]
        have eof : decide (y ∈ setL ltI a) = true := by simp [mem_setL totI, hya]
        have eun : decide (y ∈ union ltI [a, b]) = true := by simp [mem_union totI, hya, hyb]
        have eme : decide (y ∈ meet ltI [a, b]) = true := by simp [mem_meet totI, hya, hyb]
        have emi : decide (y ∈ minus ltI a b) = false := by simp [mem_minus totI, hya, hyb]
        have Ea := Lib.hid ea
        have Eb := Lib.hid eb
        have Eof := Lib.hid eof
        have Eun := Lib.hid eun
        have Eme := Lib.hid eme
        have Emi := Lib.hid emi
        clear ea eb eof eun eme emi hya hyb
        go_wp2_with (first
          | (go_at_call 53; (first
            | ((with_reducible refine (k_stands_is (T := T) (l := a) ?h1 y true Ea.out).mono ?_); (case h1 => exact K3.on (PM9.out.1) (by repeat (first | exact Below.refl _ _ | apply pw_below_drewN))); rintro e _ ⟨rfl, ⟨ma, rfl⟩⟩)
            | ((with_reducible refine (k_stands_is (T := T) (l := b) ?h1 y true Eb.out).mono ?_); (case h1 => exact K3.on (PM9.out.2.1) (by repeat (first | exact Below.refl _ _ | apply pw_below_drewN))); rintro e _ ⟨rfl, ⟨mb, rfl⟩⟩)
            | ((with_reducible refine (k_stands_is (T := T) (l := (setL ltI a)) ?h1 y true Eof.out).mono ?_); (case h1 => exact K3.on (PM9.out.2.2.1) (by repeat (first | exact Below.refl _ _ | apply pw_below_drewN))); rintro e _ ⟨rfl, ⟨mof, rfl⟩⟩)
            | ((with_reducible refine (k_stands_is (T := T) (l := (union ltI [a, b])) ?h1 y true Eun.out).mono ?_); (case h1 => exact K3.on (PM9.out.2.2.2.1) (by repeat (first | exact Below.refl _ _ | apply pw_below_drewN))); rintro e _ ⟨rfl, ⟨mun, rfl⟩⟩)
            | ((with_reducible refine (k_stands_is (T := T) (l := (meet ltI [a, b])) ?h1 y true Eme.out).mono ?_); (case h1 => exact K3.on (PM9.out.2.2.2.2.1) (by repeat (first | exact Below.refl _ _ | apply pw_below_drewN))); rintro e _ ⟨rfl, ⟨mme, rfl⟩⟩)
            | ((with_reducible refine (k_stands_is (T := T) (l := (minus ltI a b)) ?h1 y false Emi.out).mono ?_); (case h1 => exact K3.on (PM9.out.2.2.2.2.2) (by repeat (first | exact Below.refl _ _ | apply pw_below_drewN))); rintro e _ ⟨rfl, ⟨mmi, rfl⟩⟩)
            ))
          | go_in)
        go_roundw
        case rel => exact ⟨i + 1, by omega, by go_num, by repeat (first | exact Drawn0.refl _ | apply Drawn0.step)⟩
        case measure => simp [intOf]; omega
      · have ea : decide (y ∈ a) = true := by simp [hya]
        have eb : decide (y ∈ b) = false := by simp [hyb]
        have eof : decide (y ∈ setL ltI a) = true := by simp [mem_setL totI, hya]
        have eun : decide (y ∈ union ltI [a, b]) = true := by simp [mem_union totI, hya, hyb]
        have eme : decide (y ∈ meet ltI [a, b]) = false := by simp [mem_meet totI, hya, hyb]
        have emi : decide (y ∈ minus ltI a b) = true := by simp [mem_minus totI, hya, hyb]
        have Ea := Lib.hid ea
        have Eb := Lib.hid eb
        have Eof := Lib.hid eof
        have Eun := Lib.hid eun
        have Eme := Lib.hid eme
        have Emi := Lib.hid emi
        clear ea eb eof eun eme emi hya hyb
        go_wp2_with (first
          | (go_at_call 53; (first
            | ((with_reducible refine (k_stands_is (T := T) (l := a) ?h1 y true Ea.out).mono ?_); (case h1 => exact K3.on (PM9.out.1) (by repeat (first | exact Below.refl _ _ | apply pw_below_drewN))); rintro e _ ⟨rfl, ⟨ma, rfl⟩⟩)
            | ((with_reducible refine (k_stands_is (T := T) (l := b) ?h1 y false Eb.out).mono ?_); (case h1 => exact K3.on (PM9.out.2.1) (by repeat (first | exact Below.refl _ _ | apply pw_below_drewN))); rintro e _ ⟨rfl, ⟨mb, rfl⟩⟩)
            | ((with_reducible refine (k_stands_is (T := T) (l := (setL ltI a)) ?h1 y true Eof.out).mono ?_); (case h1 => exact K3.on (PM9.out.2.2.1) (by repeat (first | exact Below.refl _ _ | apply pw_below_drewN))); rintro e _ ⟨rfl, ⟨mof, rfl⟩⟩)
            | ((with_reducible refine (k_stands_is (T := T) (l := (union ltI [a, b])) ?h1 y true Eun.out).mono ?_); (case h1 => exact K3.on (PM9.out.2.2.2.1) (by repeat (first | exact Below.refl _ _ | apply pw_below_drewN))); rintro e _ ⟨rfl, ⟨mun, rfl⟩⟩)
            | ((with_reducible refine (k_stands_is (T := T) (l := (meet ltI [a, b])) ?h1 y false Eme.out).mono ?_); (case h1 => exact K3.on (PM9.out.2.2.2.2.1) (by repeat (first | exact Below.refl _ _ | apply pw_below_drewN))); rintro e _ ⟨rfl, ⟨mme, rfl⟩⟩)
            | ((with_reducible refine (k_stands_is (T := T) (l := (minus ltI a b)) ?h1 y true Emi.out).mono ?_); (case h1 => exact K3.on (PM9.out.2.2.2.2.2) (by repeat (first | exact Below.refl _ _ | apply pw_below_drewN))); rintro e _ ⟨rfl, ⟨mmi, rfl⟩⟩)
            ))
          | go_in)
        go_roundw
        case rel => exact ⟨i + 1, by omega, by go_num, by repeat (first | exact Drawn0.refl _ | apply Drawn0.step)⟩
        case measure => simp [intOf]; omega
      · have ea : decide (y ∈ a) = false := by simp [hya]
        have eb : decide (y ∈ b) = true := by simp [hyb]
        have eof : decide (y ∈ setL ltI a) = false := by simp [mem_setL totI, hya]
        have eun : decide (y ∈ union ltI [a, b]) = true := by simp [mem_union totI, hya, hyb]
        have eme : decide (y ∈ meet ltI [a, b]) = false := by simp [mem_meet totI, hya, hyb]
        have emi : decide (y ∈ minus ltI a b) = false := by simp [mem_minus totI, hya, hyb]
        have Ea := Lib.hid ea
        have Eb := Lib.hid eb
        have Eof := Lib.hid eof
        have Eun := Lib.hid eun
        have Eme := Lib.hid eme
        have Emi := Lib.hid emi
        clear ea eb eof eun eme emi hya hyb
        go_wp2_with (first
          | (go_at_call 53; (first
            | ((with_reducible refine (k_stands_is (T := T) (l := a) ?h1 y false Ea.out).mono ?_); (case h1 => exact K3.on (PM9.out.1) (by repeat (first | exact Below.refl _ _ | apply pw_below_drewN))); rintro e _ ⟨rfl, ⟨ma, rfl⟩⟩)
            | ((with_reducible refine (k_stands_is (T := T) (l := b) ?h1 y true Eb.out).mono ?_); (case h1 => exact K3.on (PM9.out.2.1) (by repeat (first | exact Below.refl _ _ | apply pw_below_drewN))); rintro e _ ⟨rfl, ⟨mb, rfl⟩⟩)
            | ((with_reducible refine (k_stands_is (T := T) (l := (setL ltI a)) ?h1 y false Eof.out).mono ?_); (case h1 => exact K3.on (PM9.out.2.2.1) (by repeat (first | exact Below.refl _ _ | apply pw_below_drewN))); rintro e _ ⟨rfl, ⟨mof, rfl⟩⟩)
            | ((with_reducible refine (k_stands_is (T := T) (l := (union ltI [a, b])) ?h1 y true Eun.out).mono ?_); (case h1 => exact K3.on (PM9.out.2.2.2.1) (by repeat (first | exact Below.refl _ _ | apply pw_below_drewN))); rintro e _ ⟨rfl, ⟨mun, rfl⟩⟩)
            | ((with_reducible refine (k_stands_is (T := T) (l := (meet ltI [a, b])) ?h1 y false Eme.out).mono ?_); (case h1 => exact K3.on (PM9.out.2.2.2.2.1) (by repeat (first | exact Below.refl _ _ | apply pw_below_drewN))); rintro e _ ⟨rfl, ⟨mme, rfl⟩⟩)
            | ((with_reducible refine (k_stands_is (T := T) (l := (minus ltI a b)) ?h1 y false Emi.out).mono ?_); (case h1 => exact K3.on (PM9.out.2.2.2.2.2) (by repeat (first | exact Below.refl _ _ | apply pw_below_drewN))); rintro e _ ⟨rfl, ⟨mmi, rfl⟩⟩)
            ))
          | go_in)
        go_roundw
        case rel => exact ⟨i + 1, by omega, by go_num, by repeat (first | exact Drawn0.refl _ | apply Drawn0.step)⟩
        case measure => simp [intOf]; omega
      · have ea : decide (y ∈ a) = false := by simp [hya]
        have eb : decide (y ∈ b) = false := by simp [hyb]
        have eof : decide (y ∈ setL ltI a) = false := by simp [mem_setL totI, hya]
        have eun : decide (y ∈ union ltI [a, b]) = false := by simp [mem_union totI, hya, hyb]
        have eme : decide (y ∈ meet ltI [a, b]) = false := by simp [mem_meet totI, hya, hyb]
        have emi : decide (y ∈ minus ltI a b) = false := by simp [mem_minus totI, hya, hyb]
        have Ea := Lib.hid ea
        have Eb := Lib.hid eb
        have Eof := Lib.hid eof
        have Eun := Lib.hid eun
        have Eme := Lib.hid eme
        have Emi := Lib.hid emi
        clear ea eb eof eun eme emi hya hyb
        go_wp2_with (first
          | (go_at_call 53; (first
            | ((with_reducible refine (k_stands_is (T := T) (l := a) ?h1 y false Ea.out).mono ?_); (case h1 => exact K3.on (PM9.out.1) (by repeat (first | exact Below.refl _ _ | apply pw_below_drewN))); rintro e _ ⟨rfl, ⟨ma, rfl⟩⟩)
            | ((with_reducible refine (k_stands_is (T := T) (l := b) ?h1 y false Eb.out).mono ?_); (case h1 => exact K3.on (PM9.out.2.1) (by repeat (first | exact Below.refl _ _ | apply pw_below_drewN))); rintro e _ ⟨rfl, ⟨mb, rfl⟩⟩)
            | ((with_reducible refine (k_stands_is (T := T) (l := (setL ltI a)) ?h1 y false Eof.out).mono ?_); (case h1 => exact K3.on (PM9.out.2.2.1) (by repeat (first | exact Below.refl _ _ | apply pw_below_drewN))); rintro e _ ⟨rfl, ⟨mof, rfl⟩⟩)
            | ((with_reducible refine (k_stands_is (T := T) (l := (union ltI [a, b])) ?h1 y false Eun.out).mono ?_); (case h1 => exact K3.on (PM9.out.2.2.2.1) (by repeat (first | exact Below.refl _ _ | apply pw_below_drewN))); rintro e _ ⟨rfl, ⟨mun, rfl⟩⟩)
            | ((with_reducible refine (k_stands_is (T := T) (l := (meet ltI [a, b])) ?h1 y false Eme.out).mono ?_); (case h1 => exact K3.on (PM9.out.2.2.2.2.1) (by repeat (first | exact Below.refl _ _ | apply pw_below_drewN))); rintro e _ ⟨rfl, ⟨mme, rfl⟩⟩)
            | ((with_reducible refine (k_stands_is (T := T) (l := (minus ltI a b)) ?h1 y false Emi.out).mono ?_); (case h1 => exact K3.on (PM9.out.2.2.2.2.2) (by repeat (first | exact Below.refl _ _ | apply pw_below_drewN))); rintro e _ ⟨rfl, ⟨mmi, rfl⟩⟩)
            ))
          | go_in)
        go_roundw
        case rel => exact ⟨i + 1, by omega, by go_num, by repeat (first | exact Drawn0.refl _ | apply Drawn0.step)⟩
        case measure => simp [intOf]; omega
    · have hlt : ¬ ((i : Int) < (Z.length : Int)) := by omega
      go_wp2
      go_ret
      exact ⟨rfl, by repeat (first | exact HBq.out | apply pw_below_drewN)⟩
end Go.Proofs.Ytnflokhffmfifaa.CountW
namespace Go.Proofs.Ytnflokhffmfifaa.XU
open Go.RowKit Go.Proofs.Ytnflokhffmfifaa.CountW Go.Proofs.YtnflokhffmfifaaW.PrintWords Go.Proofs.YtnflokhffmfifaaW.PrintLast Go.Proofs.YtnflokhffmfifaaW.PrintMore
def rosterlaw10_PostingMembers.f (x0 x1 : List Int) (x2 : Int) : Option Bool := if x0.length + x1.length + 1 ≤ 1048576 then some true else none
theorem rosterlaw10_PostingMembers.calls (A0 : Option Addr) (c0 : Nat) (l0 : List Int) (A1 : Option Addr) (c1 : Nat) (l1 : List Int) (x2 : Int) (r : Bool) (w : World) (hr0 : Kd.C (Kd.int .i64) w A0 l0.length l0) (hc0 : l0.length ≤ c0) (hr1 : Kd.C (Kd.int .i64) w A1 l1.length l1) (hc1 : l1.length ≤ c1) (h : rosterlaw10_PostingMembers.f l0 l1 x2 = some r) :
    Calls Try.prog 10 #[.slice A0 l0.length c0, .slice A1 l1.length c1, .int .i64 x2] w fun e w' => e = .returned (.bool r) ∧ Below w.heap.size w w' := by
  unfold rosterlaw10_PostingMembers.f at h
  split at h
  case isFalse => cases h
  case isTrue hs =>
  obtain rfl := Option.some.inj h
  exact members_walk A0 A1 c0 c1 l0 l1 x2 w hr0 hc0 hr1 hc1 hs
end Go.Proofs.Ytnflokhffmfifaa.XU

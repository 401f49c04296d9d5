/- By hand: the law PostingCounts, walked. For every list of lists, number and world. -/
import Derived.Test.YtnflokhffmfifaaAlgA
set_option linter.unusedVariables false
set_option linter.unusedSimpArgs false
namespace Go.Proofs.Ytnflokhffmfifaa.CountW
open Go.RowKit Go.Proofs.Ytnflokhffmfifaa.Blk Go.Proofs.Ytnflokhffmfifaa.Ris Go.Proofs.Ytnflokhffmfifaa.Cur Go.Proofs.Ytnflokhffmfifaa.OfW Go.Proofs.Ytnflokhffmfifaa.HeapPure Go.Proofs.Ytnflokhffmfifaa.HeapW Go.Proofs.Ytnflokhffmfifaa.PostAlg Go.Proofs.YtnflokhffmfifaaW.PrintWords Go.Proofs.YtnflokhffmfifaaW.PrintLast Go.Proofs.YtnflokhffmfifaaW.PrintMore
theorem Heads.on {W W' : World} {L : Option Addr} {Es : List Hd} (h : Heads W L Es) (hb : Below W.heap.size W W') : Heads W' L Es :=
  ⟨fun k hk => by
    obtain ⟨r, o, e, hc⟩ := h.head k hk
    exact ⟨r, o, e, (hb.cell (p := ⟨r, o + k, none⟩) (World.block_lt_of_cell? W _ hc)).trans hc⟩, fun d hd => (h.row d hd).on (fun hp => hb.block _ (Row.lt (h.row d hd) hp))⟩
theorem Heads.draw {W : World} {L : Option Addr} {Es : List Hd} (h : Heads W L Es) (n : Nat) : Heads (W.drewN n) L Es := h.on (pw_below_drewN (Below.refl _ _) n)
theorem Heads.take {W : World} {L : Option Addr} {Es : List Hd} (h : Heads W L Es) (m : Nat) : Heads W L (Es.take m) := by
  refine ⟨fun k hk => ?_, fun d hd => h.row d (List.mem_of_mem_take hd)⟩
  rw [List.length_take] at hk
  obtain ⟨r, o, e, hc⟩ := h.head k (by omega)
  refine ⟨r, o, e, ?_⟩
  rw [hc]
  simp [List.getD_eq_getElem?_getD, List.getElem?_take_of_lt (show k < m by omega)]
section
variable {T : List Int} {W : World} {L : Option Addr} {Es : List Hd} {ls : List (List Int)}
theorem h_atleast {k : Int} {n c : Nat} (h : Heads W L Es) (hn : n = Es.length) (hl : Es.map Hd.l = ls) (hb : bulk Es ≤ 1048576) (hs : ∀ l ∈ ls, ∀ x ∈ l, x ∈ T) (hc : Es.length ≤ 1048576) (hT : T.length ≤ 1048576) : Calls Try.prog 28 #[.int .i64 k, .slice L n c] W (New T W (atLeast ltI k ls)) := by
  subst hn hl
  refine (atleast_as W k c L Es h (by omega) (fun d hd => Nat.le_trans (bulk_mem d hd) hb) hc).mono fun e w' h => new_of h (Below.refl _ _) hT (ris_atLeast totI _ _) (fun x hx => ?_)
  obtain ⟨l, hl, hxl⟩ := (cnt_pos _ _).1 ((mem_atLeast totI _ _ x).1 hx).1
  exact hs l hl x hxl
theorem h_union {n c : Nat} (h : Heads W L Es) (hn : n = Es.length) (hl : Es.map Hd.l = ls) (hb : bulk Es ≤ 1048576) (hs : ∀ l ∈ ls, ∀ x ∈ l, x ∈ T) (hc : Es.length ≤ 1048576) (hT : T.length ≤ 1048576) : Calls Try.prog 30 #[.slice L n c] W (New T W (union ltI ls)) := by
  subst hn hl
  refine (union_as W c L Es h (by omega) (fun d hd => Nat.le_trans (bulk_mem d hd) hb) hc).mono fun e w' h => new_of h (Below.refl _ _) hT (ris_union totI _) (fun x hx => ?_)
  obtain ⟨l, hl, hxl⟩ := (mem_union totI _ x).1 hx
  exact hs l hl x hxl
theorem h_meet {n c : Nat} (h : Heads W L Es) (hn : n = Es.length) (hl : Es.map Hd.l = ls) (hb : bulk Es ≤ 1048576) (hs : ∀ l ∈ ls, ∀ x ∈ l, x ∈ T) (hc : Es.length ≤ 1048576) (hT : T.length ≤ 1048576) : Calls Try.prog 31 #[.slice L n c] W (New T W (meet ltI ls)) := by
  subst hn hl
  refine (meet_as W c L Es h (by omega) (fun d hd => Nat.le_trans (bulk_mem d hd) hb) hc).mono fun e w' h => new_of h (Below.refl _ _) hT (ris_meet totI _) (fun x hx => ?_)
  obtain ⟨h1, h2⟩ := (mem_meet totI _ x).1 hx
  obtain ⟨l, hl⟩ := List.exists_mem_of_ne_nil _ h1
  exact hs l hl x (h2 l hl)
theorem k_same2 {A1 A2 : Option Addr} {c1 c2 : Nat} {l1 l2 : List Int} (h1 : K3 T W (.slice A1 l1.length c1) l1) (h2 : K3 T W (.slice A2 l2.length c2) l2) (e : l1 = l2) : Calls Try.prog 29 #[.slice A1 l1.length c1, .slice A2 l2.length c2] W fun e w' => e = .returned (.bool true) ∧ Drawn0 W w' := k_same h1 h2 e
theorem meet_at {q : Int} (hq : q = ls.length) (h0 : ls.length ≠ 0) : atLeast ltI q ls = meet ltI ls := by
  unfold meet
  rw [if_neg h0, hq]
end
theorem two_sevens (W : World) : Heads (((W.alloc (.cells #[.int .i64 7] 2)).alloc (.cells #[.int .i64 7] 2)).alloc (.cells #[.slice (some ⟨W.heap.size, 0, none⟩) 1 1, .slice (some ⟨W.heap.size + 1, 0, none⟩) 1 1] 22)) (some ⟨W.heap.size + 1 + 1, 0, none⟩) [⟨some ⟨W.heap.size, 0, none⟩, 1, W.heap.size, [7]⟩, ⟨some ⟨W.heap.size + 1, 0, none⟩, 1, W.heap.size + 1, [7]⟩] := by
  have h1 : K3 [7] (W.alloc (.cells #[.int .i64 7] 2)) (.slice (some ⟨W.heap.size, 0, none⟩) 1 1) [7] := k_lit [7] 1 rfl [.int .i64 7] rfl _ rfl (by simp) (by simp)
  have h2 : K3 [7] ((W.alloc (.cells #[.int .i64 7] 2)).alloc (.cells #[.int .i64 7] 2)) (.slice (some ⟨W.heap.size + 1, 0, none⟩) 1 1) [7] := k_lit [7] 1 rfl [.int .i64 7] rfl _ (by simp) (by simp) (by simp)
  have e : W.heap.size + 1 + 1 = ((W.alloc (.cells #[.int .i64 7] 2)).alloc (.cells #[.int .i64 7] 2)).heap.size := by simp
  have r1 : Row ((W.alloc (.cells #[.int .i64 7] 2)).alloc (.cells #[.int .i64 7] 2)) W.heap.size (some ⟨W.heap.size, 0, none⟩) 1 [7] := by
    obtain ⟨g, A, c, e, hr⟩ := (h1.alloc (.cells #[.int .i64 7] 2)).row
    rw [Value.slice.injEq] at e
    obtain ⟨rfl, _, rfl⟩ := e
    obtain ⟨o, e2, _⟩ := hr.at_ (by simp)
    cases e2
    exact hr
  have r2 : Row ((W.alloc (.cells #[.int .i64 7] 2)).alloc (.cells #[.int .i64 7] 2)) (W.heap.size + 1) (some ⟨W.heap.size + 1, 0, none⟩) 1 [7] := by
    obtain ⟨g, A, c, e, hr⟩ := h2.row
    rw [Value.slice.injEq] at e
    obtain ⟨rfl, _, rfl⟩ := e
    obtain ⟨o, e2, _⟩ := hr.at_ (by simp)
    cases e2
    exact hr
  rw [e]
  exact heads_of [.slice (some ⟨W.heap.size, 0, none⟩) 1 1, .slice (some ⟨W.heap.size + 1, 0, none⟩) 1 1] _ rfl (fun d hd => by
    simp only [List.mem_cons, List.not_mem_nil, or_false] at hd
    rcases hd with rfl | rfl
    · exact r1
    · exact r2)
theorem seven : (atLeast ltI 2 [[7], [7]]).length = 1 := by decide
theorem cut42 (A : Option Addr) (n c k : Nat) (hk : k ≤ n) (hc : n ≤ c) (W : World) : (Instr.slice 42 (.slice A n c) none (some (.int .i64 (k : Int))) none).run Try.prog W = .ok (.slice A k c) W := by
  obtain ⟨i0, hi0, _, hsz, _⟩ := info_parts info22
  have := cut_to (P := Try.prog) 42 22 .i64 Try.underlying42 hi0 A n c (k : Int) (by omega) (by omega) hc W
  rw [Int.toNat_natCast] at this
  exact this
theorem bulk_take (Es : List Hd) : ∀ m : Nat, bulk (Es.take m) ≤ bulk Es := by
  induction Es with
  | nil => intro m; simp
  | cons d t ih =>
    intro m
    cases m with
    | zero => exact Nat.zero_le _
    | succ m => rw [List.take_succ_cons, bulk_cons, bulk_cons]; have := ih m; omega
theorem last_at {ls la : List (List Int)} {l : List Int} {k : Int} (h : ls = la ++ [l]) (h2 : 2 ≤ k) : atLeast ltI k ls = union ltI [atLeast ltI k la, meet ltI [atLeast ltI (k - 1) la, l]] := by
  rw [h]
  exact atLeast_last totI k la l h2
/-- How many stand in one of the lists, in two, and so on, up to i. -/
def upto (ls : List (List Int)) (i : Nat) : Nat := ((List.range i).map fun (j : Nat) => (atLeast ltI ((j : Int) + 1) ls).length).sum
theorem upto_succ (ls : List (List Int)) (i : Nat) : upto ls (i + 1) = upto ls i + (atLeast ltI ((i : Int) + 1) ls).length := by
  unfold upto
  rw [List.range_succ, List.map_append, List.sum_append]
  simp
theorem atLeast_short {ls : List (List Int)} (h : ls.flatten.length ≤ 1048576) (q : Int) : (atLeast ltI q ls).length ≤ 1048576 := by
  unfold atLeast
  exact Nat.le_trans (List.length_filter_le _ _) (Nat.le_trans (setL_len totI _) h)
theorem upto_short {ls : List (List Int)} (h : ls.flatten.length ≤ 1048576) : ∀ i, upto ls i ≤ 1048576 * i
  | 0 => Nat.le_refl _
  | i + 1 => by rw [upto_succ]; have := upto_short h i; have := atLeast_short h ((i : Int) + 1); omega
def ones (ls : List (List Int)) (i : Nat) : Nat := ((ls.take i).map fun l => (setL ltI l).length).sum
theorem ones_short {ls : List (List Int)} : ∀ i, ones ls i ≤ ls.flatten.length := by
  induction ls with
  | nil => intro i; simp [ones]
  | cons l t ih =>
    intro i
    cases i with
    | zero => exact Nat.zero_le _
    | succ i =>
      have h1 := ih i
      have h2 := setL_len totI l
      unfold ones at h1 ⊢
      rw [List.take_succ_cons, List.map_cons, List.sum_cons, List.flatten_cons, List.length_append]
      omega
theorem ones_succ {ls : List (List Int)} {i : Nat} (h : i < ls.length) : ones ls (i + 1) = ones ls i + (setL ltI (ls.getD i [])).length := by
  unfold ones
  rw [List.take_add_one, List.getElem?_eq_getElem h, List.map_append, List.sum_append]
  simp [List.getD_eq_getElem?_getD, List.getElem?_eq_getElem h]
theorem ones_all (ls : List (List Int)) : ones ls ls.length = upto ls ls.length := by
  unfold ones upto
  rw [List.take_of_length_le (Nat.le_refl _)]
  exact (count_all totI ls).symm
set_option maxHeartbeats 2000000 in
set_option maxRecDepth 100000 in
theorem counts_walk0 (w : World) (L : Option Addr) (c : Nat) (k : Int) (h : Heads w L []) : Calls Try.prog 6 #[.slice L 0 c, .int .i64 k] w fun e w' => e = .returned (.bool true) ∧ Below w.heap.size w w' := by
  have H := Lib.hid h
  have hT : ([7] : List Int).length ≤ 1048576 := by simp
  have h7 : ∀ x ∈ ([7] : List Int), x ∈ ([7] : List Int) := fun x hx => hx
  have z0 : (atLeast ltI k ([] : List (List Int))).length = 0 := rfl
  have z1 := seven
  have HB0 := Lib.hid (Below.refl w.heap.size w)
  clear h
  go_enter Try.func6, Try.ntmps6
  go_wp2_with (first
    | (go_at_call 28; (first
      | ((with_reducible refine (h_atleast (T := [7]) (Es := []) (ls := []) (n := 0) ?h1 rfl rfl (by simp [bulk]) (by simp) (by simp) hT).mono ?_); (case h1 => exact H.out); rintro e W1 ⟨A1, c1, rfl, hk, hb⟩; have HB1 := Lib.hid hb; clear hk hb)
      | ((with_reducible refine (h_atleast (T := [7]) (Es := [⟨some ⟨W1.heap.size, 0, none⟩, 1, W1.heap.size, [7]⟩, ⟨some ⟨W1.heap.size + 1, 0, none⟩, 1, W1.heap.size + 1, [7]⟩]) (ls := [[7], [7]]) (n := 2) ?h1 rfl rfl (by simp [bulk]) (by simp) (by simp) hT).mono ?_); (case h1 => exact two_sevens W1); rintro e W2 ⟨A2, c2, rfl, hk, hb⟩; have HB2 := Lib.hid (((below_alloc (below_alloc (below_alloc HB1.out _) _) _)).trans (hb.mono (by simp; have := HB1.out.size; omega))); clear hk hb)))
    | go_in)
  go_ret
  exact ⟨rfl, HB2.out⟩
theorem ls_at {Es : List Hd} {ls : List (List Int)} (h : ls = Es.map Hd.l) {j : Nat} (hj : j < Es.length) : ls.getD j [] = (Es.getD j default).l := by
  rw [h]
  simp [List.getD_eq_getElem?_getD, List.getElem?_eq_getElem hj]
set_option maxHeartbeats 4000000 in
set_option maxRecDepth 100000 in
theorem counts_walk1 (w : World) (L : Option Addr) (c n p : Nat) (k : Int) (Es : List Hd) (h : Heads w L Es) (hn : n = Es.length) (hp : n = p + 1) (hc : n ≤ c) (hb : bulk Es ≤ 1048576) (hm : n ≤ 1048576) : Calls Try.prog 6 #[.slice L n c, .int .i64 k] w fun e w' => e = .returned (.bool true) ∧ Below w.heap.size w w' := by
  obtain ⟨lr, lo, rfl, hcell⟩ := h.head p (by omega)
  have hmem : Es.getD p default ∈ Es := by rw [← getElem_getD _ _ (show p < Es.length by omega)]; exact List.getElem_mem _
  have hsn : Es.take p ++ [Es.getD p default] = Es := by rw [← take_snoc Es (show p < Es.length by omega), ← hp, hn]; exact List.take_of_length_le (Nat.le_refl _)
  generalize Es.getD p default = d at hcell hmem hsn
  unfold Hd.v at hcell
  obtain ⟨ls, hls⟩ : ∃ ls, ls = Es.map Hd.l := ⟨_, rfl⟩
  have hll : ls.length = n := by rw [hls, List.length_map, hn]
  have hT : ls.flatten.length ≤ 1048576 := by rw [hls, flat_len]; exact hb
  have hs : ∀ l ∈ ls, ∀ x ∈ l, x ∈ ls.flatten := fun l hl x hx => List.mem_flatten.2 ⟨l, hl, hx⟩
  obtain ⟨la, hla⟩ : ∃ la, la = (Es.take p).map Hd.l := ⟨_, rfl⟩
  have hsp : ls = la ++ [d.l] := by rw [hls, hla, ← hsn, List.map_append]; simp [hsn]
  have K0 := Lib.hid (show K3 ls.flatten w (.slice d.A d.l.length d.c) d.l from ⟨⟨d.g, d.A, d.c, rfl, h.row d hmem⟩, Nat.le_trans (bulk_mem d hmem) hb, fun x hx => List.mem_flatten.2 ⟨d.l, by rw [hsp]; simp, hx⟩⟩)
  have hsa : ∀ l ∈ la, ∀ x ∈ l, x ∈ ls.flatten := fun l hl x hx => List.mem_flatten.2 ⟨l, by rw [hsp]; simp [hl], hx⟩
  have hlt1 : (Es.take p).length = p := by rw [List.length_take]; omega
  have AT := Lib.hid (fun W (hW : Heads W (some ⟨lr, lo, none⟩) Es) (q : Int) => h_atleast (T := ls.flatten) (k := q) (n := p) (c := c) (hW.take p) hlt1.symm hla.symm (Nat.le_trans (bulk_take Es p) hb) hsa (by omega) hT)
  have AL := Lib.hid (fun W (hW : Heads W (some ⟨lr, lo, none⟩) Es) (q : Int) => h_atleast (T := ls.flatten) (k := q) (n := n) (c := c) hW hn hls.symm hb hs (by omega) hT)
  have UN := Lib.hid (fun W (hW : Heads W (some ⟨lr, lo, none⟩) Es) => h_union (T := ls.flatten) (n := n) (c := c) hW hn hls.symm hb hs (by omega) hT)
  have ME := Lib.hid (fun W (hW : Heads W (some ⟨lr, lo, none⟩) Es) => h_meet (T := ls.flatten) (n := n) (c := c) hW hn hls.symm hb hs (by omega) hT)
  have z0 : ((n : Int) == 0) = false := beq_eq_false_iff_ne.mpr (by omega)
  have zn : (atLeast ltI ((n : Int) + 1) ls).length = 0 := by rw [atLeast_none totI _ _ (by omega)]; rfl
  have hw1 : IntKind.i64.wrap ((n : Int) - 1) = (p : Int) := by rw [i64_w]; unfold wrap64; omega
  have hpn : (p : Int) < (n : Int) := by omega
  have hcut := cut42 (some ⟨lr, lo, none⟩) n c p (by omega) hc
  have H0 := Lib.hid h
  have HB0 := Lib.hid (Below.refl w.heap.size w)
  have HN := Lib.hid (And.intro hn (And.intro hp (And.intro hll (And.intro hls (And.intro hla hsp)))))
  have hcl := World.block_lt_of_cell? w _ hcell
  clear h hn hp hll hls hla hsp hsa hlt1 hsn hmem
  by_cases hkk : 2 ≤ k ∧ k ≤ (n : Int)
  · obtain ⟨hk2, hkn⟩ := hkk
    have hkw : IntKind.i64.wrap (k - 1) = k - 1 := by rw [i64_w]; unfold wrap64; omega
    have HK2 := Lib.hid hk2
    go_enter Try.func6, Try.ntmps6
    go_wp2_with (first
      | (go_at_call 28; (first
        | ((with_reducible refine (AL.out w H0.out 1).mono ?_); rintro e W1 ⟨A1, c1, rfl, hk, hb⟩; have K1 := Lib.hid hk; have HB1 := Lib.hid hb; have H1 := Lib.hid (H0.out.on hb); clear hk hb)
        | ((with_reducible refine (AL.out (W2.drewN n3) (H2.out.draw n3) (n : Int)).mono ?_); rintro e W4 ⟨A4, c4, rfl, hk, hb⟩; have K4 := Lib.hid hk; have HB4 := Lib.hid ((pw_below_drewN HB2.out n3).trans (hb.mono (pw_below_drewN HB2.out n3).size)); have H4 := Lib.hid ((H2.out.draw n3).on hb); clear hk hb)
        | ((with_reducible refine (AL.out (W5.drewN n6) (H5.out.draw n6) ((n : Int) + 1)).mono ?_); rintro e W7 ⟨A7, c7, rfl, hk, hb⟩; have K7 := Lib.hid hk; have HB7 := Lib.hid ((pw_below_drewN HB5.out n6).trans (hb.mono (pw_below_drewN HB5.out n6).size)); have H7 := Lib.hid ((H5.out.draw n6).on hb); have c57 := (HB7.out.cell (p := ⟨lr, lo + p, none⟩) hcl).trans hcell; clear hk hb)
        | ((with_reducible refine (AT.out W7 H7.out (k - 1)).mono ?_); rintro e W8 ⟨A8, c8, rfl, hk, hb⟩; have K8 := Lib.hid hk; have HB8 := Lib.hid (HB7.out.trans (hb.mono HB7.out.size)); have H8 := Lib.hid (H7.out.on hb); clear hk hb)
        | ((with_reducible refine (AL.out W9 H9.out k).mono ?_); rintro e W10 ⟨A10, c10, rfl, hk, hb⟩; have K10 := Lib.hid hk; have K910 := Lib.hid (K9.out.on hb); have HB10 := Lib.hid (HB9.out.trans (hb.mono HB9.out.size)); have H10 := Lib.hid (H9.out.on hb); clear hk hb)
        | ((with_reducible refine (AT.out W10 H10.out k).mono ?_); rintro e W11 ⟨A11, c11, rfl, hk, hb⟩; have K11 := Lib.hid hk; have K911 := Lib.hid (K910.out.on hb); have K1011 := Lib.hid (K10.out.on hb); have HB11 := Lib.hid (HB10.out.trans (hb.mono HB10.out.size)); have H11 := Lib.hid (H10.out.on hb); clear hk hb)))
      | (go_at_call 30; ((with_reducible refine (k_union2 (T := ls.flatten) (l1 := atLeast ltI k la) (l2 := meet ltI [atLeast ltI (k - 1) la, d.l]) ?h0 K11.out K911.out hT).mono ?_); (case h0 => first | rfl | simp); rintro e W12 ⟨A12, c12, rfl, hk, hb⟩; have K12b := Lib.hid hk; have K1012 := Lib.hid (K1011.out.on hb); have HB12 := Lib.hid (HB11.out.trans (hb.mono HB11.out.size)); have H12 := Lib.hid (H11.out.on hb); clear hk hb))
      | (go_at_call 30; ((with_reducible refine (UN.out W1 H1.out).mono ?_); rintro e W2 ⟨A2, c2, rfl, hk, hb⟩; have K2 := Lib.hid hk; have K12 := Lib.hid (K1.out.on hb); have HB2 := Lib.hid (HB1.out.trans (hb.mono HB1.out.size)); have H2 := Lib.hid (H1.out.on hb); clear hk hb))
      | (go_at_call 31; ((with_reducible refine (k_meet2 (T := ls.flatten) (l1 := atLeast ltI (k - 1) la) (l2 := d.l) ?h0 K8.out (K0.out.on HB8.out) hT).mono ?_); (case h0 => first | rfl | simp); rintro e W9 ⟨A9, c9, rfl, hk, hb⟩; have K9 := Lib.hid hk; have HB9 := Lib.hid (HB8.out.trans (hb.mono HB8.out.size)); have H9 := Lib.hid (H8.out.on hb); clear hk hb))
      | (go_at_call 31; ((with_reducible refine (ME.out W4 H4.out).mono ?_); rintro e W5 ⟨A5, c5, rfl, hk, hb⟩; have K5 := Lib.hid hk; have K45 := Lib.hid (K4.out.on hb); have HB5 := Lib.hid (HB4.out.trans (hb.mono HB4.out.size)); have H5 := Lib.hid (H4.out.on hb); clear hk hb))
      | (go_at_call 29; (first
        | ((with_reducible refine (k_same2 (T := ls.flatten) K1012.out K12b.out (last_at HN.out.2.2.2.2.2 HK2.out)).mono ?_); rintro e _ ⟨rfl, ⟨n13, rfl⟩⟩)
        | ((with_reducible refine (k_same2 (T := ls.flatten) K12.out K2.out rfl).mono ?_); rintro e _ ⟨rfl, ⟨n3, rfl⟩⟩)
        | ((with_reducible refine (k_same2 (T := ls.flatten) K45.out K5.out (meet_at (by have := HN.out; omega) (by have := HN.out; omega))).mono ?_); rintro e _ ⟨rfl, ⟨n6, rfl⟩⟩)))
      | go_in)
    go_loopw [11, 12] (fun v11 v12 wr => ∃ i : Nat, i ≤ n ∧ i ≤ 64 ∧ v11 = .int .i64 (upto ls i : Nat) ∧ v12 = .int .i64 ((i + 1 : Nat) : Int) ∧ Hid (Heads wr (some ⟨lr, lo, none⟩) Es ∧ Below w.heap.size w wr)) (fun _ v _ => n + 2 - (intOf v).toNat)
    case atStart => exact ⟨0, Nat.zero_le _, by omega, rfl, rfl, Lib.hid ⟨H12.out.draw _, pw_below_drewN HB12.out _⟩⟩
    case round =>
      obtain ⟨i, hi, hi64, rfl, rfl, HW⟩ := hrel
      have hu := upto_short hT i
      by_cases hgo : i < n ∧ i < 64
      · obtain ⟨g1, g2⟩ := hgo
        have t1 : (i : Int) + 1 ≤ (n : Int) := by omega
        have t2 : (i : Int) + 1 ≤ 64 := by omega
        have hl := atLeast_short hT ((i : Int) + 1)
        have hsu := Lib.hid (upto_succ ls i)
        have C1 := Lib.hid (AL.out wr HW.out.1 ((i : Int) + 1))
        go_wp2_with (first | (go_at_call 28; ((with_reducible refine C1.out.mono ?_); rintro e W20 ⟨A20, c20, rfl, hk, hb⟩; have HQ := Lib.hid (And.intro (HW.out.1.on hb) (HW.out.2.trans (hb.mono HW.out.2.size))); clear hk hb)) | go_in)
        go_roundw
        case rel => exact ⟨i + 1, by omega, by omega, by rw [hsu.out]; go_num, by go_num, HQ⟩
        case measure => simp [intOf]; omega
      · by_cases hbig : 64 < n
        · have t3 : (64 : Int) < (n : Int) := by omega
          have t1 : (i : Int) + 1 ≤ (n : Int) := by omega
          have t2 : ¬ ((i : Int) + 1 ≤ 64) := by omega
          generalize upto ls i = U at hu ⊢
          clear hgo hbig
          go_wp2
          go_ret
          exact ⟨rfl, HW.out.2⟩
        · have t3 : ¬ ((64 : Int) < (n : Int)) := by omega
          have hin := Lib.hid (show i = n by omega)
          have t1 : ¬ ((i : Int) + 1 ≤ (n : Int)) := by omega
          generalize hU : upto ls i = U at hu ⊢
          have HU := Lib.hid hU
          clear hU hgo hbig
          go_wp2
          go_loopw [10, 13] (fun v10 v13 w2 => ∃ j : Nat, j ≤ n ∧ v10 = .int .i64 (ones ls j : Nat) ∧ v13 = .int .i64 (j : Nat) ∧ Hid (Heads w2 (some ⟨lr, lo, none⟩) Es ∧ Below w.heap.size w w2)) (fun _ v _ => n - (intOf v).toNat)
          case atStart => exact ⟨0, Nat.zero_le _, rfl, rfl, HW⟩
          case round =>
            clear HW
            obtain ⟨j, hj, rfl, rfl, HW⟩ := hrel
            have ho := ones_short (ls := ls) j
            by_cases hlt : j < n
            · have t4 : (j : Int) < (n : Int) := by omega
              have hjE : j < Es.length := by have := HN.out.1; omega
              obtain ⟨r2, o2, e2, c2⟩ := HW.out.1.head j hjE
              obtain ⟨rfl, rfl⟩ : lr = r2 ∧ lo = o2 := by simpa using e2
              have hmem2 : Es.getD j default ∈ Es := by rw [← getElem_getD _ _ hjE]; exact List.getElem_mem hjE
              have hos := ones_succ (ls := ls) (i := j) (by have := HN.out; omega)
              rw [ls_at HN.out.2.2.2.1 hjE] at hos
              have hrow2 := HW.out.1.row _ hmem2
              have hfit2 := Nat.le_trans (bulk_mem _ hmem2) hb
              have hsub2 : ∀ x ∈ (Es.getD j default).l, x ∈ ls.flatten := fun x hx => List.mem_flatten.2 ⟨_, by rw [HN.out.2.2.2.1]; exact List.mem_map.2 ⟨_, hmem2, rfl⟩, hx⟩
              generalize Es.getD j default = d2 at c2 hos hrow2 hfit2 hsub2
              unfold Hd.v at c2
              have hl2 := Nat.le_trans (setL_len totI d2.l) hfit2
              have C1 := Lib.hid (k_of (T := ls.flatten) (W := wr) (v1 := .slice d2.A d2.l.length d2.c) (l1 := d2.l) ⟨⟨d2.g, d2.A, d2.c, rfl, hrow2⟩, hfit2, hsub2⟩ hT)
              have HOS := Lib.hid hos
              clear e2 hmem2 hos hrow2 hsub2
              go_wp2_with (first | (go_at_call 22; ((with_reducible refine C1.out.mono ?_); rintro e W21 ⟨A21, c21, rfl, hk, hb⟩; have HQ := Lib.hid (And.intro (HW.out.1.on hb) (HW.out.2.trans (hb.mono HW.out.2.size))); clear hk hb)) | go_in)
              go_roundw
              case rel => exact ⟨j + 1, by omega, by rw [HOS.out]; go_num, by go_num, HQ⟩
              case measure => simp [intOf]; omega
            · have t4 : ¬ ((j : Int) < (n : Int)) := by omega
              have hjn : j = n := by omega
              have hoe : ones ls j = U := by rw [← HU.out, hin.out, hjn, ← HN.out.2.2.1]; exact ones_all ls
              generalize ones ls j = O at ho hoe ⊢
              have hoo : ((O : Int) == (U : Int)) = true := by rw [hoe]; exact beq_self_eq_true _
              clear hoe hjn
              go_wp2
              go_ret
              exact ⟨rfl, HW.out.2⟩
  · by_cases hk2 : 2 ≤ k
    · have hkn : ¬ (k ≤ (n : Int)) := fun h => hkk ⟨hk2, h⟩
      clear hkk
      go_enter Try.func6, Try.ntmps6
      go_wp2_with (first
        | (go_at_call 28; (first
          | ((with_reducible refine (AL.out w H0.out 1).mono ?_); rintro e W1 ⟨A1, c1, rfl, hk, hb⟩; have K1 := Lib.hid hk; have HB1 := Lib.hid hb; have H1 := Lib.hid (H0.out.on hb); clear hk hb)
          | ((with_reducible refine (AL.out (W2.drewN n3) (H2.out.draw n3) (n : Int)).mono ?_); rintro e W4 ⟨A4, c4, rfl, hk, hb⟩; have K4 := Lib.hid hk; have HB4 := Lib.hid ((pw_below_drewN HB2.out n3).trans (hb.mono (pw_below_drewN HB2.out n3).size)); have H4 := Lib.hid ((H2.out.draw n3).on hb); clear hk hb)
          | ((with_reducible refine (AL.out (W5.drewN n6) (H5.out.draw n6) ((n : Int) + 1)).mono ?_); rintro e W7 ⟨A7, c7, rfl, hk, hb⟩; have K7 := Lib.hid hk; have HB7 := Lib.hid ((pw_below_drewN HB5.out n6).trans (hb.mono (pw_below_drewN HB5.out n6).size)); have H7 := Lib.hid ((H5.out.draw n6).on hb); have c57 := (HB7.out.cell (p := ⟨lr, lo + p, none⟩) hcl).trans hcell; clear hk hb)
          | ((with_reducible refine (AT.out W7 H7.out (k - 1)).mono ?_); rintro e W8 ⟨A8, c8, rfl, hk, hb⟩; have K8 := Lib.hid hk; have HB8 := Lib.hid (HB7.out.trans (hb.mono HB7.out.size)); have H8 := Lib.hid (H7.out.on hb); clear hk hb)
          | ((with_reducible refine (AL.out W9 H9.out k).mono ?_); rintro e W10 ⟨A10, c10, rfl, hk, hb⟩; have K10 := Lib.hid hk; have K910 := Lib.hid (K9.out.on hb); have HB10 := Lib.hid (HB9.out.trans (hb.mono HB9.out.size)); have H10 := Lib.hid (H9.out.on hb); clear hk hb)
          | ((with_reducible refine (AT.out W10 H10.out k).mono ?_); rintro e W11 ⟨A11, c11, rfl, hk, hb⟩; have K11 := Lib.hid hk; have K911 := Lib.hid (K910.out.on hb); have K1011 := Lib.hid (K10.out.on hb); have HB11 := Lib.hid (HB10.out.trans (hb.mono HB10.out.size)); have H11 := Lib.hid (H10.out.on hb); clear hk hb)))
        | (go_at_call 30; ((with_reducible refine (k_union2 (T := ls.flatten) (l1 := atLeast ltI k la) (l2 := meet ltI [atLeast ltI (k - 1) la, d.l]) ?h0 K11.out K911.out hT).mono ?_); (case h0 => first | rfl | simp); rintro e W12 ⟨A12, c12, rfl, hk, hb⟩; have K12b := Lib.hid hk; have K1012 := Lib.hid (K1011.out.on hb); have HB12 := Lib.hid (HB11.out.trans (hb.mono HB11.out.size)); have H12 := Lib.hid (H11.out.on hb); clear hk hb))
        | (go_at_call 30; ((with_reducible refine (UN.out W1 H1.out).mono ?_); rintro e W2 ⟨A2, c2, rfl, hk, hb⟩; have K2 := Lib.hid hk; have K12 := Lib.hid (K1.out.on hb); have HB2 := Lib.hid (HB1.out.trans (hb.mono HB1.out.size)); have H2 := Lib.hid (H1.out.on hb); clear hk hb))
        | (go_at_call 31; ((with_reducible refine (k_meet2 (T := ls.flatten) (l1 := atLeast ltI (k - 1) la) (l2 := d.l) ?h0 K8.out (K0.out.on HB8.out) hT).mono ?_); (case h0 => first | rfl | simp); rintro e W9 ⟨A9, c9, rfl, hk, hb⟩; have K9 := Lib.hid hk; have HB9 := Lib.hid (HB8.out.trans (hb.mono HB8.out.size)); have H9 := Lib.hid (H8.out.on hb); clear hk hb))
        | (go_at_call 31; ((with_reducible refine (ME.out W4 H4.out).mono ?_); rintro e W5 ⟨A5, c5, rfl, hk, hb⟩; have K5 := Lib.hid hk; have K45 := Lib.hid (K4.out.on hb); have HB5 := Lib.hid (HB4.out.trans (hb.mono HB4.out.size)); have H5 := Lib.hid (H4.out.on hb); clear hk hb))
        | (go_at_call 29; (first
          | ((with_reducible refine (k_same2 (T := ls.flatten) K1012.out K12b.out (last_at HN.out.2.2.2.2.2 HK2.out)).mono ?_); rintro e _ ⟨rfl, ⟨n13, rfl⟩⟩)
          | ((with_reducible refine (k_same2 (T := ls.flatten) K12.out K2.out rfl).mono ?_); rintro e _ ⟨rfl, ⟨n3, rfl⟩⟩)
          | ((with_reducible refine (k_same2 (T := ls.flatten) K45.out K5.out (meet_at (by have := HN.out; omega) (by have := HN.out; omega))).mono ?_); rintro e _ ⟨rfl, ⟨n6, rfl⟩⟩)))
        | go_in)
      go_loopw [11, 12] (fun v11 v12 wr => ∃ i : Nat, i ≤ n ∧ i ≤ 64 ∧ v11 = .int .i64 (upto ls i : Nat) ∧ v12 = .int .i64 ((i + 1 : Nat) : Int) ∧ Hid (Heads wr (some ⟨lr, lo, none⟩) Es ∧ Below w.heap.size w wr)) (fun _ v _ => n + 2 - (intOf v).toNat)
      case atStart => exact ⟨0, Nat.zero_le _, by omega, rfl, rfl, Lib.hid ⟨H7.out, HB7.out⟩⟩
      case round =>
        obtain ⟨i, hi, hi64, rfl, rfl, HW⟩ := hrel
        have hu := upto_short hT i
        by_cases hgo : i < n ∧ i < 64
        · obtain ⟨g1, g2⟩ := hgo
          have t1 : (i : Int) + 1 ≤ (n : Int) := by omega
          have t2 : (i : Int) + 1 ≤ 64 := by omega
          have hl := atLeast_short hT ((i : Int) + 1)
          have hsu := Lib.hid (upto_succ ls i)
          have C1 := Lib.hid (AL.out wr HW.out.1 ((i : Int) + 1))
          go_wp2_with (first | (go_at_call 28; ((with_reducible refine C1.out.mono ?_); rintro e W20 ⟨A20, c20, rfl, hk, hb⟩; have HQ := Lib.hid (And.intro (HW.out.1.on hb) (HW.out.2.trans (hb.mono HW.out.2.size))); clear hk hb)) | go_in)
          go_roundw
          case rel => exact ⟨i + 1, by omega, by omega, by rw [hsu.out]; go_num, by go_num, HQ⟩
          case measure => simp [intOf]; omega
        · by_cases hbig : 64 < n
          · have t3 : (64 : Int) < (n : Int) := by omega
            have t1 : (i : Int) + 1 ≤ (n : Int) := by omega
            have t2 : ¬ ((i : Int) + 1 ≤ 64) := by omega
            generalize upto ls i = U at hu ⊢
            clear hgo hbig
            go_wp2
            go_ret
            exact ⟨rfl, HW.out.2⟩
          · have t3 : ¬ ((64 : Int) < (n : Int)) := by omega
            have hin := Lib.hid (show i = n by omega)
            have t1 : ¬ ((i : Int) + 1 ≤ (n : Int)) := by omega
            generalize hU : upto ls i = U at hu ⊢
            have HU := Lib.hid hU
            clear hU hgo hbig
            go_wp2
            go_loopw [10, 13] (fun v10 v13 w2 => ∃ j : Nat, j ≤ n ∧ v10 = .int .i64 (ones ls j : Nat) ∧ v13 = .int .i64 (j : Nat) ∧ Hid (Heads w2 (some ⟨lr, lo, none⟩) Es ∧ Below w.heap.size w w2)) (fun _ v _ => n - (intOf v).toNat)
            case atStart => exact ⟨0, Nat.zero_le _, rfl, rfl, HW⟩
            case round =>
              clear HW
              obtain ⟨j, hj, rfl, rfl, HW⟩ := hrel
              have ho := ones_short (ls := ls) j
              by_cases hlt : j < n
              · have t4 : (j : Int) < (n : Int) := by omega
                have hjE : j < Es.length := by have := HN.out.1; omega
                obtain ⟨r2, o2, e2, c2⟩ := HW.out.1.head j hjE
                obtain ⟨rfl, rfl⟩ : lr = r2 ∧ lo = o2 := by simpa using e2
                have hmem2 : Es.getD j default ∈ Es := by rw [← getElem_getD _ _ hjE]; exact List.getElem_mem hjE
                have hos := ones_succ (ls := ls) (i := j) (by have := HN.out; omega)
                rw [ls_at HN.out.2.2.2.1 hjE] at hos
                have hrow2 := HW.out.1.row _ hmem2
                have hfit2 := Nat.le_trans (bulk_mem _ hmem2) hb
                have hsub2 : ∀ x ∈ (Es.getD j default).l, x ∈ ls.flatten := fun x hx => List.mem_flatten.2 ⟨_, by rw [HN.out.2.2.2.1]; exact List.mem_map.2 ⟨_, hmem2, rfl⟩, hx⟩
                generalize Es.getD j default = d2 at c2 hos hrow2 hfit2 hsub2
                unfold Hd.v at c2
                have hl2 := Nat.le_trans (setL_len totI d2.l) hfit2
                have C1 := Lib.hid (k_of (T := ls.flatten) (W := wr) (v1 := .slice d2.A d2.l.length d2.c) (l1 := d2.l) ⟨⟨d2.g, d2.A, d2.c, rfl, hrow2⟩, hfit2, hsub2⟩ hT)
                have HOS := Lib.hid hos
                clear e2 hmem2 hos hrow2 hsub2
                go_wp2_with (first | (go_at_call 22; ((with_reducible refine C1.out.mono ?_); rintro e W21 ⟨A21, c21, rfl, hk, hb⟩; have HQ := Lib.hid (And.intro (HW.out.1.on hb) (HW.out.2.trans (hb.mono HW.out.2.size))); clear hk hb)) | go_in)
                go_roundw
                case rel => exact ⟨j + 1, by omega, by rw [HOS.out]; go_num, by go_num, HQ⟩
                case measure => simp [intOf]; omega
              · have t4 : ¬ ((j : Int) < (n : Int)) := by omega
                have hjn : j = n := by omega
                have hoe : ones ls j = U := by rw [← HU.out, hin.out, hjn, ← HN.out.2.2.1]; exact ones_all ls
                generalize ones ls j = O at ho hoe ⊢
                have hoo : ((O : Int) == (U : Int)) = true := by rw [hoe]; exact beq_self_eq_true _
                clear hoe hjn
                go_wp2
                go_ret
                exact ⟨rfl, HW.out.2⟩
    · clear hkk
      go_enter Try.func6, Try.ntmps6
      go_wp2_with (first
        | (go_at_call 28; (first
          | ((with_reducible refine (AL.out w H0.out 1).mono ?_); rintro e W1 ⟨A1, c1, rfl, hk, hb⟩; have K1 := Lib.hid hk; have HB1 := Lib.hid hb; have H1 := Lib.hid (H0.out.on hb); clear hk hb)
          | ((with_reducible refine (AL.out (W2.drewN n3) (H2.out.draw n3) (n : Int)).mono ?_); rintro e W4 ⟨A4, c4, rfl, hk, hb⟩; have K4 := Lib.hid hk; have HB4 := Lib.hid ((pw_below_drewN HB2.out n3).trans (hb.mono (pw_below_drewN HB2.out n3).size)); have H4 := Lib.hid ((H2.out.draw n3).on hb); clear hk hb)
          | ((with_reducible refine (AL.out (W5.drewN n6) (H5.out.draw n6) ((n : Int) + 1)).mono ?_); rintro e W7 ⟨A7, c7, rfl, hk, hb⟩; have K7 := Lib.hid hk; have HB7 := Lib.hid ((pw_below_drewN HB5.out n6).trans (hb.mono (pw_below_drewN HB5.out n6).size)); have H7 := Lib.hid ((H5.out.draw n6).on hb); have c57 := (HB7.out.cell (p := ⟨lr, lo + p, none⟩) hcl).trans hcell; clear hk hb)
          | ((with_reducible refine (AT.out W7 H7.out (k - 1)).mono ?_); rintro e W8 ⟨A8, c8, rfl, hk, hb⟩; have K8 := Lib.hid hk; have HB8 := Lib.hid (HB7.out.trans (hb.mono HB7.out.size)); have H8 := Lib.hid (H7.out.on hb); clear hk hb)
          | ((with_reducible refine (AL.out W9 H9.out k).mono ?_); rintro e W10 ⟨A10, c10, rfl, hk, hb⟩; have K10 := Lib.hid hk; have K910 := Lib.hid (K9.out.on hb); have HB10 := Lib.hid (HB9.out.trans (hb.mono HB9.out.size)); have H10 := Lib.hid (H9.out.on hb); clear hk hb)
          | ((with_reducible refine (AT.out W10 H10.out k).mono ?_); rintro e W11 ⟨A11, c11, rfl, hk, hb⟩; have K11 := Lib.hid hk; have K911 := Lib.hid (K910.out.on hb); have K1011 := Lib.hid (K10.out.on hb); have HB11 := Lib.hid (HB10.out.trans (hb.mono HB10.out.size)); have H11 := Lib.hid (H10.out.on hb); clear hk hb)))
        | (go_at_call 30; ((with_reducible refine (k_union2 (T := ls.flatten) (l1 := atLeast ltI k la) (l2 := meet ltI [atLeast ltI (k - 1) la, d.l]) ?h0 K11.out K911.out hT).mono ?_); (case h0 => first | rfl | simp); rintro e W12 ⟨A12, c12, rfl, hk, hb⟩; have K12b := Lib.hid hk; have K1012 := Lib.hid (K1011.out.on hb); have HB12 := Lib.hid (HB11.out.trans (hb.mono HB11.out.size)); have H12 := Lib.hid (H11.out.on hb); clear hk hb))
        | (go_at_call 30; ((with_reducible refine (UN.out W1 H1.out).mono ?_); rintro e W2 ⟨A2, c2, rfl, hk, hb⟩; have K2 := Lib.hid hk; have K12 := Lib.hid (K1.out.on hb); have HB2 := Lib.hid (HB1.out.trans (hb.mono HB1.out.size)); have H2 := Lib.hid (H1.out.on hb); clear hk hb))
        | (go_at_call 31; ((with_reducible refine (k_meet2 (T := ls.flatten) (l1 := atLeast ltI (k - 1) la) (l2 := d.l) ?h0 K8.out (K0.out.on HB8.out) hT).mono ?_); (case h0 => first | rfl | simp); rintro e W9 ⟨A9, c9, rfl, hk, hb⟩; have K9 := Lib.hid hk; have HB9 := Lib.hid (HB8.out.trans (hb.mono HB8.out.size)); have H9 := Lib.hid (H8.out.on hb); clear hk hb))
        | (go_at_call 31; ((with_reducible refine (ME.out W4 H4.out).mono ?_); rintro e W5 ⟨A5, c5, rfl, hk, hb⟩; have K5 := Lib.hid hk; have K45 := Lib.hid (K4.out.on hb); have HB5 := Lib.hid (HB4.out.trans (hb.mono HB4.out.size)); have H5 := Lib.hid (H4.out.on hb); clear hk hb))
        | (go_at_call 29; (first
          | ((with_reducible refine (k_same2 (T := ls.flatten) K1012.out K12b.out (last_at HN.out.2.2.2.2.2 HK2.out)).mono ?_); rintro e _ ⟨rfl, ⟨n13, rfl⟩⟩)
          | ((with_reducible refine (k_same2 (T := ls.flatten) K12.out K2.out rfl).mono ?_); rintro e _ ⟨rfl, ⟨n3, rfl⟩⟩)
          | ((with_reducible refine (k_same2 (T := ls.flatten) K45.out K5.out (meet_at (by have := HN.out; omega) (by have := HN.out; omega))).mono ?_); rintro e _ ⟨rfl, ⟨n6, rfl⟩⟩)))
        | go_in)
      go_loopw [11, 12] (fun v11 v12 wr => ∃ i : Nat, i ≤ n ∧ i ≤ 64 ∧ v11 = .int .i64 (upto ls i : Nat) ∧ v12 = .int .i64 ((i + 1 : Nat) : Int) ∧ Hid (Heads wr (some ⟨lr, lo, none⟩) Es ∧ Below w.heap.size w wr)) (fun _ v _ => n + 2 - (intOf v).toNat)
      case atStart => exact ⟨0, Nat.zero_le _, by omega, rfl, rfl, Lib.hid ⟨H7.out, HB7.out⟩⟩
      case round =>
        obtain ⟨i, hi, hi64, rfl, rfl, HW⟩ := hrel
        have hu := upto_short hT i
        by_cases hgo : i < n ∧ i < 64
        · obtain ⟨g1, g2⟩ := hgo
          have t1 : (i : Int) + 1 ≤ (n : Int) := by omega
          have t2 : (i : Int) + 1 ≤ 64 := by omega
          have hl := atLeast_short hT ((i : Int) + 1)
          have hsu := Lib.hid (upto_succ ls i)
          have C1 := Lib.hid (AL.out wr HW.out.1 ((i : Int) + 1))
          go_wp2_with (first | (go_at_call 28; ((with_reducible refine C1.out.mono ?_); rintro e W20 ⟨A20, c20, rfl, hk, hb⟩; have HQ := Lib.hid (And.intro (HW.out.1.on hb) (HW.out.2.trans (hb.mono HW.out.2.size))); clear hk hb)) | go_in)
          go_roundw
          case rel => exact ⟨i + 1, by omega, by omega, by rw [hsu.out]; go_num, by go_num, HQ⟩
          case measure => simp [intOf]; omega
        · by_cases hbig : 64 < n
          · have t3 : (64 : Int) < (n : Int) := by omega
            have t1 : (i : Int) + 1 ≤ (n : Int) := by omega
            have t2 : ¬ ((i : Int) + 1 ≤ 64) := by omega
            generalize upto ls i = U at hu ⊢
            clear hgo hbig
            go_wp2
            go_ret
            exact ⟨rfl, HW.out.2⟩
          · have t3 : ¬ ((64 : Int) < (n : Int)) := by omega
            have hin := Lib.hid (show i = n by omega)
            have t1 : ¬ ((i : Int) + 1 ≤ (n : Int)) := by omega
            generalize hU : upto ls i = U at hu ⊢
            have HU := Lib.hid hU
            clear hU hgo hbig
            go_wp2
            go_loopw [10, 13] (fun v10 v13 w2 => ∃ j : Nat, j ≤ n ∧ v10 = .int .i64 (ones ls j : Nat) ∧ v13 = .int .i64 (j : Nat) ∧ Hid (Heads w2 (some ⟨lr, lo, none⟩) Es ∧ Below w.heap.size w w2)) (fun _ v _ => n - (intOf v).toNat)
            case atStart => exact ⟨0, Nat.zero_le _, rfl, rfl, HW⟩
            case round =>
              clear HW
              obtain ⟨j, hj, rfl, rfl, HW⟩ := hrel
              have ho := ones_short (ls := ls) j
              by_cases hlt : j < n
              · have t4 : (j : Int) < (n : Int) := by omega
                have hjE : j < Es.length := by have := HN.out.1; omega
                obtain ⟨r2, o2, e2, c2⟩ := HW.out.1.head j hjE
                obtain ⟨rfl, rfl⟩ : lr = r2 ∧ lo = o2 := by simpa using e2
                have hmem2 : Es.getD j default ∈ Es := by rw [← getElem_getD _ _ hjE]; exact List.getElem_mem hjE
                have hos := ones_succ (ls := ls) (i := j) (by have := HN.out; omega)
                rw [ls_at HN.out.2.2.2.1 hjE] at hos
                have hrow2 := HW.out.1.row _ hmem2
                have hfit2 := Nat.le_trans (bulk_mem _ hmem2) hb
                have hsub2 : ∀ x ∈ (Es.getD j default).l, x ∈ ls.flatten := fun x hx => List.mem_flatten.2 ⟨_, by rw [HN.out.2.2.2.1]; exact List.mem_map.2 ⟨_, hmem2, rfl⟩, hx⟩
                generalize Es.getD j default = d2 at c2 hos hrow2 hfit2 hsub2
                unfold Hd.v at c2
                have hl2 := Nat.le_trans (setL_len totI d2.l) hfit2
                have C1 := Lib.hid (k_of (T := ls.flatten) (W := wr) (v1 := .slice d2.A d2.l.length d2.c) (l1 := d2.l) ⟨⟨d2.g, d2.A, d2.c, rfl, hrow2⟩, hfit2, hsub2⟩ hT)
                have HOS := Lib.hid hos
                clear e2 hmem2 hos hrow2 hsub2
                go_wp2_with (first | (go_at_call 22; ((with_reducible refine C1.out.mono ?_); rintro e W21 ⟨A21, c21, rfl, hk, hb⟩; have HQ := Lib.hid (And.intro (HW.out.1.on hb) (HW.out.2.trans (hb.mono HW.out.2.size))); clear hk hb)) | go_in)
                go_roundw
                case rel => exact ⟨j + 1, by omega, by rw [HOS.out]; go_num, by go_num, HQ⟩
                case measure => simp [intOf]; omega
              · have t4 : ¬ ((j : Int) < (n : Int)) := by omega
                have hjn : j = n := by omega
                have hoe : ones ls j = U := by rw [← HU.out, hin.out, hjn, ← HN.out.2.2.1]; exact ones_all ls
                generalize ones ls j = O at ho hoe ⊢
                have hoo : ((O : Int) == (U : Int)) = true := by rw [hoe]; exact beq_self_eq_true _
                clear hoe hjn
                go_wp2
                go_ret
                exact ⟨rfl, HW.out.2⟩
end Go.Proofs.Ytnflokhffmfifaa.CountW

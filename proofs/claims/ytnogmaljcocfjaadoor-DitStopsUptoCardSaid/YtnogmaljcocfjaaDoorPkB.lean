/- Joined: copies, words, the check. For every world. -/
import Derived.Test.YtnogmaljcocfjaaDoorPkA
import Derived.Test.YtnogmaljcocfjaaDoorXK0
import Derived.Lib.ItoaLen
import Derived.Maps.Own
import Derived.Maps.OwnOps
import Derived.Maps.OwnSet
set_option linter.unusedVariables false
set_option linter.unusedSimpArgs false
set_option linter.unusedSectionVars false
namespace Go.Proofs.YtnogmaljcocfjaaDoor.DitClone
open Go.RowKit Go.Proofs.YtnogmaljcocfjaaDoor.Blk Go.Proofs.YtnogmaljcocfjaaDoor.DitTab Go.Proofs.YtnogmaljcocfjaaDoor.DitRow Go.Proofs.YtnogmaljcocfjaaDoorW.PrintWords Go.Proofs.YtnogmaljcocfjaaDoorW.PrintLast Go.Proofs.YtnogmaljcocfjaaDoorW.PrintMore
theorem info74 : (Tryd.prog.info? 74).map (fun i => (i.zero, i.size, i.bytes)) = some (some (.agg #[(.string ⟨#[]⟩), (.string ⟨#[]⟩), (.slice none 0 0)]), 3, 56) := by kernel_rfl
set_option maxHeartbeats 1000000 in
set_option maxRecDepth 100000 in
theorem clone61_as (w : World) (A : Option Addr) (n c : Nat) (news : List Value) (hl : news.length = n * 1) (hc : ∀ ad, A = some ad → ∀ j u, news[j]? = some u → w.cell? (ad.add j) = some u) (h0 : A = none → n = 0) (h1 : ∀ u ∈ news, u.oneCell' = true) (hn : n ≤ 1048576) :
    Calls Tryd.prog 61 #[.slice A n c] w fun e w' => ∃ v, e = .returned v ∧ w'.ownsRow w.heap.size 9 1 v n news ∧ Below w.heap.size w w' := by
  obtain ⟨i0, hi, hz0, hz1, hz2⟩ := info_parts info9
  cases A with
  | none =>
    obtain rfl := h0 rfl
    obtain rfl : news = [] := List.eq_nil_of_length_eq_zero (by omega)
    have hq := fun W => run_eql_slice_nil (P := Tryd.prog) W 39 9 none 0 c Tryd.underlying39
    simp only [Option.isNone_none] at hq
    clear hc h0 h1 hl
    go_enter Tryd.func61, Tryd.ntmps61
    go_wp2
    go_ret
    exact ⟨.slice none 0 0, rfl, World.ownsRow_nil _ _ _ _, by repeat (first | exact Below.refl _ _ | apply pw_below_drewN | apply below_drew1)⟩
  | some ad =>
    have HC := Lib.hid (hc ad rfl)
    have H1 := Lib.hid h1
    have HL := Lib.hid hl
    have hq := fun W => run_eql_slice_nil (P := Tryd.prog) W 39 9 (some ad) n c Tryd.underlying39
    simp only [Option.isNone_some] at hq
    have hm : 0 + n ≤ maxLen := by simp only [maxLen]; omega
    have hb : (0 + n) * 16 ≤ 140737488355328 := by omega
    clear hc h0 h1 hl
    go_enter Tryd.func61, Tryd.ntmps61
    go_wp2_with (first
      | (at_builtin; refine wpList_append_own _ rfl (.tmp 5) (.tmp 6) 39 rfl w.heap.size 9 i0 (.string ⟨#[]⟩) 1 16 Tryd.underlying39 hi hz0 hz1 hz2 rfl (by decide) _ _ _ rfl (World.ownsRow_made w #[] 0 (Nat.le_refl _) (Nat.zero_le _) (by simp)) ad n c news rfl HL.out ?qc2 H1.out hm hb (by rw [World.size_alloc]; omega) ?_; (case qc2 => intro j u hj; exact Lib.cell?_alloc_some _ (HC.out j u hj)); intro v3 w3 own3 grow3 _; have HQ := Lib.hid (And.intro own3 grow3); clear own3 grow3)
      | go_in)
    go_ret
    exact ⟨v3, rfl, by simpa using HQ.out.1, ((Below.refl w.heap.size w).alloc (Nat.le_refl _) _).grown HQ.out.2 (by rw [World.size_alloc]; omega) (fun k hk => by have hk : some w.heap.size = some k := hk; have := Option.some.inj hk; omega)⟩
set_option maxHeartbeats 1000000 in
set_option maxRecDepth 100000 in
theorem clone62_as (w : World) (A : Option Addr) (n c : Nat) (news : List Value) (hl : news.length = n * 3) (hc : ∀ ad, A = some ad → ∀ j u, news[j]? = some u → w.cell? (ad.add j) = some u) (h0 : A = none → n = 0) (h1 : ∀ u ∈ news, u.oneCell' = true) (hn : n ≤ 1048576) :
    Calls Tryd.prog 62 #[.slice A n c] w fun e w' => ∃ v, e = .returned v ∧ w'.ownsRow w.heap.size 74 3 v n news ∧ Below w.heap.size w w' := by
  obtain ⟨i0, hi, hz0, hz1, hz2⟩ := info_parts info74
  cases A with
  | none =>
    obtain rfl := h0 rfl
    obtain rfl : news = [] := List.eq_nil_of_length_eq_zero (by omega)
    have hq := fun W => run_eql_slice_nil (P := Tryd.prog) W 43 74 none 0 c Tryd.underlying43
    simp only [Option.isNone_none] at hq
    clear hc h0 h1 hl
    go_enter Tryd.func62, Tryd.ntmps62
    go_wp2
    go_ret
    exact ⟨.slice none 0 0, rfl, World.ownsRow_nil _ _ _ _, by repeat (first | exact Below.refl _ _ | apply pw_below_drewN | apply below_drew1)⟩
  | some ad =>
    have HC := Lib.hid (hc ad rfl)
    have H1 := Lib.hid h1
    have HL := Lib.hid hl
    have hq := fun W => run_eql_slice_nil (P := Tryd.prog) W 43 74 (some ad) n c Tryd.underlying43
    simp only [Option.isNone_some] at hq
    have hm : 0 + n ≤ maxLen := by simp only [maxLen]; omega
    have hb : (0 + n) * 56 ≤ 140737488355328 := by omega
    clear hc h0 h1 hl
    go_enter Tryd.func62, Tryd.ntmps62
    go_wp2_with (first
      | (at_builtin; refine wpList_append_own _ rfl (.tmp 5) (.tmp 6) 43 rfl w.heap.size 74 i0 (.agg #[(.string ⟨#[]⟩), (.string ⟨#[]⟩), (.slice none 0 0)]) 3 56 Tryd.underlying43 hi hz0 hz1 hz2 rfl (by decide) _ _ _ rfl (World.ownsRow_made w #[] 0 (Nat.le_refl _) (Nat.zero_le _) (by simp)) ad n c news rfl HL.out ?qc2 H1.out hm hb (by rw [World.size_alloc]; omega) ?_; (case qc2 => intro j u hj; exact Lib.cell?_alloc_some _ (HC.out j u hj)); intro v3 w3 own3 grow3 _; have HQ := Lib.hid (And.intro own3 grow3); clear own3 grow3)
      | go_in)
    go_ret
    exact ⟨v3, rfl, by simpa using HQ.out.1, ((Below.refl w.heap.size w).alloc (Nat.le_refl _) _).grown HQ.out.2 (by rw [World.size_alloc]; omega) (fun k hk => by have hk : some w.heap.size = some k := hk; have := Option.some.inj hk; omega)⟩
set_option maxHeartbeats 1000000 in
set_option maxRecDepth 100000 in
theorem clone54_as (w : World) (A : Option Addr) (n c : Nat) (news : List Value) (hl : news.length = n * 1) (hc : ∀ ad, A = some ad → ∀ j u, news[j]? = some u → w.cell? (ad.add j) = some u) (h0 : A = none → n = 0) (h1 : ∀ u ∈ news, u.oneCell' = true) (hn : n ≤ 1048576) :
    Calls Tryd.prog 54 #[.slice A n c] w fun e w' => ∃ v, e = .returned v ∧ w'.ownsRow w.heap.size 3 1 v n news ∧ Below w.heap.size w w' := by
  obtain ⟨i0, hi, hz0, hz1, hz2⟩ := info_parts info3
  cases A with
  | none =>
    obtain rfl := h0 rfl
    obtain rfl : news = [] := List.eq_nil_of_length_eq_zero (by omega)
    have hq := fun W => run_eql_slice_nil (P := Tryd.prog) W 23 3 none 0 c Tryd.underlying23
    simp only [Option.isNone_none] at hq
    clear hc h0 h1 hl
    go_enter Tryd.func54, Tryd.ntmps54
    go_wp2
    go_ret
    exact ⟨.slice none 0 0, rfl, World.ownsRow_nil _ _ _ _, by repeat (first | exact Below.refl _ _ | apply pw_below_drewN | apply below_drew1)⟩
  | some ad =>
    have HC := Lib.hid (hc ad rfl)
    have H1 := Lib.hid h1
    have HL := Lib.hid hl
    have hq := fun W => run_eql_slice_nil (P := Tryd.prog) W 23 3 (some ad) n c Tryd.underlying23
    simp only [Option.isNone_some] at hq
    have hm : 0 + n ≤ maxLen := by simp only [maxLen]; omega
    have hb : (0 + n) * 8 ≤ 140737488355328 := by omega
    clear hc h0 h1 hl
    go_enter Tryd.func54, Tryd.ntmps54
    go_wp2_with (first
      | (at_builtin; refine wpList_append_own _ rfl (.tmp 5) (.tmp 6) 23 rfl w.heap.size 3 i0 (.int .i64 0) 1 8 Tryd.underlying23 hi hz0 hz1 hz2 rfl (by decide) _ _ _ rfl (World.ownsRow_made w #[] 0 (Nat.le_refl _) (Nat.zero_le _) (by simp)) ad n c news rfl HL.out ?qc2 H1.out hm hb (by rw [World.size_alloc]; omega) ?_; (case qc2 => intro j u hj; exact Lib.cell?_alloc_some _ (HC.out j u hj)); intro v3 w3 own3 grow3 _; have HQ := Lib.hid (And.intro own3 grow3); clear own3 grow3)
      | go_in)
    go_ret
    exact ⟨v3, rfl, by simpa using HQ.out.1, ((Below.refl w.heap.size w).alloc (Nat.le_refl _) _).grown HQ.out.2 (by rw [World.size_alloc]; omega) (fun k hk => by have hk : some w.heap.size = some k := hk; have := Option.some.inj hk; omega)⟩
end Go.Proofs.YtnogmaljcocfjaaDoor.DitClone
namespace Go.Proofs.YtnogmaljcocfjaaDoor.DitCopy
open Go.RowKit Go.Proofs.YtnogmaljcocfjaaDoor.XK Go.Proofs.YtnogmaljcocfjaaDoor.Blk Go.Proofs.YtnogmaljcocfjaaDoor.DitTab Go.Proofs.YtnogmaljcocfjaaDoor.DitRow Go.Proofs.YtnogmaljcocfjaaDoor.DitClone Go.Proofs.YtnogmaljcocfjaaDoorW.PrintWords Go.Proofs.YtnogmaljcocfjaaDoorW.PrintLast Go.Proofs.YtnogmaljcocfjaaDoorW.PrintMore
/-- Attributes in a row at block g, from its first cell on; what they lead to lies elsewhere. -/
structure AttrsAt (no : Nat → Prop) (lo i : Nat) (w : World) (g : Nat) (xs : List S74) : Prop where
  at_ : ∃ cur, At w g cur 74 ∧ xs.length * 3 ≤ cur.length ∧ ∀ j, j < xs.length → ∃ V d q, cur[j * 3]? = some (.string (xs.getD j z74).f0) ∧ cur[j * 3 + 1]? = some (.string (xs.getD j z74).f1) ∧ cur[j * 3 + 2]? = some (.slice V (xs.getD j z74).f2.length d) ∧ RowS w q V d (xs.getD j z74).f2 ∧ (0 < (xs.getD j z74).f2.length → ¬ no q) ∧ (j < i → 0 < (xs.getD j z74).f2.length → lo ≤ q)
theorem AttrsAt.C {no : Nat → Prop} {lo i : Nat} {w : World} {g : Nat} {xs : List S74} (h : AttrsAt no lo i w g xs) (hn : xs.length ≤ 1048576) (hv : ∀ x ∈ xs, x.f2.length ≤ 1048576) : Kd.C k74 w (some ⟨g, 0, none⟩) xs.length xs := by
  obtain ⟨cur, ha, hl, hc⟩ := h.at_
  refine ⟨rfl, by omega, fun hp => ⟨_, rfl, fun j p hj => ?_⟩⟩
  have hjn : j < xs.length := (List.getElem?_eq_some_iff.1 hj).1
  have e2 : xs.getD j z74 = p := by simp [List.getD_eq_getElem?_getD, hj]
  obtain ⟨V, d, q, h1, h2, h3, h4, _, _⟩ := hc j hjn
  rw [e2] at h1 h2 h3 h4
  refine ⟨[.string p.f0, .string p.f1, .slice V p.f2.length d], rfl, k74_mk w p h4.cap (CS_of_row h4 (by have := hv p (by rw [← e2, List.getD_eq_getElem?_getD, List.getElem?_eq_getElem hjn]; exact List.getElem_mem hjn); omega)), fun i u hu => ?_⟩
  have hi : i < 3 := by
    have := (List.getElem?_eq_some_iff.1 hu).1
    simpa using this
  rw [add_off, Nat.zero_add]
  show w.cell? ⟨g, j * 3 + i, none⟩ = some u
  rw [ha.cell]
  rcases (show i = 0 ∨ i = 1 ∨ i = 2 by omega) with rfl | rfl | rfl
  · rw [← hu]; exact h1
  · rw [← hu]; exact h2
  · rw [← hu]; exact h3
/-- The cells of the attributes that came in. -/
theorem attrs_cells {w : World} {A : Option Addr} {n : Nat} {xs : List S74} (h : Kd.C k74 w A n xs) (hx : xs.length = n) (hp : 0 < n) : ∃ b o, A = some ⟨b, o, none⟩ ∧ b < w.heap.size ∧ ∀ j, j < n → ∃ V d q, w.cell? ⟨b, o + j * 3, none⟩ = some (.string (xs.getD j z74).f0) ∧ w.cell? ⟨b, o + j * 3 + 1, none⟩ = some (.string (xs.getD j z74).f1) ∧ w.cell? ⟨b, o + j * 3 + 2, none⟩ = some (.slice V (xs.getD j z74).f2.length d) ∧ RowS w q V d (xs.getD j z74).f2 := by
  have key : ∀ i : Nat, i < n → ∃ ad V d q, A = some ad ∧ (∀ m u, ([.string (xs.getD i z74).f0, .string (xs.getD i z74).f1, .slice V (xs.getD i z74).f2.length d] : List Value)[m]? = some u → w.cell? (ad.add (i * 3 + m)) = some u) ∧ RowS w q V d (xs.getD i z74).f2 := fun i hi => by
    obtain ⟨ad, cs, e, _, hK, hc0⟩ := Kd.C_get h z74 (i : Int) (by omega) (by omega)
    rw [Int.toNat_natCast] at hK hc0
    obtain ⟨V, d, rfl, l2, g2⟩ := k74_open hK
    obtain ⟨q, hq⟩ := rowS_of_C g2 l2
    exact ⟨ad, V, d, q, e, hc0, hq⟩
  obtain ⟨⟨b, o, sp⟩, V, d, q, rfl, h0, _⟩ := key 0 hp
  have h00 := h0 0 _ rfl
  have hsp : sp = none := by
    cases sp with
    | none => rfl
    | some k =>
      simp [Addr.add, World.cell?] at h00
      split at h00 <;> simp at h00
  subst hsp
  rw [add_off] at h00
  refine ⟨b, o, rfl, World.block_lt_of_cell? w _ h00, fun j hj => ?_⟩
  obtain ⟨ad, V, d, q, e, hc, hr⟩ := key j hj
  obtain rfl := Option.some.inj e
  have c0 := hc 0 _ rfl
  have c1 := hc 1 _ rfl
  have c2 := hc 2 _ rfl
  rw [add_off] at c0 c1 c2
  exact ⟨V, d, q, c0, by rw [Nat.add_assoc]; exact c1, by rw [Nat.add_assoc]; exact c2, hr⟩
/-- The same as a list of values. -/
def cellsOf (w : World) (b o n : Nat) : List Value := (List.range (n * 3)).map fun m => (w.cell? ⟨b, o + m, none⟩).getD undef
theorem cellsOf_len (w : World) (b o n : Nat) : (cellsOf w b o n).length = n * 3 := by simp [cellsOf]
theorem cellsOf_at (w : World) (b o n : Nat) {m : Nat} (hm : m < n * 3) : (cellsOf w b o n)[m]? = some ((w.cell? ⟨b, o + m, none⟩).getD undef) := by
  rw [cellsOf, List.getElem?_map, List.getElem?_range hm]
  rfl
theorem cellsOf_mem {w : World} {b o n : Nat} {xs : List S74} (h : ∀ j, j < n → ∃ V d q, w.cell? ⟨b, o + j * 3, none⟩ = some (.string (xs.getD j z74).f0) ∧ w.cell? ⟨b, o + j * 3 + 1, none⟩ = some (.string (xs.getD j z74).f1) ∧ w.cell? ⟨b, o + j * 3 + 2, none⟩ = some (.slice V (xs.getD j z74).f2.length d) ∧ RowS w q V d (xs.getD j z74).f2) {m : Nat} (hm : m < n * 3) : ∃ u, w.cell? ⟨b, o + m, none⟩ = some u ∧ u.oneCell' = true := by
  obtain ⟨V, d, q, c0, c1, c2, _⟩ := h (m / 3) (by omega)
  rcases (show m = m / 3 * 3 ∨ m = m / 3 * 3 + 1 ∨ m = m / 3 * 3 + 2 by omega) with e | e | e
  · rw [e]; exact ⟨_, c0, rfl⟩
  · rw [e, ← Nat.add_assoc]; exact ⟨_, c1, rfl⟩
  · rw [e, ← Nat.add_assoc]; exact ⟨_, c2, rfl⟩
theorem AttrsAt.of_own {no : Nat → Prop} {lo : Nat} {w W1 : World} {base b o n : Nat} {v : Value} {xs : List S74} (hx : xs.length = n) (hp : 0 < n) (h : ∀ j, j < n → ∃ V d q, w.cell? ⟨b, o + j * 3, none⟩ = some (.string (xs.getD j z74).f0) ∧ w.cell? ⟨b, o + j * 3 + 1, none⟩ = some (.string (xs.getD j z74).f1) ∧ w.cell? ⟨b, o + j * 3 + 2, none⟩ = some (.slice V (xs.getD j z74).f2.length d) ∧ RowS w q V d (xs.getD j z74).f2)
    (own : W1.ownsRow base 74 3 v n (cellsOf w b o n)) (hb : Below w.heap.size w W1) (hno : ∀ q, q < w.heap.size → ¬ no q) : ∃ g cap, v = .slice (some ⟨g, 0, none⟩) n cap ∧ n ≤ cap ∧ base ≤ g ∧ g < W1.heap.size ∧ AttrsAt no lo 0 W1 g xs := by
  subst hx
  rcases own.2 with ⟨rfl, h0⟩ | ⟨g, cap, cur, rfl, h3, h4, h5, h6, h7, h8⟩
  · omega
  · refine ⟨g, cap, rfl, h5, h3, (Array.getElem?_eq_some_iff.1 h4).1, cur.toList, h4, by simp; omega, fun j hj => ?_⟩
    obtain ⟨V, d, q, c0, c1, c2, hr⟩ := h j hj
    have hat : ∀ m, m < xs.length * 3 → ∀ u, w.cell? ⟨b, o + m, none⟩ = some u → cur.toList[m]? = some u := fun m hm u hu => by
      have h9 : (cur.toList.take (xs.length * 3))[m]? = some u := by rw [h8, cellsOf_at w b o _ hm, hu]; rfl
      rwa [List.getElem?_take_of_lt hm] at h9
    exact ⟨V, d, q, hat _ (by omega) _ c0, hat _ (by omega) _ (by rw [← Nat.add_assoc]; exact c1), hat _ (by omega) _ (by rw [← Nat.add_assoc]; exact c2), hr.below hb, fun hp => hno q (hr.lt hp), fun h => absurd h (Nat.not_lt_zero _)⟩
theorem AttrsAt.below {no : Nat → Prop} {lo i : Nat} {w w' : World} {g : Nat} {xs : List S74} (h : AttrsAt no lo i w g xs) (hb : Below w.heap.size w w') : AttrsAt no lo i w' g xs := by
  obtain ⟨cur, ha, hl, hc⟩ := h.at_
  exact ⟨cur, (hb.block g ha.lt).trans ha, hl, fun j hj => by obtain ⟨V, d, q, h1, h2, h3, h4, h5, h6⟩ := hc j hj; exact ⟨V, d, q, h1, h2, h3, h4.below hb, h5, h6⟩⟩
theorem AttrsAt.keep {no : Nat → Prop} {lo i : Nat} {w w' : World} {g q0 : Nat} {xs : List S74} (h : AttrsAt no lo i w g xs) (hg : w.grownBy w' (some q0)) (hne : g ≠ q0) (hno : no q0) : AttrsAt no lo i w' g xs := by
  obtain ⟨cur, ha, hl, hc⟩ := h.at_
  exact ⟨cur, ha.grown hg (fun e => hne (Option.some.inj e)), hl, fun j hj => by obtain ⟨V, d, q, h1, h2, h3, h4, h5, h6⟩ := hc j hj; exact ⟨V, d, q, h1, h2, h3, h4.grown hg (fun hp e => h5 hp (by rw [e]; exact hno)), h5, h6⟩⟩
/-- One list of values put in another's place. -/
theorem AttrsAt.set {no : Nat → Prop} {lo : Nat} {w : World} {g i q c : Nat} {V : Option Addr} {xs : List S74} (h : AttrsAt no lo i w g xs) (hi : i < xs.length) (hg : no g) (hr : RowS w q V c (xs.getD i z74).f2) (hq : 0 < (xs.getD i z74).f2.length → ¬ no q) (hlo : 0 < (xs.getD i z74).f2.length → lo ≤ q) :
    (∃ old, w.cell? ⟨g, i * 3 + 2, none⟩ = some old) ∧ w.frozen? ⟨g, i * 3 + 2, none⟩ = false ∧ AttrsAt no lo (i + 1) (w.setCell ⟨g, i * 3 + 2, none⟩ (.slice V (xs.getD i z74).f2.length c)) g xs := by
  obtain ⟨cur, ha, hl, hc⟩ := h.at_
  have hgr : w.grownBy (w.setCell ⟨g, i * 3 + 2, none⟩ (.slice V (xs.getD i z74).f2.length c)) (some g) := grown_set (grown_refl w (some g)) _ _
  refine ⟨⟨_, ha.get _ _ (List.getElem?_eq_getElem (by omega))⟩, ha.free _, _, ha.set _ _, by rw [List.length_set]; exact hl, fun j hj => ?_⟩
  obtain ⟨V0, d0, q0, h1, h2, h3, h4, h5, h6⟩ := hc j hj
  rw [List.getElem?_set_ne (by omega), List.getElem?_set_ne (by omega)]
  by_cases e : j = i
  · subst e
    refine ⟨V, c, q, h1, h2, by rw [List.getElem?_set_self (by omega)], hr.grown hgr (fun hp e => hq hp (by rw [e]; exact hg)), hq, fun _ => hlo⟩
  · refine ⟨V0, d0, q0, h1, h2, by rw [List.getElem?_set_ne (by omega)]; exact h3, h4.grown hgr (fun hp e => h5 hp (by rw [e]; exact hg)), h5, fun hl => h6 (by omega)⟩
/-- The same blocks from lo to hi. -/
def Same (lo hi : Nat) (w w' : World) : Prop := ∀ k, lo ≤ k → k < hi → w'.heap[k]? = w.heap[k]?
theorem Same.trans {lo hi : Nat} {a b c : World} (h : Same lo hi a b) (k : Same lo hi b c) : Same lo hi a c := fun i h1 h2 => (k i h1 h2).trans (h i h1 h2)
theorem AttrsAt.same {no : Nat → Prop} {lo lo2 hi i : Nat} {w w' : World} {g : Nat} {xs : List S74} (h : AttrsAt no lo i w g xs) (hi2 : i = xs.length) (hl : lo2 ≤ lo) (hg : lo2 ≤ g) (hh : hi = w.heap.size) (hs : Same lo2 hi w w') : AttrsAt no lo i w' g xs := by
  subst hi2 hh
  obtain ⟨cur, ha, hl2, hc⟩ := h.at_
  refine ⟨cur, (hs g hg ha.lt).trans ha, hl2, fun j hj => ?_⟩
  obtain ⟨V, d, q, h1, h2, h3, h4, h5, h6⟩ := hc j hj
  exact ⟨V, d, q, h1, h2, h3, h4.on (fun hp => hs q (Nat.le_trans hl (h6 hj hp)) (h4.lt hp)), h5, h6⟩
def CopyQ (w : World) (x : S45) (e : Ending) (w' : World) : Prop := ∃ B2 d2 B3 d3, e = .returned (.agg #[.int .i64 x.f0, .string x.f1, .slice B2 x.f2.length d2, .slice B3 x.f3.length d3]) ∧ x.f2.length ≤ d2 ∧ x.f3.length ≤ d3 ∧ (∀ W, Same w.heap.size w'.heap.size w' W → Kd.C Kd.string W B2 x.f2.length x.f2 ∧ Kd.C k74 W B3 x.f3.length x.f3) ∧ Below w.heap.size w w'
theorem cells_of_row {w : World} {g c : Nat} {A : Option Addr} {l : List ByteArray} (h : RowS w g A c l) : (∀ ad, A = some ad → ∀ j u, (l.map Value.string)[j]? = some u → w.cell? (ad.add j) = some u) ∧ (A = none → l.length = 0) := by
  refine ⟨fun ad e j u hj => ?_, fun e => ?_⟩
  · have hjn : j < l.length := by have := (List.getElem?_eq_some_iff.1 hj).1; simpa using this
    obtain ⟨o, e2, hc⟩ := h.at_ (by omega)
    rw [e] at e2
    cases e2
    rw [add_off, hc j hjn, ← hj, List.getElem?_map, List.getElem?_eq_getElem hjn]
    simp [List.getD_eq_getElem?_getD, List.getElem?_eq_getElem hjn]
  · rcases Nat.eq_zero_or_pos l.length with h0 | h0
    · exact h0
    · obtain ⟨o, e2, _⟩ := h.at_ h0
      rw [e] at e2
      cases e2
theorem clone61_row (w : World) (g c : Nat) (A : Option Addr) (l : List ByteArray) (h : RowS w g A c l) (hn : l.length ≤ 1048576) : Calls Tryd.prog 61 #[.slice A l.length c] w fun e w' => ∃ g' B d, e = .returned (.slice B l.length d) ∧ RowS w' g' B d l ∧ (0 < l.length → w.heap.size ≤ g' ∧ g' < w'.heap.size) ∧ Below w.heap.size w w' := by
  obtain ⟨h1, h2⟩ := cells_of_row h
  refine (clone61_as w A l.length c (l.map Value.string) (by simp) h1 h2 (by simp [Value.oneCell']) hn).mono ?_
  rintro e w' ⟨v, rfl, own, hb⟩
  obtain ⟨g', B, d, rfl, hr, _, hnew⟩ := row_of_own (d := E) own
  exact ⟨g', B, d, rfl, hr, hnew, hb⟩
theorem clone62_attrs (w wc : World) (hbw : Below w.heap.size w wc) (A : Option Addr) (c : Nat) (xs : List S74) (h : Kd.C k74 w A xs.length xs) (hn : xs.length ≤ 1048576) : Calls Tryd.prog 62 #[.slice A xs.length c] wc fun e w' => ∃ V cap, e = .returned (.slice V xs.length cap) ∧ xs.length ≤ cap ∧ (0 < xs.length → ∃ g, V = some ⟨g, 0, none⟩ ∧ wc.heap.size ≤ g ∧ g < w'.heap.size ∧ AttrsAt (fun q => w.heap.size ≤ q ∧ q < w'.heap.size) w'.heap.size 0 w' g xs) ∧ Below wc.heap.size wc w' := by
  by_cases hp : 0 < xs.length
  · obtain ⟨b, o, rfl, hlt, hc⟩ := attrs_cells h rfl hp
    refine (clone62_as wc (some ⟨b, o, none⟩) xs.length c (cellsOf w b o xs.length) (cellsOf_len _ _ _ _) (fun ad e j u hj => ?_) (fun e => by cases e) (fun u hu => ?_) hn).mono ?_
    · obtain rfl := Option.some.inj e
      have hjn : j < xs.length * 3 := by have := (List.getElem?_eq_some_iff.1 hj).1; rwa [cellsOf_len] at this
      obtain ⟨u', hu', _⟩ := cellsOf_mem hc hjn
      rw [cellsOf_at w b o _ hjn, hu'] at hj
      rw [add_off]
      exact ((hbw.cell (p := ⟨b, o + j, none⟩) hlt).trans hu').trans hj
    · obtain ⟨j, hj, e⟩ := List.mem_iff_getElem?.1 hu |>.imp fun j hj => (⟨(List.getElem?_eq_some_iff.1 hj).1, hj⟩ : j < _ ∧ _)
      rw [cellsOf_len] at hj
      obtain ⟨u', hu', h1⟩ := cellsOf_mem hc hj
      rw [cellsOf_at w b o _ hj, hu'] at e
      obtain rfl := Option.some.inj e
      exact h1
    · rintro e w' ⟨v, rfl, own, hb⟩
      have hbb := hbw.trans (hb.mono hbw.size)
      obtain ⟨g, cap, rfl, hcap, h1, h2, h3⟩ := AttrsAt.of_own (no := fun q => w.heap.size ≤ q ∧ q < w'.heap.size) rfl hp hc own hbb (fun q hq h => by omega)
      exact ⟨_, cap, rfl, hcap, fun _ => ⟨g, rfl, h1, h2, h3⟩, hb⟩
  · have h0 : xs.length = 0 := by omega
    rw [h0]
    refine (clone62_as wc A 0 c [] (by simp) (fun ad e j u hj => by simp at hj) (fun _ => rfl) (by simp) (by omega)).mono ?_
    rintro e w' ⟨v, rfl, own, hb⟩
    rcases own.2 with ⟨rfl, _⟩ | ⟨g, cap, cur, rfl, h3, h4, h5, h6, h7, h8⟩
    · exact ⟨none, 0, rfl, Nat.le_refl _, fun h => by omega, hb⟩
    · exact ⟨_, cap, rfl, h5, fun h => by omega, hb⟩
structure CP (w : World) (g2 d2 d3 : Nat) (B2 V : Option Addr) (x : S45) (s3 : Value) (N i : Nat) (wr : World) : Prop where
  below : Below w.heap.size w wr
  box : At wr w.heap.size [.int .i64 x.f0, .string x.f1, .slice B2 x.f2.length d2, s3] 45
  out : At wr (w.heap.size + 1) [.int .i64 0, .string ⟨#[]⟩, .slice none 0 0, .slice none 0 0] 45
  key : RowS wr g2 B2 d2 x.f2
  size : N ≤ wr.heap.size
  knew : 0 < x.f2.length → w.heap.size + 2 ≤ g2
  cap : x.f3.length ≤ d3
  attrs : 0 < x.f3.length → ∃ g, V = some ⟨g, 0, none⟩ ∧ w.heap.size + 2 ≤ g ∧ g < N ∧ (0 < x.f2.length → g2 ≠ g) ∧ AttrsAt (fun q => w.heap.size ≤ q ∧ q < N) N i wr g x.f3
theorem CP.step {w wr W3 : World} {g2 d2 d3 N i q d : Nat} {B2 V B : Option Addr} {x : S45} {s3 : Value} (h : CP w g2 d2 d3 B2 V x s3 N i wr) (hi : i < x.f3.length) (hb : Below wr.heap.size wr W3) (hr : RowS W3 q B d (x.f3.getD i z74).f2) (hq : 0 < (x.f3.getD i z74).f2.length → wr.heap.size ≤ q) :
    ∃ g, V = some ⟨g, 0, none⟩ ∧ (∃ old, W3.cell? ⟨g, i * 3 + 2, none⟩ = some old) ∧ W3.frozen? ⟨g, i * 3 + 2, none⟩ = false ∧ CP w g2 d2 d3 B2 V x s3 N (i + 1) (W3.setCell ⟨g, i * 3 + 2, none⟩ (.slice B (x.f3.getD i z74).f2.length d)) := by
  obtain ⟨g, hV, h1, h2, h3, h4⟩ := h.attrs (by omega)
  have hN := h.size
  obtain ⟨s1, s2, s4⟩ := (h4.below hb).set hi ⟨by omega, h2⟩ hr (fun hp => by have := hq hp; omega) (fun hp => by have := hq hp; omega)
  have hgr : W3.grownBy (W3.setCell ⟨g, i * 3 + 2, none⟩ (.slice B (x.f3.getD i z74).f2.length d)) (some g) := grown_set (grown_refl W3 (some g)) _ _
  have hsz := h.below.size
  have hs3 := hb.size
  refine ⟨g, hV, s1, s2, ⟨below_set (h.below.trans (hb.mono hsz)) (by omega) (by omega) _, ?_, ?_, (h.key.below hb).grown hgr h3, by have := hgr.size; omega, h.knew, h.cap, fun hp => ⟨g, hV, h1, h2, h3, s4⟩⟩⟩
  · exact (h.box.below hb h.box.lt).other _ _ (by show w.heap.size ≠ g; omega)
  · exact (h.out.below hb h.out.lt).other _ _ (by show w.heap.size + 1 ≠ g; omega)
theorem CP.fin {w wr : World} {g2 d2 d3 N : Nat} {B2 V : Option Addr} {x : S45} {s3 : Value} (h : CP w g2 d2 d3 B2 V x s3 N x.f3.length wr) (n2 : x.f2.length ≤ 1048576) (n3 : x.f3.length ≤ 1048576) (nv : ∀ a ∈ x.f3, a.f2.length ≤ 1048576) (Wf : World)
    (e : Wf = ((((wr.setCell ⟨w.heap.size, 3, none⟩ (.slice V x.f3.length d3)).setCell ⟨w.heap.size + 1, 0, none⟩ (.int .i64 x.f0)).setCell ⟨w.heap.size + 1, 1, none⟩ (.string x.f1)).setCell ⟨w.heap.size + 1, 2, none⟩ (.slice B2 x.f2.length d2)).setCell ⟨w.heap.size + 1, 3, none⟩ (.slice V x.f3.length d3)) :
    CopyQ w x (.returned (.agg #[.int .i64 x.f0, .string x.f1, .slice B2 x.f2.length d2, .slice V x.f3.length d3])) Wf := by
  have ga : wr.grownBy (wr.setCell ⟨w.heap.size, 3, none⟩ (.slice V x.f3.length d3)) (some w.heap.size) := grown_set (grown_refl wr _) _ _
  have gb : (wr.setCell ⟨w.heap.size, 3, none⟩ (.slice V x.f3.length d3)).grownBy Wf (some (w.heap.size + 1)) := by rw [e]; exact grown_set (grown_set (grown_set (grown_set (grown_refl _ _) _ _) _ _) _ _) _ _
  have hsz := h.below.size
  have h1 : Below w.heap.size w (wr.setCell ⟨w.heap.size, 3, none⟩ (.slice V x.f3.length d3)) := below_set h.below (Nat.le_refl _) hsz _
  have hgb := gb.size
  have hga : (wr.setCell ⟨w.heap.size, 3, none⟩ (.slice V x.f3.length d3)).heap.size = wr.heap.size := World.size_setCell _ _ _
  have hf : Wf.heap.size = wr.heap.size := by rw [e]; simp only [World.size_setCell]
  have hkey : RowS Wf g2 B2 d2 x.f2 := (h.key.grown ga (fun hp => by have := h.knew hp; omega)).grown gb (fun hp => by have := h.knew hp; omega)
  refine ⟨B2, d2, V, d3, rfl, h.key.cap, h.cap, fun W hs => ⟨CS_of_row (hkey.on (fun hp => hs g2 (by have := h.knew hp; omega) (hkey.lt hp))) (by omega), ?_⟩, h1.grown gb h1.size (fun j e => by have := Option.some.inj e; omega)⟩
  rcases Nat.eq_zero_or_pos x.f3.length with h0 | h0
  · exact ⟨rfl, by omega, fun hp => by omega⟩
  · obtain ⟨g, hV, a1, a2, a3, a4⟩ := h.attrs h0
    subst hV
    have hN := h.size
    exact (((a4.keep ga (by omega) ⟨Nat.le_refl _, by omega⟩).keep gb (by omega) ⟨by omega, by omega⟩).same rfl (lo2 := w.heap.size) (by omega) (by omega) rfl hs).C n3 nv
theorem CP.mk62 {w W1 W2 : World} {g2 d2 d3 c2 c3 : Nat} {A2 A3 B2 V : Option Addr} {x : S45} (hA : At W1 w.heap.size [.int .i64 x.f0, .string x.f1, .slice A2 x.f2.length c2, .slice A3 x.f3.length c3] 45) (hO : At W1 (w.heap.size + 1) [.int .i64 0, .string ⟨#[]⟩, .slice none 0 0, .slice none 0 0] 45)
    (hr : RowS W1 g2 B2 d2 x.f2) (hn : 0 < x.f2.length → ((w.alloc (.cells #[.int .i64 x.f0, .string x.f1, .slice A2 x.f2.length c2, .slice A3 x.f3.length c3] 45)).alloc (.cells #[.int .i64 0, .string ⟨#[]⟩, .slice none 0 0, .slice none 0 0] 45)).heap.size ≤ g2 ∧ g2 < W1.heap.size) (hB : Below w.heap.size w W1) (hcap : x.f3.length ≤ d3)
    (hat : 0 < x.f3.length → ∃ g, V = some ⟨g, 0, none⟩ ∧ (W1.setCell ⟨w.heap.size, 2, none⟩ (.slice B2 x.f2.length d2)).heap.size ≤ g ∧ g < W2.heap.size ∧ AttrsAt (fun q => w.heap.size ≤ q ∧ q < W2.heap.size) W2.heap.size 0 W2 g x.f3) (hb : Below (W1.setCell ⟨w.heap.size, 2, none⟩ (.slice B2 x.f2.length d2)).heap.size (W1.setCell ⟨w.heap.size, 2, none⟩ (.slice B2 x.f2.length d2)) W2) : CP w g2 d2 d3 B2 V x (.slice A3 x.f3.length c3) W2.heap.size 0 W2 := by
  have hgr : W1.grownBy (W1.setCell ⟨w.heap.size, 2, none⟩ (.slice B2 x.f2.length d2)) (some w.heap.size) := grown_set (grown_refl W1 (some w.heap.size)) _ _
  have hsz : (W1.setCell ⟨w.heap.size, 2, none⟩ (.slice B2 x.f2.length d2)).heap.size = W1.heap.size := World.size_setCell _ _ _
  have hlt := hO.lt
  simp only [World.size_alloc] at hn
  have hBx := below_set (k := 2) hB (Nat.le_refl w.heap.size) hB.size (.slice B2 x.f2.length d2)
  refine ⟨hBx.trans (hb.mono hBx.size), (hA.set 2 _).below hb (by rw [hsz]; exact hA.lt), (hO.other _ _ (by show w.heap.size + 1 ≠ w.heap.size; omega)).below hb (by rw [hsz]; exact hlt), (hr.grown hgr (fun hp => by have := hn hp; omega)).below hb, Nat.le_refl _, fun hp => (by have := hn hp; omega), hcap, fun hp => ?_⟩
  obtain ⟨g, e, h1, h2, h3⟩ := hat hp
  rw [hsz] at h1
  exact ⟨g, e, by omega, h2, fun hp2 => by have := hn hp2; omega, h3⟩
set_option maxHeartbeats 4000000 in
set_option maxRecDepth 100000 in
theorem copied_as (w : World) (x : S45) (A2 A3 : Option Addr) (c2 c3 : Nat) (h2 : Kd.C Kd.string w A2 x.f2.length x.f2) (l2 : x.f2.length ≤ c2) (h3 : Kd.C k74 w A3 x.f3.length x.f3) (l3 : x.f3.length ≤ c3) (n2 : x.f2.length ≤ 1048576) (n3 : x.f3.length ≤ 1048576) (nv : ∀ a ∈ x.f3, a.f2.length ≤ 1048576) :
    Calls Tryd.prog 48 #[.agg #[.int .i64 x.f0, .string x.f1, .slice A2 x.f2.length c2, .slice A3 x.f3.length c3]] w (CopyQ w x) := by
  obtain ⟨q2, r2⟩ := rowS_of_C h2 l2
  have HR2 := Lib.hid r2
  have H3 := Lib.hid h3
  have HNV := Lib.hid nv
  clear h2 h3 r2 nv
  go_enter Tryd.func48, Tryd.ntmps48
  go_wp2_with (first
    | (go_at_call 61; go_loud ((with_reducible refine (clone61_row _ q2 c2 A2 x.f2 ?hx n2).mono ?_); (case hx => exact HR2.out.below (by repeat (first | exact Below.refl _ _ | apply below_alloc))); rintro e W1 ⟨g2, B2, d2, rfl, r, hr, hb⟩; have hA : At W1 w.heap.size [.int .i64 x.f0, .string x.f1, .slice A2 x.f2.length c2, .slice A3 x.f3.length c3] 45 := ((At.fresh w _ 45).alloc _).below hb (by simp only [World.size_alloc]; omega); have hO : At W1 (w.heap.size + 1) [.int .i64 0, .string ⟨#[]⟩, .slice none 0 0, .slice none 0 0] 45 := (by have h9 := (At.fresh (w.alloc (.cells #[.int .i64 x.f0, .string x.f1, .slice A2 x.f2.length c2, .slice A3 x.f3.length c3] 45)) [.int .i64 0, .string ⟨#[]⟩, .slice none 0 0, .slice none 0 0] 45).below hb (by simp only [World.size_alloc]; omega); rwa [World.size_alloc] at h9); have k2 := hA.get 2 _ rfl; have k3 := hA.get 3 _ rfl; have f2 := hA.free 2; have HA := Lib.hid hA; have HO := Lib.hid hO; have HR := Lib.hid (And.intro r hr); have HB1 := Lib.hid ((below_alloc (below_alloc (Below.refl w.heap.size w) _) _ : Below w.heap.size w _).trans (hb.mono (by simp only [World.size_alloc]; omega))); clear hA hO r hr hb))
    | (go_at_call 62; go_loud ((with_reducible refine (clone62_attrs w _ ?hbw A3 c3 x.f3 H3.out n3).mono ?_); (case hbw => exact below_set HB1.out (Nat.le_refl _) HB1.out.size _); rintro e W2 ⟨V, d3, rfl, hcap, hat, hb⟩; have HK : Hid (CP w g2 d2 d3 B2 V x (.slice A3 x.f3.length c3) W2.heap.size 0 W2) := Lib.hid (CP.mk62 HA.out HO.out HR.out.1 HR.out.2 HB1.out hcap hat hb); clear hcap hat hb HA HO HR HB1 k2 k3 f2))
    | go_in)
  go_loopw [14] (fun v wr => ∃ i : Nat, i ≤ x.f3.length ∧ v = .int .i64 (i : Nat) ∧ Hid (CP w g2 d2 d3 B2 V x (.slice A3 x.f3.length c3) W2.heap.size i wr)) (fun v _ => x.f3.length - (intOf v).toNat)
  case atStart => exact ⟨0, Nat.zero_le _, rfl, HK⟩
  case round =>
    clear HK
    obtain ⟨i, hi, rfl, HW⟩ := hrel
    by_cases hin : i < x.f3.length
    · have hlt : (i : Int) < (x.f3.length : Int) := by omega
      have hwi : IntKind.i64.wrap ((i : Int) + 1) = ((i + 1 : Nat) : Int) := by rw [IntWalk.i64_in _ (by omega)]; rfl
      obtain ⟨g, hV, _, _, _, hat⟩ := HW.out.attrs (by omega)
      obtain ⟨cur, ha, hl, hc⟩ := hat.at_
      obtain ⟨Vi, di, qi, _, _, hcell, hrow, _, _⟩ := hc i hin
      have hci := ha.get _ _ hcell
      subst hV
      have hnv := HNV.out (x.f3.getD i z74) (by rw [List.getD_eq_getElem?_getD, List.getElem?_eq_getElem hin]; exact List.getElem_mem hin)
      have HRI := Lib.hid hrow
      have HST := Lib.hid (fun W3 q d B hb hr hq => CP.step (W3 := W3) (q := q) (d := d) (B := B) HW.out hin hb hr hq)
      obtain ⟨vs, hvs⟩ : ∃ vs, vs = (x.f3.getD i z74).f2 := ⟨_, rfl⟩
      rw [← hvs] at hci hnv HRI HST
      clear hat ha hl hc hcell hrow hvs
      go_wp2_with (first
        | (go_at_call 61; go_loud ((with_reducible refine (clone61_row _ qi di Vi vs ?hx hnv).mono ?_); (case hx => exact HRI.out); rintro e W3 ⟨g', B', d', rfl, r, hr, hb⟩; obtain ⟨g9, e9, ⟨old, k9⟩, f9, hcp⟩ := HST.out W3 g' d' B' hb r (fun hp => (hr hp).1); obtain rfl : g = g9 := (by cases e9; rfl); have HCP := Lib.hid hcp; clear e9 hcp r hr hb))
        | go_in)
      go_roundw
      case rel => exact ⟨i + 1, by omega, by go_num, HCP⟩
      case measure => simp [intOf]; omega
    · have hlt : ¬ (i : Int) < (x.f3.length : Int) := by omega
      obtain rfl : i = x.f3.length := by omega
      have k0 := HW.out.box.get 0 _ rfl
      have k1 := HW.out.box.get 1 _ rfl
      have k2 := HW.out.box.get 2 _ rfl
      have k3 := HW.out.box.get 3 _ rfl
      have f3 := HW.out.box.free 3
      have e0 := HW.out.out.get 0 _ rfl
      have e1 := HW.out.out.get 1 _ rfl
      have e2 := HW.out.out.get 2 _ rfl
      have e3 := HW.out.out.get 3 _ rfl
      have g0 := HW.out.out.free 0
      have g1 := HW.out.out.free 1
      have g2' := HW.out.out.free 2
      have g3 := HW.out.out.free 3
      go_wp2
      refine bodyPost_ret (results_cell_row rfl _ _ (w.heap.size + 1) 45 #[.int .i64 x.f0, .string x.f1, .slice B2 x.f2.length d2, .slice V x.f3.length d3] (0, 0) _ rfl (by exact ((((HW.out.out.other _ _ (by show w.heap.size + 1 ≠ w.heap.size; omega)).set 0 _).set 1 _).set 2 _).set 3 _) Tryd.underlying45 rfl (by kernel_rfl)) rfl ?_
      exact HW.out.fin n2 n3 HNV.out _ rfl
end Go.Proofs.YtnogmaljcocfjaaDoor.DitCopy
namespace Go.Proofs.YtnogmaljcocfjaaDoor.DitTerm
open Go.RowKit Go.Proofs.YtnogmaljcocfjaaDoor.Blk Go.Proofs.YtnogmaljcocfjaaDoor.DitTab Go.Proofs.YtnogmaljcocfjaaDoor.DitRow Go.Proofs.YtnogmaljcocfjaaDoorW.PrintWords Go.Proofs.YtnogmaljcocfjaaDoorW.PrintLast Go.Proofs.YtnogmaljcocfjaaDoorW.PrintMore
/-- A key's parts, as lists of bytes. -/
def kl (k : List ByteArray) : List (List UInt8) := k.map fun p => p.data.toList
def wordL (k : List ByteArray) : List UInt8 := DitWord.word (kl k)
def wordB (k : List ByteArray) : ByteArray := ⟨(wordL k).toArray⟩
def termB (p : ByteArray) : ByteArray := ⟨(DitWord.term p.data.toList).toArray⟩
theorem kl_inj {a b : List ByteArray} (h : kl a = kl b) : a = b := by
  refine List.map_inj_right ?_ |>.1 h
  intro x y e
  exact ByteArray.ext (Array.toList_inj.1 e)
theorem wordB_inj {a b : List ByteArray} (h : wordB a = wordB b) : a = b := by
  have h1 : (wordL a).toArray = (wordL b).toArray := congrArg ByteArray.data h
  have h2 : wordL a = wordL b := by simpa using congrArg Array.toList h1
  exact kl_inj (DitWord.word_inj h2)
theorem termB_eq (p : ByteArray) : ((⟨(Lib.itoa (p.size : Int)).toArray⟩ : ByteArray) ++ ⟨#[58]⟩) ++ p = termB p := by
  apply ByteArray.ext
  rw [ByteArray.data_append, ByteArray.data_append]
  apply Array.toList_inj.1
  show (((Lib.itoa (p.size : Int)).toArray ++ #[58]) ++ p.data).toList = DitWord.term p.data.toList
  unfold DitWord.term
  rw [Array.toList_append, Array.toList_append]
  have e : p.data.toList.length = p.size := Array.length_toList
  rw [e]
  simp
/-- How long a key's text may be. -/
def bulkK (k : List ByteArray) : Nat := (k.map fun p => p.size + 22).sum
theorem digits_le {u : Nat} (h : u ≤ 1048576) : Lib.nDigits u ≤ 21 := by
  have h1 := Lib.itoa_length_le (u : Int) (by omega) (by omega)
  rw [DitWord.itoa_nat, Lib.decDigits_length] at h1
  exact h1
theorem term_le (p : ByteArray) (h : p.size ≤ 1048576) : (DitWord.term p.data.toList).length ≤ p.size + 22 := by
  rw [DitWord.term_len]
  have e : p.data.toList.length = p.size := Array.length_toList
  rw [e]
  have := digits_le h
  omega
theorem bulkK_mem : ∀ {k : List ByteArray} {p : ByteArray}, p ∈ k → p.size ≤ bulkK k
  | q :: k, p, h => by
    simp only [bulkK, List.map_cons, List.sum_cons]
    rcases List.mem_cons.1 h with rfl | h
    · omega
    · have := bulkK_mem h
      simp only [bulkK] at this
      omega
theorem wordL_le : ∀ (k : List ByteArray), (∀ p ∈ k, p.size ≤ 1048576) → (wordL k).length ≤ bulkK k
  | [], _ => Nat.le_refl _
  | p :: k, h => by
    have h1 := term_le p (h p (by simp))
    have h2 := wordL_le k (fun q hq => h q (by simp [hq]))
    simp only [wordL, kl, DitWord.word, bulkK, List.map_cons, List.flatten_cons, List.length_append, List.sum_cons] at h1 h2 ⊢
    omega
theorem bulkK_take : ∀ (k : List ByteArray) (i : Nat), bulkK (k.take i) ≤ bulkK k
  | [], i => by simp
  | p :: k, 0 => Nat.zero_le _
  | p :: k, i + 1 => by
    have := bulkK_take k i
    simp only [bulkK, List.take_succ_cons, List.map_cons, List.sum_cons] at this ⊢
    omega
set_option maxRecDepth 100000 in
theorem term_as (p : ByteArray) (hp : p.size ≤ 1048576) (w : World) (ht : Tabs w) : Calls Tryd.prog 52 #[.string p] w fun e w' => e = .returned (.string (termB p)) ∧ Below w.heap.size w w' := by
  have HT := Lib.hid ht
  have HE := Lib.hid (termB_eq p)
  have hil := Lib.itoa_length_le (p.size : Int) (by omega) (by omega)
  have n1 : ¬ 9223372036854775807 < (Lib.itoa (p.size : Int)).length + 1 := by omega
  have n2 : ¬ 9223372036854775807 < (Lib.itoa (p.size : Int)).length + 1 + p.size := by omega
  clear ht hil
  go_enter Tryd.func52, Tryd.ntmps52
  go_wp2_with (first | (go_at_call 64; ((with_reducible refine (itoa_as (p.size : Int) (by omega) (by omega) _ HT.out).mono ?_); rintro e W1 ⟨rfl, q⟩; have H1 := Lib.hid q; clear q)) | go_in)
  go_ret
  exact ⟨by rw [← HE.out]; rfl, H1.out⟩
theorem wordL_snoc (k : List ByteArray) (p : ByteArray) : wordL (k ++ [p]) = wordL k ++ DitWord.term p.data.toList := by
  unfold wordL kl
  rw [List.map_append, List.map_cons, List.map_nil, DitWord.word_snoc]
theorem termB_cells (p : ByteArray) : Lib.strCells (termB p) = Lib.byteCells (DitWord.term p.data.toList) := by
  unfold Lib.strCells Lib.byteCells termB
  simp
theorem termB_size (p : ByteArray) : (termB p).size = (DitWord.term p.data.toList).length := rfl
theorem byteCells_app (a b : List UInt8) : Lib.byteCells (a ++ b) = Lib.byteCells a ++ Lib.byteCells b := List.map_append
set_option maxHeartbeats 1000000 in
set_option maxRecDepth 100000 in
theorem word_as (w : World) (g : Nat) (A : Option Addr) (c : Nat) (k : List ByteArray) (h : RowS w g A c k) (ht : Tabs w) (hb : bulkK k ≤ 33554432) (hn : k.length ≤ 1048576) (hp : ∀ p ∈ k, p.size ≤ 1048576) :
    Calls Tryd.prog 49 #[.slice A k.length c] w fun e w' => e = .returned (.string (wordB k)) ∧ Below w.heap.size w w' := by
  obtain ⟨i0, hi0, hz0, hz1, hz2⟩ := info_parts info5
  have HR := Lib.hid h
  have HT := Lib.hid ht
  have HP := Lib.hid hp
  have HB := Lib.hid hb
  have H0 : Hid (w.ownsRow w.heap.size 5 1 (.slice none 0 0) (wordL (k.take 0)).length (Lib.byteCells (wordL (k.take 0)))) := Lib.hid (World.ownsRow_nil _ _ _ _)
  clear h ht hp hb
  go_enter Tryd.func49, Tryd.ntmps49
  go_wp2
  go_loopw [3, 8] (fun v3 v8 wr => ∃ i : Nat, i ≤ k.length ∧ v8 = .int .i64 (i : Nat) ∧ Hid (Below w.heap.size w wr ∧ wr.ownsRow w.heap.size 5 1 v3 (wordL (k.take i)).length (Lib.byteCells (wordL (k.take i))))) (fun _ v _ => k.length - (intOf v).toNat)
  case atStart => exact ⟨0, Nat.zero_le _, rfl, Lib.hid ⟨Below.refl _ _, H0.out⟩⟩
  case round =>
    clear H0
    obtain ⟨i, hi, rfl, HW⟩ := hrel
    have hszW := HW.out.1.size
    by_cases hin : i < k.length
    · have hlt : (i : Int) < (k.length : Int) := by omega
      have hwi : IntKind.i64.wrap ((i : Int) + 1) = ((i + 1 : Nat) : Int) := by rw [IntWalk.i64_in _ (by omega)]; rfl
      obtain ⟨o, rfl, hc⟩ := HR.out.at_ (by omega)
      have cx := (HW.out.1.cell (p := ⟨g, o + i, none⟩) (World.block_lt_of_cell? w _ (hc i hin))).trans (hc i hin)
      have hpm := HP.out (k.getD i E) (by rw [List.getD_eq_getElem?_getD, List.getElem?_eq_getElem hin]; exact List.getElem_mem hin)
      have hsn : wordL (k.take (i + 1)) = wordL (k.take i) ++ DitWord.term (k.getD i E).data.toList := by
        rw [List.take_add_one, List.getElem?_eq_getElem hin, Option.toList_some, wordL_snoc]
        simp [List.getD_eq_getElem?_getD, List.getElem?_eq_getElem hin]
      have hl1 := wordL_le (k.take (i + 1)) (fun q hq => HP.out q (List.mem_of_mem_take hq))
      have hl2 := Nat.le_trans (bulkK_take k (i + 1)) HB.out
      rw [hsn, List.length_append] at hl1
      generalize k.getD i E = p at cx hpm hsn hl1
      have TA := Lib.hid (fun W (hT : Tabs W) => term_as p hpm W hT)
      have hown := HW.out.2
      have hlb : (wordL (k.take i)).length + (termB p).size ≤ 140737488355328 := by rw [termB_size]; omega
      have hlm : (wordL (k.take i)).length + (termB p).size ≤ maxLen := by unfold maxLen; omega
      have HSN := Lib.hid hsn
      clear hc hsn hl1 hl2
      go_wp2_with (first
        | (go_at_call 52; ((with_reducible refine (TA.out _ ?ht).mono ?_); (case ht => exact Tabs_at HT.out HW.out.1); rintro e W1 ⟨rfl, q⟩; have HQ := Lib.hid (HW.out.1.trans (q.mono hszW)); have own1 := own_below hown q; have hs1 := q.size; clear q))
        | (at_builtin; refine Lib.wpList_append_own_string (w := W1) rfl (.tmp 12) (.tmp 14) 89 9 rfl w.heap.size 5 i0 Tryd.underlying89 Tryd.underlying9 hi0 hz0 hz1 hz2 _ _ _ rfl own1 (termB p) rfl hlm hlb (by omega) ?_; intro v6 W2 q1 q2 _; have HQ2 := Lib.hid (And.intro (HQ.out.grown q2 (by omega) (fun j e => (own1.lt _ e).1)) q1); clear q1 q2)
        | go_in)
      go_roundw
      case rel => exact ⟨i + 1, by omega, by go_num, Lib.hid ⟨HQ2.out.1, by have := HQ2.out.2; rw [termB_cells, ← byteCells_app, ← HSN.out] at this; rw [termB_size, ← List.length_append, ← HSN.out] at this; exact this⟩⟩
      case measure => simp [intOf]; omega
    · have hlt : ¬ (i : Int) < (k.length : Int) := by omega
      obtain rfl : i = k.length := by omega
      have hown := HW.out.2
      rw [List.take_of_length_le (Nat.le_refl _)] at hown
      have cv := conv_own hown
      clear hown
      go_wp2
      go_ret
      exact ⟨rfl, HW.out.1⟩
end Go.Proofs.YtnogmaljcocfjaaDoor.DitTerm
namespace Go.Proofs.YtnogmaljcocfjaaDoor.DitMap
open Go Go.Maps Go.RowKit Go.Proofs.YtnogmaljcocfjaaDoor.Blk Go.Proofs.YtnogmaljcocfjaaDoor.DitTab Go.Proofs.YtnogmaljcocfjaaDoor.DitRow Go.Proofs.YtnogmaljcocfjaaDoorW.PrintWords Go.Proofs.YtnogmaljcocfjaaDoorW.PrintLast Go.Proofs.YtnogmaljcocfjaaDoorW.PrintMore
theorem law9 : Keyed Tryd.prog 9 := string_keyed Tryd.underlying9
theorem zero3 (w : World) : (zeroValue 3).run Tryd.prog w = .ok (.int .i64 0) w := by kernel_rfl
abbrev lit (s : ByteArray) : Lit := .string s.data.toList
/-- Block b is a map that tells f. -/
def Num (w : World) (b n : Nat) (f : ByteArray → Option Int) : Prop := ∃ D : DataW Unit, w.ownsMap Tryd.prog 9 (plainElem Tryd.prog 3) b n D ∧ (∀ s, has D (lit s) = (f s).isSome) ∧ ∀ s v, f s = some v → ∀ z, D.atKey (lit s) z = .lit (.int .i64 v)
section
variable {w w' : World} {b n : Nat} {f : ByteArray → Option Int}
theorem Num.made (w : World) : Num (w.alloc (.map #[] 0)) w.heap.size 0 (fun _ => none) :=
  ⟨.map [], World.ownsMap_made _ _ _ _, fun s => rfl, fun s v h => by cases h⟩
theorem Num.lt (h : Num w b n f) : b < w.heap.size := by obtain ⟨D, h1, _⟩ := h; exact h1.lt
theorem Num.mono (h : Num w b n f) {m : Nat} (hm : n ≤ m) : Num w b m f := by obtain ⟨D, h1, h2⟩ := h; exact ⟨D, h1.mono hm, h2⟩
theorem Num.kept {row : Option Nat} (h : Num w b n f) (hg : w.grownBy w' row) (hne : some b ≠ row) : Num w' b n f := by obtain ⟨D, h1, h2⟩ := h; exact ⟨D, h1.kept hg hne, h2⟩
theorem grown_below (h : Below w.heap.size w w') : w.grownBy w' none := ⟨h.os, h.tape, h.output, h.size, fun k hk _ => h.block k hk⟩
theorem Num.below (h : Num w b n f) (hb : Below w.heap.size w w') : Num w' b n f := h.kept (grown_below hb) (by simp)
theorem lit_inj {s t : ByteArray} (h : lit s = lit t) : s = t := by
  injection h with h
  exact ByteArray.ext (Array.toList_inj.1 h)
theorem Num.val (h : Num w b n f) : ∃ D : DataW Unit, w.ownsMap Tryd.prog 9 (plainElem Tryd.prog 3) b n D ∧ (∀ s, has D (lit s) = (f s).isSome) ∧ ∀ s c, D.atKey (lit s) (.lit (.int .i64 0)) = .lit (.int .i64 c) → c = (f s).getD 0 := by
  obtain ⟨D, h1, h2, h3⟩ := h
  refine ⟨D, h1, h2, fun s c hc => ?_⟩
  cases hf : f s with
  | some v =>
    rw [h3 s v hf] at hc
    injection hc with hc
    injection hc with _ hc
    exact hc.symm
  | none =>
    have h4 := h2 s
    rw [hf] at h4
    rw [atKey_of_not_has h4] at hc
    injection hc with hc
    injection hc with _ hc
    exact hc.symm
end
section
variable (w : World) {ops : Array Oper} {rest : List Oper} {o : Oper} {a : Act} {Q : Exit → Act → World → Prop}
theorem key_mk (s : ByteArray) (hs : s.size ≤ maxLen) : keyOf Tryd.prog 9 (.string s) = some (lit s) := Go.WideMaps.keyOf_string_mk Tryd.underlying9 hs
/-- 'v, ok := m[k]'. -/
theorem wp_look_ok (hg : o.guard = none) (m x : Operand) (hop : o.op = Op.lookup 78 m x true) (b n : Nat) (f : ByteArray → Option Int) (hm : a.eval m = .map (some b)) (h : Num w b n f) (s : ByteArray) (hx : a.eval x = .string s) (hs : s.size ≤ maxLen)
    (hK : wpList Tryd.prog ops Q rest (a.put o.dst (.tuple #[.int .i64 ((f s).getD 0), .bool (f s).isSome])) w) : wpList Tryd.prog ops Q (o :: rest) a w := by
  obtain ⟨D, h1, h2, h3⟩ := h.val
  refine wpList_lookup_own_ok_int w hg m x 78 hop 9 3 .i64 law9 Tryd.underlying78 Tryd.underlying3 (zero3 w) b n D hm h1 _ _ hx (key_mk s hs) (fun c hc _ => ?_)
  rw [h3 s c hc, h2 s]
  exact hK
/-- 'm[k]'. -/
theorem wp_look (hg : o.guard = none) (m x : Operand) (hop : o.op = Op.lookup 78 m x false) (b n : Nat) (f : ByteArray → Option Int) (hm : a.eval m = .map (some b)) (h : Num w b n f) (s : ByteArray) (hx : a.eval x = .string s) (hs : s.size ≤ maxLen)
    (hK : wpList Tryd.prog ops Q rest (a.put o.dst (.int .i64 ((f s).getD 0))) w) : wpList Tryd.prog ops Q (o :: rest) a w := by
  obtain ⟨D, h1, h2, h3⟩ := h.val
  refine wpList_lookup_own_int w hg m x 78 hop 9 3 .i64 law9 Tryd.underlying78 Tryd.underlying3 (zero3 w) b n D hm h1 _ _ hx (key_mk s hs) (fun c hc _ => ?_)
  rw [h3 s c hc]
  exact hK
/-- 'm[k] = v'. -/
theorem wp_put (hg : o.guard = none) (m x v : Operand) (hop : o.op = Op.mapUpdate 78 m x v) (b n : Nat) (f : ByteArray → Option Int) (hm : a.eval m = .map (some b)) (h : Num w b n f) (hn : n < maxLen) (s : ByteArray) (hx : a.eval x = .string s) (hs : s.size ≤ maxLen) (i : Int) (hv : a.eval v = .int .i64 i) (hi : (Lit.int .i64 i).wf = true)
    (hK : ∀ w', Num w' b (n + 1) (fun t => if t = s then some i else f t) → w.grownBy w' (some b) → wpList Tryd.prog ops Q rest (a.put o.dst undef) w') : wpList Tryd.prog ops Q (o :: rest) a w := by
  obtain ⟨D, h1, h2, h3⟩ := h
  refine wpList_mapUpdate_own w hg m x v 78 hop 9 3 law9 Tryd.underlying78 _ b n D hm h1 hn _ _ _ hx hv (key_mk s hs) _ [] (plainElem_int Tryd.underlying3 hi) (fun w' o1 g1 => hK w' ⟨_, o1, fun t => ?_, fun t c ht z => ?_⟩ g1)
  · show has _ _ = (if t = s then some i else f t).isSome
    by_cases e : t = s
    · subst e
      rw [if_pos rfl, has_put_same h1.isMap (by trivial)]
      rfl
    · rw [if_neg e, has_put_other (fun q => e (lit_inj q))]
      exact h2 t
  · have ht : (if t = s then some i else f t) = some c := ht
    by_cases e : t = s
    · subst e
      rw [if_pos rfl] at ht
      obtain rfl := Option.some.inj ht
      exact atKey_put_same h1.isMap (by trivial) _ _
    · rw [if_neg e] at ht
      rw [atKey_put_other (fun q => e (lit_inj q))]
      exact h3 t c ht z
end
end Go.Proofs.YtnogmaljcocfjaaDoor.DitMap
namespace Go.Proofs.YtnogmaljcocfjaaDoor.DitCheck
open Go.RowKit Go.Proofs.YtnogmaljcocfjaaDoor.XK Go.Proofs.YtnogmaljcocfjaaDoor.Blk Go.Proofs.YtnogmaljcocfjaaDoor.DitTab Go.Proofs.YtnogmaljcocfjaaDoor.DitRow Go.Proofs.YtnogmaljcocfjaaDoor.DitTerm Go.Proofs.YtnogmaljcocfjaaDoor.DitMap Go.Proofs.YtnogmaljcocfjaaDoorW.PrintWords Go.Proofs.YtnogmaljcocfjaaDoorW.PrintLast Go.Proofs.YtnogmaljcocfjaaDoorW.PrintMore
noncomputable instance keyMem (k : List ByteArray) (l : List (List ByteArray)) : Decidable (k ∈ l) := Classical.propDecidable _
instance keyNil (k : List ByteArray) : Decidable (k = []) := match k with | [] => isTrue rfl | _ :: _ => isFalse (by simp)
abbrev Keys (es : List S45) : List (List ByteArray) := es.map S45.f2
/-- Why entry i is refused. -/
noncomputable def faultAt (K : List (List ByteArray)) (i : Nat) : Int :=
  if K.getD i [] ∈ K.take i then 90 else if i = 0 then 0 else if K.getD i [] = [] ∨ (K.getD i []).dropLast ∉ K.take i then 91 else 0
noncomputable def chk (K : List (List ByteArray)) : Int × Int :=
  if K.length = 0 then (92, 0) else match (List.range K.length).find? (fun i => decide (faultAt K i ≠ 0)) with
    | some i => (faultAt K i, (i : Int))
    | none => (0, 0)
theorem chk_at {K : List (List ByteArray)} {i : Nat} (hi : i < K.length) (h : ∀ j, j < i → faultAt K j = 0) (hf : faultAt K i ≠ 0) : chk K = (faultAt K i, (i : Int)) := by
  unfold chk
  rw [if_neg (by omega)]
  have : (List.range K.length).find? (fun i => decide (faultAt K i ≠ 0)) = some i := by
    rw [List.find?_range_eq_some]
    refine ⟨by simpa using hf, by simpa using hi, fun j hj => ?_⟩
    simp [h j hj]
  rw [this]
theorem chk_ok {K : List (List ByteArray)} (hp : 0 < K.length) (h : ∀ j, j < K.length → faultAt K j = 0) : chk K = (0, 0) := by
  unfold chk
  rw [if_neg (by omega)]
  have : (List.range K.length).find? (fun i => decide (faultAt K i ≠ 0)) = none := by
    rw [List.find?_eq_none]
    intro j hj
    simp [h j (by simpa using hj)]
  rw [this]
/-- Entries that the walk can bear. -/
structure Fit (es : List S45) : Prop where
  len : es.length ≤ 1048576
  key : ∀ e ∈ es, e.f2.length ≤ 1048576 ∧ bulkK e.f2 ≤ 33554432 ∧ ∀ p ∈ e.f2, p.size ≤ 1048576
  att : ∀ e ∈ es, e.f3.length ≤ 1048576 ∧ ∀ a ∈ e.f3, a.f2.length ≤ 1048576
/-- An entry's cells. -/
structure EntAt (w : World) (b o : Nat) (x : S45) : Prop where
  c0 : w.cell? ⟨b, o, none⟩ = some (.int .i64 x.f0)
  c1 : w.cell? ⟨b, o + 1, none⟩ = some (.string x.f1)
  more : ∃ A2 d2 q2 A3 d3, w.cell? ⟨b, o + 2, none⟩ = some (.slice A2 x.f2.length d2) ∧ w.cell? ⟨b, o + 3, none⟩ = some (.slice A3 x.f3.length d3) ∧ RowS w q2 A2 d2 x.f2 ∧ x.f3.length ≤ d3 ∧ Kd.C k74 w A3 x.f3.length x.f3
theorem ents_at {w : World} {A : Option Addr} {es : List S45} (h : Kd.C k45 w A es.length es) (hp : 0 < es.length) : ∃ b o, A = some ⟨b, o, none⟩ ∧ b < w.heap.size ∧ ∀ j, j < es.length → EntAt w b (o + j * 4) (es.getD j z45) := by
  have key : ∀ i : Nat, i < es.length → ∃ ad A2 d2 q2 A3 d3, A = some ad ∧ (∀ m u, ([.int .i64 (es.getD i z45).f0, .string (es.getD i z45).f1, .slice A2 (es.getD i z45).f2.length d2, .slice A3 (es.getD i z45).f3.length d3] : List Value)[m]? = some u → w.cell? (ad.add (i * 4 + m)) = some u) ∧ RowS w q2 A2 d2 (es.getD i z45).f2 ∧ (es.getD i z45).f3.length ≤ d3 ∧ Kd.C k74 w A3 (es.getD i z45).f3.length (es.getD i z45).f3 := fun i hi => by
    obtain ⟨ad, cs, e, _, hK, hc0⟩ := Kd.C_get h z45 (i : Int) (by omega) (by omega)
    rw [Int.toNat_natCast] at hK hc0
    obtain ⟨A2, d2, A3, d3, rfl, l2, g2, l3, g3⟩ := k45_open hK
    obtain ⟨q, hq⟩ := rowS_of_C g2 l2
    exact ⟨ad, A2, d2, q, A3, d3, e, hc0, hq, l3, g3⟩
  obtain ⟨⟨b, o, sp⟩, A2, d2, q2, A3, d3, rfl, h0, _⟩ := key 0 hp
  have h00 := h0 0 _ rfl
  have hsp : sp = none := by
    cases sp with
    | none => rfl
    | some k =>
      simp [Addr.add, World.cell?] at h00
      split at h00 <;> simp at h00
  subst hsp
  rw [add_off] at h00
  refine ⟨b, o, rfl, World.block_lt_of_cell? w _ h00, fun j hj => ?_⟩
  obtain ⟨ad, A2, d2, q2, A3, d3, e, hc, hr, hl, hC⟩ := key j hj
  obtain rfl := Option.some.inj e
  have c0 := hc 0 _ rfl
  have c1 := hc 1 _ rfl
  have c2 := hc 2 _ rfl
  have c3 := hc 3 _ rfl
  rw [add_off] at c0 c1 c2 c3
  exact ⟨c0, by rw [Nat.add_assoc]; exact c1, A2, d2, q2, A3, d3, by rw [Nat.add_assoc]; exact c2, by rw [Nat.add_assoc]; exact c3, hr, hl, hC⟩
theorem EntAt.below {w w' : World} {b o : Nat} {x : S45} (h : EntAt w b o x) (hlt : b < w.heap.size) (hb : Below w.heap.size w w') : EntAt w' b o x := by
  obtain ⟨A2, d2, q2, A3, d3, c2, c3, r, l, g⟩ := h.more
  exact ⟨(hb.cell (p := ⟨b, o, none⟩) hlt).trans h.c0, (hb.cell (p := ⟨b, o + 1, none⟩) hlt).trans h.c1, A2, d2, q2, A3, d3, (hb.cell (p := ⟨b, o + 2, none⟩) hlt).trans c2, (hb.cell (p := ⟨b, o + 3, none⟩) hlt).trans c3, r.below hb, l, Kd.C_below g hb⟩
structure CK (w wr : World) (nb i : Nat) (es : List S45) : Prop where
  below : Below w.heap.size w wr
  low : w.heap.size ≤ nb
  num : ∃ f, Num wr nb i f ∧ ∀ k, (f (wordB k)).isSome = decide (k ∈ (Keys es).take i)
  ok : ∀ j, j < i → faultAt (Keys es) j = 0
theorem size_set (w : World) (a : Addr) (u : Value) : (w.setCell a u).heap.size = w.heap.size := World.size_setCell _ _ _
theorem dropLast_take {α : Type} (l : List α) : l.dropLast = l.take (l.length - 1) := List.dropLast_eq_take
theorem CK.more {w wr W6 : World} {nb i : Nat} {es : List S45} {f : ByteArray → Option Int} (h : CK w wr nb i es) (hi : i < es.length) (hf : ∀ k, (f (wordB k)).isSome = decide (k ∈ (Keys es).take i)) (hok : faultAt (Keys es) i = 0)
    (hn : Num W6 nb (i + 1) (fun t => if t = wordB ((Keys es).getD i []) then some (i : Int) else f t)) (hb : Below w.heap.size w W6) : CK w W6 nb (i + 1) es := by
  have hiK : i < (Keys es).length := by simpa using hi
  have htk : (Keys es).take (i + 1) = (Keys es).take i ++ [(Keys es).getD i []] := by
    rw [List.take_add_one, List.getElem?_eq_getElem hiK, Option.toList_some]
    simp [List.getD_eq_getElem?_getD, List.getElem?_eq_getElem hiK]
  refine ⟨hb, h.low, ⟨_, hn, fun k => ?_⟩, fun j hj => ?_⟩
  · show (if wordB k = wordB ((Keys es).getD i []) then some (i : Int) else f (wordB k)).isSome = _
    by_cases e : k = (Keys es).getD i []
    · rw [e, if_pos rfl, decide_eq_true (by rw [htk]; simp)]
      rfl
    · rw [if_neg (fun q => e (wordB_inj q)), hf k]
      refine decide_eq_decide.2 ?_
      rw [htk, List.mem_append, List.mem_singleton]
      exact ⟨.inl, fun q => q.resolve_right e⟩
  · rcases Nat.lt_or_ge j i with h1 | h1
    · exact h.ok j h1
    · rw [show j = i by omega]; exact hok
set_option maxHeartbeats 4000000 in
set_option maxRecDepth 100000 in
theorem check_as (w : World) (A : Option Addr) (c : Nat) (es : List S45) (h : Kd.C k45 w A es.length es) (hF : Fit es) (ht : Tabs w) :
    Calls Tryd.prog 44 #[.slice A es.length c] w fun e w' => e = .returned (.tuple #[.int .i64 (chk (Keys es)).1, .int .i64 (chk (Keys es)).2]) ∧ Below w.heap.size w w' := by
  have hmm := @run_makeMap Tryd.prog
  by_cases hp : 0 < es.length
  · obtain ⟨b, o, rfl, hlt0, hE⟩ := ents_at h hp
    have HE := Lib.hid hE
    have HF0 := Lib.hid hF
    have HT := Lib.hid ht
    have hz : ((es.length : Int) == 0) = false := beq_eq_false_iff_ne.mpr (by omega)
    have hn := hF.len
    have HLT := Lib.hid hlt0
    have HC0 : Hid (CK w (w.alloc (.map #[] 0)) w.heap.size 0 es) := Lib.hid ⟨below_alloc (Below.refl _ _) _, Nat.le_refl _, ⟨_, Num.made w, fun k => by simp⟩, fun j hj => absurd hj (Nat.not_lt_zero _)⟩
    clear h hE hF ht hlt0
    obtain ⟨nb, hnb⟩ : ∃ nb, nb = w.heap.size := ⟨_, rfl⟩
    have HNB := Lib.hid hnb
    clear hnb
    go_enter Tryd.func44, Tryd.ntmps44
    go_wp2
    rw [← HNB.out] at HC0 ⊢
    go_loopw [18] (fun v wr => ∃ i : Nat, i ≤ es.length ∧ v = .int .i64 (i : Nat) ∧ Hid (CK w wr nb i es)) (fun v _ => es.length - (intOf v).toNat)
    case atStart => exact ⟨0, Nat.zero_le _, rfl, HC0⟩
    case round =>
      clear HC0
      obtain ⟨i, hi, rfl, HW⟩ := hrel
      by_cases hin : i < es.length
      · have hlt : (i : Int) < (es.length : Int) := by omega
        have hwi : IntKind.i64.wrap ((i : Int) + 1) = ((i + 1 : Nat) : Int) := by rw [IntWalk.i64_in _ (by omega)]; rfl
        have hE := (HE.out i hin).below HLT.out HW.out.below
        obtain ⟨A2, d2, q2, A3, d3, k2, k3, hr, _, _⟩ := hE.more
        have k0 := hE.c0
        have k1 := hE.c1
        have hem : es.getD i z45 ∈ es := DitPure.getD_mem es z45 hin
        obtain ⟨hkn, hbk, hkp⟩ := HF0.out.key _ hem
        obtain ⟨f, hnum, hf⟩ := HW.out.num
        have hkey : (Keys es).getD i [] = (es.getD i z45).f2 := by
          simp [List.getD_eq_getElem?_getD, List.getElem?_eq_getElem hin]
        have HFT := Lib.hid (show faultAt (Keys es) i = faultAt (Keys es) i from rfl)
        have CHK := Lib.hid (fun v (hv : faultAt (Keys es) i = v) (hv0 : v ≠ 0) => (chk_at (K := Keys es) (by simpa using hin) HW.out.ok (by rw [hv]; exact hv0)).trans (by rw [hv]))
        have hsk : (wordB (es.getD i z45).f2).size ≤ maxLen := by have := wordL_le _ hkp; show (wordL (es.getD i z45).f2).length ≤ maxLen; unfold maxLen; omega
        have hmi : i < maxLen := by unfold maxLen; omega
        have hwf : (Lit.int .i64 (i : Int)).wf = true := WalkArith.wf_i64 (by omega)
        have hsome := hf (es.getD i z45).f2
        have HN := Lib.hid hnum
        have HR := Lib.hid hr
        have HKP := Lib.hid hkp
        have HFF := Lib.hid hf
        have hlow := HW.out.low
        generalize (es.getD i z45).f0 = l0 at k0
        generalize (es.getD i z45).f1 = nm at k1
        generalize (es.getD i z45).f3.length = al at k3
        generalize (es.getD i z45).f2 = key at *
        clear hE hem hr hnum hf hkp
        by_cases hm : key ∈ (Keys es).take i
        · rw [decide_eq_true hm] at hsome
          have hfv : faultAt (Keys es) i = 90 := by unfold faultAt; rw [if_pos (by rw [hkey]; exact hm)]
          have CH := Lib.hid (CHK.out 90 hfv (by decide))
          clear hm hfv hkey
          go_wp2_with (first
            | (go_at_call 49; ((with_reducible refine (word_as _ q2 A2 d2 key ?hx ?ht hbk hkn HKP.out).mono ?_); (case hx => exact HR.out.below (by repeat (first | exact Below.refl _ _ | apply below_alloc | apply pw_below_drewN | apply below_drew1))); (case ht => exact Tabs_at HT.out (HW.out.below.trans (Below.mono (by repeat (first | exact Below.refl _ _ | apply below_alloc | apply pw_below_drewN | apply below_drew1)) HW.out.below.size))); rintro e W1 ⟨rfl, q⟩; have HA1 : Hid (At W1 wr.heap.size [.int .i64 l0, .string nm, .slice A2 key.length d2, .slice A3 al d3] 45) := Lib.hid ((At.fresh wr [.int .i64 l0, .string nm, .slice A2 key.length d2, .slice A3 al d3] 45).below q (by simp only [World.size_alloc]; omega)); have HB1 : Hid (Below wr.heap.size wr W1) := Lib.hid ((below_alloc (Below.refl _ wr) _).trans (Below.mono q (by simp only [World.size_alloc]; omega))); have HN1 := Lib.hid (HN.out.below HB1.out); clear q; have k2 := HA1.out.get 2 _ rfl))
            | (at_lookup; (first
          | (refine wp_look_ok _ rfl _ _ rfl nb i f rfl HN2.out (wordB par) rfl hsp ?_)
          | (refine wp_look_ok _ rfl _ _ rfl nb i f rfl HN1.out (wordB key) rfl hsk ?_)))
            | go_in)
          go_ret2
          exact ⟨by rw [CH.out]; rfl, HW.out.below.trans (HB1.out.mono HW.out.below.size)⟩
        · rw [decide_eq_false hm] at hsome
          by_cases h0 : i = 0
          · have hgt : ¬ (0 : Int) < (i : Int) := by omega
            have hfv : faultAt (Keys es) i = 0 := by unfold faultAt; rw [if_neg (by rw [hkey]; exact hm), if_pos h0]
            have HM := Lib.hid (fun W6 hn hb => CK.more (W6 := W6) HW.out hin HFF.out hfv hn hb)
            rw [hkey] at HM
            clear hm hfv hkey h0
            go_wp2_with (first
              | (go_at_call 49; ((with_reducible refine (word_as _ q2 A2 d2 key ?hx ?ht hbk hkn HKP.out).mono ?_); (case hx => exact HR.out.below (by repeat (first | exact Below.refl _ _ | apply below_alloc | apply pw_below_drewN | apply below_drew1))); (case ht => exact Tabs_at HT.out (HW.out.below.trans (Below.mono (by repeat (first | exact Below.refl _ _ | apply below_alloc | apply pw_below_drewN | apply below_drew1)) HW.out.below.size))); rintro e W1 ⟨rfl, q⟩; have HA1 : Hid (At W1 wr.heap.size [.int .i64 l0, .string nm, .slice A2 key.length d2, .slice A3 al d3] 45) := Lib.hid ((At.fresh wr [.int .i64 l0, .string nm, .slice A2 key.length d2, .slice A3 al d3] 45).below q (by simp only [World.size_alloc]; omega)); have HB1 : Hid (Below wr.heap.size wr W1) := Lib.hid ((below_alloc (Below.refl _ wr) _).trans (Below.mono q (by simp only [World.size_alloc]; omega))); have HN1 := Lib.hid (HN.out.below HB1.out); clear q; have k2 := HA1.out.get 2 _ rfl))
              | (at_lookup; (first
          | (refine wp_look_ok _ rfl _ _ rfl nb i f rfl HN2.out (wordB par) rfl hsp ?_)
          | (refine wp_look_ok _ rfl _ _ rfl nb i f rfl HN1.out (wordB key) rfl hsk ?_)))
              | (at_mapUpdate; (first
          | (refine wp_put _ rfl _ _ _ rfl nb i f rfl HN2.out hmi (wordB key) rfl hsk (i : Int) rfl hwf ?_; intro W6 hn6 hg6; have HQ := Lib.hid (And.intro hn6 ((HW.out.below.trans (HB2.out.mono HW.out.below.size)).grown hg6 (HW.out.below.trans (HB2.out.mono HW.out.below.size)).size (fun j e => by have := Option.some.inj e; omega))); clear hn6 hg6)
          | (refine wp_put _ rfl _ _ _ rfl nb i f rfl HN1.out hmi (wordB key) rfl hsk (i : Int) rfl hwf ?_; intro W6 hn6 hg6; have HQ := Lib.hid (And.intro hn6 ((HW.out.below.trans (HB1.out.mono HW.out.below.size)).grown hg6 (HW.out.below.trans (HB1.out.mono HW.out.below.size)).size (fun j e => by have := Option.some.inj e; omega))); clear hn6 hg6)))
              | go_in)
            go_roundw
            case rel => exact ⟨i + 1, by omega, by go_num, Lib.hid (HM.out _ HQ.out.1 HQ.out.2)⟩
            case measure => simp [intOf]; omega
          · have hgt : (0 : Int) < (i : Int) := by omega
            by_cases hk0 : key.length = 0
            · have hz2 : ((key.length : Int) == 0) = true := by rw [hk0]; rfl
              have hkn0 : key = [] := List.eq_nil_of_length_eq_zero hk0
              have hfv : faultAt (Keys es) i = 91 := by unfold faultAt; rw [if_neg (by rw [hkey]; exact hm), if_neg h0, if_pos (Or.inl (by rw [hkey]; exact hkn0))]
              have CH := Lib.hid (CHK.out 91 hfv (by decide))
              clear hm hfv hkey h0 hk0 hkn0
              go_wp2_with (first
                | (go_at_call 49; ((with_reducible refine (word_as _ q2 A2 d2 key ?hx ?ht hbk hkn HKP.out).mono ?_); (case hx => exact HR.out.below (by repeat (first | exact Below.refl _ _ | apply below_alloc | apply pw_below_drewN | apply below_drew1))); (case ht => exact Tabs_at HT.out (HW.out.below.trans (Below.mono (by repeat (first | exact Below.refl _ _ | apply below_alloc | apply pw_below_drewN | apply below_drew1)) HW.out.below.size))); rintro e W1 ⟨rfl, q⟩; have HA1 : Hid (At W1 wr.heap.size [.int .i64 l0, .string nm, .slice A2 key.length d2, .slice A3 al d3] 45) := Lib.hid ((At.fresh wr [.int .i64 l0, .string nm, .slice A2 key.length d2, .slice A3 al d3] 45).below q (by simp only [World.size_alloc]; omega)); have HB1 : Hid (Below wr.heap.size wr W1) := Lib.hid ((below_alloc (Below.refl _ wr) _).trans (Below.mono q (by simp only [World.size_alloc]; omega))); have HN1 := Lib.hid (HN.out.below HB1.out); clear q; have k2 := HA1.out.get 2 _ rfl))
                | (at_lookup; (first
          | (refine wp_look_ok _ rfl _ _ rfl nb i f rfl HN2.out (wordB par) rfl hsp ?_)
          | (refine wp_look_ok _ rfl _ _ rfl nb i f rfl HN1.out (wordB key) rfl hsk ?_)))
                | go_in)
              go_ret2
              exact ⟨by rw [CH.out]; rfl, HW.out.below.trans (HB1.out.mono HW.out.below.size)⟩
            · have hz2 : ((key.length : Int) == 0) = false := beq_eq_false_iff_ne.mpr (by omega)
              have hkn0 : key ≠ [] := fun e => hk0 (by rw [e]; rfl)
              obtain ⟨par, hpar⟩ : ∃ par, par = key.take (key.length - 1) := ⟨_, rfl⟩
              have hpl : par.length = key.length - 1 := by rw [hpar, List.length_take]; omega
              have hpn : par.length ≤ 1048576 := by omega
              have hbp : bulkK par ≤ 33554432 := by rw [hpar]; exact Nat.le_trans (bulkK_take _ _) hbk
              have hpp : ∀ p ∈ par, p.size ≤ 1048576 := fun p hp => HKP.out p (by rw [hpar] at hp; exact List.mem_of_mem_take hp)
              have hsp : (wordB par).size ≤ maxLen := by have := wordL_le _ hpp; show (wordL par).length ≤ maxLen; unfold maxLen; omega
              have hws : IntKind.i64.wrap ((key.length : Int) - 1) = (par.length : Int) := by rw [IntWalk.i64_in _ (by omega)]; omega
              obtain ⟨i9, hi9, _, _, _⟩ := info_parts DitRow.info9
              have hcut := fun W => cut_to (P := Tryd.prog) 39 9 .i64 Tryd.underlying39 hi9 A2 key.length d2 (par.length : Int) (by omega) (by omega) HR.out.cap W
              rw [Int.toNat_natCast] at hcut
              have HRP : Hid (RowS wr q2 A2 d2 par) := Lib.hid (by rw [hpar]; exact HR.out.take _ (by omega) d2 (by have := HR.out.cap; omega))
              have HPP := Lib.hid hpp
              have hsome2 := HFF.out par
              clear hpp hi9
              by_cases hpm : par ∈ (Keys es).take i
              · rw [decide_eq_true hpm] at hsome2
                have hfv : faultAt (Keys es) i = 0 := by
                  unfold faultAt
                  rw [if_neg (by rw [hkey]; exact hm), if_neg h0, if_neg (by rw [hkey]; rintro (h | h); exact hkn0 h; exact h (by rw [List.dropLast_eq_take, ← hpar]; exact hpm))]
                have HM := Lib.hid (fun W6 hn hb => CK.more (W6 := W6) HW.out hin HFF.out hfv hn hb)
                rw [hkey] at HM
                clear hm hfv hkey h0 hk0 hkn0 hpar hpl hpm
                go_wp2_with (first
                  | (go_at_call 49; ((with_reducible refine (word_as _ q2 A2 d2 par ?hx ?ht hbp hpn HPP.out).mono ?_); (case hx => exact (HRP.out.below HB1.out)); (case ht => exact Tabs_at HT.out (HW.out.below.trans (HB1.out.mono HW.out.below.size))); rintro e W2 ⟨rfl, q⟩; have HB2 := Lib.hid (HB1.out.trans (q.mono HB1.out.size)); have HN2 := Lib.hid (HN1.out.below q); clear q))
                  | (go_at_call 49; ((with_reducible refine (word_as _ q2 A2 d2 key ?hx ?ht hbk hkn HKP.out).mono ?_); (case hx => exact HR.out.below (by repeat (first | exact Below.refl _ _ | apply below_alloc | apply pw_below_drewN | apply below_drew1))); (case ht => exact Tabs_at HT.out (HW.out.below.trans (Below.mono (by repeat (first | exact Below.refl _ _ | apply below_alloc | apply pw_below_drewN | apply below_drew1)) HW.out.below.size))); rintro e W1 ⟨rfl, q⟩; have HA1 : Hid (At W1 wr.heap.size [.int .i64 l0, .string nm, .slice A2 key.length d2, .slice A3 al d3] 45) := Lib.hid ((At.fresh wr [.int .i64 l0, .string nm, .slice A2 key.length d2, .slice A3 al d3] 45).below q (by simp only [World.size_alloc]; omega)); have HB1 : Hid (Below wr.heap.size wr W1) := Lib.hid ((below_alloc (Below.refl _ wr) _).trans (Below.mono q (by simp only [World.size_alloc]; omega))); have HN1 := Lib.hid (HN.out.below HB1.out); clear q; have k2 := HA1.out.get 2 _ rfl))
                  | (at_lookup; (first
          | (refine wp_look_ok _ rfl _ _ rfl nb i f rfl HN2.out (wordB par) rfl hsp ?_)
          | (refine wp_look_ok _ rfl _ _ rfl nb i f rfl HN1.out (wordB key) rfl hsk ?_)))
                  | (at_mapUpdate; (first
          | (refine wp_put _ rfl _ _ _ rfl nb i f rfl HN2.out hmi (wordB key) rfl hsk (i : Int) rfl hwf ?_; intro W6 hn6 hg6; have HQ := Lib.hid (And.intro hn6 ((HW.out.below.trans (HB2.out.mono HW.out.below.size)).grown hg6 (HW.out.below.trans (HB2.out.mono HW.out.below.size)).size (fun j e => by have := Option.some.inj e; omega))); clear hn6 hg6)
          | (refine wp_put _ rfl _ _ _ rfl nb i f rfl HN1.out hmi (wordB key) rfl hsk (i : Int) rfl hwf ?_; intro W6 hn6 hg6; have HQ := Lib.hid (And.intro hn6 ((HW.out.below.trans (HB1.out.mono HW.out.below.size)).grown hg6 (HW.out.below.trans (HB1.out.mono HW.out.below.size)).size (fun j e => by have := Option.some.inj e; omega))); clear hn6 hg6)))
                  | go_in)
                go_roundw
                case rel => exact ⟨i + 1, by omega, by go_num, Lib.hid (HM.out _ HQ.out.1 HQ.out.2)⟩
                case measure => simp [intOf]; omega
              · rw [decide_eq_false hpm] at hsome2
                have hfv : faultAt (Keys es) i = 91 := by
                  unfold faultAt
                  rw [if_neg (by rw [hkey]; exact hm), if_neg h0, if_pos (Or.inr (by rw [hkey, List.dropLast_eq_take, ← hpar]; exact hpm))]
                have CH := Lib.hid (CHK.out 91 hfv (by decide))
                clear hm hfv hkey h0 hk0 hkn0 hpar hpl hpm
                go_wp2_with (first
                  | (go_at_call 49; ((with_reducible refine (word_as _ q2 A2 d2 par ?hx ?ht hbp hpn HPP.out).mono ?_); (case hx => exact (HRP.out.below HB1.out)); (case ht => exact Tabs_at HT.out (HW.out.below.trans (HB1.out.mono HW.out.below.size))); rintro e W2 ⟨rfl, q⟩; have HB2 := Lib.hid (HB1.out.trans (q.mono HB1.out.size)); have HN2 := Lib.hid (HN1.out.below q); clear q))
                  | (go_at_call 49; ((with_reducible refine (word_as _ q2 A2 d2 key ?hx ?ht hbk hkn HKP.out).mono ?_); (case hx => exact HR.out.below (by repeat (first | exact Below.refl _ _ | apply below_alloc | apply pw_below_drewN | apply below_drew1))); (case ht => exact Tabs_at HT.out (HW.out.below.trans (Below.mono (by repeat (first | exact Below.refl _ _ | apply below_alloc | apply pw_below_drewN | apply below_drew1)) HW.out.below.size))); rintro e W1 ⟨rfl, q⟩; have HA1 : Hid (At W1 wr.heap.size [.int .i64 l0, .string nm, .slice A2 key.length d2, .slice A3 al d3] 45) := Lib.hid ((At.fresh wr [.int .i64 l0, .string nm, .slice A2 key.length d2, .slice A3 al d3] 45).below q (by simp only [World.size_alloc]; omega)); have HB1 : Hid (Below wr.heap.size wr W1) := Lib.hid ((below_alloc (Below.refl _ wr) _).trans (Below.mono q (by simp only [World.size_alloc]; omega))); have HN1 := Lib.hid (HN.out.below HB1.out); clear q; have k2 := HA1.out.get 2 _ rfl))
                  | (at_lookup; (first
          | (refine wp_look_ok _ rfl _ _ rfl nb i f rfl HN2.out (wordB par) rfl hsp ?_)
          | (refine wp_look_ok _ rfl _ _ rfl nb i f rfl HN1.out (wordB key) rfl hsk ?_)))
                  | go_in)
                go_ret2
                exact ⟨by rw [CH.out]; rfl, HW.out.below.trans (HB2.out.mono HW.out.below.size)⟩
      · have hlt : ¬ (i : Int) < (es.length : Int) := by omega
        obtain rfl : i = es.length := by omega
        have hco := chk_ok (K := Keys es) (by simpa using hp) (fun j hj => HW.out.ok j (by simpa using hj))
        have HCO := Lib.hid hco
        clear hco
        go_wp2
        go_ret2
        exact ⟨by rw [HCO.out]; rfl, HW.out.below⟩
  · have h0 : es = [] := List.length_eq_zero_iff.1 (by omega)
    subst h0
    clear h hF ht hp
    go_enter Tryd.func44, Tryd.ntmps44
    go_wp2
    go_ret2
    exact ⟨rfl, by repeat (first | exact Below.refl _ _ | apply pw_below_drewN | apply below_drew1)⟩
end Go.Proofs.YtnogmaljcocfjaaDoor.DitCheck

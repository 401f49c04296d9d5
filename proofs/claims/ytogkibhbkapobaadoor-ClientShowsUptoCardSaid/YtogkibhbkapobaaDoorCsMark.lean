/- The reply's attributes while the law marks the room behind each list of values: what is known of the array and of the lists. No program's walk. -/
import Derived.Test.YtogkibhbkapobaaDoorCsEv
import Derived.Test.YtogkibhbkapobaaDoorWApart
import Derived.Test.YtogkibhbkapobaaDoorBlk
import Derived.Laws.OwnMore
set_option linter.unusedVariables false
set_option linter.unusedSimpArgs false
namespace Go.Proofs.YtogkibhbkapobaaDoor.CsMark
open Go.RowKit Go.Proofs Go.Proofs.YtogkibhbkapobaaDoor.XA Go.Proofs.YtogkibhbkapobaaDoor.XV Go.Proofs.YtogkibhbkapobaaDoor.Blk Go.Proofs.YtogkibhbkapobaaDoor.CsEv Go.Proofs.YtogkibhbkapobaaDoorW.PrintWords Go.Proofs.YtogkibhbkapobaaDoorW.PrintLast Go.Proofs.YtogkibhbkapobaaDoorW.PrintMore
abbrev markB : ByteArray := ⟨#[109, 97, 114, 107]⟩
abbrev X (xs : List S34) (j : Nat) : S34 := rd_T34 xs (j : Int)
structure MR (B : Nat) (xs : List S34) (v6 : Value) (i : Nat) (cs : List Value) (W : World) : Prop where
  arr : W.ownsRow B 34 3 v6 xs.length cs
  c0 : ∀ j, j < xs.length → cs[3 * j]? = some (.string (X xs j).f0)
  c1 : ∀ j, j < xs.length → cs[3 * j + 1]? = some (.string (X xs j).f1)
  old : ∀ j, i ≤ j → j < xs.length → ∃ v, cs[3 * j + 2]? = some v ∧ Kd.R Kd.string 9 W B (fun k => some k = v.ownBlock) v (X xs j).f2
  new : ∀ j, j < i → j < xs.length → ∃ A c, cs[3 * j + 2]? = some (.slice A (X xs j).f2.length c) ∧ Kd.R Kd.string 9 W B (fun k => some k = (Value.slice A ((X xs j).f2.length + 1) c).ownBlock) (.slice A ((X xs j).f2.length + 1) c) ((X xs j).f2 ++ [markB])
  ap : ∀ j k u v b, j < xs.length → k < xs.length → j ≠ k → cs[3 * j + 2]? = some u → cs[3 * k + 2]? = some v → u.ownBlock = some b → v.ownBlock ≠ some b
theorem own_cut (A : Option Addr) (n m c d : Nat) : (Value.slice A n c).ownBlock = (Value.slice A m d).ownBlock := by cases A <;> rfl
theorem MR.len {B : Nat} {xs : List S34} {v6 : Value} {i : Nat} {cs : List Value} {W : World} (h : MR B xs v6 i cs W) : cs.length = xs.length * 3 := h.arr.1
/-- A list's row, whichever it is. -/
theorem MR.row {B : Nat} {xs : List S34} {v6 : Value} {i : Nat} {cs : List Value} {W : World} (h : MR B xs v6 i cs W) (j : Nat) (hj : j < xs.length) : ∃ v n r, cs[3 * j + 2]? = some v ∧ ∃ u, u.ownBlock = v.ownBlock ∧ W.ownsRow B 9 1 u n r := by
  by_cases hij : i ≤ j
  · obtain ⟨v, hv, hr⟩ := h.old j hij hj
    obtain ⟨r, ho⟩ := Kd.R_own hr
    exact ⟨v, _, r, hv, v, rfl, ho⟩
  · obtain ⟨A, c, hv, hr⟩ := h.new j (by omega) hj
    obtain ⟨r, ho⟩ := Kd.R_own hr
    exact ⟨_, _, r, hv, _, own_cut _ _ _ _ _, ho⟩
theorem MR.lt {B : Nat} {xs : List S34} {v6 : Value} {i : Nat} {cs : List Value} {W : World} (h : MR B xs v6 i cs W) {j : Nat} (hj : j < xs.length) {v : Value} (hv : cs[3 * j + 2]? = some v) {b : Nat} (hb : v.ownBlock = some b) : b < W.heap.size := by
  obtain ⟨v', n, r, e, u, eu, ho⟩ := h.row j hj
  obtain rfl := Option.some.inj (hv.symm.trans e)
  exact own_lt ho b (eu.trans hb)
theorem MR.on {B : Nat} {xs : List S34} {v6 : Value} {i : Nat} {cs : List Value} {W W' : World} (h : MR B xs v6 i cs W) (hb : Below W.heap.size W W') : MR B xs v6 i cs W' := by
  refine ⟨pw_own_below h.arr hb, h.c0, h.c1, fun j h1 h2 => ?_, fun j h1 h2 => ?_, h.ap⟩
  · obtain ⟨v, hv, hr⟩ := h.old j h1 h2
    exact ⟨v, hv, Kd.R_below hr hb⟩
  · obtain ⟨A, c, hv, hr⟩ := h.new j h1 h2
    exact ⟨A, c, hv, Kd.R_below hr hb⟩
/-- A store into a block of another type. -/
theorem MR.set {B : Nat} {xs : List S34} {v6 : Value} {i : Nat} {cs : List Value} {W : World} (h : MR B xs v6 i cs W) {p t : Nat} {cells : List Value} (hp : At W p cells t) (h1 : t ≠ 34) (h2 : t ≠ 9) (k : Nat) (u : Value) : MR B xs v6 i cs (W.setCell ⟨p, k, none⟩ u) := by
  have ht : ∀ q, q ∈ 9 :: (Kd.string).E → q ≠ t := by
    intro q hq
    have : q = 9 := by simpa [Kd.string, Kd.scalar] using hq
    rw [this]
    exact fun e => h2 e.symm
  refine ⟨own_setCell h.arr (own_ne (g := p) h.arr hp (fun e => h1 e.symm)) _, h.c0, h.c1, fun j a b => ?_, fun j a b => ?_, h.ap⟩
  · obtain ⟨v, hv, hr⟩ := h.old j a b
    exact ⟨v, hv, Kd.R_set hr hp ht k u⟩
  · obtain ⟨A, c, hv, hr⟩ := h.new j a b
    exact ⟨A, c, hv, Kd.R_set hr hp ht k u⟩
theorem MR.next {B : Nat} {xs : List S34} {i : Nat} {cs : List Value} {W w2 : World} {g c6 : Nat} (h : MR B xs (.slice (some ⟨g, 0, none⟩) xs.length c6) i cs W) (hi : i < xs.length) {v : Value} (hv : cs[3 * i + 2]? = some v) {A : Option Addr} {c : Nat}
    (hr : Kd.R Kd.string 9 w2 B (fun _ => True) (.slice A ((X xs i).f2.length + 1) c) ((X xs i).f2 ++ [markB])) (hg : W.grownBy w2 v.ownBlock) (hat : (Value.slice A ((X xs i).f2.length + 1) c).ownBlock = v.ownBlock ∨ ∃ b, (Value.slice A ((X xs i).f2.length + 1) c).ownBlock = some b ∧ W.heap.size ≤ b) :
    MR B xs (.slice (some ⟨g, 0, none⟩) xs.length c6) (i + 1) (cs.set (3 * i + 2) (.slice A (X xs i).f2.length c)) (w2.setCell ⟨g, 3 * i + 2, none⟩ (.slice A (X xs i).f2.length c)) := by
  have hl := h.len
  obtain ⟨v0, hv0, hr0⟩ := h.old i (Nat.le_refl _) hi
  obtain rfl := Option.some.inj (hv.symm.trans hv0)
  obtain ⟨r0, ho0⟩ := Kd.R_own hr0
  have arr2 := own_other h.arr hg (own_type_ne h.arr ho0 (by decide))
  have arr3 := (arr2.stored (3 * i + 2) (.slice A (X xs i).f2.length c)).1
  obtain ⟨cells, hgb⟩ := own_typed arr2 g rfl
  have ht : ∀ q, q ∈ 9 :: (Kd.string).E → q ≠ 34 := by decide
  have heq : (Value.slice A (X xs i).f2.length c).ownBlock = (Value.slice A ((X xs i).f2.length + 1) c).ownBlock := own_cut _ _ _ _ _
  have hset : ∀ m, m ≠ 3 * i + 2 → (cs.set (3 * i + 2) (.slice A (X xs i).f2.length c))[m]? = cs[m]? := fun m hm => List.getElem?_set_ne (fun e => hm e.symm)
  have hsame : (cs.set (3 * i + 2) (.slice A (X xs i).f2.length c))[3 * i + 2]? = some (.slice A (X xs i).f2.length c) := by
    rw [List.getElem?_set_self]
    rw [hl]; omega
  have other : ∀ (j : Nat) (u : Value) (r : List ByteArray), j < xs.length → j ≠ i → cs[3 * j + 2]? = some u → ∀ u', u'.ownBlock = u.ownBlock → Kd.R Kd.string 9 W B (fun k => some k = u'.ownBlock) u' r → Kd.R Kd.string 9 (w2.setCell ⟨g, 3 * i + 2, none⟩ (.slice A (X xs i).f2.length c)) B (fun k => some k = u'.ownBlock) u' r := by
    intro j u r hj hne hu u' eu hR
    refine Kd.R_set (Kd.R_grown hR hg (fun k hk e => ?_)) hgb ht _ _
    rw [eu] at hk
    exact h.ap j i u v k hj hi hne hu hv hk.symm e.symm
  refine ⟨arr3, fun j hj => ?_, fun j hj => ?_, fun j h1 hj => ?_, fun j h1 hj => ?_, ?_⟩
  · rw [hset _ (by omega)]; exact h.c0 j hj
  · rw [hset _ (by omega)]; exact h.c1 j hj
  · obtain ⟨u, hu, hR⟩ := h.old j (by omega) hj
    exact ⟨u, by rw [hset _ (by omega)]; exact hu, other j u _ hj (by omega) hu u rfl hR⟩
  · by_cases hji : j = i
    · subst hji
      exact ⟨A, c, hsame, Kd.R_set (Kd.R_tight rfl hr) hgb ht _ _⟩
    · obtain ⟨A', c', hu, hR⟩ := h.new j (by omega) hj
      exact ⟨A', c', by rw [hset _ (by omega)]; exact hu, other j _ _ hj hji hu _ (own_cut _ _ _ _ _) hR⟩
  · intro j k u w b hj hk hne hu hw hb e
    by_cases hji : j = i
    · subst hji
      rw [hsame] at hu
      obtain rfl := Option.some.inj hu
      rw [hset _ (by omega)] at hw
      rw [heq] at hb
      rcases hat with hat | ⟨b', hb', hle⟩
      · exact h.ap j k v w b hj hk hne hv hw (hat.symm.trans hb) e
      · have := h.lt hk hw e
        rw [hb] at hb'
        have := Option.some.inj hb'
        omega
    · rw [hset _ (by omega)] at hu
      by_cases hki : k = i
      · subst hki
        rw [hsame] at hw
        obtain rfl := Option.some.inj hw
        rw [heq] at e
        rcases hat with hat | ⟨b', hb', hle⟩
        · exact h.ap j k u v b hj hk hne hu hv hb (hat.symm.trans e)
        · have := h.lt hj hu hb
          rw [e] at hb'
          have := Option.some.inj hb'
          omega
      · rw [hset _ (by omega)] at hw
        exact h.ap j k u w b hj hk hne hu hw hb e
/-- As the copy lays it. -/
theorem MR.start {B : Nat} {xs : List S34} {v6 : Value} {ok : Nat → Prop} {W : World} (h : Kd.S k34 34 W B ok v6 xs) : ∃ cs, MR B xs v6 0 cs W := by
  obtain ⟨f, h0, inner, ho, hr⟩ := h
  rw [List.length_zipIdx] at ho
  have hlen : inner.length = xs.length * 3 := ho.1
  have hel : ∀ j, j < xs.length → ∃ v2, inner[3 * j]? = some (.string (X xs j).f0) ∧ inner[3 * j + 1]? = some (.string (X xs j).f1) ∧ inner[3 * j + 2]? = some v2 ∧ Kd.string.R 9 W B (fun k => (ok k ∧ some k ≠ v6.ownBlock) ∧ f k = j) v2 (X xs j).f2 := by
    intro j hj
    have e1 : xs[j]? = some (X xs j) := by rw [List.getElem?_eq_getElem hj, X, rd34 xs j hj]
    obtain ⟨v2, e2, hR⟩ := k34_openM (hr.2 j (X xs j, j) (Kd.zip_at e1))
    have hs : (Kd.tag f k34).sz = 3 := rfl
    have hc : ∀ m, m < 3 → inner[3 * j + m]? = ((inner.drop (j * (Kd.tag f k34).sz)).take (Kd.tag f k34).sz)[m]? := by
      intro m hm
      rw [hs, List.getElem?_take_of_lt hm, List.getElem?_drop, Nat.mul_comm]
    refine ⟨v2, ?_, ?_, ?_, hR⟩
    · have := hc 0 (by omega); rw [e2] at this; exact this
    · have := hc 1 (by omega); rw [e2] at this; exact this
    · have := hc 2 (by omega); rw [e2] at this; exact this
  refine ⟨inner, ho, fun j hj => ?_, fun j hj => ?_, fun j _ hj => ?_, fun j h1 _ => by omega, ?_⟩
  · obtain ⟨v2, e0, e1, e2, hR⟩ := hel j hj
    exact e0
  · obtain ⟨v2, e0, e1, e2, hR⟩ := hel j hj
    exact e1
  · obtain ⟨v2, e0, e1, e2, hR⟩ := hel j hj
    exact ⟨v2, e2, Kd.R_tight rfl hR⟩
  · intro j k u v b hj hk hne hu hv hb e
    obtain ⟨v2, _, _, e2, hR⟩ := hel j hj
    obtain ⟨v3, _, _, e3, hR3⟩ := hel k hk
    obtain rfl := Option.some.inj (hu.symm.trans e2)
    obtain rfl := Option.some.inj (hv.symm.trans e3)
    exact hne (((hR.1 b hb).2).symm.trans (hR3.1 b e).2)
/-- When all are marked. -/
structure NW (B : Nat) (xs : List S34) (cs : List Value) (W : World) : Prop where
  len : cs.length = xs.length * 3
  c0 : ∀ j, j < xs.length → cs[3 * j]? = some (.string (X xs j).f0)
  c1 : ∀ j, j < xs.length → cs[3 * j + 1]? = some (.string (X xs j).f1)
  new : ∀ j, j < xs.length → ∃ A c, cs[3 * j + 2]? = some (.slice A (X xs j).f2.length c) ∧ Kd.R Kd.string 9 W B (fun k => some k = (Value.slice A ((X xs j).f2.length + 1) c).ownBlock) (.slice A ((X xs j).f2.length + 1) c) ((X xs j).f2 ++ [markB])
theorem MR.nw {B : Nat} {xs : List S34} {v6 : Value} {cs : List Value} {W : World} (h : MR B xs v6 xs.length cs W) : NW B xs cs W := ⟨h.len, h.c0, h.c1, fun j hj => h.new j hj hj⟩
theorem NW.on {B : Nat} {xs : List S34} {cs : List Value} {W W' : World} (h : NW B xs cs W) (hb : Below W.heap.size W W') : NW B xs cs W' :=
  ⟨h.len, h.c0, h.c1, fun j hj => by obtain ⟨A, c, hv, hr⟩ := h.new j hj; exact ⟨A, c, hv, Kd.R_below hr hb⟩⟩
theorem NW.set {B : Nat} {xs : List S34} {cs : List Value} {W : World} (h : NW B xs cs W) {p t : Nat} {cells : List Value} (hp : At W p cells t) (h2 : t ≠ 9) (k : Nat) (u : Value) : NW B xs cs (W.setCell ⟨p, k, none⟩ u) := by
  have ht : ∀ q, q ∈ 9 :: (Kd.string).E → q ≠ t := by
    intro q hq
    have : q = 9 := by simpa [Kd.string, Kd.scalar] using hq
    rw [this]
    exact fun e => h2 e.symm
  exact ⟨h.len, h.c0, h.c1, fun j hj => by obtain ⟨A, c, hv, hr⟩ := h.new j hj; exact ⟨A, c, hv, Kd.R_set hr hp ht k u⟩⟩
/-- A row of another type has been written. -/
theorem NW.grown {B : Nat} {xs : List S34} {cs : List Value} {W w2 : World} (h : NW B xs cs W) {b s n : Nat} {e : TypeId} {v : Value} {r : List Value} (ho : W.ownsRow b e s v n r) (he : 9 ≠ e) (hg : W.grownBy w2 v.ownBlock) : NW B xs cs w2 := by
  refine ⟨h.len, h.c0, h.c1, fun j hj => ?_⟩
  obtain ⟨A, c, hv, hr⟩ := h.new j hj
  obtain ⟨r0, ho0⟩ := Kd.R_own hr
  refine ⟨A, c, hv, Kd.R_grown hr hg (fun k hk => ?_)⟩
  rw [hk]
  rcases own_type_ne ho0 ho he with h0 | h0
  · rw [h0] at hk; cases hk
  · exact h0
theorem NW.reps {B : Nat} {xs : List S34} {cs : List Value} {W : World} (h : NW B xs cs W) : Reps (k34.K W) 3 xs cs := by
  refine ⟨h.len, fun j p hj => ?_⟩
  obtain ⟨hl, rfl⟩ := List.getElem?_eq_some_iff.1 hj
  obtain ⟨A, c, hv, hr⟩ := h.new j hl
  obtain ⟨_, hc, hC⟩ := Kd.R_reads' hr
  have ex : X xs j = xs[j] := rd34 xs j hl
  have hd : (cs.drop (j * 3)).take 3 = [.string (X xs j).f0, .string (X xs j).f1, .slice A (X xs j).f2.length c] := by
    apply List.ext_getElem?
    intro m
    have h0 := h.c0 j hl
    have h1 := h.c1 j hl
    match m with
    | 0 => rw [List.getElem?_take_of_lt (by omega), List.getElem?_drop, Nat.mul_comm]; exact h0
    | 1 => rw [List.getElem?_take_of_lt (by omega), List.getElem?_drop, Nat.mul_comm]; exact h1
    | 2 => rw [List.getElem?_take_of_lt (by omega), List.getElem?_drop, Nat.mul_comm]; exact hv
    | m + 3 => rw [List.getElem?_take_eq_none (by omega)]; rfl
  rw [hd, ← ex]
  refine k34_mk W (X xs j) (by omega) ?_
  have := Kd.C_take (k := Kd.string) (w := W) (A := A) (xs := (X xs j).f2 ++ [markB]) (m := (X xs j).f2.length) (by simpa using hC) (by simp)
  simpa using this
theorem NW.spare {B : Nat} {xs : List S34} {cs : List Value} {W : World} (h : NW B xs cs W) (j : Nat) (hj : j < xs.length) : ∃ b c, cs[3 * j + 2]? = some (.slice (some ⟨b, 0, none⟩) (X xs j).f2.length c) ∧ (X xs j).f2.length + 1 ≤ c ∧ W.cell? ⟨b, (X xs j).f2.length, none⟩ = some (.string markB) := by
  obtain ⟨A, c, hv, hr⟩ := h.new j hj
  obtain ⟨_, hc, hC⟩ := Kd.R_reads' hr
  obtain ⟨ad, e, hcell⟩ := Kd.at_string hC ((X xs j).f2.length : Int) (by omega) (by omega)
  subst e
  obtain ⟨b, rfl⟩ := Kd.R_head hr
  refine ⟨b, c, hv, hc, ?_⟩
  rw [show (⟨b, 0, none⟩ : Addr).add ((X xs j).f2.length : Int).toNat = ⟨b, (X xs j).f2.length, none⟩ by rw [XG.add_flat, Nat.zero_add, Int.toNat_natCast]] at hcell
  rw [hcell]
  simp [rdOf, List.getD_eq_getElem?_getD]
/-! ### The law's state while it marks -/
structure LS (w : World) (xs : List S34) (cs : List S36) (v6 v9 : Value) (p q : Nat) (pc qc : List Value) (i : Nat) (cells : List Value) (W : World) : Prop where
  mr : MR w.heap.size xs v6 i cells W
  ctl : Kd.R k36 36 W w.heap.size (fun k => some k = v9.ownBlock) v9 cs
  px : At W p pc 29
  qx : At W q qc 29
  bel : Below w.heap.size w W
theorem LS.on {w : World} {xs : List S34} {cs : List S36} {v6 v9 : Value} {p q : Nat} {pc qc : List Value} {i : Nat} {cells : List Value} {W W' : World} (h : LS w xs cs v6 v9 p q pc qc i cells W) (hb : Below W.heap.size W W') : LS w xs cs v6 v9 p q pc qc i cells W' :=
  ⟨h.mr.on hb, Kd.R_below h.ctl hb, h.px.below hb h.px.lt, h.qx.below hb h.qx.lt, h.bel.trans (hb.mono h.bel.size)⟩
theorem LS.next {w : World} {xs : List S34} {cs : List S36} {v9 : Value} {p q : Nat} {pc qc : List Value} {i : Nat} {cells : List Value} {W w2 : World} {g c6 : Nat} (h : LS w xs cs (.slice (some ⟨g, 0, none⟩) xs.length c6) v9 p q pc qc i cells W) (hi : i < xs.length) {v : Value} (hv : cells[3 * i + 2]? = some v) {A : Option Addr} {c : Nat}
    (hr : Kd.R Kd.string 9 w2 w.heap.size (fun _ => True) (.slice A ((X xs i).f2.length + 1) c) ((X xs i).f2 ++ [markB])) (hb : Below w.heap.size w w2) (hg : W.grownBy w2 v.ownBlock) (hat : (Value.slice A ((X xs i).f2.length + 1) c).ownBlock = v.ownBlock ∨ ∃ b, (Value.slice A ((X xs i).f2.length + 1) c).ownBlock = some b ∧ W.heap.size ≤ b) :
    At w2 p pc 29 ∧ (w2.frozen? ⟨g, 3 * i + 2, none⟩ = false ∧ ∃ u, w2.cell? ⟨g, 3 * i + 2, none⟩ = some u) ∧ LS w xs cs (.slice (some ⟨g, 0, none⟩) xs.length c6) v9 p q pc qc (i + 1) (cells.set (3 * i + 2) (.slice A (X xs i).f2.length c)) (w2.setCell ⟨g, 3 * i + 2, none⟩ (.slice A (X xs i).f2.length c)) := by
  obtain ⟨v0, hv0, hr0⟩ := h.mr.old i (Nat.le_refl _) hi
  obtain rfl := Option.some.inj (hv.symm.trans hv0)
  obtain ⟨r0, ho0⟩ := Kd.R_own hr0
  have arr2 := own_other h.mr.arr hg (own_type_ne h.mr.arr ho0 (by decide))
  obtain ⟨gc, hgb⟩ := own_typed arr2 g rfl
  have hgw : w.heap.size ≤ g := own_base arr2 g rfl
  have pne : some p ≠ v.ownBlock := own_ne (g := p) ho0 h.px (by decide)
  have qne : some q ≠ v.ownBlock := own_ne (g := q) ho0 h.qx (by decide)
  have p2 := h.px.grown hg pne
  have q2 := h.qx.grown hg qne
  have pg : p ≠ g := fun e => own_ne (g := p) arr2 p2 (by decide) (by rw [e]; rfl)
  have qg : q ≠ g := fun e => own_ne (g := q) arr2 q2 (by decide) (by rw [e]; rfl)
  have ht : ∀ t, t ∈ 36 :: (k36).E → t ≠ 34 := by decide
  obtain ⟨r9, ho9⟩ := Kd.R_own h.ctl
  have c2 : Kd.R k36 36 w2 w.heap.size (fun k => some k = v9.ownBlock) v9 cs := Kd.R_grown h.ctl hg (fun k hk => by
    rw [hk]
    rcases own_type_ne ho9 ho0 (by decide) with h0 | h0
    · rw [h0] at hk; cases hk
    · exact h0)
  have hlt : 3 * i + 2 < xs.length * 3 := by omega
  refine ⟨p2, ⟨arr2.frozenAt _, ?_⟩, h.mr.next hi hv hr hg hat, Kd.R_set c2 hgb ht _ _, p2.other _ _ pg, q2.other _ _ qg, hb.setCell (p := ⟨g, 3 * i + 2, none⟩) hgw _⟩
  rw [arr2.cellAt _ hlt]
  have := h.mr.len
  exact ⟨_, List.getElem?_eq_getElem (by omega)⟩
/-- All is marked, and so is the room behind the attributes. -/
structure LT (w : World) (xs : List S34) (cs : List S36) (v6 v9 : Value) (p q : Nat) (pc qc : List Value) (cells : List Value) (W : World) : Prop where
  arr : W.ownsRow w.heap.size 34 3 v6 (xs.length + 1) (cells ++ [.string markB, .string ⟨#[]⟩, .slice none 0 0])
  nw : NW w.heap.size xs cells W
  ctl : Kd.R k36 36 W w.heap.size (fun k => some k = v9.ownBlock) v9 cs
  px : At W p pc 29
  qx : At W q qc 29
  bel : Below w.heap.size w W
theorem LT.on {w : World} {xs : List S34} {cs : List S36} {v6 v9 : Value} {p q : Nat} {pc qc : List Value} {cells : List Value} {W W' : World} (h : LT w xs cs v6 v9 p q pc qc cells W) (hb : Below W.heap.size W W') : LT w xs cs v6 v9 p q pc qc cells W' :=
  ⟨pw_own_below h.arr hb, h.nw.on hb, Kd.R_below h.ctl hb, h.px.below hb h.px.lt, h.qx.below hb h.qx.lt, h.bel.trans (hb.mono h.bel.size)⟩
/-- The append of the attribute, and the store of the row, cut. -/
theorem LS.last {w : World} {xs : List S34} {cs : List S36} {v6 v1 v9 : Value} {p q : Nat} {pc qc : List Value} {cells : List Value} {W w1 : World} (h : LS w xs cs v6 v9 p q pc qc xs.length cells W) (hpb : w.heap.size ≤ p) (hpq : p ≠ q)
    (ho : w1.ownsRow w.heap.size 34 3 v1 (xs.length + 1) (cells ++ [.string markB, .string ⟨#[]⟩, .slice none 0 0])) (hb : Below w.heap.size w w1) (hg : W.grownBy w1 v6.ownBlock) (k : Nat) (u : Value) :
    At w1 p pc 29 ∧ At w1 q qc 29 ∧ LT w xs cs v1 v9 p q (pc.set k u) qc cells (w1.setCell ⟨p, k, none⟩ u) := by
  have pne : some p ≠ v6.ownBlock := own_ne (g := p) h.mr.arr h.px (by decide)
  have qne : some q ≠ v6.ownBlock := own_ne (g := q) h.mr.arr h.qx (by decide)
  have p2 := h.px.grown hg pne
  have q2 := h.qx.grown hg qne
  obtain ⟨r9, ho9⟩ := Kd.R_own h.ctl
  have c2 : Kd.R k36 36 w1 w.heap.size (fun k => some k = v9.ownBlock) v9 cs := Kd.R_grown h.ctl hg (fun k hk => by
    rw [hk]
    rcases own_type_ne ho9 h.mr.arr (by decide) with h0 | h0
    · rw [h0] at hk; cases hk
    · exact h0)
  have ht : ∀ t, t ∈ 36 :: (k36).E → t ≠ 29 := by decide
  exact ⟨p2, q2, own_setCell ho (own_ne (g := p) ho p2 (by decide)) _, ((h.mr.nw.grown h.mr.arr (by decide) hg).set p2 (by decide) k u), Kd.R_set c2 p2 ht k u, p2.set k u, q2.other _ _ (fun e => hpq e.symm), hb.setCell (p := ⟨p, k, none⟩) hpb _⟩
abbrev mkC : S36 := ⟨markB, false, ⟨#[]⟩, false⟩
/-- What the law's questions need. -/
structure FT (w : World) (xs : List S34) (cs : List S36) (ad6 ad9 : Addr) (p q : Nat) (pc qc : List Value) (W : World) : Prop where
  a : Kd.C k34 W (some ad6) xs.length xs
  k : Kd.C k36 W (some ad9) cs.length cs
  el : ∀ j : Int, 0 ≤ j → j < xs.length → ∃ (b : Addr) (c : Nat), W.cell? (ad6.add (j.toNat * 3)) = some (.string (rd_T34 xs j).f0) ∧ W.cell? ⟨(ad6.add (j.toNat * 3)).block, (ad6.add (j.toNat * 3)).off + 1, none⟩ = some (.string (rd_T34 xs j).f1) ∧ W.cell? ⟨(ad6.add (j.toNat * 3)).block, (ad6.add (j.toNat * 3)).off + 2, none⟩ = some (.slice (some b) (rd_T34 xs j).f2.length c) ∧ (rd_T34 xs j).f2.length + 1 ≤ c ∧ W.cell? (b.add (rd_T34 xs j).f2.length) = some (.string markB)
  ma : W.cell? (ad6.add (xs.length * 3)) = some (.string markB)
  mc : W.cell? (ad9.add (cs.length * 4)) = some (.string markB)
  px : At W p pc 29
  qx : At W q qc 29
  bel : Below w.heap.size w W
theorem cell_on {W W' : World} (hb : Below W.heap.size W W') {a : Addr} {v : Value} (h : W.cell? a = some v) : W'.cell? a = some v := (hb.cell (World.block_lt_of_cell? W a h)).trans h
theorem FT.on {w : World} {xs : List S34} {cs : List S36} {ad6 ad9 : Addr} {p q : Nat} {pc qc : List Value} {W W' : World} (h : FT w xs cs ad6 ad9 p q pc qc W) (hb : Below W.heap.size W W') : FT w xs cs ad6 ad9 p q pc qc W' :=
  ⟨Kd.C_below h.a hb, Kd.C_below h.k hb, fun j h0 h1 => by obtain ⟨b, c, k0, k1, k2, k3, k4⟩ := h.el j h0 h1; exact ⟨b, c, cell_on hb k0, cell_on hb k1, cell_on hb k2, k3, cell_on hb k4⟩, cell_on hb h.ma, cell_on hb h.mc, h.px.below hb h.px.lt, h.qx.below hb h.qx.lt, h.bel.trans (hb.mono h.bel.size)⟩
theorem own_form {W : World} {B n s : Nat} {e : TypeId} {v : Value} {r : List Value} (h : W.ownsRow B e s v n r) (hn : 0 < n) : ∃ g c, v = .slice (some ⟨g, 0, none⟩) n c ∧ n ≤ c ∧ ∀ k, k < n * s → W.cell? ⟨g, k, none⟩ = r[k]? := by
  rcases h.2 with ⟨_, h0⟩ | ⟨g, cap, cur, hv, _, _, hc, _⟩
  · omega
  · subst hv
    exact ⟨g, cap, rfl, hc, fun k hk => h.cellAt k hk⟩
theorem LT.last {w : World} {xs : List S34} {cs : List S36} {v6 v1 v9 : Value} {p q : Nat} {pc qc : List Value} {cells : List Value} {W w1 : World} (h : LT w xs cs v6 v9 p q pc qc cells W) (hpb : w.heap.size ≤ p) (hpq : p ≠ q) (hxl : xs.length ≤ 1048576) (hcl : cs.length ≤ 1048576)
    (ho : Kd.R k36 36 w1 w.heap.size (fun _ => True) v1 (cs ++ [mkC])) (hb : Below w.heap.size w w1) (hg : W.grownBy w1 v9.ownBlock) (k : Nat) (u : Value) :
    At w1 p pc 29 ∧ At w1 q qc 29 ∧ ∃ ad6 c6 ad9 c9, v6 = .slice (some ad6) (xs.length + 1) c6 ∧ xs.length + 1 ≤ c6 ∧ v1 = .slice (some ad9) (cs.length + 1) c9 ∧ cs.length + 1 ≤ c9 ∧ FT w xs cs ad6 ad9 p q (pc.set k u) qc (w1.setCell ⟨p, k, none⟩ u) := by
  obtain ⟨r9, ho9⟩ := Kd.R_own h.ctl
  have pne : some p ≠ v9.ownBlock := own_ne (g := p) ho9 h.px (by decide)
  have qne : some q ≠ v9.ownBlock := own_ne (g := q) ho9 h.qx (by decide)
  have p2 := h.px.grown hg pne
  have q2 := h.qx.grown hg qne
  have arr2 := own_other h.arr hg (own_type_ne h.arr ho9 (by decide))
  have arr3 := own_setCell (p := ⟨p, k, none⟩) arr2 (own_ne (g := p) arr2 p2 (by decide)) u
  have nw3 := ((h.nw.grown ho9 (by decide) hg).set p2 (by decide) k u)
  have ht : ∀ t, t ∈ 36 :: (k36).E → t ≠ 29 := by decide
  have c3 := Kd.R_set ho p2 ht k u
  obtain ⟨A9, c9, e9⟩ := Kd.R_slice ho
  subst e9
  obtain ⟨_, hc9, hC9⟩ := Kd.R_reads' c3
  rw [show (cs ++ [mkC]).length = cs.length + 1 by simp] at hc9 hC9
  obtain ⟨ad9, ea, m0, _⟩ := at_T36 hC9 (cs.length : Int) (by omega) (by omega)
  subst ea
  obtain ⟨g, c6, e6, hc6, hcell⟩ := own_form arr3 (by omega)
  have hlen := nw3.len
  have hat : ∀ m, (⟨g, 0, none⟩ : Addr).add m = ⟨g, m, none⟩ := fun m => by rw [XG.add_flat, Nat.zero_add]
  have hce : ∀ m, m < xs.length * 3 → (w1.setCell ⟨p, k, none⟩ u).cell? ⟨g, m, none⟩ = cells[m]? := fun m hm => by
    rw [hcell m (by omega), List.getElem?_append_left (by omega)]
  refine ⟨p2, q2, ⟨g, 0, none⟩, c6, ad9, c9, e6, hc6, by simp, by simpa using hc9, ?_, ?_, ?_, ?_, ?_, p2.set k u, q2.other _ _ (fun e => hpq e.symm), hb.setCell (p := ⟨p, k, none⟩) hpb _⟩
  · obtain ⟨A', c', e', hR⟩ := own_reads_row (R := k34.K (w1.setCell ⟨p, k, none⟩ u)) (own_take (m := xs.length) (by rw [e6] at arr3; exact arr3) (by omega)) (by
      rw [List.take_append_of_le_length (by omega), List.take_of_length_le (by omega)]
      exact nw3.reps) rfl
    injection e' with e1 e2 e3
    subst e1
    exact hR
  · have := Kd.C_take (k := k36) (w := w1.setCell ⟨p, k, none⟩ u) (A := some ad9) (xs := cs ++ [mkC]) (m := cs.length) (by simpa using hC9) (by simp)
    simpa using this
  · intro j j0 j1
    obtain ⟨m, rfl⟩ := Int.eq_ofNat_of_zero_le j0
    have hm : m < xs.length := by omega
    obtain ⟨b, c, s1, s2, s3⟩ := nw3.spare m hm
    rw [Int.toNat_natCast, hat]
    refine ⟨⟨b, 0, none⟩, c, ?_, ?_, ?_, s2, by rw [XG.add_flat, Nat.zero_add]; exact s3⟩
    · rw [hce _ (by omega), Nat.mul_comm]; exact nw3.c0 m hm
    · show (w1.setCell ⟨p, k, none⟩ u).cell? ⟨g, m * 3 + 1, none⟩ = _
      rw [hce _ (by omega), Nat.mul_comm]; exact nw3.c1 m hm
    · show (w1.setCell ⟨p, k, none⟩ u).cell? ⟨g, m * 3 + 2, none⟩ = _
      rw [hce _ (by omega), Nat.mul_comm]; exact s1
  · rw [hat, hcell _ (by omega), List.getElem?_append_right (by omega), hlen, Nat.sub_self]
    rfl
  · have e : (rd_T36 (cs ++ [mkC]) (cs.length : Int)).f0 = markB := by simp [rd_T36, List.getD_eq_getElem?_getD]
    rw [e, Int.toNat_natCast] at m0
    exact m0
end Go.Proofs.YtogkibhbkapobaaDoor.CsMark

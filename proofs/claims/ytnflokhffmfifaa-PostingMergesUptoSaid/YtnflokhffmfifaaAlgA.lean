/- Lists that are known in a world, all of elements of one list T; posting's functions on them. -/
import Derived.Test.YtnflokhffmfifaaSetOps
set_option linter.unusedVariables false
set_option linter.unusedSimpArgs false
namespace Go.Proofs.Ytnflokhffmfifaa.CountW
open Go.RowKit Go.Proofs.Ytnflokhffmfifaa.Blk Go.Proofs.Ytnflokhffmfifaa.Ris Go.Proofs.Ytnflokhffmfifaa.Cur Go.Proofs.Ytnflokhffmfifaa.OfW Go.Proofs.Ytnflokhffmfifaa.HeapPure Go.Proofs.Ytnflokhffmfifaa.HeapW Go.Proofs.Ytnflokhffmfifaa.PostAlg Go.Proofs.YtnflokhffmfifaaW.PrintWords Go.Proofs.YtnflokhffmfifaaW.PrintLast Go.Proofs.YtnflokhffmfifaaW.PrintMore
theorem row_of_C {w : World} {A : Option Addr} {c : Nat} {l : List Int} (h : Kd.C (Kd.int .i64) w A l.length l) (hc : l.length ≤ c) : ∃ g, Row w g A c l := by
  by_cases hp : 0 < l.length
  · have key : ∀ i : Nat, i < l.length → ∃ ad, A = some ad ∧ w.cell? (ad.add i) = some (.int .i64 (l.getD i 0)) := fun i hi => by
      obtain ⟨ad, cs, e, _, hK, hc0⟩ := Kd.C_get h 0 (i : Int) (by omega) (by omega)
      obtain rfl := hK
      have := hc0 0 _ rfl
      rw [show (Kd.int .i64).sz = 1 from rfl, Int.toNat_natCast, Nat.mul_one, Nat.add_zero] at this
      exact ⟨ad, e, this⟩
    obtain ⟨⟨g, o, sp⟩, rfl, h0⟩ := key 0 hp
    have hsp : sp = none := by
      cases sp with
      | none => rfl
      | some k =>
        simp [Addr.add, World.cell?] at h0
        split at h0 <;> simp at h0
    subst hsp
    refine ⟨g, hc, fun _ => ⟨o, rfl, fun i hi => ?_⟩⟩
    obtain ⟨ad, e, h1⟩ := key i hi
    obtain rfl := Option.some.inj e
    rwa [add_off] at h1
  · exact ⟨0, hc, fun h => absurd h hp⟩
structure K3 (T : List Int) (W : World) (v : Value) (l : List Int) : Prop where
  row : ∃ g A c, v = .slice A l.length c ∧ Row W g A c l
  fit : l.length ≤ 1048576
  sub : ∀ x ∈ l, x ∈ T
variable {T : List Int} {W W' : World} {v v1 v2 v3 : Value} {l l1 l2 l3 : List Int}
theorem K3.on (h : K3 T W v l) (hb : Below W.heap.size W W') : K3 T W' v l := by
  obtain ⟨⟨g, A, c, e, hr⟩, h2, h3⟩ := h
  exact ⟨⟨g, A, c, e, hr.on (fun hp => hb.block _ (Row.lt hr hp))⟩, h2, h3⟩
theorem K3.draw (h : K3 T W v l) (n : Nat) : K3 T (W.drewN n) v l := h.on (pw_below_drewN (Below.refl _ _) n)
theorem K3.alloc (h : K3 T W v l) (o : Obj) : K3 T (W.alloc o) v l := h.on ((Below.refl _ W).alloc (Nat.le_refl _) o)
theorem K3.lits (h : K3 T W v l) {o1 o2 : Obj} (hb : Below ((W.alloc o1).alloc o2).heap.size ((W.alloc o1).alloc o2) W') : K3 T W' v l := ((h.alloc o1).alloc o2).on hb
/-- The header of a known list. -/
theorem K3.hd (h : K3 T W v l) : ∃ d : Hd, d.v = v ∧ d.l = l ∧ Row W d.g d.A d.c d.l := by
  obtain ⟨⟨g, A, c, e, hr⟩, _, _⟩ := h
  exact ⟨⟨A, c, g, l⟩, e.symm, rfl, hr⟩
theorem ris_short (hT : T.length ≤ 1048576) {r : List Int} (hr : Ris ltI r) (hs : ∀ x ∈ r, x ∈ T) : r.length ≤ 1048576 := by
  have e : r = setL ltI (T.filter fun x => decide (x ∈ r)) := setL_eq totI hr (fun x => by
    rw [List.mem_filter]
    exact ⟨fun h => ⟨hs x h, by simpa using h⟩, fun h => by simpa using h.2⟩)
  have h1 := setL_len totI (T.filter fun x => decide (x ∈ r))
  rw [← e] at h1
  exact Nat.le_trans h1 (Nat.le_trans (List.length_filter_le _ _) hT)
/-- A new known list. -/
def New (T : List Int) (W : World) (r : List Int) (e : Ending) (w' : World) : Prop := ∃ A c, e = .returned (.slice A r.length c) ∧ K3 T w' (.slice A r.length c) r ∧ Below W.heap.size W w'
theorem new_of {w : World} {r : List Int} {e : Ending} {w' : World} (h : Got w r e w') (hb : Below W.heap.size W w) (hT : T.length ≤ 1048576) (hr : Ris ltI r) (hs : ∀ x ∈ r, x ∈ T) : New T W r e w' := by
  obtain ⟨g, B, cc, e, h1, _, h2⟩ := h
  exact ⟨B, cc, e, ⟨⟨g, B, cc, rfl, h1⟩, ris_short hT hr hs, hs⟩, hb.trans (h2.mono hb.size)⟩
theorem heads_of (vs : List Value) (ds : List Hd) (hv : ds.map Hd.v = vs) (hr : ∀ d ∈ ds, Row W d.g d.A d.c d.l) : Heads (W.alloc (.cells vs.toArray 22)) (some ⟨W.heap.size, 0, none⟩) ds := by
  refine ⟨fun k hk => ⟨W.heap.size, 0, rfl, ?_⟩, fun d hd => (hr d hd).on (fun hp => Below.heap_alloc _ _ _ (Row.lt (hr d hd) hp))⟩
  rw [Nat.zero_add, (Blk.At.fresh W vs 22).cell k, ← hv, List.getElem?_map, List.getElem?_eq_getElem hk]
  simp [List.getD_eq_getElem?_getD, List.getElem?_eq_getElem hk]
theorem below_one (W : World) (o : Obj) : Below W.heap.size W (W.alloc o) := (Below.refl _ W).alloc (Nat.le_refl _) o
/-- Union and Meet of headers in a new block. -/
theorem k_union_any (b : Nat) (hb : b = W.heap.size) (vs : List Value) (ds : List Hd) (ls : List (List Int)) (n : Nat) (hn : n = ds.length) (hv : ds.map Hd.v = vs) (hl : ds.map Hd.l = ls) (hr : ∀ d ∈ ds, Row W d.g d.A d.c d.l) (hf : ∀ l ∈ ls, l.length ≤ 1048576) (h3 : ds.length ≤ 16) (hs : ∀ l ∈ ls, ∀ x ∈ l, x ∈ T) (hT : T.length ≤ 1048576) :
    Calls Try.prog 30 #[.slice (some ⟨b, 0, none⟩) n n] (W.alloc (.cells vs.toArray 22)) (New T W (union ltI ls)) := by
  subst hb hn hl
  have hbk : ∀ es : List Hd, (∀ d ∈ es, d.l.length ≤ 1048576) → bulk es ≤ 1048576 * es.length := fun es => by
    induction es with
    | nil => intro _; exact Nat.zero_le _
    | cons d t ih => intro h; rw [bulk_cons, List.length_cons]; have := ih (fun e he => h e (by simp [he])); have := h d (by simp); omega
  have hf' : ∀ d ∈ ds, d.l.length ≤ 1048576 := fun d hd => hf _ (List.mem_map.2 ⟨d, hd, rfl⟩)
  refine (union_as (W.alloc (.cells vs.toArray 22)) ds.length (some ⟨W.heap.size, 0, none⟩) ds (heads_of vs ds hv hr) (by have := hbk ds hf'; omega) hf' (by omega)).mono fun e w' h => new_of h (below_one W _) hT (ris_union totI _) (fun x hx => ?_)
  obtain ⟨l, hl, hxl⟩ := (mem_union totI _ x).1 hx
  exact hs l hl x hxl
theorem k_meet_any (b : Nat) (hb : b = W.heap.size) (vs : List Value) (ds : List Hd) (ls : List (List Int)) (n : Nat) (hn : n = ds.length) (hv : ds.map Hd.v = vs) (hl : ds.map Hd.l = ls) (hr : ∀ d ∈ ds, Row W d.g d.A d.c d.l) (hf : ∀ l ∈ ls, l.length ≤ 1048576) (h3 : ds.length ≤ 16) (hs : ∀ l ∈ ls, ∀ x ∈ l, x ∈ T) (hT : T.length ≤ 1048576) :
    Calls Try.prog 31 #[.slice (some ⟨b, 0, none⟩) n n] (W.alloc (.cells vs.toArray 22)) (New T W (meet ltI ls)) := by
  subst hb hn hl
  have hbk : ∀ es : List Hd, (∀ d ∈ es, d.l.length ≤ 1048576) → bulk es ≤ 1048576 * es.length := fun es => by
    induction es with
    | nil => intro _; exact Nat.zero_le _
    | cons d t ih => intro h; rw [bulk_cons, List.length_cons]; have := ih (fun e he => h e (by simp [he])); have := h d (by simp); omega
  have hf' : ∀ d ∈ ds, d.l.length ≤ 1048576 := fun d hd => hf _ (List.mem_map.2 ⟨d, hd, rfl⟩)
  refine (meet_as (W.alloc (.cells vs.toArray 22)) ds.length (some ⟨W.heap.size, 0, none⟩) ds (heads_of vs ds hv hr) (by have := hbk ds hf'; omega) hf' (by omega)).mono fun e w' h => new_of h (below_one W _) hT (ris_meet totI _) (fun x hx => ?_)
  obtain ⟨h1, h2⟩ := (mem_meet totI _ x).1 hx
  obtain ⟨l, hl⟩ := List.exists_mem_of_ne_nil _ h1
  exact hs l hl x (h2 l hl)
theorem k_union1 {b : Nat} (h0 : b = W.heap.size) (h1 : K3 T W v1 l1) (hT : T.length ≤ 1048576) : Calls Try.prog 30 #[.slice (some ⟨b, 0, none⟩) 1 1] (W.alloc (.cells #[v1] 22)) (New T W (union ltI [l1])) := by
  obtain ⟨d1, a1, b1, r1⟩ := h1.hd
  refine k_union_any b h0 [v1] [d1] [l1] 1 rfl (by simp [a1]) (by simp [b1]) ?_ ?_ (by simp) ?_ hT
  · intro d hd
    simp only [List.mem_cons, List.not_mem_nil, or_false] at hd
    rcases hd with rfl
    exact r1
  · intro l hl
    simp only [List.mem_cons, List.not_mem_nil, or_false] at hl
    rcases hl with rfl
    exact h1.fit
  · intro l hl
    simp only [List.mem_cons, List.not_mem_nil, or_false] at hl
    rcases hl with rfl
    exact h1.sub
theorem k_union2 {b : Nat} (h0 : b = W.heap.size) (h1 : K3 T W v1 l1) (h2 : K3 T W v2 l2) (hT : T.length ≤ 1048576) : Calls Try.prog 30 #[.slice (some ⟨b, 0, none⟩) 2 2] (W.alloc (.cells #[v1, v2] 22)) (New T W (union ltI [l1, l2])) := by
  obtain ⟨d1, a1, b1, r1⟩ := h1.hd
  obtain ⟨d2, a2, b2, r2⟩ := h2.hd
  refine k_union_any b h0 [v1, v2] [d1, d2] [l1, l2] 2 rfl (by simp [a1, a2]) (by simp [b1, b2]) ?_ ?_ (by simp) ?_ hT
  · intro d hd
    simp only [List.mem_cons, List.not_mem_nil, or_false] at hd
    rcases hd with rfl | rfl
    · exact r1
    · exact r2
  · intro l hl
    simp only [List.mem_cons, List.not_mem_nil, or_false] at hl
    rcases hl with rfl | rfl
    · exact h1.fit
    · exact h2.fit
  · intro l hl
    simp only [List.mem_cons, List.not_mem_nil, or_false] at hl
    rcases hl with rfl | rfl
    · exact h1.sub
    · exact h2.sub
theorem k_union3 {b : Nat} (h0 : b = W.heap.size) (h1 : K3 T W v1 l1) (h2 : K3 T W v2 l2) (h3 : K3 T W v3 l3) (hT : T.length ≤ 1048576) : Calls Try.prog 30 #[.slice (some ⟨b, 0, none⟩) 3 3] (W.alloc (.cells #[v1, v2, v3] 22)) (New T W (union ltI [l1, l2, l3])) := by
  obtain ⟨d1, a1, b1, r1⟩ := h1.hd
  obtain ⟨d2, a2, b2, r2⟩ := h2.hd
  obtain ⟨d3, a3, b3, r3⟩ := h3.hd
  refine k_union_any b h0 [v1, v2, v3] [d1, d2, d3] [l1, l2, l3] 3 rfl (by simp [a1, a2, a3]) (by simp [b1, b2, b3]) ?_ ?_ (by simp) ?_ hT
  · intro d hd
    simp only [List.mem_cons, List.not_mem_nil, or_false] at hd
    rcases hd with rfl | rfl | rfl
    · exact r1
    · exact r2
    · exact r3
  · intro l hl
    simp only [List.mem_cons, List.not_mem_nil, or_false] at hl
    rcases hl with rfl | rfl | rfl
    · exact h1.fit
    · exact h2.fit
    · exact h3.fit
  · intro l hl
    simp only [List.mem_cons, List.not_mem_nil, or_false] at hl
    rcases hl with rfl | rfl | rfl
    · exact h1.sub
    · exact h2.sub
    · exact h3.sub
theorem k_meet1 {b : Nat} (h0 : b = W.heap.size) (h1 : K3 T W v1 l1) (hT : T.length ≤ 1048576) : Calls Try.prog 31 #[.slice (some ⟨b, 0, none⟩) 1 1] (W.alloc (.cells #[v1] 22)) (New T W (meet ltI [l1])) := by
  obtain ⟨d1, a1, b1, r1⟩ := h1.hd
  refine k_meet_any b h0 [v1] [d1] [l1] 1 rfl (by simp [a1]) (by simp [b1]) ?_ ?_ (by simp) ?_ hT
  · intro d hd
    simp only [List.mem_cons, List.not_mem_nil, or_false] at hd
    rcases hd with rfl
    exact r1
  · intro l hl
    simp only [List.mem_cons, List.not_mem_nil, or_false] at hl
    rcases hl with rfl
    exact h1.fit
  · intro l hl
    simp only [List.mem_cons, List.not_mem_nil, or_false] at hl
    rcases hl with rfl
    exact h1.sub
theorem k_meet2 {b : Nat} (h0 : b = W.heap.size) (h1 : K3 T W v1 l1) (h2 : K3 T W v2 l2) (hT : T.length ≤ 1048576) : Calls Try.prog 31 #[.slice (some ⟨b, 0, none⟩) 2 2] (W.alloc (.cells #[v1, v2] 22)) (New T W (meet ltI [l1, l2])) := by
  obtain ⟨d1, a1, b1, r1⟩ := h1.hd
  obtain ⟨d2, a2, b2, r2⟩ := h2.hd
  refine k_meet_any b h0 [v1, v2] [d1, d2] [l1, l2] 2 rfl (by simp [a1, a2]) (by simp [b1, b2]) ?_ ?_ (by simp) ?_ hT
  · intro d hd
    simp only [List.mem_cons, List.not_mem_nil, or_false] at hd
    rcases hd with rfl | rfl
    · exact r1
    · exact r2
  · intro l hl
    simp only [List.mem_cons, List.not_mem_nil, or_false] at hl
    rcases hl with rfl | rfl
    · exact h1.fit
    · exact h2.fit
  · intro l hl
    simp only [List.mem_cons, List.not_mem_nil, or_false] at hl
    rcases hl with rfl | rfl
    · exact h1.sub
    · exact h2.sub
theorem k_meet3 {b : Nat} (h0 : b = W.heap.size) (h1 : K3 T W v1 l1) (h2 : K3 T W v2 l2) (h3 : K3 T W v3 l3) (hT : T.length ≤ 1048576) : Calls Try.prog 31 #[.slice (some ⟨b, 0, none⟩) 3 3] (W.alloc (.cells #[v1, v2, v3] 22)) (New T W (meet ltI [l1, l2, l3])) := by
  obtain ⟨d1, a1, b1, r1⟩ := h1.hd
  obtain ⟨d2, a2, b2, r2⟩ := h2.hd
  obtain ⟨d3, a3, b3, r3⟩ := h3.hd
  refine k_meet_any b h0 [v1, v2, v3] [d1, d2, d3] [l1, l2, l3] 3 rfl (by simp [a1, a2, a3]) (by simp [b1, b2, b3]) ?_ ?_ (by simp) ?_ hT
  · intro d hd
    simp only [List.mem_cons, List.not_mem_nil, or_false] at hd
    rcases hd with rfl | rfl | rfl
    · exact r1
    · exact r2
    · exact r3
  · intro l hl
    simp only [List.mem_cons, List.not_mem_nil, or_false] at hl
    rcases hl with rfl | rfl | rfl
    · exact h1.fit
    · exact h2.fit
    · exact h3.fit
  · intro l hl
    simp only [List.mem_cons, List.not_mem_nil, or_false] at hl
    rcases hl with rfl | rfl | rfl
    · exact h1.sub
    · exact h2.sub
    · exact h3.sub
theorem k_minus (h1 : K3 T W v1 l1) (h2 : K3 T W v2 l2) (hT : T.length ≤ 1048576) : Calls Try.prog 37 #[v1, v2] W (New T W (minus ltI l1 l2)) := by
  obtain ⟨⟨g1, A1, c1, rfl, r1⟩, f1, s1⟩ := h1
  obtain ⟨⟨g2, A2, c2, rfl, r2⟩, f2, s2⟩ := h2
  exact (minus_as W g1 g2 c1 c2 A1 A2 l1 l2 r1 r2 f1 f2).mono fun e w' h => new_of h (Below.refl _ _) hT (ris_minus totI _ _) (fun x hx => s1 x ((mem_minus totI _ _ x).1 hx).1)
theorem k_of (h1 : K3 T W v1 l1) (hT : T.length ≤ 1048576) : Calls Try.prog 22 #[v1] W (New T W (setL ltI l1)) := by
  obtain ⟨⟨g1, A1, c1, rfl, r1⟩, f1, s1⟩ := h1
  exact (of_as A1 c1 l1 W (Row.nums r1 f1) f1).mono fun e w' h => new_of h (Below.refl _ _) hT (ris_setL totI _) (fun x hx => s1 x ((mem_setL totI x _).1 hx))
theorem k_same (h1 : K3 T W v1 l1) (h2 : K3 T W v2 l2) (e : l1 = l2) : Calls Try.prog 29 #[v1, v2] W fun e w' => e = .returned (.bool true) ∧ Drawn0 W w' := by
  subst e
  obtain ⟨⟨g1, A1, c1, rfl, r1⟩, f1, s1⟩ := h1
  obtain ⟨⟨g2, A2, c2, rfl, r2⟩, f2, s2⟩ := h2
  exact same_as W g1 g2 c1 c2 A1 A2 l1 r1 r2 (by omega)
/-- A list that is written out. -/
theorem k_lit (l : List Int) (n : Nat) (hn : n = l.length) (vs : List Value) (hv : vs = l.map (Value.int .i64)) (b : Nat) (hb : b = W.heap.size) (hf : l.length ≤ 1048576) (hs : ∀ x ∈ l, x ∈ T) : K3 T (W.alloc (.cells vs.toArray 2)) (.slice (some ⟨b, 0, none⟩) n n) l := by
  subst hn hv hb
  refine ⟨⟨W.heap.size, _, _, rfl, ⟨Nat.le_refl _, fun hp => ⟨0, rfl, fun i hi => ?_⟩⟩⟩, hf, hs⟩
  rw [Nat.zero_add, (Blk.At.fresh W _ 2).cell i, List.getElem?_map, List.getElem?_eq_getElem hi]
  simp [List.getD_eq_getElem?_getD, List.getElem?_eq_getElem hi]
end Go.Proofs.Ytnflokhffmfifaa.CountW

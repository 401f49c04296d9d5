/- By hand: a name written over: what it leaves. For every name and world. -/
import Derived.Test.YtdkohenilbkmkaaUpF
import Derived.Test.YtdkohenilbkmkaaXN1
import Derived.Test.YtdkohenilbkmkaaBlk
import Derived.Deep.AppendSrc
import Derived.Deep.Upon
set_option linter.unusedVariables false
set_option linter.unusedSimpArgs false
namespace Go.Proofs.Ytdkohenilbkmkaa.UpW
open Go.RowKit Go.Proofs.Ytdkohenilbkmkaa.XT Go.Proofs.Ytdkohenilbkmkaa.XV Go.Proofs.Ytdkohenilbkmkaa.RFun Go.Proofs.Ytdkohenilbkmkaa.RGen Go.Proofs.YtdkohenilbkmkaaW.PrintWords Go.Proofs.YtdkohenilbkmkaaW.PrintLast Go.Proofs.YtdkohenilbkmkaaW.PrintMore
theorem numbered_as (m : ByteArray) (i : Int) (w : World) (hm : m.size ≤ 1000) : Calls Try.prog 27 #[.string m, .int .i64 i] w fun e w' => ∃ s, e = .returned (.string s) ∧ Below w.heap.size w w' := by
  have hs : ∀ a b : Int, (strOfNums [a, b]).size ≤ 1000 := fun a b => by
    simp [strOfNums, ByteArray.size]
  obtain ⟨r, hr⟩ : ∃ r, XN.rosterlaw05_numbered.f m i = some r := by
    unfold XN.rosterlaw05_numbered.f
    simp only [Option.bind_some]
    rw [if_pos (by have := hs ((wrap64 (97 + (Int.tmod i 26))) % 256) ((wrap64 (97 + (Int.tmod (wrap64 (Int.tdiv i 26)) 26))) % 256); omega)]
    exact ⟨_, rfl⟩
  refine (XN.rosterlaw05_numbered.calls m i r w hr).mono ?_
  rintro e w' ⟨rfl, hb⟩
  exact ⟨r, rfl, hb⟩
/-- Only blocks from B0 on and ahead of B1 have turned. -/
structure OV (B0 B1 : Nat) (A B : World) : Prop where
  os : B.os = A.os
  tape : B.tape = A.tape
  output : B.output = A.output
  size : A.heap.size ≤ B.heap.size
  block : ∀ j, j < A.heap.size → (j < B0 ∨ B1 ≤ j) → B.heap[j]? = A.heap[j]?
theorem OV.refl (B0 B1 : Nat) (A : World) : OV B0 B1 A A := ⟨rfl, rfl, rfl, Nat.le_refl _, fun _ _ _ => rfl⟩
theorem OV.set {B0 B1 g : Nat} {A B : World} (h : OV B0 B1 A B) (h0 : B0 ≤ g) (h1 : g < B1) (k : Nat) (u : Value) : OV B0 B1 A (B.setCell ⟨g, k, none⟩ u) :=
  ⟨h.os, h.tape, h.output, by rw [World.size_setCell]; exact h.size, fun j hj hb => (Below.heap_setCell _ _ _ _ (by show j ≠ g; omega)).trans (h.block j hj hb)⟩
theorem OV.below {B0 B1 : Nat} {A B C : World} (h : OV B0 B1 A B) (k : Below B.heap.size B C) : OV B0 B1 A C :=
  ⟨k.os.trans h.os, k.tape.trans h.tape, k.output.trans h.output, Nat.le_trans h.size k.size, fun j hj hb => (k.block j (by have := h.size; omega)).trans (h.block j hj hb)⟩
theorem OV.grown {B0 B1 : Nat} {A B C : World} {row : Option Nat} (h : OV B0 B1 A B) (k : B.grownBy C row) (hr : ∀ q, row = some q → A.heap.size ≤ q) : OV B0 B1 A C :=
  ⟨k.os.trans h.os, k.tape.trans h.tape, k.output.trans h.output, Nat.le_trans h.size k.size, fun j hj hb => (k.block j (by have := h.size; omega) (fun e => by have := hr j e.symm; omega)).trans (h.block j hj hb)⟩
theorem OV.own {B0 B1 : Nat} {A B : World} (h : OV B0 B1 A B) {a : Addr} (hn : A.heap.size ≤ a.block) (u : Value) : OV B0 B1 A (B.setCell a u) :=
  ⟨h.os, h.tape, h.output, by rw [World.size_setCell]; exact h.size, fun j hj hb => (Below.heap_setCell _ _ _ _ (by omega)).trans (h.block j hj hb)⟩
def kH : Kd PD := Kd.scalar PD.v (fun _ => rfl)
/-- A name being written over. -/
structure MK (B0 B1 r c xb yb : Nat) (ps : List PD) (w0 : World) (rows : Value) (n : Nat) (rest : List Value) (hk : Nat) (W : World) : Prop where
  ov : OV B0 B1 w0 W
  y : W.heap[yb]? = some (.cells (rows :: rest).toArray 32 (0, 0))
  x : ∃ cs : Array Value, W.heap[xb]? = some (.cells cs 32 (0, 0)) ∧ cs.size = 5
  row : Kd.R kH 44 W w0.heap.size (fun _ => True) rows (ps.take n)
  hdr : ∃ hs : Array Value, W.heap[r]? = some (.cells hs 44 (0, 0)) ∧ hs.size = c ∧ ∀ k, hk ≤ k → k < ps.length → hs[k]? = some (ps.getD k default).v
  part : ∀ p ∈ ps, B0 ≤ p.g ∧ p.g < B1 ∧ p.l.length + 1 ≤ p.c ∧ ∃ cs : Array Value, W.heap[p.g]? = some (.cells cs 46 (0, 0)) ∧ cs.size = p.c * 2
  rlo : B0 ≤ r
  rhi : r < B1
  b1 : B1 ≤ w0.heap.size
  yl : w0.heap.size ≤ yb
  xl : w0.heap.size ≤ xb
theorem MK.on {B0 B1 r c xb yb n hk : Nat} {ps : List PD} {w0 W W' : World} {rows : Value} {rest : List Value} (h : MK B0 B1 r c xb yb ps w0 rows n rest hk W) (k : Below W.heap.size W W') : MK B0 B1 r c xb yb ps w0 rows n rest hk W' := by
  have lt : ∀ {j : Nat} {o : Obj}, W.heap[j]? = some o → W'.heap[j]? = some o := fun hj => (k.block _ (Array.getElem?_eq_some_iff.1 hj).1).trans hj
  refine ⟨h.ov.below k, lt h.y, ?_, Kd.R_below h.row k, ?_, fun p hp => ?_, h.rlo, h.rhi, h.b1, h.yl, h.xl⟩
  · obtain ⟨cs, h1, h2⟩ := h.x; exact ⟨cs, lt h1, h2⟩
  · obtain ⟨hs, h1, h2⟩ := h.hdr; exact ⟨hs, lt h1, h2⟩
  · obtain ⟨a1, a2, a3, cs, h1, h2⟩ := h.part p hp; exact ⟨a1, a2, a3, cs, lt h1, h2⟩
theorem Blk_set {w : World} {b : Nat} {a : Value} {rest : List Value} {t : TypeId} (h : w.heap[b]? = some (.cells (a :: rest).toArray t (0, 0))) (v : Value) : (w.setCell ⟨b, 0, none⟩ v).heap[b]? = some (.cells (v :: rest).toArray t (0, 0)) := by
  have := Blk.At.set (w := w) (b := b) (cs := a :: rest) (t := t) h 0 v
  simpa [Blk.At] using this
/-- The rows' list is longer by one: its row, then its field. -/
theorem MK.app {B0 B1 r c xb yb n hk : Nat} {ps : List PD} {w0 W w1 : World} {rows v1 : Value} {rest : List Value} (h : MK B0 B1 r c xb yb ps w0 rows n rest hk W) (hg : W.grownBy w1 rows.ownBlock) (hne : xb ≠ yb)
    (ho : Kd.R kH 44 w1 w0.heap.size (fun _ => True) v1 (ps.take (n + 1))) (hat : v1.ownBlock = rows.ownBlock ∨ ∃ b, v1.ownBlock = some b ∧ W.heap.size ≤ b) : (w1.heap[yb]? = some (.cells (rows :: rest).toArray 32 (0, 0))) ∧ MK B0 B1 r c xb yb ps w0 v1 (n + 1) rest hk (w1.setCell ⟨yb, 0, none⟩ v1) := by
  have hb1 := h.b1
  have hyl := h.yl
  have hxl := h.xl
  have hbase := Kd.R_base h.row
  have old : ∀ {j : Nat} {cs : Array Value} {t : TypeId}, t ≠ 44 → W.heap[j]? = some (.cells cs t (0, 0)) → w1.heap[j]? = some (.cells cs t (0, 0)) := fun ht hj => by
    refine (hg.block _ (Array.getElem?_eq_some_iff.1 hj).1 (fun e => ?_)).trans hj
    obtain ⟨cells, hc⟩ := Kd.R_typed h.row _ e.symm
    rw [hc] at hj
    injection hj with hj
    injection hj with _ hj
    exact ht hj.symm
  have low : ∀ {j : Nat}, j < W.heap.size → j < w0.heap.size → w1.heap[j]? = W.heap[j]? := fun hj h0 => hg.block _ hj (fun e => by have := hbase _ e.symm; omega)
  have hyl1 := (Array.getElem?_eq_some_iff.1 h.y).1
  have hy1 := old (by decide) h.y
  have oth : ∀ {j : Nat}, j ≠ yb → (w1.setCell ⟨yb, 0, none⟩ v1).heap[j]? = w1.heap[j]? := fun hj => Below.heap_setCell _ _ _ _ hj
  refine ⟨hy1, (h.ov.grown hg (fun q e => hbase q e)).own (by show w0.heap.size ≤ yb; omega) v1, ?_, ?_, Kd.R_mono (Kd.R_move (Kd.R_bound ho) (fun j hj => oth (fun e => ?_))) (fun _ _ => trivial), ?_, fun p hp => ?_, h.rlo, h.rhi, h.b1, h.yl, h.xl⟩
  · have := Blk_set hy1 v1
    exact this
  · obtain ⟨cs, h1, h2⟩ := h.x
    exact ⟨cs, (oth hne).trans (old (by decide) h1), h2⟩
  · obtain ⟨_, _, _, q, hq, cells, hc⟩ := hj
    have hq : q = 44 := by simpa [kH, Kd.scalar] using hq
    rw [e, hy1, hq] at hc
    injection hc with hc
    injection hc with _ hc
    cases hc
  · obtain ⟨hs, h1, h2⟩ := h.hdr
    have := h.rhi
    exact ⟨hs, (oth (by omega)).trans ((low (Array.getElem?_eq_some_iff.1 h1).1 (by omega)).trans h1), h2⟩
  · obtain ⟨a1, a2, a3, cs, h1, h2⟩ := h.part p hp
    exact ⟨a1, a2, a3, cs, (oth (by omega)).trans (old (by decide) h1), h2⟩
/-- Two cells of a part. -/
theorem MK.pcell {B0 B1 r c xb yb n hk : Nat} {ps : List PD} {w0 W : World} {rows : Value} {rest : List Value} (h : MK B0 B1 r c xb yb ps w0 rows n rest hk W) {p : PD} (hp : p ∈ ps) {j : Nat} (hj : j < p.c) : (∃ u, W.cell? ⟨p.g, j * 2, none⟩ = some u) ∧ W.frozen? ⟨p.g, j * 2, none⟩ = false ∧ (∃ u, W.cell? ⟨p.g, j * 2 + 1, none⟩ = some u) ∧ W.frozen? ⟨p.g, j * 2 + 1, none⟩ = false := by
  obtain ⟨_, _, _, cs, h1, h2⟩ := h.part p hp
  have hat : Blk.At W p.g cs.toList 46 := by unfold Blk.At; rw [Array.toArray_toList]; exact h1
  exact ⟨⟨cs[j * 2]'(by omega), by rw [cell_of h1]; exact Array.getElem?_eq_getElem _⟩, hat.free _, ⟨cs[j * 2 + 1]'(by omega), by rw [cell_of h1]; exact Array.getElem?_eq_getElem _⟩, hat.free _⟩
theorem MK.pput {B0 B1 r c xb yb n hk : Nat} {ps : List PD} {w0 W : World} {rows : Value} {rest : List Value} (h : MK B0 B1 r c xb yb ps w0 rows n rest hk W) {p : PD} (hp : p ∈ ps) (k : Nat) (u : Value) : MK B0 B1 r c xb yb ps w0 rows n rest hk (W.setCell ⟨p.g, k, none⟩ u) := by
  obtain ⟨a1, a2, a3, cs, h1, h2⟩ := h.part p hp
  have hb1 := h.b1
  have hyl := h.yl
  have hxl := h.xl
  have oth : ∀ {j : Nat}, j ≠ p.g → (W.setCell ⟨p.g, k, none⟩ u).heap[j]? = W.heap[j]? := fun hj => Below.heap_setCell _ _ _ _ hj
  have hne : ∀ {j : Nat} {cs' : Array Value} {t : TypeId}, t ≠ 46 → W.heap[j]? = some (.cells cs' t (0, 0)) → j ≠ p.g := fun ht hj e => by
    rw [e, h1] at hj
    injection hj with hj
    injection hj with _ hj
    exact ht hj.symm
  refine ⟨h.ov.set a1 a2 k u, (oth (hne (by decide) h.y)).trans h.y, ?_, Kd.R_mono (Kd.R_move (Kd.R_bound h.row) (fun j hj => oth (fun e => ?_))) (fun _ _ => trivial), ?_, fun q hq => ?_, h.rlo, h.rhi, h.b1, h.yl, h.xl⟩
  · obtain ⟨cx, h3, h4⟩ := h.x; exact ⟨cx, (oth (hne (by decide) h3)).trans h3, h4⟩
  · have := hj.2.1; omega
  · obtain ⟨hs, h3, h4⟩ := h.hdr; exact ⟨hs, (oth (hne (by decide) h3)).trans h3, h4⟩
  · obtain ⟨b1, b2, b3, cs', h3, h4⟩ := h.part q hq
    by_cases e : q.g = p.g
    · have hat : Blk.At W p.g cs.toList 46 := by unfold Blk.At; rw [Array.toArray_toList]; exact h1
      have := hat.set k u
      unfold Blk.At at this
      refine ⟨b1, b2, b3, (cs.toList.set k u).toArray, by rw [e]; exact this, ?_⟩
      rw [e, h1] at h3
      injection h3 with h3
      injection h3 with h3
      rw [← h3] at h4
      simpa using h4
    · exact ⟨b1, b2, b3, cs', (oth e).trans h3, h4⟩
section
variable {P : Program} {ops : Array Oper} {o : Oper} {a : Act} {Q : Exit → Act → World → Prop} {Kc : Act → World → Prop}
theorem step_app {W W' : World} (hw : Region.wanted o (yielded ops a.tmps) = true) (s x : Operand) (t tx : TypeId)
    (ho : o.op = .call { callee := .builtin .append, args := #[s, x], argTypes := #[t, tx] })
    (v xv v' : Value) (hv : a.eval s = v) (hx : a.eval x = xv) (hr : (Builtin.append_ #[t, tx] o.type #[v, xv]).run P W = .ok v' W') (hk : Kc (a.put o.dst v') W') :
    if Region.wanted o (yielded ops a.tmps) = true then Oper.wp P o a W Kc Q else Kc (a.put o.dst undef) W := by
  refine value_ (w1 := W') (v := v') hw rfl ?_ hk
  unfold execOp
  simp only [ho, resolve, invoke, builtin, Sem.run_bind, Sem.run_pure, Result.andThen_ok, List.map_toArray, List.map_cons, List.map_nil, hv, hx, hr]
end
section
variable {P : Program} {ops : Array Oper} {rest : List Oper} {o : Oper} {a : Act} {Q : Exit → Act → World → Prop}
theorem wp_app {W W' : World} (hgd : o.guard = none) (s x : Operand) (t tx : TypeId)
    (ho : o.op = .call { callee := .builtin .append, args := #[s, x], argTypes := #[t, tx] })
    (v xv v' : Value) (hv : a.eval s = v) (hx : a.eval x = xv) (hr : (Builtin.append_ #[t, tx] o.type #[v, xv]).run P W = .ok v' W') (hk : wpList P ops Q rest (a.put o.dst v') W') : wpList P ops Q (o :: rest) a W := by
  refine wpList_plain hgd fun K hK => ?_
  unfold Oper.wp execOp
  simp only [ho, resolve, invoke, builtin, Sem.run_bind, Sem.run_pure, Result.andThen_ok, List.map_toArray, List.map_cons, List.map_nil, hv, hx, hr]
  exact hK _ _ hk
end
theorem row_cell {W : World} {base n : Nat} {ok : Nat → Prop} {A : Option Addr} {c : Nat} {ps : List PD} (h : Kd.R kH 44 W base ok (.slice A n c) ps) {q : Nat} (hq : q < ps.length) : ∃ g, A = some ⟨g, 0, none⟩ ∧ W.cell? ⟨g, q, none⟩ = some (ps.getD q default).v := by
  obtain ⟨_, inner, own, hr⟩ := h
  rcases own.2 with ⟨e, h0⟩ | ⟨g, cap, cur, e, _, h4, h5, h6, h7, h8⟩
  · omega
  · injection e with e1 e2 e3
    subst e1
    refine ⟨g, rfl, ?_⟩
    rw [cell_of h4]
    have h9 : (cur.toList.take (ps.length * 1))[q]? = some (ps.getD q default).v := by
      have h10 : cur.toList.take (ps.length * 1) = inner := h8
      rw [h10]
      have h11 : List.take 1 (List.drop (q * 1) inner) = [(ps.getD q default).v] := hr.2 q (ps.getD q default) (by rw [List.getElem?_eq_getElem hq]; simp [List.getD_eq_getElem?_getD, List.getElem?_eq_getElem hq])
      rw [Nat.mul_one] at h11
      have h12 := congrArg (fun z : List Value => z[0]?) h11
      simp only [List.getElem?_cons_zero] at h12
      rw [List.getElem?_take_of_lt (by omega), List.getElem?_drop, Nat.add_zero] at h12
      exact h12
    rw [List.getElem?_take_of_lt (by omega)] at h9
    simpa using h9
/-- One mark more behind a part: into its room. -/
theorem part_app {B0 B1 r c xb yb n hk : Nat} {ps : List PD} {w0 W : World} {rows : Value} {rest : List Value} (h : MK B0 B1 r c xb yb ps w0 rows n rest hk W) {p : PD} (hp : p ∈ ps) (s t : ByteArray) (hc : p.l.length ≤ 1048576) :
    (Builtin.append_ #[44, 44] 44 #[.slice (some ⟨p.g, 0, none⟩) p.l.length p.c, .slice (some ⟨W.heap.size, 0, none⟩) 1 1]).run Try.prog (W.alloc (.cells #[.string s, .string t] 46)) = .ok (.slice (some ⟨p.g, 0, none⟩) (p.l.length + 1) p.c) ((W.alloc (.cells #[.string s, .string t] 46)).setCells p.g (p.l.length * 2) [.string s, .string t]) ∧ MK B0 B1 r c xb yb ps w0 rows n rest hk ((W.alloc (.cells #[.string s, .string t] 46)).setCells p.g (p.l.length * 2) [.string s, .string t]) := by
  obtain ⟨i0, hi, hz0, hz1, hz2⟩ := info_parts info46
  obtain ⟨a1, a2, a3, cs, h1, h2⟩ := h.part p hp
  have hM := h.on ((Below.refl W.heap.size W).alloc (Nat.le_refl _) (.cells #[.string s, .string t] 46))
  have hxat : Blk.At (W.alloc (.cells #[.string s, .string t] 46)) W.heap.size [.string s, .string t] 46 := Blk.At.fresh W [.string s, .string t] 46
  have hsrc : Src Try.prog i0.size 44 (.slice (some ⟨W.heap.size, 0, none⟩) 1 1) 1 [.string s, .string t] (W.alloc (.cells #[.string s, .string t] 46)) := by
    rw [hz1]
    refine Src.ofSlice _ Try.underlying44 ⟨W.heap.size, 0, none⟩ 1 1 [.string s, .string t] rfl (fun j u hj => ?_) (by simp [Value.oneCell'])
    rw [add_off, Nat.zero_add]
    exact hxat.get j u hj
  have hr := run_append_room_src (W.alloc (.cells #[.string s, .string t] 46)) 44 44 44 46 i0 Try.underlying44 hi p.g 0 p.l.length p.c (.slice (some ⟨W.heap.size, 0, none⟩) 1 1) 1 [.string s, .string t] hsrc (by omega) (fun j hj => by
    obtain ⟨_, _, _, cs', h3, h4⟩ := hM.part p hp
    have hj2 : j < 2 := by simpa using hj
    rw [hz1, cell_of h3, Array.getElem?_eq_getElem (by omega)]
    rfl) (fun j hj => by
    obtain ⟨_, _, _, cs', h3, h4⟩ := hM.part p hp
    exact Blk.At.free (cs := cs'.toList) (by unfold Blk.At; rw [Array.toArray_toList]; exact h3) _)
  rw [hz1, Nat.zero_add] at hr
  exact ⟨hr, (hM.pput hp (p.l.length * 2) (.string s)).pput hp (p.l.length * 2 + 1) (.string t)⟩
theorem rowR {W : World} {base : Nat} {v : Value} {ps : List PD} (h : Kd.R kH 44 W base (fun _ => True) v ps) : Kd.R kH 44 W base (fun k => v.ownBlock = some k) v ps := by
  obtain ⟨_, inner, own, hr⟩ := h
  exact ⟨fun k hk => hk, inner, own, hr.imp_ (fun _ _ hp => hp)⟩
theorem Blk_set1 {w : World} {b : Nat} {a d : Value} {rest : List Value} {t : TypeId} (h : w.heap[b]? = some (.cells (a :: d :: rest).toArray t (0, 0))) (v : Value) : (w.setCell ⟨b, 1, none⟩ v).heap[b]? = some (.cells (a :: v :: rest).toArray t (0, 0)) := by
  have := Blk.At.set (w := w) (b := b) (cs := a :: d :: rest) (t := t) h 1 v
  simpa [Blk.At] using this
/-- The longer ones' list is longer by one: its row, then its field. -/
theorem MK.app1 {B0 B1 B2 r c xb yb n hk i : Nat} {ps : List PD} {w0 W w1 : World} {rows longs v1 : Value} {rest lv : List Value} (h : MK B0 B1 r c xb yb ps w0 rows n (longs :: rest) hk W) (hown : W.ownsRow B2 44 1 longs i lv) (hg : W.grownBy w1 longs.ownBlock) (hne : xb ≠ yb) (hB2 : w0.heap.size ≤ B2) (hrb : ∀ k, rows.ownBlock = some k → k < B2) :
    (w1.heap[yb]? = some (.cells (rows :: longs :: rest).toArray 32 (0, 0))) ∧ MK B0 B1 r c xb yb ps w0 rows n (v1 :: rest) hk (w1.setCell ⟨yb, 1, none⟩ v1) := by
  have hb1 := h.b1
  have hyl := h.yl
  have hxl := h.xl
  have hbase : ∀ q, longs.ownBlock = some q → B2 ≤ q := fun q e => (hown.lt q e).1
  have old : ∀ {j : Nat} {cs : Array Value} {t : TypeId}, t ≠ 44 → W.heap[j]? = some (.cells cs t (0, 0)) → w1.heap[j]? = some (.cells cs t (0, 0)) := fun ht hj => by
    refine (hg.block _ (Array.getElem?_eq_some_iff.1 hj).1 (fun e => ?_)).trans hj
    obtain ⟨cells, hc⟩ := own_typed hown _ e.symm
    rw [hc] at hj
    injection hj with hj
    injection hj with _ hj
    exact ht hj.symm
  have hy1 := old (by decide) h.y
  have oth : ∀ {j : Nat}, j ≠ yb → (w1.setCell ⟨yb, 1, none⟩ v1).heap[j]? = w1.heap[j]? := fun hj => Below.heap_setCell _ _ _ _ hj
  have hRt := Kd.R_typed h.row
  refine ⟨hy1, (h.ov.grown hg (fun q e => by have := hbase q e; omega)).own (by show w0.heap.size ≤ yb; omega) v1, Blk_set1 hy1 v1, ?_, Kd.R_mono (Kd.R_move (rowR h.row) (fun j hj => ?_)) (fun _ _ => trivial), ?_, fun p hp => ?_, h.rlo, h.rhi, h.b1, h.yl, h.xl⟩
  · obtain ⟨cs, h1, h2⟩ := h.x
    exact ⟨cs, (oth hne).trans (old (by decide) h1), h2⟩
  · obtain ⟨cells, hc⟩ := hRt j hj
    refine (oth (fun e => ?_)).trans (hg.block _ (Array.getElem?_eq_some_iff.1 hc).1 (fun e => by have := hbase j e.symm; have := hrb j hj; omega))
    rw [e, h.y] at hc
    injection hc with hc
    injection hc with _ hc
    cases hc
  · obtain ⟨hs, h1, h2⟩ := h.hdr
    have := h.rhi
    exact ⟨hs, (oth (by omega)).trans ((hg.block _ (Array.getElem?_eq_some_iff.1 h1).1 (fun e => by have := hbase _ e.symm; omega)).trans h1), h2⟩
  · obtain ⟨a1, a2, a3, cs, h1, h2⟩ := h.part p hp
    exact ⟨a1, a2, a3, cs, (oth (by omega)).trans (old (by decide) h1), h2⟩
theorem mark_step {B0 B1 B2 r c xb yb n hk i : Nat} {ps : List PD} {w0 W : World} {rows longs : Value} {rest lv : List Value} (h : MK B0 B1 r c xb yb ps w0 rows n rest hk W) {p : PD} (hp : p ∈ ps) (s t : ByteArray) (hc : p.l.length ≤ 1048576) (hown : W.ownsRow B2 44 1 longs i lv) (hB2 : B1 ≤ B2) :
    ∃ W4, (Builtin.append_ #[44, 44] 44 #[.slice (some ⟨p.g, 0, none⟩) p.l.length p.c, .slice (some ⟨W.heap.size, 0, none⟩) 1 1]).run Try.prog (W.alloc (.cells #[.string s, .string t] 46)) = .ok (.slice (some ⟨p.g, 0, none⟩) (p.l.length + 1) p.c) W4 ∧ MK B0 B1 r c xb yb ps w0 rows n rest hk W4 ∧ W4.ownsRow B2 44 1 longs i lv ∧ W.heap.size ≤ W4.heap.size := by
  obtain ⟨h1, h2⟩ := part_app h hp s t hc
  refine ⟨_, h1, h2, own_move (own_below hown ((Below.refl W.heap.size W).alloc (Nat.le_refl _) (.cells #[.string s, .string t] 46))) (fun k hk2 => ?_), ?_⟩
  rotate_left
  · show W.heap.size ≤ (((W.alloc (.cells #[.string s, .string t] 46)).setCell ⟨p.g, p.l.length * 2, none⟩ (.string s)).setCell ⟨p.g, p.l.length * 2 + 1, none⟩ (.string t)).heap.size
    rw [World.size_setCell, World.size_setCell, World.size_alloc]
    omega
  have hk3 := (hown.lt k hk2).1
  have hpg := (h.part p hp).2.1
  exact (Below.heap_setCell _ _ _ _ (by show k ≠ p.g; omega)).trans (Below.heap_setCell _ _ _ _ (by show k ≠ p.g; omega))
/-- The headers need not be known any more. -/
theorem MK.weak {B0 B1 r c xb yb n hk : Nat} {ps : List PD} {w0 W : World} {rows : Value} {rest : List Value} (h : MK B0 B1 r c xb yb ps w0 rows n rest hk W) : MK B0 B1 r c xb yb ps w0 rows n rest ps.length W :=
  ⟨h.ov, h.y, h.x, h.row, by obtain ⟨hs, h1, h2, _⟩ := h.hdr; exact ⟨hs, h1, h2, fun k a b => by omega⟩, h.part, h.rlo, h.rhi, h.b1, h.yl, h.xl⟩
theorem MK.hcell {B0 B1 r c xb yb n hk : Nat} {ps : List PD} {w0 W : World} {rows : Value} {rest : List Value} (h : MK B0 B1 r c xb yb ps w0 rows n rest hk W) {k : Nat} (hk2 : k < c) : (∃ u, W.cell? ⟨r, k, none⟩ = some u) ∧ W.frozen? ⟨r, k, none⟩ = false := by
  obtain ⟨hs, h1, h2, _⟩ := h.hdr
  refine ⟨⟨hs[k]'(by omega), by rw [cell_of h1]; exact Array.getElem?_eq_getElem _⟩, ?_⟩
  exact Blk.At.free (cs := hs.toList) (by unfold Blk.At; rw [Array.toArray_toList]; exact h1) _
theorem MK.hput {B0 B1 r c xb yb n : Nat} {ps : List PD} {w0 W : World} {rows : Value} {rest : List Value} (h : MK B0 B1 r c xb yb ps w0 rows n rest ps.length W) (k : Nat) (u : Value) : MK B0 B1 r c xb yb ps w0 rows n rest ps.length (W.setCell ⟨r, k, none⟩ u) := by
  obtain ⟨hs, h1, h2, h3⟩ := h.hdr
  have hb1 := h.b1
  have hyl := h.yl
  have hxl := h.xl
  have hrh := h.rhi
  have oth : ∀ {j : Nat}, j ≠ r → (W.setCell ⟨r, k, none⟩ u).heap[j]? = W.heap[j]? := fun hj => Below.heap_setCell _ _ _ _ hj
  have hat : Blk.At W r hs.toList 44 := by unfold Blk.At; rw [Array.toArray_toList]; exact h1
  have hst := hat.set k u
  unfold Blk.At at hst
  refine ⟨h.ov.set h.rlo h.rhi k u, (oth (by omega)).trans h.y, ?_, Kd.R_mono (Kd.R_move (Kd.R_bound h.row) (fun j hj => oth (by have := hj.2.1; omega))) (fun _ _ => trivial), ⟨(hs.toList.set k u).toArray, hst, by simpa using h2, fun k a b => by omega⟩, fun p hp => ?_, h.rlo, h.rhi, h.b1, h.yl, h.xl⟩
  · obtain ⟨cs, h4, h5⟩ := h.x; exact ⟨cs, (oth (by omega)).trans h4, h5⟩
  · obtain ⟨a1, a2, a3, cs, h4, h5⟩ := h.part p hp
    exact ⟨a1, a2, a3, cs, (oth (fun e => by rw [e, h1] at h4; injection h4 with h4; injection h4 with _ h4; cases h4)).trans h4, h5⟩
theorem hdr_app {B0 B1 r c xb yb n m : Nat} {ps : List PD} {w0 W : World} {rows : Value} {rest : List Value} (h : MK B0 B1 r c xb yb ps w0 rows n rest ps.length W) (hc : m + 1 ≤ c) (o : Obj) (v : Value) (hv : v.oneCell' = true) :
    ∃ W5, (Builtin.append_ #[23, 23] 23 #[.slice (some ⟨r, 0, none⟩) m c, .slice (some ⟨W.heap.size + 1, 0, none⟩) 1 1]).run Try.prog ((W.alloc o).alloc (.cells #[v] 44)) = .ok (.slice (some ⟨r, 0, none⟩) (m + 1) c) W5 ∧ MK B0 B1 r c xb yb ps w0 rows n rest ps.length W5 := by
  obtain ⟨i0, hi, hz0, hz1, hz2⟩ := info_parts info44
  have hz : (W.alloc o).heap.size = W.heap.size + 1 := World.size_alloc _ _
  have hM := (h.on ((Below.refl W.heap.size W).alloc (Nat.le_refl _) o)).on ((Below.refl (W.alloc o).heap.size (W.alloc o)).alloc (Nat.le_refl _) (.cells #[v] 44))
  have hxat : Blk.At ((W.alloc o).alloc (.cells #[v] 44)) (W.heap.size + 1) [v] 44 := by have := Blk.At.fresh (W.alloc o) [v] 44; rwa [hz] at this
  have hsrc : Src Try.prog i0.size 23 (.slice (some ⟨W.heap.size + 1, 0, none⟩) 1 1) 1 [v] ((W.alloc o).alloc (.cells #[v] 44)) := by
    rw [hz1]
    refine Src.ofSlice _ Try.underlying23 ⟨W.heap.size + 1, 0, none⟩ 1 1 [v] rfl (fun j u hj => ?_) (by simpa using hv)
    rw [add_off, Nat.zero_add]
    exact hxat.get j u hj
  have hr := run_append_room_src ((W.alloc o).alloc (.cells #[v] 44)) 23 23 23 44 i0 Try.underlying23 hi r 0 m c (.slice (some ⟨W.heap.size + 1, 0, none⟩) 1 1) 1 [v] hsrc (by omega) (fun j hj => by
    have hj0 : j = 0 := by simpa using hj
    subst hj0
    obtain ⟨⟨u, hu⟩, _⟩ := hM.hcell (k := m) (by omega)
    rw [hz1, Nat.zero_add, Nat.mul_one, Nat.add_zero, hu]
    rfl) (fun j hj => by
    have hj0 : j = 0 := by simpa using hj
    subst hj0
    rw [hz1, Nat.zero_add, Nat.mul_one, Nat.add_zero]
    exact (hM.hcell (k := m) (by omega)).2)
  rw [hz1, Nat.zero_add, Nat.mul_one] at hr
  exact ⟨_, hr, hM.hput m v⟩
end Go.Proofs.Ytdkohenilbkmkaa.UpW

/- For the iterator that counts: the list of lists that it is handed, the heap as it is gathered, what it does to the heap between two rounds. -/
import Derived.Test.YtnflokhffmfifaaHeapGT
import Derived.Test.YtnflokhffmfifaaCountPure
import Derived.Test.YtnflokhffmfifaaRFun
set_option linter.unusedVariables false
set_option linter.unusedSimpArgs false
namespace Go.Proofs.Ytnflokhffmfifaa.CountWT
open Go.RowKit Go.Proofs.Ytnflokhffmfifaa.Blk Go.Proofs.Ytnflokhffmfifaa.Ris Go.Proofs.Ytnflokhffmfifaa.OfT Go.Proofs.Ytnflokhffmfifaa.Keys Go.Proofs.Ytnflokhffmfifaa.XV Go.Proofs.Ytnflokhffmfifaa.HeapPure Go.Proofs.Ytnflokhffmfifaa.HeapWT Go.Proofs.Ytnflokhffmfifaa.CountPure Go.Proofs.Ytnflokhffmfifaa.RFun Go.Proofs.YtnflokhffmfifaaW.PrintWords Go.Proofs.YtnflokhffmfifaaW.PrintLast Go.Proofs.YtnflokhffmfifaaW.PrintMore
/-- The iterator's own steps: of what lay, it turns cells alone that lie from n₀ on and are not of the kind of a list's elements. -/
structure Priv (n₀ : Nat) (A B : World) : Prop where
  os : B.os = A.os
  tape : B.tape = A.tape
  output : B.output = A.output
  size : A.heap.size ≤ B.heap.size
  block : ∀ j o, A.heap[j]? = some o → (j < n₀ ∨ o.isCells = false ∨ ∃ cs f, o = .cells cs 9 f) → B.heap[j]? = some o
theorem Priv.refl (n₀ : Nat) (A : World) : Priv n₀ A A := ⟨rfl, rfl, rfl, Nat.le_refl _, fun _ _ h _ => h⟩
theorem Priv.trans {n₀ : Nat} {A B C : World} (h : Priv n₀ A B) (k : Priv n₀ B C) : Priv n₀ A C := ⟨k.os.trans h.os, k.tape.trans h.tape, k.output.trans h.output, Nat.le_trans h.size k.size, fun j o h1 h2 => k.block j o (h.block j o h1 h2) h2⟩
theorem Priv.below {n₀ : Nat} {A B : World} (h : Below A.heap.size A B) : Priv n₀ A B := ⟨h.os, h.tape, h.output, h.size, fun j o h1 _ => (h.block j (Array.getElem?_eq_some_iff.1 h1).1).trans h1⟩
/-- A block of its own, of another kind, has turned. -/
theorem Priv.grown {n₀ : Nat} {A B : World} {r : Nat} (h : A.grownBy B (some r)) (hr : n₀ ≤ r) {cs : Array Value} {t : TypeId} {f : Nat × Nat} (hc : A.heap[r]? = some (.cells cs t f)) (ht : t ≠ 9) : Priv n₀ A B :=
  ⟨h.os, h.tape, h.output, h.size, fun j o h1 h2 => by
    refine (h.block j (Array.getElem?_eq_some_iff.1 h1).1 (fun e => ?_)).trans h1
    cases e
    rcases h2 with h2 | h2 | ⟨cs', f', rfl⟩
    · omega
    · rw [hc] at h1; cases h1; cases h2
    · rw [hc] at h1; cases h1; exact ht rfl⟩
theorem Priv.two {n₀ : Nat} {A B : World} {a b : Nat} (h : Two A B a b) (ha : n₀ ≤ a) (hb : n₀ ≤ b) {cs cs' : Array Value} {t t' : TypeId} {f f' : Nat × Nat} (hc : A.heap[a]? = some (.cells cs t f)) (ht : t ≠ 9) (hc' : A.heap[b]? = some (.cells cs' t' f')) (ht' : t' ≠ 9) : Priv n₀ A B :=
  ⟨h.os, h.tape, h.output, h.size, fun j o h1 h2 => by
    refine (h.block j (Array.getElem?_eq_some_iff.1 h1).1 (fun e => ?_) (fun e => ?_)).trans h1
    · subst e
      rcases h2 with h2 | h2 | ⟨_, _, rfl⟩
      · omega
      · rw [hc] at h1; cases h1; cases h2
      · rw [hc] at h1; cases h1; exact ht rfl
    · subst e
      rcases h2 with h2 | h2 | ⟨_, _, rfl⟩
      · omega
      · rw [hc'] at h1; cases h1; cases h2
      · rw [hc'] at h1; cases h1; exact ht' rfl⟩
/-- What a round leaves of cells: all but block lb, and but the lists' elements from n₀ on. -/
structure Keep (n₀ lb : Nat) (A B : World) : Prop where
  size : A.heap.size ≤ B.heap.size
  block : ∀ j cs t f, A.heap[j]? = some (.cells cs t f) → j ≠ lb → (j < n₀ ∨ t ≠ 9) → B.heap[j]? = some (.cells cs t f)
theorem Keep.trans {n₀ lb : Nat} {A B C : World} (h : Keep n₀ lb A B) (k : Keep n₀ lb B C) : Keep n₀ lb A C := ⟨Nat.le_trans h.size k.size, fun j cs t f h1 h2 h3 => k.block j cs t f (h.block j cs t f h1 h2 h3) h2 h3⟩
theorem Keep.putObj {n₀ lb : Nat} (W : World) (l : Nat) (o o' : Obj) (h : W.heap[l]? = some o) (ho : o.isCells = false) : Keep n₀ lb W (W.putObj l o') :=
  ⟨by simp, fun j cs t f h1 _ _ => by
    refine (World.putObj_heap_other (fun e => ?_)).trans h1
    subst e; rw [h] at h1; cases h1; cases ho⟩
/-- The lists that are handed in: their headers in a row, their elements below n₀ and not in block lb. -/
structure Lists (W : World) (n₀ lb : Nat) (L : Option Addr) (Ds : List Hd) : Prop where
  head : ∀ k, k < Ds.length → ∃ r o, L = some ⟨r, o, none⟩ ∧ W.cell? ⟨r, o + k, none⟩ = some (Ds.getD k default).v
  row : ∀ d ∈ Ds, Row W d.g d.A d.c d.l ∧ (0 < d.l.length → d.g < n₀ ∧ d.g ≠ lb)
def full (Ds : List Hd) : List Hd := Ds.filter fun d => decide (0 < d.l.length)
theorem full_full (Ds : List Hd) : Full (full Ds) := fun d hd => by simpa [full] using (List.mem_filter.1 hd).2
theorem full_snoc (Ds : List Hd) (k : Nat) (hk : k < Ds.length) : full (Ds.take (k + 1)) = full (Ds.take k) ++ (if 0 < (Ds.getD k default).l.length then [Ds.getD k default] else []) := by
  have e : Ds.take (k + 1) = Ds.take k ++ [Ds.getD k default] := by
    rw [List.take_add_one, List.getElem?_eq_getElem hk]
    simp [List.getD_eq_getElem?_getD, List.getElem?_eq_getElem hk]
  unfold full
  rw [e, List.filter_append]
  congr 1
  generalize Ds.getD k default = d
  by_cases h : 0 < d.l.length
  · rw [if_pos h, List.filter_cons_of_pos (by simpa using h)]; rfl
  · rw [if_neg h, List.filter_cons_of_neg (by simpa using h)]; rfl
theorem full_len (Ds : List Hd) (k : Nat) : (full (Ds.take k)).length ≤ k := Nat.le_trans (List.length_filter_le _ _) (by rw [List.length_take]; omega)
theorem cnt_full (Ds : List Hd) (x : ByteArray) : cnt ((full Ds).map Hd.l) x = cnt (Ds.map Hd.l) x := by
  induction Ds with
  | nil => rfl
  | cons d t ih =>
    unfold full at ih ⊢
    by_cases h : 0 < d.l.length
    · rw [List.filter_cons_of_pos (by simpa using h), List.map_cons, List.map_cons, cnt_cons, cnt_cons, ih]
    · rw [List.filter_cons_of_neg (by simpa using h), List.map_cons, cnt_cons, ih, List.length_eq_zero_iff.1 (by omega : d.l.length = 0)]
      simp
/-- The heap of headers, as the append law has it. -/
theorem heap_of_row {W : World} {n₀ hb g cap : Nat} {ds : List Hd} (hB : Boxed W hb 106 (.slice (some ⟨g, 0, none⟩) ds.length cap)) (hr : W.ownsRow n₀ 59 1 (.slice (some ⟨g, 0, none⟩) ds.length cap) ds.length (ds.map Hd.v)) (hg : ∀ d ∈ ds, Row W d.g d.A d.c d.l ∧ d.g < n₀) (hn : n₀ ≤ hb) : HB W hb g cap ds ∧ n₀ ≤ g := by
  obtain ⟨h1, ⟨e, _⟩ | ⟨g', cap', cur, e, h2, h3, h4, h5, h6, h7⟩⟩ := hr
  · cases e
  · cases e
    refine ⟨⟨hB, ⟨cur.toList.drop (ds.length * 1), ?_⟩, h4, fun e => ?_, fun d hd => ⟨(hg d hd).1, ?_, ?_⟩⟩, h2⟩
    · unfold Blk.At
      rw [← h7, List.take_append_drop]
      exact h3
    · subst e
      rw [show W.heap[hb]? = _ from hB] at h3
      cases h3
    · have := (hg d hd).2; omega
    · have := (hg d hd).2; omega
/-- Between two rounds of the iterator. -/
structure OR (n₀ lb hb r cap : Nat) (ls : List (List ByteArray)) (J : List (ByteArray × Nat) → World → Prop) (pre : List (ByteArray × Nat)) (es : List Hd) (wr : World) : Prop where
  heap : HB wr hb r cap es
  full : Full es
  ris : ∀ d ∈ es, Ris ltS d.l
  top : HeapFrom ltS key 0 es.length es
  here : pre ++ counts ltS (es.map Hd.l) = counts ltS ls
  inv : J pre wr
  low : ∀ d ∈ es, d.g < n₀ ∧ d.g ≠ lb
  n : n₀ ≤ hb ∧ n₀ ≤ r
  len : es.length ≤ 1048576
/-- Within a round: x has come m times; the lists ds are what the round began with. -/
structure IR2 (n₀ lb hb r cap : Nat) (J : List (ByteArray × Nat) → World → Prop) (pre : List (ByteArray × Nat)) (ds : List (List ByteArray)) (x : ByteArray) (m : Nat) (es : List Hd) (wr : World) : Prop where
  heap : HB wr hb r cap es
  full : Full es
  ris : ∀ d ∈ es, Ris ltS d.l
  top : HeapFrom ltS key 0 es.length es
  inn : Inn ltS ds x m (es.map Hd.l)
  inv : J pre wr
  low : ∀ d ∈ es, d.g < n₀ ∧ d.g ≠ lb
  n : n₀ ≤ hb ∧ n₀ ≤ r
  len : es.length ≤ 1048576
  m : ds.length ≤ 1048576
/-- How many elements there are still. -/
def bulk (es : List Hd) : Nat := (es.map fun d => d.l.length).sum
theorem bulk_perm {es fs : List Hd} (h : es.Perm fs) : bulk es = bulk fs := (h.map _).sum_nat
theorem bulk_cons (d : Hd) (t : List Hd) : bulk (d :: t) = d.l.length + bulk t := rfl
/-- The first of a list that is not empty. -/
theorem key_cons {d : Hd} (h : 0 < d.l.length) : ∃ t, d.l = key d :: t := by
  obtain ⟨A, c, g, l⟩ := d
  cases l with
  | nil => simp at h
  | cons a t => exact ⟨t, rfl⟩
/-- All that stands in a heap of rising lists is not below the top's first. -/
theorem top_le {es : List Hd} (hf : Full es) (hr : ∀ d ∈ es, Ris ltS d.l) (ht : HeapFrom ltS key 0 es.length es) : ∀ y, 0 < cnt (es.map Hd.l) y → ltS y (key (es.getD 0 default)) = false := by
  intro y hy
  obtain ⟨l, hl, hyl⟩ := (cnt_pos _ _).1 hy
  obtain ⟨d, hd, rfl⟩ := List.mem_map.1 hl
  obtain ⟨t, e⟩ := key_cons (hf d hd)
  have h1 : ltS y (key d) = false := by
    have := hr d hd
    rw [e] at this
    exact head_le totS this y (by rw [← e]; exact hyl)
  obtain ⟨i, hi, rfl⟩ := List.getElem_of_mem hd
  have h2 := heap_top totS key ht i hi
  unfold Le at h2
  rw [← getElem_getD es i hi] at h2
  exact totS.le_tr h2 h1
theorem top_lt {es : List Hd} {x : ByteArray} (hf : Full es) (hr : ∀ d ∈ es, Ris ltS d.l) (ht : HeapFrom ltS key 0 es.length es) (hx : es = [] ∨ ltS x (key (es.getD 0 default)) = true) : cnt (es.map Hd.l) x = 0 := by
  rcases Nat.eq_zero_or_pos (cnt (es.map Hd.l) x) with e | e
  · exact e
  · rcases hx with rfl | hx
    · rfl
    · have := top_le hf hr ht x e
      rw [hx] at this; cases this
end Go.Proofs.Ytnflokhffmfifaa.CountWT

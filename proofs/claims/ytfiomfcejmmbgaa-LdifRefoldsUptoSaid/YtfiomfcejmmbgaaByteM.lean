/- A row of bytes that the call owns and of which no cell is frozen, be its mark what it may (a conversion '[]byte(s)' marks its row behind the last cell): append of whatever source. Over any program. -/
import Derived.Deep.AppendSrc
import Derived.Lib.FrozenHead
import Derived.Lib.ConvBytes
import Derived.Lib.SlBytesRow
import Derived.Below
import Derived.OwnWalk
set_option linter.unusedVariables false
set_option linter.unusedSimpArgs false
namespace Go.Proofs.Ytfiomfcejmmbgaa.ByteM
open Go Go.RowKit
/-- The slice v of n one-cell elements owns the cells xs; none of its row's cells is frozen. -/
def OwnsM (w : World) (base : Nat) (e : TypeId) (v : Value) (n : Nat) (xs : List Value) : Prop :=
  xs.length = n ∧ ∃ g cap cur fz, v = .slice (some ⟨g, 0, none⟩) n cap ∧ base ≤ g ∧ w.heap[g]? = some (.cells cur e fz) ∧ (cur.size ≤ fz.1 ∨ fz.2 = 0) ∧ n ≤ cap ∧ cap ≤ maxLen ∧ cur.size = cap ∧ cur.toList.take n = xs
theorem OwnsM.lt {w : World} {base n : Nat} {e : TypeId} {v : Value} {xs : List Value} (h : OwnsM w base e v n xs) : ∀ k, v.ownBlock = some k → base ≤ k ∧ k < w.heap.size := by
  obtain ⟨_, g, cap, cur, fz, rfl, hb, hg, _⟩ := h
  intro k hk
  simp [Value.ownBlock] at hk
  subst hk
  exact ⟨hb, (Array.getElem?_eq_some_iff.1 hg).1⟩
theorem OwnsM.alloc {w : World} {base n : Nat} {e : TypeId} {v : Value} {xs : List Value} (h : OwnsM w base e v n xs) (o : Obj) : OwnsM (w.alloc o) base e v n xs := by
  obtain ⟨h1, g, cap, cur, fz, rfl, hb, hg, h⟩ := h
  exact ⟨h1, g, cap, cur, fz, rfl, hb, (Below.heap_alloc w o g (Array.getElem?_eq_some_iff.1 hg).1).trans hg, h⟩
theorem OwnsM.cells {w : World} {base n : Nat} {e : TypeId} {v : Value} {xs : List Value} (h : OwnsM w base e v n xs) : ∃ g cap, v = .slice (some ⟨g, 0, none⟩) n cap ∧ ∀ j u, xs[j]? = some u → w.cell? ⟨g, j, none⟩ = some u := by
  obtain ⟨h1, g, cap, cur, fz, rfl, hb, hg, _, _, _, _, ht⟩ := h
  refine ⟨g, cap, rfl, fun j u hu => ?_⟩
  rw [cell_of_row w g j cur e fz hg]
  rw [← ht, List.getElem?_take] at hu
  split at hu
  · simpa using hu
  · cases hu
theorem run_storeCells_atM (P : Program) (g o : Nat) (t : TypeId) (fz : Nat × Nat) : ∀ (vs : List Value) (i : Nat) (cur : Array Value) (w : World), w.heap[g]? = some (.cells cur t fz) → (cur.size ≤ fz.1 ∨ fz.2 = 0) → o + i + vs.length ≤ cur.size → (∀ v ∈ vs, v.oneCell' = true) →
    (storeCells ⟨g, o, none⟩ vs i).run P w = .ok () (w.setRow g (cur.toList.take (o + i) ++ vs ++ cur.toList.drop (o + i + vs.length)).toArray)
  | [], i, cur, w, hg, _, _, _ => by
    simp only [storeCells, List.append_nil, List.length_nil, Nat.add_zero, List.take_append_drop, Array.toArray_toList]
    rw [setRow_self w g cur t fz hg]
    rfl
  | v :: rest, i, cur, w, hg, hfz, hl, h1 => by
    have hi : o + i < cur.size := by simp at hl; omega
    have hadd : (⟨g, o, none⟩ : Addr).add i = ⟨g, o + i, none⟩ := by unfold Addr.add; split <;> simp_all
    have hcell : w.cell? ⟨g, o + i, none⟩ = some cur[o + i] := by simp [World.cell?, hg, hi]
    have hfro : w.frozen? ⟨g, o + i, none⟩ = false := by
      obtain ⟨lo, hi'⟩ := fz
      simp only [World.frozen?, hg, Bool.and_eq_false_iff, decide_eq_false_iff_not]
      simp only at hfz
      omega
    have hst : (store ((⟨g, o, none⟩ : Addr).add i) v).run P w = .ok () (w.setRow g (cur.setIfInBounds (o + i) v)) := by
      rw [hadd, run_store P w _ v _ (h1 v (by simp)), hcell]
      simp [hfro, setCell_eq_setRow w g (o + i) cur t fz v hg]
    have ih := run_storeCells_atM P g o t fz rest (i + 1) (cur.setIfInBounds (o + i) v) (w.setRow g (cur.setIfInBounds (o + i) v)) (setRow_heap w g cur _ t _ hg) (by simpa using hfz) (by simp at hl ⊢; omega) (fun x hx => h1 x (by simp [hx]))
    simp only [storeCells, Sem.run_bind, hst, Result.andThen_ok, ih, setRow_setRow]
    congr 3
    have e := list_seg_step cur.toList (o + i) v rest (by simp at hl ⊢; omega)
    simpa [Array.toList_setIfInBounds, Nat.add_assoc] using e
section
variable {P : Program} (w : World)
theorem run_append_M (base : Nat) (t tx ty e : TypeId) (i : TypeInfo) (ht : P.underlying t = some (.slice e)) (hi : P.info? e = some i) (hz : i.zero = some (.int .u8 0)) (hsize : i.size = 1) (hby : i.bytes = 1)
    (v : Value) (n : Nat) (xs : List Value) (hown : OwnsM w base e v n xs) (x : Value) (m : Nat) (news : List Value) (hs : Src P 1 tx x m news w) (hm : n + m ≤ 140737488355328) (hbase : base ≤ w.heap.size) :
    ∃ v' w', (Builtin.append_ #[t, tx] ty #[v, x]).run P w = .ok v' w' ∧ OwnsM w' base e v' (n + m) (xs ++ news) ∧ w.grownBy w' v.ownBlock := by
  obtain ⟨hxl, g, cap, cur, fz, rfl, hbg, hg, hfz, hnc, hcm, hcs, htake⟩ := hown
  have hnl : news.length = m := by simpa using hs.newsLen
  by_cases hroom : n + m ≤ cap
  · have hst := run_storeCells_atM P g n e fz news 0 cur w hg hfz (by omega) hs.one
    simp only [Nat.add_zero, hnl] at hst
    refine ⟨.slice (some ⟨g, 0, none⟩) (n + m) cap, w.setRow g (cur.toList.take n ++ news ++ cur.toList.drop (n + m)).toArray, ?_, ⟨by simp [hxl, hnl], g, cap, _, fz, rfl, hbg, setRow_heap w g cur _ e _ hg, ?_, hroom, hcm, ?_, ?_⟩, ⟨rfl, rfl, rfl, by simp, fun k _ hk => setRow_other w g k _ (fun e => hk (by simp [Value.ownBlock, e]))⟩⟩
    · rcases hs.kind with ⟨e', hk⟩ | hk <;> simp [Builtin.append_, run_underlying ht, run_underlying hk, sizeOf, typeInfo, hi, hsize, hs.len, hroom, hs.cells, Addr.add_lit, hst]
    · rcases hfz with h | h
      · left
        simp only [List.size_toArray, List.length_append, List.length_take, List.length_drop, Array.length_toList, hnl]
        omega
      · exact .inr h
    · simp only [List.size_toArray, List.length_append, List.length_take, List.length_drop, Array.length_toList, hnl]
      omega
    · simp only [htake]
      have : n + m = (xs ++ news).length := by simp [hxl, hnl]
      rw [this]
      exact List.take_left
  · have hge := grownCap_ge w (n + m) cap e
    have hcm2 : grownCap w (n + m) cap e ≤ maxLen := grownCap_le_maxLen w (n + m) cap e (by unfold maxLen; omega)
    refine ⟨.slice (some ⟨w.heap.size, 0, none⟩) (n + m) (grownCap w (n + m) cap e), w.drew.alloc (.cells (xs.toArray ++ news.toArray ++ Builtin.zeroCells (Value.int .u8 0).cells (grownCap w (n + m) cap e - (n + m))) e), ?_, ⟨by simp [hxl, hnl], w.heap.size, _, _, (0, 0), rfl, hbase, heap_alloc_new w.drew _, .inr rfl, hge, hcm2, ?_, ?_⟩, ⟨rfl, rfl, rfl, by simp, fun k hk _ => Lib.alloc_old w.drew _ k hk⟩⟩
    · have h63' : ¬ (9223372036854775807 < ((n : Int) + (m : Int))) := by omega
      have h48' : ¬ (281474976710656 < Builtin.nextslicecap (n + m) cap * i.bytes) := by
        have : Builtin.nextslicecap (n + m) cap * i.bytes ≤ 281474976710656 := by rw [hby]; exact growslice_fits (by omega) (by omega)
        omega
      have hfo := run_firstCells_some (P := P) w.drew 1 n ⟨g, 0, none⟩ n cap xs (by simpa using hxl) (fun j u hu => by
        obtain ⟨g', cap', e', hc⟩ := (show OwnsM w base e (.slice (some ⟨g, 0, none⟩) n cap) n xs from ⟨hxl, g, cap, cur, fz, rfl, hbg, hg, hfz, hnc, hcm, hcs, htake⟩).cells
        cases e'
        have := hc j u hu
        have hadd : (⟨g, 0, none⟩ : Addr).add j = ⟨g, j, none⟩ := by unfold Addr.add; split <;> simp_all
        rw [hadd]
        exact this)
      rcases hs.kind with ⟨e', hk⟩ | hk <;>
      · simp [Builtin.append_, run_underlying ht, run_underlying hk, sizeOf, typeInfo, zeroValue, hi, hz, hsize, hs.len, hroom, h63', h48', Question.forced, hs.cellsD, hfo, newRow, grownCap]
        congr 2
        apply Array.ext'
        simp [List.append_assoc]
    · have hz1 : (Value.int IntKind.u8 0).cells.size = 1 := rfl
      simp only [Array.size_append, List.size_toArray, size_zeroCells, hz1, hxl, hnl]
      omega
    · simp only [Array.toList_append, List.append_assoc]
      rw [← List.append_assoc]
      have : n + m = (xs ++ news).length := by simp [hxl, hnl]
      rw [this]
      exact List.take_left
theorem wpList_append_M {ops : Array Oper} {rest : List Oper} {o : Oper} {a : Act} {Q : Exit → Act → World → Prop} (hgd : o.guard = none) (s x : Operand) (t tx : TypeId)
    (ho : o.op = .call { callee := .builtin .append, args := #[s, x], argTypes := #[t, tx] })
    (base : Nat) (e : TypeId) (i : TypeInfo) (ht : P.underlying t = some (.slice e)) (hi : P.info? e = some i) (hz : i.zero = some (.int .u8 0)) (hsize : i.size = 1) (hby : i.bytes = 1)
    (v : Value) (n : Nat) (xs : List Value) (hv : a.eval s = v) (hown : OwnsM w base e v n xs) (xv : Value) (m : Nat) (news : List Value) (hx : a.eval x = xv) (hs : Src P 1 tx xv m news w) (hm : n + m ≤ 140737488355328) (hbase : base ≤ w.heap.size)
    (h : ∀ v' w', OwnsM w' base e v' (n + m) (xs ++ news) → w.grownBy w' v.ownBlock → wpList P ops Q rest (a.put o.dst v') w') : wpList P ops Q (o :: rest) a w := by
  refine wpList_plain hgd fun K hK => ?_
  obtain ⟨v', w', hr, h2, h3⟩ := run_append_M (P := P) w base t tx o.type e i ht hi hz hsize hby v n xs hown xv m news hs hm hbase
  unfold Oper.wp execOp
  simp only [ho, resolve, invoke, builtin, Sem.run_bind, Sem.run_pure, Result.andThen_ok, List.map_toArray, List.map_cons, List.map_nil, hv, hx, hr]
  exact hK _ _ (h v' w' h2 h3)
end
/-- What '[]byte(s)' lays. -/
theorem ownsM_conv (w : World) (e : TypeId) (s : ByteArray) (hs : s.size ≤ 140737488355328) (base : Nat) (hb : base ≤ w.heap.size) : OwnsM (Lib.bytesWorld w e s) base e (.slice (some ⟨w.heap.size, 0, none⟩) s.size (grownCap w s.size 0 e)) s.size (Lib.byteCells s.data.toList) := by
  have hge := grownCap_ge w s.size 0 e
  have hcm := grownCap_le_maxLen w s.size 0 e (by unfold maxLen; omega)
  have hsz : s.data.toList.length = s.size := Array.length_toList
  refine ⟨by rw [Lib.byteCells_length]; exact hsz, w.heap.size, _, _, _, rfl, hb, Lib.bytesWorld_at_new w e s, .inl (Nat.le_refl _), hge, hcm, ?_, ?_⟩
  · simp only [Lib.bytesCells, Array.size_append, Array.size_map, Array.size_replicate]
    have : s.data.size = s.size := rfl
    omega
  · simp only [Lib.bytesCells, Array.toList_append, Array.toList_map]
    have e1 : (List.map (fun b => Value.int .u8 b.toNat) s.data.toList).length = s.size := by rw [List.length_map]; exact hsz
    rw [← e1]
    exact List.take_left
theorem below_conv {B : Nat} (w : World) (e : TypeId) (s : ByteArray) (hB : B ≤ w.heap.size) : Below B w (Lib.bytesWorld w e s) :=
  ⟨rfl, rfl, rfl, by rw [Lib.bytesWorld_size]; omega, fun k hk => Lib.bytesWorld_at_old w e s k (by omega)⟩
/-- 'string(b)' of such a row. -/
theorem run_back_M {P : Program} (w : World) (src e dst : TypeId) (hs : P.underlying src = some (.slice e)) (he : P.underlying e = some (.int .u8)) (hd : P.underlying dst = some .string) (base n : Nat) (v : Value) (l : List UInt8) (hn : n = l.length) (h : OwnsM w base e v n (Lib.byteCells l)) :
    (convert src dst v).run P w = .ok (.string ⟨l.toArray⟩) w := by
  obtain ⟨g, cap, rfl, hc⟩ := h.cells
  have hsz : (⟨l.toArray⟩ : ByteArray).size = n := by rw [hn]; show l.toArray.size = _; simp
  have := Lib.run_convert_whole (P := P) w src e dst hs he hd g 0 ⟨l.toArray⟩ (fun i hi => by
    rw [Nat.zero_add]
    refine hc i _ ?_
    have hil : i < l.length := by rw [← hn, ← hsz]; exact hi
    rw [Lib.byteCells, List.getElem?_map, List.getElem?_eq_getElem hil]
    rfl) cap
  rw [hsz] at this
  exact this
end Go.Proofs.Ytfiomfcejmmbgaa.ByteM

/- A row of headers of rows of bytes: what stands there, what a step leaves of it. -/
import Derived.Test.YtfiomfcejmmbgaaLinesB
set_option linter.unusedVariables false
set_option linter.unusedSimpArgs false
namespace Go.Proofs.Ytfiomfcejmmbgaa.LinesW
open Go Go.RowKit Go.Proofs.Ytfiomfcejmmbgaa.Blk Go.Proofs.Ytfiomfcejmmbgaa.ByteM Go.Proofs.Ytfiomfcejmmbgaa.XL Go.Proofs.Ytfiomfcejmmbgaa.XV Go.Proofs.Ytfiomfcejmmbgaa.LinesP Go.Proofs.YtfiomfcejmmbgaaW.PrintWords Go.Proofs.YtfiomfcejmmbgaaW.PrintLast Go.Proofs.YtfiomfcejmmbgaaW.PrintMore
section
variable {P : Program}
theorem run_append_M_at (w : World) (base : Nat) (t tx ty e : TypeId) (i : TypeInfo) (ht : P.underlying t = some (.slice e)) (hi : P.info? e = some i) (hz : i.zero = some (.int .u8 0)) (hsize : i.size = 1) (hby : i.bytes = 1)
    (v : Value) (n : Nat) (xs : List Value) (hown : OwnsM w base e v n xs) (x : Value) (m : Nat) (news : List Value) (hs : Src P 1 tx x m news w) (hm : n + m ≤ 140737488355328) (hbase : base ≤ w.heap.size) :
    ∃ v' w', (Builtin.append_ #[t, tx] ty #[v, x]).run P w = .ok v' w' ∧ OwnsM w' base e v' (n + m) (xs ++ news) ∧ w.grownBy w' v.ownBlock ∧ (v'.ownBlock = v.ownBlock ∨ ∃ b, v'.ownBlock = some b ∧ w.heap.size ≤ b) := by
  obtain ⟨hxl, g, cap, cur, fz, rfl, hbg, hg, hfz, hnc, hcm, hcs, htake⟩ := hown
  have hnl : news.length = m := by simpa using hs.newsLen
  by_cases hroom : n + m ≤ cap
  · have hst := run_storeCells_atM P g n e fz news 0 cur w hg hfz (by omega) hs.one
    simp only [Nat.add_zero, hnl] at hst
    refine ⟨.slice (some ⟨g, 0, none⟩) (n + m) cap, w.setRow g (cur.toList.take n ++ news ++ cur.toList.drop (n + m)).toArray, ?_, ⟨by simp [hxl, hnl], g, cap, _, fz, rfl, hbg, setRow_heap w g cur _ e _ hg, ?_, hroom, hcm, ?_, ?_⟩, ⟨rfl, rfl, rfl, by simp, fun k _ hk => setRow_other w g k _ (fun e => hk (by simp [Value.ownBlock, e]))⟩, .inl rfl⟩
    · rcases hs.kind with ⟨e', hk⟩ | hk <;> simp [Builtin.append_, run_underlying ht, run_underlying hk, sizeOf, typeInfo, hi, hsize, hs.len, hroom, hs.cells, Addr.add_lit, hst]
    · rcases hfz with h | h
      · left
        simp only [List.size_toArray, List.length_append, List.length_take, List.length_drop, Array.length_toList, hnl]
        omega
      · exact .inr h
    · simp only [List.size_toArray, List.length_append, List.length_take, List.length_drop, Array.length_toList, hnl]
      omega
    · simp only [htake]
      have : n + m = (xs ++ news).length := by simp [hxl, hnl]
      rw [this]
      exact List.take_left
  · have hge := grownCap_ge w (n + m) cap e
    have hcm2 : grownCap w (n + m) cap e ≤ maxLen := grownCap_le_maxLen w (n + m) cap e (by unfold maxLen; omega)
    refine ⟨.slice (some ⟨w.heap.size, 0, none⟩) (n + m) (grownCap w (n + m) cap e), w.drew.alloc (.cells (xs.toArray ++ news.toArray ++ Builtin.zeroCells (Value.int .u8 0).cells (grownCap w (n + m) cap e - (n + m))) e), ?_, ⟨by simp [hxl, hnl], w.heap.size, _, _, (0, 0), rfl, hbase, heap_alloc_new w.drew _, .inr rfl, hge, hcm2, ?_, ?_⟩, ⟨rfl, rfl, rfl, by simp, fun k hk _ => Lib.alloc_old w.drew _ k hk⟩, .inr ⟨w.heap.size, rfl, Nat.le_refl _⟩⟩
    · have h63' : ¬ (9223372036854775807 < ((n : Int) + (m : Int))) := by omega
      have h48' : ¬ (281474976710656 < Builtin.nextslicecap (n + m) cap * i.bytes) := by
        have : Builtin.nextslicecap (n + m) cap * i.bytes ≤ 281474976710656 := by rw [hby]; exact growslice_fits (by omega) (by omega)
        omega
      have hfo := run_firstCells_some (P := P) w.drew 1 n ⟨g, 0, none⟩ n cap xs (by simpa using hxl) (fun j u hu => by
        obtain ⟨g', cap', e', hc⟩ := (show OwnsM w base e (.slice (some ⟨g, 0, none⟩) n cap) n xs from ⟨hxl, g, cap, cur, fz, rfl, hbg, hg, hfz, hnc, hcm, hcs, htake⟩).cells
        cases e'
        have := hc j u hu
        have hadd : (⟨g, 0, none⟩ : Addr).add j = ⟨g, j, none⟩ := by unfold Addr.add; split <;> simp_all
        rw [hadd]
        exact this)
      rcases hs.kind with ⟨e', hk⟩ | hk <;>
      · simp [Builtin.append_, run_underlying ht, run_underlying hk, sizeOf, typeInfo, zeroValue, hi, hz, hsize, hs.len, hroom, h63', h48', Question.forced, hs.cellsD, hfo, newRow, grownCap]
        congr 2
        apply Array.ext'
        simp [List.append_assoc]
    · have hz1 : (Value.int IntKind.u8 0).cells.size = 1 := rfl
      simp only [Array.size_append, List.size_toArray, size_zeroCells, hz1, hxl, hnl]
      omega
    · simp only [Array.toList_append, List.append_assoc]
      rw [← List.append_assoc]
      have : n + m = (xs ++ news).length := by simp [hxl, hnl]
      rw [this]
      exact List.take_left
variable {ops : Array Oper} {o : Oper} {a : Act} {Q : Exit → Act → World → Prop} {Kc : Act → World → Prop}
/-- In a region that draws its order. -/
theorem append_M_step (w : World) (hw : Region.wanted o (yielded ops a.tmps) = true) (s x : Operand) (t tx : TypeId)
    (ho : o.op = .call { callee := .builtin .append, args := #[s, x], argTypes := #[t, tx] })
    (base : Nat) (e : TypeId) (ht : P.underlying t = some (.slice e)) (hinfo : (P.info? e).map (fun i => (i.zero, i.size, i.bytes)) = some (some (.int .u8 0), 1, 1))
    (v : Value) (n : Nat) (xs : List Value) (hv : a.eval s = v) (hown : OwnsM w base e v n xs) (xv : Value) (m : Nat) (news : List Value) (hx : a.eval x = xv) (hs : Src P 1 tx xv m news w) (hm : n + m ≤ 140737488355328) (hbase : base ≤ w.heap.size)
    (h : ∀ v' w', OwnsM w' base e v' (n + m) (xs ++ news) → w.grownBy w' v.ownBlock → (v'.ownBlock = v.ownBlock ∨ ∃ b, v'.ownBlock = some b ∧ w.heap.size ≤ b) → Kc (a.put o.dst v') w') :
    if Region.wanted o (yielded ops a.tmps) = true then Oper.wp P o a w Kc Q else Kc (a.put o.dst undef) w := by
  obtain ⟨i, hi, hzz⟩ := Option.map_eq_some_iff.1 hinfo
  simp only [Prod.mk.injEq] at hzz
  obtain ⟨v', w', hr, h2, h3, h4⟩ := run_append_M_at (P := P) w base t tx o.type e i ht hi hzz.1 hzz.2.1 hzz.2.2 v n xs hown xv m news hs hm hbase
  rw [if_pos hw]
  unfold Oper.wp execOp
  simp only [ho, resolve, invoke, builtin, Sem.run_bind, Sem.run_pure, Result.andThen_ok, List.map_toArray, List.map_cons, List.map_nil, hv, hx, hr]
  exact h v' w' h2 h3 h4
theorem wpList_append_M_at {rest : List Oper} (w : World) (hgd : o.guard = none) (s x : Operand) (t tx : TypeId)
    (ho : o.op = .call { callee := .builtin .append, args := #[s, x], argTypes := #[t, tx] })
    (base : Nat) (e : TypeId) (ht : P.underlying t = some (.slice e)) (hinfo : (P.info? e).map (fun i => (i.zero, i.size, i.bytes)) = some (some (.int .u8 0), 1, 1))
    (v : Value) (n : Nat) (xs : List Value) (hv : a.eval s = v) (hown : OwnsM w base e v n xs) (xv : Value) (m : Nat) (news : List Value) (hx : a.eval x = xv) (hs : Src P 1 tx xv m news w) (hm : n + m ≤ 140737488355328) (hbase : base ≤ w.heap.size)
    (h : ∀ v' w', OwnsM w' base e v' (n + m) (xs ++ news) → w.grownBy w' v.ownBlock → (v'.ownBlock = v.ownBlock ∨ ∃ b, v'.ownBlock = some b ∧ w.heap.size ≤ b) → wpList P ops Q rest (a.put o.dst v') w') : wpList P ops Q (o :: rest) a w := by
  refine wpList_plain hgd fun K hK => ?_
  obtain ⟨i, hi, hzz⟩ := Option.map_eq_some_iff.1 hinfo
  simp only [Prod.mk.injEq] at hzz
  obtain ⟨v', w', hr, h2, h3, h4⟩ := run_append_M_at (P := P) w base t tx o.type e i ht hi hzz.1 hzz.2.1 hzz.2.2 v n xs hown xv m news hs hm hbase
  unfold Oper.wp execOp
  simp only [ho, resolve, invoke, builtin, Sem.run_bind, Sem.run_pure, Result.andThen_ok, List.map_toArray, List.map_cons, List.map_nil, hv, hx, hr]
  exact hK _ _ (h v' w' h2 h3 h4)
end
structure Hd where
  g : Nat
  n : Nat
  c : Nat
instance : Inhabited Hd := ⟨⟨0, 0, 0⟩⟩
def Hd.v (h : Hd) : Value := .slice (some ⟨h.g, 0, none⟩) h.n h.c
def kH : Kd Hd := Kd.scalar Hd.v (fun _ => rfl)
def kL : Kd (Int × ByteArray) := Kd.pair (Kd.int .i64) Kd.string
theorem info40 : (Try.prog.info? 40).map (fun i => (i.zero, i.size, i.bytes)) = some (some (.slice none 0 0), 1, 24) := by kernel_rfl
theorem info28 : (Try.prog.info? 28).map (fun i => (i.zero, i.size, i.bytes)) = some (some (.agg #[.int .i64 0, .string ⟨#[]⟩]), 2, 24) := by kernel_rfl
theorem info5 : (Try.prog.info? 5).map (fun i => (i.zero, i.size, i.bytes)) = some (some (.int .u8 0), 1, 1) := by kernel_rfl
theorem OwnsM_on {w w1 : World} {B n : Nat} {e : TypeId} {v : Value} {xs : List Value} (h : OwnsM w B e v n xs) (hk : ∀ k, v.ownBlock = some k → w1.heap[k]? = w.heap[k]?) : OwnsM w1 B e v n xs := by
  obtain ⟨h1, g, cap, cur, fz, rfl, hb, hg, h⟩ := h
  exact ⟨h1, g, cap, cur, fz, rfl, hb, (hk g (by simp [Value.ownBlock])).trans hg, h⟩
theorem OwnsM_typed {w : World} {B n : Nat} {e : TypeId} {v : Value} {xs : List Value} (h : OwnsM w B e v n xs) : ∀ k, v.ownBlock = some k → ∃ cells fz, w.heap[k]? = some (.cells cells e fz) := by
  obtain ⟨h1, g, cap, cur, fz, rfl, hb, hg, h⟩ := h
  intro k hk
  simp [Value.ownBlock] at hk
  subst hk
  exact ⟨_, _, hg⟩
/-- The rows behind the headers hs hold gs; no two of them are the same. -/
structure Inner (w : World) (B : Nat) (hs : List Hd) (gs : List (List UInt8)) : Prop where
  len : hs.length = gs.length
  row : ∀ (i : Nat) h g, hs[i]? = some h → gs[i]? = some g → OwnsM w B 5 h.v g.length (Lib.byteCells g)
  ne : ∀ (i j : Nat) h h', hs[i]? = some h → hs[j]? = some h' → i ≠ j → h.g ≠ h'.g
theorem Inner.nil (w : World) (B : Nat) : Inner w B [] [] := ⟨rfl, fun i h g e => by simp at e, fun i j h h' e => by simp at e⟩
theorem Inner.on {w w1 : World} {B : Nat} {hs : List Hd} {gs : List (List UInt8)} (h : Inner w B hs gs) (hk : ∀ (k : Nat) cells fz, w.heap[k]? = some (Obj.cells cells 5 fz) → w1.heap[k]? = w.heap[k]?) : Inner w1 B hs gs :=
  ⟨h.len, fun i x g hx hg => OwnsM_on (h.row i x g hx hg) (fun k hkk => by
    obtain ⟨cells, fz, hc⟩ := OwnsM_typed (h.row i x g hx hg) k hkk
    exact hk k cells fz hc), h.ne⟩
theorem Inner.below {w w1 : World} {B : Nat} {hs : List Hd} {gs : List (List UInt8)} (h : Inner w B hs gs) (hb : Below w.heap.size w w1) : Inner w1 B hs gs :=
  h.on (fun k cells fz hc => hb.block k (Array.getElem?_eq_some_iff.1 hc).1)
theorem Inner.over {w w1 : World} {B b n sz : Nat} {e : TypeId} {v : Value} {xs : List Value} {hs : List Hd} {gs : List (List UInt8)} (h : Inner w B hs gs) (ho : w.ownsRow b e sz v n xs) (he : e ≠ 5) (hg : w.grownBy w1 v.ownBlock) : Inner w1 B hs gs :=
  h.on (fun k cells fz hc => hg.block k (Array.getElem?_eq_some_iff.1 hc).1 (fun ek => by
    obtain ⟨c2, hc2⟩ := own_typed ho k ek.symm
    rw [hc] at hc2
    injection hc2 with hc2
    injection hc2 with _ hc2
    exact he hc2.symm))
theorem snoc_get {α : Type} (l : List α) (x : α) (i : Nat) (y : α) (h : (l ++ [x])[i]? = some y) : (i < l.length ∧ l[i]? = some y) ∨ (i = l.length ∧ y = x) := by
  rcases Nat.lt_trichotomy i l.length with h1 | h1 | h1
  · left; rw [List.getElem?_append_left h1] at h; exact ⟨h1, h⟩
  · right; subst h1; simp at h; exact ⟨rfl, h.symm⟩
  · rw [List.getElem?_append_right (by omega)] at h
    have : i - l.length ≠ 0 := by omega
    rw [List.getElem?_eq_none (by simp; omega)] at h
    cases h
theorem Inner.snoc {w : World} {B : Nat} {hs : List Hd} {gs : List (List UInt8)} {x : Hd} {g : List UInt8} (h : Inner w B hs gs) (hx : OwnsM w B 5 x.v g.length (Lib.byteCells g)) (hn : ∀ y ∈ hs, y.g ≠ x.g) : Inner w B (hs ++ [x]) (gs ++ [g]) := by
  have hl := h.len
  refine ⟨by simp [hl], fun i y z hy hz => ?_, fun i j y z hy hz hij => ?_⟩
  · rcases snoc_get _ _ _ _ hy with ⟨h1, h2⟩ | ⟨h1, rfl⟩ <;> rcases snoc_get _ _ _ _ hz with ⟨h3, h4⟩ | ⟨h3, rfl⟩
    · exact h.row i y z h2 h4
    · omega
    · omega
    · exact hx
  · rcases snoc_get _ _ _ _ hy with ⟨h1, h2⟩ | ⟨h1, rfl⟩ <;> rcases snoc_get _ _ _ _ hz with ⟨h3, h4⟩ | ⟨h3, rfl⟩
    · exact h.ne i j y z h2 h4 hij
    · exact hn y (List.mem_of_getElem? h2)
    · exact fun e => hn z (List.mem_of_getElem? h4) e.symm
    · omega
theorem Inner.front {w : World} {B : Nat} {hs : List Hd} {gs : List (List UInt8)} {x : Hd} {g : List UInt8} (h : Inner w B (hs ++ [x]) (gs ++ [g])) : Inner w B hs gs ∧ OwnsM w B 5 x.v g.length (Lib.byteCells g) ∧ ∀ y ∈ hs, y.g ≠ x.g := by
  have hl : hs.length = gs.length := by have := h.len; simpa using this
  refine ⟨⟨hl, fun i y z hy hz => ?_, fun i j y z hy hz hij => ?_⟩, h.row hs.length x g (by simp) (by simp [hl]), fun y hy => ?_⟩
  · have h1 := (List.getElem?_eq_some_iff.1 hy).1
    have h2 := (List.getElem?_eq_some_iff.1 hz).1
    exact h.row i y z (by rw [List.getElem?_append_left h1]; exact hy) (by rw [List.getElem?_append_left h2]; exact hz)
  · have h1 := (List.getElem?_eq_some_iff.1 hy).1
    have h2 := (List.getElem?_eq_some_iff.1 hz).1
    exact h.ne i j y z (by rw [List.getElem?_append_left h1]; exact hy) (by rw [List.getElem?_append_left h2]; exact hz) hij
  · obtain ⟨i, hi⟩ := List.mem_iff_getElem?.1 hy
    have h1 := (List.getElem?_eq_some_iff.1 hi).1
    exact h.ne i hs.length y x (by rw [List.getElem?_append_left h1]; exact hi) (by simp) (by omega)
/-- The last row has been written. -/
theorem Inner.last {w w1 : World} {B : Nat} {hs : List Hd} {gs : List (List UInt8)} {x x' : Hd} {g g' : List UInt8} (h : Inner w B (hs ++ [x]) (gs ++ [g])) (hg : w.grownBy w1 (some x.g)) (hx : OwnsM w1 B 5 x'.v g'.length (Lib.byteCells g')) (hat : x'.g = x.g ∨ w.heap.size ≤ x'.g) : Inner w1 B (hs ++ [x']) (gs ++ [g']) := by
  obtain ⟨h1, h2, h3⟩ := h.front
  refine Inner.snoc ⟨h1.len, fun i y z hy hz => OwnsM_on (h1.row i y z hy hz) (fun k hk => ?_), h1.ne⟩ hx (fun y hy => ?_)
  · have hkg : y.g = k := by simpa [Hd.v, Value.ownBlock] using hk
    subst hkg
    obtain ⟨cells, fz, hc⟩ := OwnsM_typed (h1.row i y z hy hz) y.g rfl
    exact hg.block _ (Array.getElem?_eq_some_iff.1 hc).1 (fun e => h3 y (List.mem_of_getElem? hy) (Option.some.inj e))
  · rcases hat with e | e
    · rw [e]; exact h3 y hy
    · obtain ⟨i, hi⟩ := List.mem_iff_getElem?.1 hy
      have hlt := (List.getElem?_eq_some_iff.1 hi).1
      obtain ⟨cells, fz, hc⟩ := OwnsM_typed (h1.row i y (gs[i]'(by have := h1.len; omega)) hi (List.getElem?_eq_getElem _)) y.g rfl
      have := (Array.getElem?_eq_some_iff.1 hc).1
      omega
end Go.Proofs.Ytfiomfcejmmbgaa.LinesW

/- A row of bytes, or none yet; appends of whatever; what else stands. -/
import Derived.Test.YtfiomfcejmmbgaaFoldP
import Derived.Deep.Upon
set_option linter.unusedVariables false
set_option linter.unusedSimpArgs false
namespace Go.Proofs.Ytfiomfcejmmbgaa.LinesW
open Go Go.RowKit Go.Proofs.Ytfiomfcejmmbgaa.Blk Go.Proofs.Ytfiomfcejmmbgaa.ByteM Go.Proofs.Ytfiomfcejmmbgaa.XL Go.Proofs.Ytfiomfcejmmbgaa.XV Go.Proofs.Ytfiomfcejmmbgaa.LinesP Go.Proofs.YtfiomfcejmmbgaaW.PrintWords Go.Proofs.YtfiomfcejmmbgaaW.PrintLast Go.Proofs.YtfiomfcejmmbgaaW.PrintMore
def OwnsN (w : World) (base : Nat) (e : TypeId) (v : Value) (n : Nat) (xs : List Value) : Prop := (v = .slice none 0 0 ∧ n = 0 ∧ xs = []) ∨ OwnsM w base e v n xs
theorem OwnsN.lt {w : World} {B n : Nat} {e : TypeId} {v : Value} {xs : List Value} (h : OwnsN w B e v n xs) : ∀ k, v.ownBlock = some k → B ≤ k ∧ k < w.heap.size := by
  rcases h with ⟨rfl, _⟩ | h
  · intro k hk; simp [Value.ownBlock] at hk
  · exact h.lt
theorem OwnsN.on {w w1 : World} {B n : Nat} {e : TypeId} {v : Value} {xs : List Value} (h : OwnsN w B e v n xs) (hk : ∀ k, v.ownBlock = some k → w1.heap[k]? = w.heap[k]?) : OwnsN w1 B e v n xs := by
  rcases h with h | h
  · exact .inl h
  · exact .inr (OwnsM_on h hk)
theorem OwnsN.typed {w : World} {B n : Nat} {e : TypeId} {v : Value} {xs : List Value} (h : OwnsN w B e v n xs) : ∀ k, v.ownBlock = some k → ∃ cells fz, w.heap[k]? = some (.cells cells e fz) := by
  rcases h with ⟨rfl, _⟩ | h
  · intro k hk; simp [Value.ownBlock] at hk
  · exact OwnsM_typed h
section
variable {P : Program}
theorem run_append_N (w : World) (base : Nat) (t tx ty e : TypeId) (i : TypeInfo) (ht : P.underlying t = some (.slice e)) (hi : P.info? e = some i) (hz : i.zero = some (.int .u8 0)) (hsize : i.size = 1) (hby : i.bytes = 1)
    (v : Value) (n : Nat) (xs : List Value) (hown : OwnsN w base e v n xs) (x : Value) (m : Nat) (news : List Value) (hs : Src P 1 tx x m news w) (hm : n + m ≤ 140737488355328) (hbase : base ≤ w.heap.size) :
    ∃ v' w', (Builtin.append_ #[t, tx] ty #[v, x]).run P w = .ok v' w' ∧ OwnsN w' base e v' (n + m) (xs ++ news) ∧ w.grownBy w' v.ownBlock ∧ (v'.ownBlock = v.ownBlock ∨ ∃ b, v'.ownBlock = some b ∧ w.heap.size ≤ b) := by
  rcases hown with ⟨rfl, rfl, rfl⟩ | hown
  · have hnl : news.length = m := by simpa using hs.newsLen
    rcases Nat.eq_zero_or_pos m with h0 | h0
    · subst h0
      obtain rfl := List.eq_nil_of_length_eq_zero hnl
      exact ⟨_, _, run_append_nothing w t tx ty e i ht hi none 0 0 (Nat.le_refl _) x (by rw [hsize]; exact hs), .inl ⟨rfl, rfl, rfl⟩, World.grownBy.refl w _, .inl rfl⟩
    · have hfit : Builtin.nextslicecap (0 + m) 0 * i.bytes ≤ 281474976710656 := by rw [hby]; exact growslice_fits (by omega) (by omega)
      have hge := grownCap_ge w (0 + m) 0 e
      have hcm2 : grownCap w (0 + m) 0 e ≤ maxLen := grownCap_le_maxLen w (0 + m) 0 e (by unfold maxLen; omega)
      have hold : (Builtin.firstCells i.size 0 (.slice none 0 0)).run P w.drew = .ok ([] : List Value).toArray w.drew := run_firstCells_none w.drew i.size 0 0 0
      refine ⟨_, _, run_append_grow_src w t tx ty e i _ ht hi hz none 0 0 [] hold x m news (by rw [hsize]; exact hs) (by omega) (by omega) hfit, .inr ⟨by simp [hnl], w.heap.size, _, _, (0, 0), rfl, hbase, heap_alloc_new w.drew _, .inr rfl, hge, hcm2, ?_, ?_⟩, ⟨rfl, rfl, rfl, by simp, fun k hk _ => Lib.alloc_old w.drew _ k hk⟩, .inr ⟨w.heap.size, rfl, Nat.le_refl _⟩⟩
      · have hz1 : (Value.int IntKind.u8 0).cells.size = 1 := rfl
        simp only [Array.size_append, List.size_toArray, size_zeroCells, hz1, List.nil_append, hnl]
        omega
      · simp only [Array.toList_append, List.nil_append]
        have : 0 + m = news.length := by omega
        rw [this]
        exact List.take_left
  · obtain ⟨v', w', h1, h2, h3, h4⟩ := run_append_M_at (P := P) w base t tx ty e i ht hi hz hsize hby v n xs hown x m news hs hm hbase
    exact ⟨v', w', h1, .inr h2, h3, h4⟩
/-- Every block that is no row of bytes stands as it stood. -/
def Kept5 (w w1 : World) : Prop := ∀ (k : Nat) cells q fz, w.heap[k]? = some (.cells cells q fz) → q ≠ 5 → w1.heap[k]? = w.heap[k]?
theorem Kept5.refl (w : World) : Kept5 w w := fun _ _ _ _ _ _ => rfl
theorem Kept5.trans {w w1 w2 : World} (h : Kept5 w w1) (h2 : Kept5 w1 w2) : Kept5 w w2 := fun k cells q fz hk hq => (h2 k cells q fz ((h k cells q fz hk hq).trans hk) hq).trans (h k cells q fz hk hq)
theorem Kept5.below {w w1 : World} (hb : Below w.heap.size w w1) : Kept5 w w1 := fun k cells q fz hk _ => hb.block k (Array.getElem?_eq_some_iff.1 hk).1
theorem Kept5.grown {w w1 : World} {B n : Nat} {v : Value} {xs : List Value} (h : OwnsN w B 5 v n xs) (hg : w.grownBy w1 v.ownBlock) : Kept5 w w1 := fun k cells q fz hk hq => hg.block k (Array.getElem?_eq_some_iff.1 hk).1 (fun e => by
  obtain ⟨c2, f2, h2⟩ := h.typed k e.symm
  rw [hk] at h2
  injection h2 with h2
  injection h2 with _ h2
  exact hq h2)
theorem R_kept5 {α : Type} {d : Kd α} {e : Nat} {w w1 : World} {B : Nat} {ok : Nat → Prop} {v : Value} {xs : List α} (h : d.R e w B ok v xs) (ht : ∀ q, q ∈ e :: d.E → q ≠ 5) (hk : Kept5 w w1) : d.R e w1 B ok v xs := by
  refine Kd.R_mono (Kd.R_move (Kd.R_bound h) (fun k hkk => ?_)) (fun _ hk => hk.1)
  obtain ⟨_, _, _, q, hq, cells, hc⟩ := hkk
  exact hk k cells q (0, 0) hc (ht q hq)
/-- A literal of one byte. -/
def LitAt (w : World) (g : Nat) (c : Int) : Prop := w.heap[g]? = some (.cells #[.int .u8 c] 5)
theorem LitAt.src {w : World} {g : Nat} {c : Int} (h : LitAt w g c) {tx e' : TypeId} (hk : P.underlying tx = some (.slice e')) : Src P 1 tx (.slice (some ⟨g, 0, none⟩) 1 1) 1 [.int .u8 c] w :=
  Src.ofSlice w hk ⟨g, 0, none⟩ 1 1 [.int .u8 c] rfl (fun j u hj => by
    have h' : w.heap[g]? = some (.cells #[.int .u8 c] 5 (0, 0)) := h
    have hj0 : j = 0 := by
      rcases j with _ | j
      · rfl
      · simp at hj
    subst hj0
    have ha : (⟨g, 0, none⟩ : Addr).add 0 = ⟨g, 0, none⟩ := by unfold Addr.add; simp
    rw [ha, cell_of_row w g 0 _ _ _ h']
    simpa using hj) (by simp [Value.oneCell'])
/-- The row v holds l; the literals ls stand apart from it. -/
structure ST (w0 : World) (B : Nat) (W : World) (v : Value) (l : List UInt8) (ls : List (Nat × Int)) : Prop where
  row : OwnsN W B 5 v l.length (Lib.byteCells l)
  base : B ≤ w0.heap.size
  below : Below B w0 W
  kept : Kept5 w0 W
  lits : ∀ x ∈ ls, LitAt W x.1 x.2 ∧ v.ownBlock ≠ some x.1
variable {w0 W : World} {B : Nat} {v : Value} {l : List UInt8} {ls : List (Nat × Int)}
theorem LitAt.lt {W : World} {g : Nat} {c : Int} (h : LitAt W g c) : g < W.heap.size := (Array.getElem?_eq_some_iff.1 h).1
theorem ST.more {W1 : World} (h : ST w0 B W v l ls) (hb : Below W.heap.size W W1) : ST w0 B W1 v l ls :=
  ⟨h.row.on (fun k hk => hb.block k (h.row.lt k hk).2), h.base, h.below.trans (hb.mono (Nat.le_trans h.base h.below.size)), h.kept.trans (Kept5.below hb), fun x hx => ⟨(hb.block x.1 (h.lits x hx).1.lt).trans (h.lits x hx).1, (h.lits x hx).2⟩⟩
theorem ST.drew (h : ST w0 B W v l ls) : ST w0 B W.drew v l ls := h.more (below_drew1 (Below.refl _ _))
theorem ST.lit (h : ST w0 B W v l ls) (c : Int) : ST w0 B (W.alloc (.cells #[.int .u8 c] 5)) v l ((W.heap.size, c) :: ls) := by
  have h2 := h.more (below_alloc (Below.refl W.heap.size W) (.cells #[.int .u8 c] 5))
  refine ⟨h2.row, h2.base, h2.below, h2.kept, fun x hx => ?_⟩
  rcases List.mem_cons.1 hx with rfl | hx
  · exact ⟨heap_alloc_new W _, fun e => by have := (h.row.lt _ e).2; exact Nat.lt_irrefl _ this⟩
  · exact h2.lits x hx
theorem ST.app {W1 : World} {v1 : Value} (h : ST w0 B W v l ls) (m : List UInt8) (n : Nat) (hn : n = (l ++ m).length) (h1 : OwnsN W1 B 5 v1 n (Lib.byteCells l ++ Lib.byteCells m)) (hg : W.grownBy W1 v.ownBlock) (hat : v1.ownBlock = v.ownBlock ∨ ∃ b, v1.ownBlock = some b ∧ W.heap.size ≤ b) : ST w0 B W1 v1 (l ++ m) ls := by
  refine ⟨by rw [Lib.byteCells_append, ← hn]; exact h1, h.base, h.below.grown hg (Nat.le_trans h.base h.below.size) (fun q hq => (h.row.lt q hq).1), h.kept.trans (Kept5.grown h.row hg), fun x hx => ?_⟩
  obtain ⟨a, b⟩ := h.lits x hx
  refine ⟨(hg.block x.1 a.lt (fun e => b e.symm)).trans a, fun e => ?_⟩
  rcases hat with e2 | ⟨b2, e2, e3⟩
  · exact b (e2.symm.trans e)
  · rw [e2] at e
    have := a.lt
    injection e with e
    omega
theorem one_bytes (c : UInt8) : Lib.byteCells [c] = [.int .u8 c.toNat] := rfl
variable {ops : Array Oper} {o : Oper} {a : Act} {Q : Exit → Act → World → Prop} {Kc : Act → World → Prop}
/-- In a region that draws its order: append of a literal (its place in ls told), or of a text. -/
theorem ST.step (h : ST w0 B W v l ls) (hw : Region.wanted o (yielded ops a.tmps) = true) (s x : Operand) (t tx : TypeId)
    (ho : o.op = .call { callee := .builtin .append, args := #[s, x], argTypes := #[t, tx] })
    (ht : P.underlying t = some (.slice 5)) (hinfo : (P.info? 5).map (fun i => (i.zero, i.size, i.bytes)) = some (some (.int .u8 0), 1, 1))
    (hv : a.eval s = v) (xv : Value) (m : List UInt8) (hx : a.eval x = xv) (hs : Src P 1 tx xv m.length (Lib.byteCells m) W) (hm : (l ++ m).length ≤ 140737488355328)
    (hk : ∀ v' w', ST w0 B w' v' (l ++ m) ls → Kc (a.put o.dst v') w') :
    if Region.wanted o (yielded ops a.tmps) = true then Oper.wp P o a W Kc Q else Kc (a.put o.dst undef) W := by
  obtain ⟨i, hi, hzz⟩ := Option.map_eq_some_iff.1 hinfo
  simp only [Prod.mk.injEq] at hzz
  obtain ⟨v', w', hr, h2, h3, h4⟩ := run_append_N (P := P) W B t tx o.type 5 i ht hi hzz.1 hzz.2.1 hzz.2.2 v l.length _ h.row xv m.length _ hs (by rwa [List.length_append] at hm) (Nat.le_trans h.base h.below.size)
  rw [if_pos hw]
  unfold Oper.wp execOp
  simp only [ho, resolve, invoke, builtin, Sem.run_bind, Sem.run_pure, Result.andThen_ok, List.map_toArray, List.map_cons, List.map_nil, hv, hx, hr]
  exact hk v' w' (h.app m _ (by rw [List.length_append]) h2 h3 h4)
theorem ST.wp {rest : List Oper} (h : ST w0 B W v l ls) (hgd : o.guard = none) (s x : Operand) (t tx : TypeId)
    (ho : o.op = .call { callee := .builtin .append, args := #[s, x], argTypes := #[t, tx] })
    (ht : P.underlying t = some (.slice 5)) (hinfo : (P.info? 5).map (fun i => (i.zero, i.size, i.bytes)) = some (some (.int .u8 0), 1, 1))
    (hv : a.eval s = v) (xv : Value) (m : List UInt8) (hx : a.eval x = xv) (hs : Src P 1 tx xv m.length (Lib.byteCells m) W) (hm : (l ++ m).length ≤ 140737488355328)
    (hk : ∀ v' w', ST w0 B w' v' (l ++ m) ls → wpList P ops Q rest (a.put o.dst v') w') : wpList P ops Q (o :: rest) a W := by
  refine wpList_plain hgd fun K hK => ?_
  obtain ⟨i, hi, hzz⟩ := Option.map_eq_some_iff.1 hinfo
  simp only [Prod.mk.injEq] at hzz
  obtain ⟨v', w', hr, h2, h3, h4⟩ := run_append_N (P := P) W B t tx o.type 5 i ht hi hzz.1 hzz.2.1 hzz.2.2 v l.length _ h.row xv m.length _ hs (by rwa [List.length_append] at hm) (Nat.le_trans h.base h.below.size)
  unfold Oper.wp execOp
  simp only [ho, resolve, invoke, builtin, Sem.run_bind, Sem.run_pure, Result.andThen_ok, List.map_toArray, List.map_cons, List.map_nil, hv, hx, hr]
  exact hK _ _ (hk v' w' (h.app m _ (by rw [List.length_append]) h2 h3 h4))
theorem Src.text (W : World) {tx : TypeId} (hk : P.underlying tx = some .string) (s : ByteArray) (m : List UInt8) (hm : s.data.toList = m) : Src P 1 tx (.string s) m.length (Lib.byteCells m) W := by
  subst hm
  have e : s.data.toList.length = s.size := Array.length_toList
  rw [e]
  exact Src.ofString W hk s
/-- 'string(b)'. -/
theorem ST.back (h : ST w0 B W v l ls) (src dst : TypeId) (hs : P.underlying src = some (.slice 5)) (he : P.underlying 5 = some (.int .u8)) (hd : P.underlying dst = some .string) : (convert src dst v).run P W = .ok (.string ⟨l.toArray⟩) W := by
  rcases h.row with ⟨rfl, hl, hx⟩ | hr
  · have : l = [] := List.eq_nil_of_length_eq_zero hl
    subst this
    exact run_convert_bytes_nil W src 5 hs he 0 0 dst hd
  · exact run_back_M W src 5 dst hs he hd B _ _ _ rfl hr
end
end Go.Proofs.Ytfiomfcejmmbgaa.LinesW

/- PostingKept: KeptA, KeptB, KeptC, RefB, KeptE, KeptD, KeptL joined. -/
import Derived.Test.YtnflokhffmfifaaSetOps
import Derived.Deep.Upon
import Derived.Lib.Builder
import Derived.Lib.ConvBytes
import Derived.Test.YtnflokhffmfifaaAlgA
import Derived.Test.YtnflokhffmfifaaXA2
import Derived.Test.YtnflokhffmfifaaXV
import Derived.Test.YtnflokhffmfifaaSkipsA
import Derived.Test.YtnflokhffmfifaaCountsW
import Derived.Test.YtnflokhffmfifaaSetsR
set_option linter.unusedVariables false
set_option linter.unusedSimpArgs false
set_option linter.unusedSectionVars false
namespace Go.Proofs.Ytnflokhffmfifaa.KeptW
open Go.RowKit Go.Proofs.Ytnflokhffmfifaa.Blk Go.Proofs.Ytnflokhffmfifaa.Ris Go.Proofs.Ytnflokhffmfifaa.Cur Go.Proofs.Ytnflokhffmfifaa.OfW Go.Proofs.YtnflokhffmfifaaW.PrintWords Go.Proofs.YtnflokhffmfifaaW.PrintLast Go.Proofs.YtnflokhffmfifaaW.PrintMore
/-- The first n of the row at A are m. -/
def AllM (W : World) (A : Option Addr) (n : Nat) (m : Int) : Prop := 0 < n → ∃ g cs, A = some ⟨g, 0, none⟩ ∧ At W g cs 2 ∧ ∀ j, j < n → cs[j]? = some (.int .i64 m)
theorem AllM.on {W W' : World} {A : Option Addr} {n : Nat} {m : Int} (h : AllM W A n m) (hk : ∀ (g : Nat), A = some ⟨g, 0, none⟩ → g < W.heap.size → W'.heap[g]? = W.heap[g]?) : AllM W' A n m := fun hp => by
  obtain ⟨g, cs, e, ha, hc⟩ := h hp
  exact ⟨g, cs, e, (hk g e ha.lt).trans ha, hc⟩
theorem AllM.below {W W' : World} {A : Option Addr} {n : Nat} {m : Int} (h : AllM W A n m) (hb : Below W.heap.size W W') : AllM W' A n m := h.on (fun g _ hg => hb.block g hg)
theorem AllM.read {W : World} {A : Option Addr} {n : Nat} {m : Int} (h : AllM W A n m) (hn : n ≤ 9223372036854775807) : Kd.C (Kd.int .i64) W A (List.replicate n m).length (List.replicate n m) := by
  rw [List.length_replicate]
  refine ⟨List.length_replicate, hn, fun hp => ?_⟩
  obtain ⟨g, cs, e, ha, hc⟩ := h hp
  refine ⟨_, e, fun j p hj => ⟨[.int .i64 p], rfl, rfl, fun i u hu => ?_⟩⟩
  have hjn : j < n := by have := (List.getElem?_eq_some_iff.1 hj).1; simpa using this
  have hp2 : p = m := by
    rw [List.getElem?_replicate, if_pos hjn] at hj
    exact (Option.some.inj hj).symm
  have hi : i = 0 := by
    have := (List.getElem?_eq_some_iff.1 hu).1
    simpa using this
  subst hi hp2
  rw [add_off]
  show W.cell? ⟨g, 0 + (j * 1 + 0), none⟩ = _
  rw [Nat.zero_add, Nat.mul_one, Nat.add_zero, ha.cell, hc j hjn]
  simpa using hu
theorem app_run (W : World) (A : Option Addr) (n c : Nat) (m : Int) (xb : Nat) (hn : n ≤ 16777216)
    (hA : (A = none ∧ n = 0 ∧ c = 0) ∨ ∃ g cs, A = some ⟨g, 0, none⟩ ∧ At W g cs 2 ∧ n ≤ c ∧ c ≤ cs.length ∧ xb ≠ g ∧ ∀ j, j < n → cs[j]? = some (.int .i64 m)) (hx : At W xb [.int .i64 m] 2) :
    ∃ A2 c2 W', (Builtin.append_ #[22, 22] 22 #[.slice A n c, .slice (some ⟨xb, 0, none⟩) 1 1]).run Try.prog W = .ok (.slice A2 (n + 1) c2) W' ∧ AllM W' A n m ∧ AllM W' A2 (n + 1) m ∧ n + 1 ≤ c2 ∧ W.grownBy W' (A.map (·.block)) ∧ ∀ g2, A2 = some ⟨g2, 0, none⟩ → A = some ⟨g2, 0, none⟩ ∨ W.heap.size ≤ g2 := by
  obtain ⟨i0, hi, hz0, hz1, hz2⟩ := info_parts info2
  have hsrc : Src Try.prog i0.size 22 (.slice (some ⟨xb, 0, none⟩) 1 1) 1 [.int .i64 m] W := by
    rw [hz1]
    refine Src.ofSlice W Try.underlying22 ⟨xb, 0, none⟩ 1 1 [.int .i64 m] rfl (fun j u hj => ?_) (by simp [Value.oneCell'])
    have hj0 : j = 0 := by have := (List.getElem?_eq_some_iff.1 hj).1; simpa using this
    subst hj0
    rw [add_off]
    exact hx.get 0 u hj
  have grow : ∀ (olds : List Value), (Builtin.firstCells i0.size n (.slice A n c)).run Try.prog W.drew = .ok olds.toArray W.drew → olds.length = n → (∀ j, j < n → olds[j]? = some (.int .i64 m)) → c < n + 1 → (∀ g, A = some ⟨g, 0, none⟩ → g < W.heap.size) → AllM W A n m →
      ∃ A2 c2 W', (Builtin.append_ #[22, 22] 22 #[.slice A n c, .slice (some ⟨xb, 0, none⟩) 1 1]).run Try.prog W = .ok (.slice A2 (n + 1) c2) W' ∧ AllM W' A n m ∧ AllM W' A2 (n + 1) m ∧ n + 1 ≤ c2 ∧ W.grownBy W' (A.map (·.block)) ∧ ∀ g2, A2 = some ⟨g2, 0, none⟩ → A = some ⟨g2, 0, none⟩ ∨ W.heap.size ≤ g2 := by
    intro olds hold hol hom hc hg hall
    have hfit : Builtin.nextslicecap (n + 1) c * i0.bytes ≤ 281474976710656 := by rw [hz2]; exact growslice_fits (by omega) (by omega)
    have hge := grownCap_ge W (n + 1) c 2
    refine ⟨_, _, _, run_append_grow_src W 22 22 22 2 i0 (.int .i64 0) Try.underlying22 hi hz0 A n c olds hold _ 1 [.int .i64 m] hsrc hc (by omega) hfit, hall.on (fun g _ h2 => Lib.alloc_old W.drew _ g h2), fun _ => ⟨W.heap.size, ((olds ++ [Value.int .i64 m]).toArray ++ Builtin.zeroCells (Value.int .i64 0).cells (grownCap W (n + 1) c 2 - (n + 1))).toList, rfl, ?_, fun j hj => ?_⟩, hge, ⟨rfl, rfl, rfl, by simp, fun k hk _ => Lib.alloc_old W.drew _ k hk⟩, fun g2 e => ?_⟩
    · unfold At
      rw [Array.toArray_toList]
      exact heap_alloc_new W.drew _
    · rw [Array.toList_append, List.getElem?_append_left (by simp [hol]; omega)]
      show (olds ++ [Value.int .i64 m])[j]? = _
      rcases Nat.lt_or_ge j n with h1 | h1
      · rw [List.getElem?_append_left (by omega)]
        exact hom j h1
      · rw [List.getElem?_append_right (by omega), hol, show j - n = 0 by omega]
        rfl
    · injection e with e
      injection e with e
      right; omega
  rcases hA with ⟨rfl, rfl, rfl⟩ | ⟨g, cs, rfl, ha, h1, h2, hne, hall⟩
  · exact grow [] (run_firstCells_none W.drew i0.size 0 0 0) rfl (fun j hj => absurd hj (Nat.not_lt_zero _)) (by omega) (fun g e => by cases e) (fun h => absurd h (Nat.lt_irrefl _))
  · by_cases hroom : n + 1 ≤ c
    · have hcell : W.cell? ⟨g, n, none⟩ = cs[n]? := ha.cell n
      have hr := run_append_room_src W 22 22 22 2 i0 Try.underlying22 hi g 0 n c (.slice (some ⟨xb, 0, none⟩) 1 1) 1 [.int .i64 m] hsrc hroom (fun j hj => by
        have hj0 : j = 0 := by simpa using hj
        subst hj0
        rw [hz1, Nat.zero_add, Nat.mul_one, Nat.add_zero, hcell, List.getElem?_eq_getElem (by omega)]
        rfl) (fun j hj => ha.free _)
      rw [hz1, Nat.zero_add, Nat.mul_one] at hr
      have ha2 : At (W.setCells g n [.int .i64 m]) g (cs.set n (.int .i64 m)) 2 := ha.set n _
      refine ⟨_, _, _, hr, fun _ => ⟨g, _, rfl, ha2, fun j hj => ?_⟩, fun _ => ⟨g, _, rfl, ha2, fun j hj => ?_⟩, hroom, grown_set (grown_refl W (some g)) n _, fun g2 e => .inl e⟩
      · rw [List.getElem?_set_ne (by omega)]; exact hall j hj
      · rcases Nat.lt_or_ge j n with h3 | h3
        · rw [List.getElem?_set_ne (by omega)]; exact hall j h3
        · rw [show j = n by omega, List.getElem?_set_self (by omega)]
    · refine grow (cs.take n) ?_ (by rw [List.length_take]; omega) (fun j hj => by rw [List.getElem?_take_of_lt hj]; exact hall j hj) (by omega) (fun g' e => by injection e with e; injection e with e; rw [← e]; exact ha.lt) (fun _ => ⟨g, cs, rfl, ha, hall⟩)
      refine run_firstCells_some W.drew i0.size n ⟨g, 0, none⟩ n c (cs.take n) (by rw [hz1, List.length_take]; omega) (fun j u hu => ?_)
      rw [add_off, Nat.zero_add]
      have hj : j < n := by have := (List.getElem?_eq_some_iff.1 hu).1; rw [List.length_take] at this; omega
      rw [List.getElem?_take_of_lt hj] at hu
      exact (ha.drew).get j u hu
section
variable {P : Program} {ops : Array Oper} {rest : List Oper} {o : Oper} {a : Act} {Q : Exit → Act → World → Prop}
theorem wp_app {W W' : World} (hgd : o.guard = none) (s x : Operand) (t tx : TypeId)
    (ho : o.op = .call { callee := .builtin .append, args := #[s, x], argTypes := #[t, tx] })
    (v xv v' : Value) (hv : a.eval s = v) (hx : a.eval x = xv) (hr : (Builtin.append_ #[t, tx] o.type #[v, xv]).run P W = .ok v' W') (hk : wpList P ops Q rest (a.put o.dst v') W') : wpList P ops Q (o :: rest) a W := by
  refine wpList_plain hgd fun K hK => ?_
  unfold Oper.wp execOp
  simp only [ho, resolve, invoke, builtin, Sem.run_bind, Sem.run_pure, Result.andThen_ok, List.map_toArray, List.map_cons, List.map_nil, hv, hx, hr]
  exact hK _ _ hk
end
section
variable {P : Program} {ops : Array Oper} {o : Oper} {a : Act} {Q : Exit → Act → World → Prop} {Kc : Act → World → Prop}
theorem step_app {W W' : World} (hw : Region.wanted o (yielded ops a.tmps) = true) (s x : Operand) (t tx : TypeId)
    (ho : o.op = .call { callee := .builtin .append, args := #[s, x], argTypes := #[t, tx] })
    (v xv v' : Value) (hv : a.eval s = v) (hx : a.eval x = xv) (hr : (Builtin.append_ #[t, tx] o.type #[v, xv]).run P W = .ok v' W') (hk : Kc (a.put o.dst v') W') :
    if Region.wanted o (yielded ops a.tmps) = true then Oper.wp P o a W Kc Q else Kc (a.put o.dst undef) W := by
  refine value_ (w1 := W') (v := v') hw rfl ?_ hk
  unfold execOp
  simp only [ho, resolve, invoke, builtin, Sem.run_bind, Sem.run_pure, Result.andThen_ok, List.map_toArray, List.map_cons, List.map_nil, hv, hx, hr]
end
end Go.Proofs.Ytnflokhffmfifaa.KeptW
namespace Go.Proofs.Ytnflokhffmfifaa.KeptW
open Go.RowKit Go.Proofs.Ytnflokhffmfifaa.Blk Go.Proofs.Ytnflokhffmfifaa.Ris Go.Proofs.Ytnflokhffmfifaa.Cur Go.Proofs.Ytnflokhffmfifaa.OfW Go.Proofs.YtnflokhffmfifaaW.PrintWords Go.Proofs.YtnflokhffmfifaaW.PrintLast Go.Proofs.YtnflokhffmfifaaW.PrintMore
/-- A list that was made, in a block of its own from b on. -/
structure Md where
  b : Nat
  g : Nat
  A : Option Addr
  c : Nat
  l : List Int
instance : Inhabited Md := ⟨⟨0, 0, none, 0, []⟩⟩
def Md.v (m : Md) : Value := .slice m.A m.l.length m.c
def Md.blk (m : Md) : Option Nat := m.A.map (·.block)
/-- A header that was booked. -/
structure Bk where
  A : Option Addr
  n : Nat
  c : Nat
def Bk.v (e : Bk) : Value := .slice e.A e.n e.c
def kB : Kd Bk := Kd.scalar Bk.v (fun _ => rfl)
def markOf (i : Nat) : Int := 1000000 + ((i / 2 : Nat) : Int)
theorem mine_blk {W : World} {b g c : Nat} {A : Option Addr} {l : List Int} (h : Mine W b g A c l) : ∀ q, A.map (·.block) = some q → b ≤ q ∧ q < W.heap.size ∧ A = some ⟨q, 0, none⟩ := by
  rcases h with ⟨rfl, _⟩ | ⟨rfl, h0, cs, h1, h2⟩
  · intro k e; cases e
  · intro k e
    have e : g = k := Option.some.inj e
    subst e
    exact ⟨h0, h1.lt, rfl⟩
theorem mine_below {W W' : World} {b g c : Nat} {A : Option Addr} {l : List Int} (h : Mine W b g A c l) (hb : Below W.heap.size W W') : Mine W' b g A c l := by
  rcases h with h | ⟨rfl, h0, cs, h1, h2⟩
  · exact .inl h
  · exact .inr ⟨rfl, h0, cs, (hb.block g h1.lt).trans h1, h2⟩
theorem mine_grown {W W' : World} {b g c : Nat} {A : Option Addr} {l : List Int} {row : Option Nat} (h : Mine W b g A c l) (hg : W.grownBy W' row) (hne : ∀ q, A.map (·.block) = some q → row ≠ some q) : Mine W' b g A c l := by
  rcases h with h | ⟨rfl, h0, cs, h1, h2⟩
  · exact .inl h
  · exact .inr ⟨rfl, h0, cs, h1.grown hg (fun e => hne g rfl e.symm), h2⟩
theorem AllM.grown {W W' : World} {A : Option Addr} {n : Nat} {m : Int} {row : Option Nat} (h : AllM W A n m) (hg : W.grownBy W' row) (hne : 0 < n → ∀ q, row = some q → A ≠ some ⟨q, 0, none⟩) : AllM W' A n m := fun hp => by
  obtain ⟨g, cs, e, ha, hc⟩ := h hp
  exact ⟨g, cs, e, ha.grown hg (fun e2 => hne hp g e2.symm e), hc⟩
/-- From list k on the made ones are as they were made; the book tells the others. -/
structure IR (W2 W : World) (mb : Nat) (ms : List Md) (k : Nat) (v : Value) (bk : List Bk) : Prop where
  low : W2.heap.size ≤ mb
  below : Below W2.heap.size W2 W
  arr : At W mb (ms.map Md.v) 69
  base : ∀ i, i < ms.length → W2.heap.size ≤ (ms.getD i default).b
  mine : ∀ i, k ≤ i → i < ms.length → Mine W (ms.getD i default).b (ms.getD i default).g (ms.getD i default).A (ms.getD i default).c (ms.getD i default).l
  apart : ∀ i j, i < ms.length → j < ms.length → i ≠ j → ∀ q, (ms.getD i default).blk = some q → (ms.getD j default).blk ≠ some q
  row : kB.R 22 W W2.heap.size (fun _ => True) v bk
  all : ∀ (i : Nat) e, bk[i]? = some e → AllM W e.A e.n (markOf i) ∧ e.n ≤ 16777217
  far : ∀ e ∈ bk, 0 < e.n → ∀ i, k ≤ i → i < ms.length → ∀ q, (ms.getD i default).blk = some q → e.A ≠ some ⟨q, 0, none⟩
theorem IR.on {W2 W W' : World} {mb k : Nat} {ms : List Md} {v : Value} {bk : List Bk} (h : IR W2 W mb ms k v bk) (hb : Below W.heap.size W W') : IR W2 W' mb ms k v bk :=
  ⟨h.low, h.below.trans (hb.mono h.below.size), (hb.block mb h.arr.lt).trans h.arr, h.base, fun i h1 h2 => mine_below (h.mine i h1 h2) hb, h.apart, Kd.R_below h.row hb, fun i e he => ⟨(h.all i e he).1.below hb, (h.all i e he).2⟩, h.far⟩
/-- List k is being written over: the first j are the mark. -/
structure JR (W2 W : World) (mb : Nat) (ms : List Md) (k : Nat) (v : Value) (bk : List Bk) (x : Md) (mk : Int) (j : Nat) : Prop where
  low : W2.heap.size ≤ mb
  below : Below W2.heap.size W2 W
  arr : At W mb (ms.map Md.v) 69
  base : ∀ i, i < ms.length → W2.heap.size ≤ (ms.getD i default).b
  mine : ∀ i, k + 1 ≤ i → i < ms.length → Mine W (ms.getD i default).b (ms.getD i default).g (ms.getD i default).A (ms.getD i default).c (ms.getD i default).l
  apart : ∀ i j, i < ms.length → j < ms.length → i ≠ j → ∀ q, (ms.getD i default).blk = some q → (ms.getD j default).blk ≠ some q
  row : kB.R 22 W W2.heap.size (fun _ => True) v bk
  all : ∀ (i : Nat) e, bk[i]? = some e → AllM W e.A e.n (markOf i) ∧ e.n ≤ 16777217
  far : ∀ e ∈ bk, 0 < e.n → ∀ i, k ≤ i → i < ms.length → ∀ q, (ms.getD i default).blk = some q → e.A ≠ some ⟨q, 0, none⟩
  lt : k < ms.length
  is : ms.getD k default = x
  now : (x.A = none ∧ x.l.length = 0 ∧ x.c = 0) ∨ ∃ g cs, x.A = some ⟨g, 0, none⟩ ∧ W2.heap.size ≤ g ∧ At W g cs 2 ∧ x.l.length ≤ x.c ∧ x.c ≤ cs.length ∧ ∀ i, i < j → cs[i]? = some (.int .i64 mk)
theorem IR.start {W2 W : World} {mb k : Nat} {ms : List Md} {v : Value} {bk : List Bk} (h : IR W2 W mb ms k v bk) (hk : k < ms.length) (mk : Int) : JR W2 W mb ms k v bk (ms.getD k default) mk 0 := by
  refine ⟨h.low, h.below, h.arr, h.base, fun i h1 h2 => h.mine i (by omega) h2, h.apart, h.row, h.all, h.far, hk, rfl, ?_⟩
  have hb := h.base k hk
  rcases h.mine k (Nat.le_refl _) hk with ⟨h1, h2, h3⟩ | ⟨h1, h0, cs, h2, h3, h4, h5⟩
  · exact .inl ⟨h1, by rw [h3]; rfl, h2⟩
  · exact .inr ⟨_, cs, h1, Nat.le_trans hb h0, h2, h4, h3, fun i hi => absurd hi (Nat.not_lt_zero _)⟩
theorem JR.on {W2 W W' : World} {mb k j : Nat} {ms : List Md} {v : Value} {bk : List Bk} {x : Md} {mk : Int} (h : JR W2 W mb ms k v bk x mk j) (hb : Below W.heap.size W W') : JR W2 W' mb ms k v bk x mk j := by
  refine ⟨h.low, h.below.trans (hb.mono h.below.size), (hb.block mb h.arr.lt).trans h.arr, h.base, fun i h1 h2 => mine_below (h.mine i h1 h2) hb, h.apart, Kd.R_below h.row hb, fun i e he => ⟨(h.all i e he).1.below hb, (h.all i e he).2⟩, h.far, h.lt, h.is, ?_⟩
  rcases h.now with h1 | ⟨g, cs, h1, h2, h3, h4⟩
  · exact .inl h1
  · exact .inr ⟨g, cs, h1, h2, (hb.block g h3.lt).trans h3, h4⟩
/-- What a write into list k's block leaves. -/
theorem JR.wrote {W2 W W' : World} {mb k j : Nat} {ms : List Md} {v : Value} {bk : List Bk} {x : Md} {mk : Int} (h : JR W2 W mb ms k v bk x mk j) (hg : W.grownBy W' x.blk) :
    Below W2.heap.size W2 W' ∧ At W' mb (ms.map Md.v) 69 ∧ (∀ i, k + 1 ≤ i → i < ms.length → Mine W' (ms.getD i default).b (ms.getD i default).g (ms.getD i default).A (ms.getD i default).c (ms.getD i default).l) ∧ kB.R 22 W' W2.heap.size (fun _ => True) v bk ∧ (∀ (i : Nat) e, bk[i]? = some e → AllM W' e.A e.n (markOf i) ∧ e.n ≤ 16777217) := by
  have hty : ∀ q, x.blk = some q → W2.heap.size ≤ q ∧ ∃ cs, At W q cs 2 := by
    intro q hq
    unfold Md.blk at hq
    rcases h.now with ⟨h1, _⟩ | ⟨g, cs, h1, h2, h3, _⟩
    · rw [h1] at hq; cases hq
    · rw [h1] at hq
      have hq : g = q := Option.some.inj hq
      subst hq
      exact ⟨h2, cs, h3⟩
  refine ⟨h.below.grown hg h.below.size (fun q hq => (hty q hq).1), h.arr.grown hg (fun e => ?_), fun i h1 h2 => mine_grown (h.mine i h1 h2) hg (fun q hq => ?_), ?_, fun i e he => ⟨(h.all i e he).1.grown hg (fun hp q hq => ?_), (h.all i e he).2⟩⟩
  · obtain ⟨_, cs, h1⟩ := hty mb e.symm
    have h2 := h.arr
    unfold At at h1 h2
    rw [h1] at h2
    injection h2 with h2
    injection h2 with _ h2
    cases h2
  · intro e
    exact h.apart k i h.lt h2 (by omega) q (by rw [h.is]; exact e) hq
  · refine Kd.R_mono (Kd.R_move (Kd.R_bound h.row) (fun q hq => hg.block q hq.2.2.1 (fun e => ?_))) (fun _ hq => hq.1)
    obtain ⟨_, _, _, t, ht, cells, hc⟩ := hq
    obtain ⟨_, cs, h1⟩ := hty q e.symm
    unfold At at h1
    rw [h1] at hc
    injection hc with hc
    injection hc with _ hc
    have : t = 22 := by simpa [kB, Kd.scalar] using ht
    rw [this] at hc
    cases hc
  · exact h.far e (List.mem_of_getElem? he) hp k (Nat.le_refl _) h.lt q (by rw [h.is]; exact hq)
theorem JR.store {W2 W : World} {mb k j : Nat} {ms : List Md} {v : Value} {bk : List Bk} {x : Md} {mk : Int} (h : JR W2 W mb ms k v bk x mk j) (hj : j < x.l.length) :
    ∃ g old, x.A = some ⟨g, 0, none⟩ ∧ W.cell? ⟨g, j, none⟩ = some old ∧ W.frozen? ⟨g, j, none⟩ = false ∧ JR W2 (W.setCell ⟨g, j, none⟩ (.int .i64 mk)) mb ms k v bk x mk (j + 1) := by
  rcases h.now with ⟨_, h0, _⟩ | ⟨g, cs, h1, h2, h3, h4, h5, h6⟩
  · omega
  · have hg : W.grownBy (W.setCell ⟨g, j, none⟩ (.int .i64 mk)) x.blk := by
      unfold Md.blk
      rw [h1]
      exact grown_set (grown_refl W (some g)) j _
    obtain ⟨a1, a2, a3, a4, a5⟩ := h.wrote hg
    refine ⟨g, _, h1, h3.get j _ (List.getElem?_eq_getElem (by omega)), h3.free j, ⟨h.low, a1, a2, h.base, a3, h.apart, a4, a5, h.far, h.lt, h.is, .inr ⟨g, cs.set j (.int .i64 mk), h1, h2, h3.set j _, h4, by simpa using h5, fun i hi => ?_⟩⟩⟩
    rcases Nat.lt_or_ge i j with h7 | h7
    · rw [List.getElem?_set_ne (by omega)]; exact h6 i h7
    · rw [show i = j by omega, List.getElem?_set_self (by omega)]
/-- One more behind it: list k is done. -/
theorem JR.done {W2 W W' : World} {mb k : Nat} {ms : List Md} {v : Value} {bk : List Bk} {x : Md} {mk : Int} {A2 : Option Addr} (h : JR W2 W mb ms k v bk x mk x.l.length) (hg : W.grownBy W' x.blk) (hat : ∀ g2, A2 = some ⟨g2, 0, none⟩ → x.A = some ⟨g2, 0, none⟩ ∨ W.heap.size ≤ g2) :
    IR W2 W' mb ms (k + 1) v bk ∧ (∀ i, k + 1 ≤ i → i < ms.length → ∀ q, (ms.getD i default).blk = some q → x.A ≠ some ⟨q, 0, none⟩ ∧ A2 ≠ some ⟨q, 0, none⟩) := by
  obtain ⟨a1, a2, a3, a4, a5⟩ := h.wrote hg
  have hx : ∀ i, k + 1 ≤ i → i < ms.length → ∀ q, (ms.getD i default).blk = some q → x.A ≠ some ⟨q, 0, none⟩ := fun i h1 h2 q hq e =>
    h.apart k i h.lt h2 (by omega) q (by rw [h.is]; unfold Md.blk; rw [e]; rfl) hq
  refine ⟨⟨h.low, a1, a2, h.base, a3, h.apart, a4, a5, fun e he hp i h1 h2 => h.far e he hp i (by omega) h2⟩, fun i h1 h2 q hq => ⟨hx i h1 h2 q hq, fun e => ?_⟩⟩
  rcases hat q e with e2 | e2
  · exact hx i h1 h2 q hq e2
  · have := (mine_blk (h.mine i h1 h2) q hq).2.1
    omega
theorem IR.more {W2 W w1 : World} {mb k : Nat} {ms : List Md} {v v1 : Value} {bk : List Bk} (h : IR W2 W mb ms k v bk) (e1 e2 : Bk) (h1 : AllM W e1.A e1.n (markOf bk.length)) (h2 : AllM W e2.A e2.n (markOf (bk.length + 1))) (c1 : e1.n ≤ 16777217) (c2 : e2.n ≤ 16777217)
    (f : ∀ i, k ≤ i → i < ms.length → ∀ q, (ms.getD i default).blk = some q → e1.A ≠ some ⟨q, 0, none⟩ ∧ e2.A ≠ some ⟨q, 0, none⟩)
    (hr : kB.R 22 w1 W2.heap.size (fun _ => True) v1 (bk ++ [e1, e2])) (hb : Below W2.heap.size W2 w1) (hg : W.grownBy w1 v.ownBlock) : IR W2 w1 mb ms k v1 (bk ++ [e1, e2]) := by
  have hty : ∀ (q : Nat) cs t, At W q cs t → t ≠ 22 → some q ≠ v.ownBlock := fun q cs t ha ht e => by
    obtain ⟨cells, h3⟩ := Kd.R_typed h.row q e.symm
    unfold At at ha
    rw [ha] at h3
    injection h3 with h3
    injection h3 with _ h3
    exact ht h3
  have hall : ∀ {A : Option Addr} {n : Nat} {m : Int}, AllM W A n m → AllM w1 A n m := fun ha hp => by
    obtain ⟨g, cs, e, h3, h4⟩ := ha hp
    exact ⟨g, cs, e, h3.grown hg (hty g cs 2 h3 (by decide)), h4⟩
  refine ⟨h.low, hb, h.arr.grown hg (hty mb _ 69 h.arr (by decide)), h.base, fun i i1 i2 => ?_, h.apart, hr, fun i e he => ?_, fun e he hp i i1 i2 q hq => ?_⟩
  · rcases h.mine i i1 i2 with h3 | ⟨e0, h0, cs, h3, h4⟩
    · exact .inl h3
    · exact .inr ⟨e0, h0, cs, h3.grown hg (hty _ cs 2 h3 (by decide)), h4⟩
  · rcases Nat.lt_or_ge i bk.length with hi | hi
    · rw [List.getElem?_append_left hi] at he
      exact ⟨hall (h.all i e he).1, (h.all i e he).2⟩
    · rw [List.getElem?_append_right hi] at he
      have hl := (List.getElem?_eq_some_iff.1 he).1
      simp only [List.length_cons, List.length_nil] at hl
      rcases (show i = bk.length ∨ i = bk.length + 1 by omega) with e0 | e0
      · rw [e0, Nat.sub_self] at he
        obtain rfl : e1 = e := by simpa using he
        rw [e0]; exact ⟨hall h1, c1⟩
      · rw [e0, show bk.length + 1 - bk.length = 1 by omega] at he
        obtain rfl : e2 = e := by simpa using he
        rw [e0]; exact ⟨hall h2, c2⟩
  · rcases List.mem_append.1 he with he | he
    · exact h.far e he hp i i1 i2 q hq
    · have he2 : e = e1 ∨ e = e2 := by simpa using he
      rcases he2 with rfl | rfl
      · exact (f i i1 i2 q hq).1
      · exact (f i i1 i2 q hq).2
/-- A new round: ten lists that have been made behind it all. -/
theorem IR.fresh {W2 W W' : World} {mb mb' k : Nat} {ms ms' : List Md} {v : Value} {bk : List Bk} (h : IR W2 W mb ms k v bk) (hb : Below W.heap.size W W') (hm : W.heap.size ≤ mb') (harr : At W' mb' (ms'.map Md.v) 69)
    (hbase : ∀ i, i < ms'.length → W.heap.size ≤ (ms'.getD i default).b) (hmine : ∀ i, i < ms'.length → Mine W' (ms'.getD i default).b (ms'.getD i default).g (ms'.getD i default).A (ms'.getD i default).c (ms'.getD i default).l)
    (hap : ∀ i j, i < ms'.length → j < ms'.length → i ≠ j → ∀ q, (ms'.getD i default).blk = some q → (ms'.getD j default).blk ≠ some q) : IR W2 W' mb' ms' 0 v bk := by
  refine ⟨Nat.le_trans h.below.size hm, h.below.trans (hb.mono h.below.size), harr, fun i hi => Nat.le_trans h.below.size (hbase i hi), fun i _ hi => hmine i hi, hap, Kd.R_below h.row hb, fun i e he => ⟨(h.all i e he).1.below hb, (h.all i e he).2⟩, fun e he hp i _ hi q hq e2 => ?_⟩
  obtain ⟨i', he'⟩ := List.mem_iff_getElem?.1 he
  obtain ⟨g, cs, e3, ha, _⟩ := (h.all i' e he').1 hp
  have h1 := (mine_blk (hmine i hi) q hq).1
  have h2 := hbase i hi
  rw [e3] at e2
  injection e2 with e2
  injection e2 with e2
  have := ha.lt
  omega
end Go.Proofs.Ytnflokhffmfifaa.KeptW
namespace Go.Proofs.Ytnflokhffmfifaa.KeptW
open Go.RowKit Go.Proofs.Ytnflokhffmfifaa.Blk Go.Proofs.Ytnflokhffmfifaa.Ris Go.Proofs.Ytnflokhffmfifaa.Cur Go.Proofs.Ytnflokhffmfifaa.OfW Go.Proofs.Ytnflokhffmfifaa.HeapPure Go.Proofs.Ytnflokhffmfifaa.HeapW Go.Proofs.Ytnflokhffmfifaa.CountW Go.Proofs.Ytnflokhffmfifaa.PostAlg Go.Proofs.YtnflokhffmfifaaW.PrintWords Go.Proofs.YtnflokhffmfifaaW.PrintLast Go.Proofs.YtnflokhffmfifaaW.PrintMore
theorem six_union (l : List Int) : union ltI [l] = setL ltI l := setL_eq totI (ris_union totI _) (fun x => by rw [mem_union totI]; simp)
theorem six_union2 (l : List Int) : union ltI [l, l] = setL ltI l := setL_eq totI (ris_union totI _) (fun x => by rw [mem_union totI]; simp)
theorem six_meet (l : List Int) : meet ltI [l] = setL ltI l := setL_eq totI (ris_meet totI _) (fun x => by rw [mem_meet totI]; simp)
theorem six_minus (l : List Int) : minus ltI l [] = setL ltI l := setL_eq totI (ris_minus totI _ _) (fun x => by rw [mem_minus totI]; simp)
theorem six_atLeast (l : List Int) : atLeast ltI 1 [l] = setL ltI l := six_union l
/-- Lists made one behind the other, behind W0. -/
structure MkS (W0 W : World) (ms : List Md) : Prop where
  low : ∀ i, i < ms.length → W0.heap.size ≤ (ms.getD i default).b
  mine : ∀ i, i < ms.length → Mine W (ms.getD i default).b (ms.getD i default).g (ms.getD i default).A (ms.getD i default).c (ms.getD i default).l
  lt : ∀ i j, i < j → j < ms.length → ∀ q, (ms.getD i default).blk = some q → q < (ms.getD j default).b
  below : Below W0.heap.size W0 W
theorem MkS.nil (W0 : World) : MkS W0 W0 [] := ⟨fun i h => by simp at h, fun i h => by simp at h, fun i j _ h => by simp at h, Below.refl _ _⟩
theorem MkS.on {W0 W W' : World} {ms : List Md} (h : MkS W0 W ms) (hb : Below W.heap.size W W') : MkS W0 W' ms := ⟨h.low, fun i hi => mine_below (h.mine i hi) hb, h.lt, h.below.trans (hb.mono h.below.size)⟩
theorem MkS.add {W0 W W' : World} {ms : List Md} (h : MkS W0 W ms) (hb : Below W.heap.size W W') (m : Md) (hm : Mine W' m.b m.g m.A m.c m.l) (hl : W.heap.size ≤ m.b) : MkS W0 W' (ms ++ [m]) := by
  have h2 := h.on hb
  have hg : ∀ i, i < ms.length → (ms ++ [m]).getD i default = ms.getD i default := fun i hi => by
    simp only [List.getD_eq_getElem?_getD]; rw [List.getElem?_append_left hi]
  have hn : (ms ++ [m]).getD ms.length default = m := by simp [List.getD_eq_getElem?_getD]
  have hs := h.below.size
  refine ⟨fun i hi => ?_, fun i hi => ?_, fun i j hij hj q hq => ?_, h2.below⟩
  · rw [List.length_append, List.length_singleton] at hi
    rcases Nat.lt_or_ge i ms.length with h3 | h3
    · rw [hg i h3]; exact h.low i h3
    · rw [show i = ms.length by omega, hn]; omega
  · rw [List.length_append, List.length_singleton] at hi
    rcases Nat.lt_or_ge i ms.length with h3 | h3
    · rw [hg i h3]; exact h2.mine i h3
    · rw [show i = ms.length by omega, hn]; exact hm
  · rw [List.length_append, List.length_singleton] at hj
    have hi3 : i < ms.length := by omega
    rw [hg i hi3] at hq
    rcases Nat.lt_or_ge j ms.length with h3 | h3
    · rw [hg j h3]; exact h.lt i j hij h3 q hq
    · rw [show j = ms.length by omega, hn]
      have := (mine_blk (h.mine i hi3) q hq).2.1
      omega
theorem MkS.apart {W0 W : World} {ms : List Md} (h : MkS W0 W ms) : ∀ i j, i < ms.length → j < ms.length → i ≠ j → ∀ q, (ms.getD i default).blk = some q → (ms.getD j default).blk ≠ some q := by
  intro i j hi hj hne q hq e
  rcases Nat.lt_or_ge i j with h1 | h1
  · have := h.lt i j h1 hj q hq
    have := (mine_blk (h.mine j hj) q e).1
    omega
  · have := h.lt j i (by omega) hi q e
    have := (mine_blk (h.mine i hi) q hq).1
    omega
/-! the calls on a literal of headers: what is handed back lies in a block of its own -/
section
variable (W : World) (b : Nat) (hb : b = W.heap.size) (ds : List Hd) (vs : List Value) (n : Nat) (hn : n = ds.length) (hv : ds.map Hd.v = vs) (hr : ∀ d ∈ ds, Row W d.g d.A d.c d.l) (hl : ∀ d ∈ ds, d.l.length ≤ 1048576) (h3 : ds.length ≤ 3)
include hb hn hv hr hl h3
theorem lit_bulk : bulk ds ≤ 16777216 := by
  match ds, h3, hl with
  | [], _, _ => exact Nat.zero_le _
  | [d], _, hl => have := hl d (by simp); simp [bulk]; omega
  | [d, e], _, hl => have h1 := hl d (by simp); have h2 := hl e (by simp); simp [bulk]; omega
  | [d, e, f], _, hl => have h1 := hl d (by simp); have h2 := hl e (by simp); have h4 := hl f (by simp); simp [bulk]; omega
  | _ :: _ :: _ :: _ :: _, h3, _ => simp at h3
theorem union_lit : Calls Try.prog 30 #[.slice (some ⟨b, 0, none⟩) n n] (W.alloc (.cells vs.toArray 22)) (GotM (W.alloc (.cells vs.toArray 22)) (union ltI (ds.map Hd.l))) := by
  have hk := lit_bulk W b hb ds vs n hn hv hr hl h3
  subst hb hn
  exact union_m _ _ _ ds (heads_of vs ds hv hr) hk hl (by omega)
theorem meet_lit : Calls Try.prog 31 #[.slice (some ⟨b, 0, none⟩) n n] (W.alloc (.cells vs.toArray 22)) (GotM (W.alloc (.cells vs.toArray 22)) (meet ltI (ds.map Hd.l))) := by
  have hk := lit_bulk W b hb ds vs n hn hv hr hl h3
  subst hb hn
  exact meet_m _ _ _ ds (heads_of vs ds hv hr) hk hl (by omega)
theorem atleast_lit (k : Int) : Calls Try.prog 28 #[.int .i64 k, .slice (some ⟨b, 0, none⟩) n n] (W.alloc (.cells vs.toArray 22)) (GotM (W.alloc (.cells vs.toArray 22)) (atLeast ltI k (ds.map Hd.l))) := by
  have hk := lit_bulk W b hb ds vs n hn hv hr hl h3
  subst hb hn
  exact atleast_m _ k _ _ ds (heads_of vs ds hv hr) hk hl (by omega)
end
/-! the six ways -/
section
variable (W : World) (b : Nat) (hb : b = W.heap.size) (g c : Nat) (A : Option Addr) (l : List Int) (hr : Row W g A c l) (hl : l.length ≤ 1048576)
include hr hl
theorem six_of : Calls Try.prog 22 #[.slice A l.length c] W (GotM W (setL ltI l)) := of_m A c l W (Row.nums hr hl) hl
theorem six_min : Calls Try.prog 37 #[.slice A l.length c, .slice none 0 0] W (GotM W (setL ltI l)) := by
  have h0 : Row W 0 none 0 ([] : List Int) := ⟨Nat.le_refl _, fun hp => absurd hp (by simp)⟩
  have := minus_m W g 0 c 0 A none l [] hr h0 hl (by simp)
  rw [six_minus] at this
  exact this
include hb
theorem six_un : Calls Try.prog 30 #[.slice (some ⟨b, 0, none⟩) 1 1] (W.alloc (.cells #[.slice A l.length c] 22)) (GotM (W.alloc (.cells #[.slice A l.length c] 22)) (setL ltI l)) := by
  have := union_lit W b hb [⟨A, c, g, l⟩] [.slice A l.length c] 1 rfl rfl (fun d hd => by rw [List.mem_singleton.1 hd]; exact hr) (fun d hd => by rw [List.mem_singleton.1 hd]; exact hl) (by simp)
  rw [show ([⟨A, c, g, l⟩] : List Hd).map Hd.l = [l] from rfl, six_union] at this
  exact this
theorem six_me : Calls Try.prog 31 #[.slice (some ⟨b, 0, none⟩) 1 1] (W.alloc (.cells #[.slice A l.length c] 22)) (GotM (W.alloc (.cells #[.slice A l.length c] 22)) (setL ltI l)) := by
  have := meet_lit W b hb [⟨A, c, g, l⟩] [.slice A l.length c] 1 rfl rfl (fun d hd => by rw [List.mem_singleton.1 hd]; exact hr) (fun d hd => by rw [List.mem_singleton.1 hd]; exact hl) (by simp)
  rw [show ([⟨A, c, g, l⟩] : List Hd).map Hd.l = [l] from rfl, six_meet] at this
  exact this
theorem six_at : Calls Try.prog 28 #[.int .i64 1, .slice (some ⟨b, 0, none⟩) 1 1] (W.alloc (.cells #[.slice A l.length c] 22)) (GotM (W.alloc (.cells #[.slice A l.length c] 22)) (setL ltI l)) := by
  have := atleast_lit W b hb [⟨A, c, g, l⟩] [.slice A l.length c] 1 rfl rfl (fun d hd => by rw [List.mem_singleton.1 hd]; exact hr) (fun d hd => by rw [List.mem_singleton.1 hd]; exact hl) (by simp) 1
  rw [show ([⟨A, c, g, l⟩] : List Hd).map Hd.l = [l] from rfl, six_atLeast] at this
  exact this
theorem six_un2 : Calls Try.prog 30 #[.slice (some ⟨b, 0, none⟩) 2 2] (W.alloc (.cells #[.slice A l.length c, .slice A l.length c] 22)) (GotM (W.alloc (.cells #[.slice A l.length c, .slice A l.length c] 22)) (setL ltI l)) := by
  have := union_lit W b hb [⟨A, c, g, l⟩, ⟨A, c, g, l⟩] [.slice A l.length c, .slice A l.length c] 2 rfl rfl (fun d hd => by rw [show d = ⟨A, c, g, l⟩ by simpa using hd]; exact hr) (fun d hd => by rw [show d = ⟨A, c, g, l⟩ by simpa using hd]; exact hl) (by simp)
  rw [show ([⟨A, c, g, l⟩, ⟨A, c, g, l⟩] : List Hd).map Hd.l = [l, l] from rfl, six_union2] at this
  exact this
end
end Go.Proofs.Ytnflokhffmfifaa.KeptW
namespace Go.Proofs.Ytnflokhffmfifaa.SortEvB
open Go.RowKit Go.Proofs.Ytnflokhffmfifaa.XA Go.Proofs.Ytnflokhffmfifaa.XV Go.Proofs.Ytnflokhffmfifaa.Ris Go.Proofs.Ytnflokhffmfifaa.Cur Go.Proofs.Ytnflokhffmfifaa.OfW Go.Proofs.YtnflokhffmfifaaW.PrintWords Go.Proofs.YtnflokhffmfifaaW.PrintLast Go.Proofs.YtnflokhffmfifaaW.PrintMore
/-- Two rising lists as one. -/
def mg : List Int → List Int → List Int
  | [], b => b
  | x :: a, [] => x :: a
  | x :: a, y :: b => if x < y then x :: mg a (y :: b) else if y < x then y :: mg (x :: a) b else mg a (y :: b)
termination_by a b => a.length + b.length
theorem mg_mem (a b : List Int) (z : Int) : z ∈ mg a b ↔ z ∈ a ∨ z ∈ b := by
  fun_induction mg a b with
  | case1 b => simp
  | case2 x a => simp
  | case3 x a y b h ih => rw [List.mem_cons, ih, List.mem_cons, List.mem_cons]; simp [or_assoc]
  | case4 x a y b h h2 ih => rw [List.mem_cons, ih, List.mem_cons, List.mem_cons]; constructor <;> (intro q; rcases q with q | q | q <;> simp_all)
  | case5 x a y b h h2 ih =>
    have e : x = y := by omega
    rw [ih, List.mem_cons, List.mem_cons, e]
    constructor
    · rintro (q | q | q) <;> simp [q]
    · rintro ((q | q) | q | q) <;> simp [q]
theorem mg_ris (a b : List Int) (ha : Ris ltI a) (hb : Ris ltI b) : Ris ltI (mg a b) := by
  fun_induction mg a b with
  | case1 b => exact hb
  | case2 x a => exact ha
  | case3 x a y b h ih =>
    obtain ⟨a1, a2⟩ := ris_cons.1 ha
    obtain ⟨b1, b2⟩ := ris_cons.1 hb
    refine ris_cons.2 ⟨fun z hz => ?_, ih a2 hb⟩
    rcases (mg_mem _ _ z).1 hz with q | q
    · exact a1 z q
    · rcases List.mem_cons.1 q with q | q
      · subst q; simpa [ltI] using h
      · have := b1 z q; simp [ltI] at this ⊢; omega
  | case4 x a y b h h2 ih =>
    obtain ⟨a1, a2⟩ := ris_cons.1 ha
    obtain ⟨b1, b2⟩ := ris_cons.1 hb
    refine ris_cons.2 ⟨fun z hz => ?_, ih ha b2⟩
    rcases (mg_mem _ _ z).1 hz with q | q
    · rcases List.mem_cons.1 q with q | q
      · subst q; simpa [ltI] using h2
      · have := a1 z q; simp [ltI] at this ⊢; omega
    · exact b1 z q
  | case5 x a y b h h2 ih => exact ih (ris_cons.1 ha).2 hb
theorem drop_at (l : List Int) (i : Nat) (h : i < l.length) : l.drop i = rd l (i : Int) :: l.drop (i + 1) := by
  rw [List.drop_eq_getElem_cons h]
  congr 1
  simp [rd, List.getD_eq_getElem?_getD, List.getElem?_eq_getElem h]
theorem wrp1 (i : Nat) (h : i ≤ 4611686018427387904) : wrap64 ((i : Int) + 1) = ((i + 1 : Nat) : Int) := by rw [wrp_id _ (by omega) (by omega)]; rfl
theorem merge_ev (a b : List Int) (ha : a.length ≤ 4194304) (hb : b.length ≤ 4194304) (d : Nat) : ∀ (i j : Nat) (out : List Int), i ≤ a.length → j ≤ b.length → (a.length - i) + (b.length - j) = d → out.length + d ≤ 16777216 →
    Ev (fun k => rosterref10_Sorted.l0 k a b out (i : Int) (j : Int)) (out ++ mg (a.drop i) (b.drop j)) := by
  induction d with
  | zero =>
    intro i j out hi hj hd ho
    refine ev_round ?_
    simp only [rosterref10_Sorted.l0]
    refine ev_neg (by omega) (ev_round ?_)
    simp only [rosterref10_Sorted.j1]
    refine ev_neg (by simp; omega) (ev_eq ?_)
    rw [List.drop_of_length_le (by omega), List.drop_of_length_le (by omega)]
    simp [mg]
  | succ d ih =>
    intro i j out hi hj hd ho
    have L : Ev (fun k => rosterref10_Sorted.j1 k a b out (i : Int) (j : Int) true) (out ++ mg (a.drop i) (b.drop j)) := by
      refine ev_round ?_
      simp only [rosterref10_Sorted.j1]
      refine ev_pos (by first | rfl | trivial) ?_
      by_cases hjb : j = b.length
      · refine ev_pos (by omega) (ev_round ?_)
        simp only [rosterref10_Sorted.j2]
        refine ev_pos (by first | rfl | trivial) (ev_pos (by omega) (ev_pos (by omega) (ev_pos (by omega) ?_)))
        rw [wrp1 i (by omega)]
        have := ih (i + 1) j (out ++ [rd a (i : Int)]) (by omega) hj (by omega) (by simp; omega)
        rw [List.append_assoc] at this
        rw [List.drop_of_length_le (by omega : b.length ≤ j)] at this ⊢
        rw [drop_at a i (by omega)]
        have e : ∀ t : List Int, mg t [] = t := fun t => by cases t <;> simp [mg]
        rw [e] at this ⊢
        exact this
      · refine ev_neg (by omega) ?_
        by_cases hia : i < a.length
        · refine ev_pos (by omega) (ev_pos (by omega) (ev_pos (by omega) (ev_pos (by omega) ?_)))
          by_cases hlt : rd a (i : Int) < rd b (j : Int)
          · rw [decide_eq_true hlt]
            refine ev_round ?_
            simp only [rosterref10_Sorted.j2]
            refine ev_pos (by first | rfl | trivial) (ev_pos (by omega) (ev_pos (by omega) (ev_pos (by omega) ?_)))
            rw [wrp1 i (by omega)]
            have := ih (i + 1) j (out ++ [rd a (i : Int)]) (by omega) hj (by omega) (by simp; omega)
            rw [List.append_assoc] at this
            rw [drop_at a i hia, drop_at b j (by omega), mg, if_pos hlt, ← drop_at b j (by omega)]
            exact this
          · rw [decide_eq_false hlt]
            refine ev_round ?_
            simp only [rosterref10_Sorted.j2]
            refine ev_neg (by decide) (ev_neg (by omega) (ev_pos (by omega) (ev_pos (by omega) (ev_pos (by omega) (ev_pos (by omega) ?_)))))
            by_cases hgt : rd b (j : Int) < rd a (i : Int)
            · refine ev_pos hgt (ev_pos (by omega) ?_)
              rw [wrp1 j (by omega)]
              have := ih i (j + 1) (out ++ [rd b (j : Int)]) hi (by omega) (by omega) (by simp; omega)
              rw [List.append_assoc] at this
              rw [drop_at a i hia, drop_at b j (by omega), mg, if_neg hlt, if_pos hgt, ← drop_at a i hia]
              exact this
            · refine ev_neg hgt ?_
              rw [wrp1 i (by omega)]
              have := ih (i + 1) j out (by omega) hj (by omega) (by omega)
              rw [drop_at a i hia, drop_at b j (by omega), mg, if_neg hlt, if_neg hgt, ← drop_at b j (by omega)]
              exact this
        · refine ev_neg (by omega) (ev_round ?_)
          simp only [rosterref10_Sorted.j2]
          refine ev_neg (by decide) (ev_pos (by omega) (ev_pos (by omega) (ev_pos (by omega) (ev_pos (by omega) ?_))))
          rw [wrp1 j (by omega)]
          have := ih i (j + 1) (out ++ [rd b (j : Int)]) hi (by omega) (by omega) (by simp; omega)
          rw [List.append_assoc] at this
          rw [List.drop_of_length_le (by omega : a.length ≤ i)] at this ⊢
          rw [drop_at b j (by omega)]
          simp only [mg] at this ⊢
          exact this
    refine ev_round ?_
    simp only [rosterref10_Sorted.l0]
    by_cases hia : (i : Int) < (a.length : Int)
    · exact ev_pos hia L
    · refine ev_neg hia ?_
      rw [decide_eq_true (show (j : Int) < (b.length : Int) by omega)]
      exact L
theorem sorted_ev (n : Nat) : ∀ l : List Int, l.length ≤ n → l.length ≤ 4194304 → Ev (fun k => rosterref10_Sorted.f k l) (setL ltI l) := by
  induction n with
  | zero =>
    intro l h _
    have e : l = [] := List.length_eq_zero_iff.1 (by omega)
    subst e
    refine ev_round ?_
    simp only [rosterref10_Sorted.f]
    refine ev_pos (by simp) ?_
    simp only [Option.bind_some]
    exact ev_pos (by simp) (ev_eq (by simp [setL]))
  | succ n ih =>
    intro l h hl
    refine ev_round ?_
    simp only [rosterref10_Sorted.f]
    by_cases h2 : (l.length : Int) < 2
    · refine ev_pos h2 ?_
      simp only [Option.bind_some]
      refine ev_pos (by simp; omega) (ev_eq ?_)
      rw [List.nil_append]
      exact (setL_of_ris totI (by match l, h2 with | [], _ => exact ris_nil | [a], _ => simp [Ris] | a :: b :: l, h => simp at h; omega)).symm
    · refine ev_neg h2 ?_
      have e : wrap64 ((l.length : Int) / 2) = ((l.length / 2 : Nat) : Int) := by rw [wrp_id _ (by omega) (by omega)]; rfl
      rw [e]
      refine ev_pos (by omega) (ev_pos (by omega) ?_)
      rw [Int.toNat_natCast]
      have l1 : (l.take (l.length / 2)).length = l.length / 2 := by rw [List.length_take]; omega
      have l2 : (l.drop (l.length / 2)).length = l.length - l.length / 2 := List.length_drop
      have s1 := setL_len totI (l.take (l.length / 2))
      have s2 := setL_len totI (l.drop (l.length / 2))
      refine Ev.bind (ih _ (by omega) (by omega)) (Ev.bind (ih _ (by omega) (by omega)) ?_)
      have := merge_ev (setL ltI (l.take (l.length / 2))) (setL ltI (l.drop (l.length / 2))) (by omega) (by omega) _ 0 0 [] (by omega) (by omega) rfl (by simp; omega)
      rw [List.nil_append, List.drop_zero, List.drop_zero] at this
      have e2 : mg (setL ltI (l.take (l.length / 2))) (setL ltI (l.drop (l.length / 2))) = setL ltI l := setL_eq totI (mg_ris _ _ (ris_setL totI _) (ris_setL totI _)) (fun z => by
        rw [mg_mem, mem_setL totI, mem_setL totI, ← List.mem_append, List.take_append_drop])
      rw [e2] at this
      exact this
end Go.Proofs.Ytnflokhffmfifaa.SortEvB
namespace Go.Proofs.Ytnflokhffmfifaa.InEw
open Go.RowKit Go.Proofs.Ytnflokhffmfifaa.XA Go.Proofs.Ytnflokhffmfifaa.XV Go.Proofs.Ytnflokhffmfifaa.Ris Go.Proofs.Ytnflokhffmfifaa.Cur Go.Proofs.Ytnflokhffmfifaa.OfW Go.Proofs.Ytnflokhffmfifaa.HeapPure Go.Proofs.Ytnflokhffmfifaa.PostAlg Go.Proofs.Ytnflokhffmfifaa.SortEvB Go.Proofs.Ytnflokhffmfifaa.CountW Go.Proofs.YtnflokhffmfifaaW.PrintWords Go.Proofs.YtnflokhffmfifaaW.PrintLast Go.Proofs.YtnflokhffmfifaaW.PrintMore
theorem wr1 (n : Nat) (h : n < 9223372036854775000) : wrap64 ((n : Int) + 1) = ((n + 1 : Nat) : Int) := by unfold wrap64; omega
theorem gI (l : List Int) (j : Nat) (h : j < l.length) : l[j] = l.getD j 0 := by simp [List.getD_eq_getElem?_getD, List.getElem?_eq_getElem h]
theorem rdn (l : List Int) (i : Nat) : rd l (i : Int) = l.getD i 0 := by simp [rd]
theorem place_as (l : List Int) (x : Int) (hr : Ris ltI l) (hn : l.length ≤ 4194304) : Ev (fun k => rosterref10_Place.f k l x) (place l x : Int) := by
  have H : ∀ d lo hi : Nat, hi - lo = d → lo ≤ hi → hi ≤ l.length → (∀ j, j < lo → l.getD j 0 < x) → (∀ j, hi ≤ j → j < l.length → ¬ l.getD j 0 < x) → Ev (fun k => rosterref10_Place.l0 k l x (lo : Int) (hi : Int)) (place l x : Int) := by
    intro d
    induction d using Nat.strongRecOn with
    | ind d ih =>
      intro lo hi hd h1 h2 h3 h4
      refine ev_round ?_
      simp only [rosterref10_Place.l0]
      by_cases hlt : lo < hi
      · obtain ⟨m, hm⟩ : ∃ m : Nat, m = (lo + hi) / 2 := ⟨_, rfl⟩
        have e : wrap64 (Int.tdiv (wrap64 ((lo : Int) + (hi : Int))) 2) = (m : Int) := by
          rw [Go.Proofs.Ytnflokhffmfifaa.XV.wrp_id ((lo : Int) + (hi : Int)) (by omega) (by omega), Int.tdiv_eq_ediv_of_nonneg (by omega), Go.Proofs.Ytnflokhffmfifaa.XV.wrp_id _ (by omega) (by omega)]
          omega
        have e' : rd l (m : Int) = l.getD m 0 := by simp [rd]
        refine ev_pos (by omega) ?_
        simp only [e, e']
        refine ev_pos (by omega) (ev_pos (by omega) ?_)
        by_cases hx : l.getD m 0 < x
        · refine ev_pos hx ?_
          rw [wrp1 m (by omega)]
          exact ih (hi - (m + 1)) (by omega) (m + 1) hi rfl (by omega) h2 (fun j hj => ris_below hr (by omega) hx j (by omega)) h4
        · refine ev_neg hx ?_
          exact ih (m - lo) (by omega) lo m rfl (by omega) (by omega) h3 (fun j hj hl => ris_above hr hx j hj hl)
      · refine ev_neg (by omega) (ev_eq ?_)
        obtain rfl : lo = hi := by omega
        rw [place_eq lo h2 h3 (fun hl => h4 lo (Nat.le_refl _) hl)]
  exact H _ 0 l.length rfl (by omega) (Nat.le_refl _) (fun j hj => by omega) (fun j h1 h2 => by omega)
theorem place_tells {l : List Int} (hr : Ris ltI l) (x : Int) : x ∈ l ↔ place l x < l.length ∧ l.getD (place l x) 0 = x := by
  constructor
  · intro h
    have h1 := (mem_drop_place hr x x).2 ⟨h, by omega⟩
    have hlt : place l x < l.length := by
      have := List.length_pos_of_mem h1
      rw [List.length_drop] at this
      omega
    refine ⟨hlt, ?_⟩
    have h2 := place_end l x hlt
    obtain ⟨j, hj, e⟩ := List.getElem_of_mem h
    have hge : place l x ≤ j := by
      rcases Nat.lt_or_ge j (place l x) with h3 | h3
      · have := place_lt l x j h3
        rw [← gI _ _ hj, e] at this
        exact absurd this (by omega)
      · exact h3
    rcases Nat.lt_or_ge (place l x) j with h3 | h3
    · have := ris_at hr h3 hj
      rw [← gI _ _ hj, e] at this
      exact absurd this h2
    · obtain rfl : j = place l x := by omega
      rw [← gI _ _ hj, e]
  · rintro ⟨h1, h2⟩
    rw [← h2, ← gI _ _ h1]
    exact List.getElem_mem h1
theorem in_ev (l : List Int) (x : Int) (hr : Ris ltI l) (hn : l.length ≤ 4194304) : Ev (fun k => rosterref10_In.f k l x) (decide (x ∈ l)) := by
  unfold rosterref10_In.f
  refine Ev.bind (place_as l x hr hn) ?_
  have ht := place_tells hr x
  by_cases h : place l x < l.length
  · refine ev_pos (by omega) (ev_pos (by omega) (ev_eq ?_))
    rw [rdn]
    by_cases h2 : l.getD (place l x) 0 = x
    · rw [h2, decide_eq_true (ht.2 ⟨h, h2⟩)]; simp
    · rw [decide_eq_false (fun h3 => h2 (ht.1 h3).2)]; simpa using h2
  · refine ev_neg (by omega) (ev_eq ?_)
    rw [decide_eq_false (fun h3 => h (ht.1 h3).1)]
theorem numsB {w : World} {g : Nat} {A : Option Addr} {c : Nat} {l : List Int} (h : Row w g A c l) (hn : l.length ≤ 4194304) : Kd.C (Kd.int .i64) w A l.length l := by
  refine Kd.C_of_reads (enc := Value.int .i64) (d := 0) (h1 := fun _ => rfl) ⟨rfl, by omega, fun hp => ?_⟩
  obtain ⟨o, rfl, hc⟩ := h.at_ hp
  exact ⟨_, rfl, fun i hi => by rw [add_off]; exact hc i hi⟩
/-- The reference's In, at a rising row. -/
theorem rin_as (W : World) (g : Nat) (A : Option Addr) (c : Nat) (l : List Int) (x : Int) (h : Row W g A c l) (hr : Ris ltI l) (hn : l.length ≤ 4194304) : Calls Try.prog 56 #[.slice A l.length c, .int .i64 x] W fun e w' => e = .returned (.bool (decide (x ∈ l))) ∧ Drawn0 W w' := by
  obtain ⟨k, hk⟩ := Ev.rounds (in_ev l x hr hn)
  exact rosterref10_In.calls k A c l x _ W (numsB h hn) h.cap hk
/-- The reference's Sorted: a new row, of the elements' own kind. -/
theorem rsorted_as (W : World) (g : Nat) (A : Option Addr) (c : Nat) (l : List Int) (h : Row W g A c l) (hn : l.length ≤ 4194304) : Calls Try.prog 33 #[.slice A l.length c] W fun e w' => ∃ g' B cc, e = .returned (.slice B (setL ltI l).length cc) ∧ Row w' g' B cc (setL ltI l) ∧ (0 < (setL ltI l).length → W.heap.size ≤ g' ∧ ∃ cs, w'.heap[g']? = some (.cells cs 2 (0, 0))) ∧ Below W.heap.size W w' := by
  obtain ⟨k, hk⟩ := Ev.rounds (sorted_ev l.length l (Nat.le_refl _) hn)
  refine (rosterref10_Sorted.calls k A c l _ W (numsB h hn) h.cap hk).mono ?_
  rintro e w' ⟨v, rfl, hR, hb⟩
  by_cases hp : 0 < (setL ltI l).length
  · obtain ⟨g', cap, cur, rfl, h1, h2, h3, h4, h5, h6⟩ := own_block hR hp
    obtain ⟨g2, h7, _⟩ := row_of_R hR
    refine ⟨g', some ⟨g', 0, none⟩, cap, rfl, ?_, fun _ => ⟨h1, _, h2⟩, hb⟩
    obtain ⟨o, e1, _⟩ := h7.at_ hp
    cases e1
    exact h7
  · obtain ⟨B, cc, rfl⟩ := Kd.R_slice hR
    obtain ⟨g2, h7, _⟩ := row_of_R hR
    exact ⟨g2, B, cc, rfl, h7, fun h => absurd h hp, hb⟩
end Go.Proofs.Ytnflokhffmfifaa.InEw
namespace Go.Proofs.Ytnflokhffmfifaa.CountV
open Go.RowKit Go.Proofs.Ytnflokhffmfifaa.CountW Go.Proofs.Ytnflokhffmfifaa.InEw Go.Proofs.Ytnflokhffmfifaa.Blk Go.Proofs.Ytnflokhffmfifaa.Ris Go.Proofs.Ytnflokhffmfifaa.Cur Go.Proofs.Ytnflokhffmfifaa.OfW Go.Proofs.Ytnflokhffmfifaa.HeapPure Go.Proofs.Ytnflokhffmfifaa.HeapW Go.Proofs.Ytnflokhffmfifaa.CountPure Go.Proofs.Ytnflokhffmfifaa.PostAlg Go.Proofs.YtnflokhffmfifaaW.PrintWords Go.Proofs.YtnflokhffmfifaaW.PrintLast Go.Proofs.YtnflokhffmfifaaW.PrintMore
/-- A row of the reference's own making. -/
structure Mine (B0 : Nat) (w : World) (d : Hd) : Prop where
  row : Row w d.g d.A d.c d.l
  own : 0 < d.l.length → B0 ≤ d.g ∧ ∃ cs, w.heap[d.g]? = some (.cells cs 2 (0, 0))
theorem Mine.on {B0 : Nat} {w w1 : World} {d : Hd} (h : Mine B0 w d) (k : 0 < d.l.length → w1.heap[d.g]? = w.heap[d.g]?) : Mine B0 w1 d :=
  ⟨h.row.on k, fun hp => ⟨(h.own hp).1, by obtain ⟨cs, hc⟩ := (h.own hp).2; exact ⟨cs, (k hp).trans hc⟩⟩⟩
theorem Mine.lt {B0 : Nat} {w : World} {d : Hd} (h : Mine B0 w d) (hp : 0 < d.l.length) : d.g < w.heap.size := Row.lt h.row hp
structure RA (W : World) (Es : List Hd) (i : Nat) (ds : List Hd) (va vs : Value) (wr : World) : Prop where
  sets : wr.ownsRow W.heap.size 22 1 vs i (ds.map Hd.v)
  all : Kd.R (Kd.int .i64) 2 wr W.heap.size (fun _ => True) va (ds.map Hd.l).flatten
  row : ∀ d ∈ ds, Mine W.heap.size wr d ∧ (0 < d.l.length → some d.g ≠ va.ownBlock)
  maps : ds.map Hd.l = (Es.take i).map fun d => setL ltI d.l
  below : Below W.heap.size W wr
theorem own_below {w w1 : World} {base : Nat} {e : TypeId} {size : Nat} {v : Value} {n : Nat} {xs : List Value} (h : w.ownsRow base e size v n xs) (hb : Below w.heap.size w w1) : w1.ownsRow base e size v n xs := by
  obtain ⟨h1, h2 | ⟨g, cap, cur, e1, e2, e3, e4⟩⟩ := h
  · exact ⟨h1, .inl h2⟩
  · exact ⟨h1, .inr ⟨g, cap, cur, e1, e2, (hb.block _ (Array.getElem?_eq_some_iff.1 e3).1).trans e3, e4⟩⟩
/-- A row of headers is no row of numbers. -/
theorem ne_kind {w : World} {base : Nat} {vs : Value} {m : Nat} {xs : List Value} (h : w.ownsRow base 22 1 vs m xs) {g : Nat} {cs : Array Value} {f : Nat × Nat} (hc : w.heap[g]? = some (.cells cs 2 f)) : some g ≠ vs.ownBlock := by
  intro e
  rcases h.2 with ⟨rfl, _⟩ | ⟨g', cap, cur, rfl, _, h4, _⟩
  · simp [Value.ownBlock] at e
  · obtain rfl : g = g' := by simpa [Value.ownBlock] using e
    rw [h4] at hc; cases hc
/-- The sorted list put behind the sets. -/
theorem RA.put {W wr W2 w3 : World} {Es : List Hd} {i : Nat} {ds : List Hd} {va vs v' : Value} {o : Obj} {d : Hd} (h : RA W Es i ds va vs wr) (hb : Below wr.heap.size wr W2) (hd : Mine wr.heap.size W2 d)
    (hg : (W2.alloc o).grownBy w3 vs.ownBlock) (own : w3.ownsRow W.heap.size 22 1 v' (i + 1) (ds.map Hd.v ++ [d.v])) :
    w3.ownsRow W.heap.size 22 1 v' (i + 1) ((ds ++ [d]).map Hd.v) ∧ Kd.R (Kd.int .i64) 2 w3 W.heap.size (fun _ => True) va (ds.map Hd.l).flatten ∧ (∀ e ∈ ds ++ [d], Mine W.heap.size w3 e ∧ (0 < e.l.length → some e.g ≠ va.ownBlock)) ∧ Below W.heap.size W w3 := by
  have hz : (W2.alloc o).heap.size = W2.heap.size + 1 := World.size_alloc _ _
  have hbs := h.below.size
  have hb2 := hb.size
  have hse : (W2.alloc o).ownsRow W.heap.size 22 1 vs i (ds.map Hd.v) := (own_below h.sets hb).alloc o
  have keep : ∀ g, g < W2.heap.size → some g ≠ vs.ownBlock → w3.heap[g]? = W2.heap[g]? := fun g h1 h2 => (hg.block g (by omega) h2).trans (Below.heap_alloc _ _ _ h1)
  have mine : ∀ e : Hd, ∀ B0, Mine B0 W2 e → Mine B0 w3 e := fun e B0 he => he.on (fun hp => keep _ (he.lt hp) (by
    obtain ⟨cs, hc⟩ := (he.own hp).2
    exact ne_kind (own_below h.sets hb) hc))
  have hall2 : W2.ownsRow W.heap.size 2 1 va (ds.map Hd.l).flatten.length (encs (Value.int .i64) (ds.map Hd.l).flatten) := own_below (Kd.own_of_R h.all) hb
  refine ⟨by rw [List.map_append]; exact own, ?_, fun e he => ?_, ?_⟩
  · refine Kd.R_of_own (h1 := fun _ => rfl) (((hall2.alloc o).kept hg ?_)) (fun _ _ => trivial)
    rcases hall2.2 with ⟨rfl, _⟩ | ⟨g, cap, cur, rfl, _, h4, _⟩
    · exact .inl rfl
    · exact .inr (ne_kind (own_below h.sets hb) h4)
  · rcases List.mem_append.1 he with he | he
    · obtain ⟨h1, h2⟩ := h.row e he
      exact ⟨mine e _ (h1.on (fun hp => hb.block _ (h1.lt hp))), h2⟩
    · rw [List.mem_singleton] at he
      subst he
      have hd' : Mine W.heap.size W2 e := ⟨hd.row, fun hp => ⟨Nat.le_trans hbs (hd.own hp).1, (hd.own hp).2⟩⟩
      refine ⟨mine e _ hd', fun hp eq => ?_⟩
      have h3 := ((Kd.own_of_R h.all).lt _ eq.symm).2
      have h4 := (hd.own hp).1
      omega
  · exact ((h.below.trans (hb.mono hbs)).alloc (by omega) o).grown hg (by omega) (fun j e => (h.sets.lt _ e).1)
/-- And its elements behind all the elements. -/
theorem RA.app {W w3 w4 : World} {Es : List Hd} {i : Nat} {ds : List Hd} {va vs v1 : Value} {d : Hd} (h1 : w3.ownsRow W.heap.size 22 1 vs (i + 1) ((ds ++ [d]).map Hd.v)) (h2 : Kd.R (Kd.int .i64) 2 w3 W.heap.size (fun _ => True) va (ds.map Hd.l).flatten) (h3 : ∀ e ∈ ds ++ [d], Mine W.heap.size w3 e ∧ (0 < e.l.length → some e.g ≠ va.ownBlock))
    (hm : ds.map Hd.l = (Es.take i).map fun d => setL ltI d.l) (hi : i < Es.length) (hd : d.l = setL ltI (Es.getD i default).l) (ho : Kd.R (Kd.int .i64) 2 w4 W.heap.size (fun _ => True) v1 ((ds.map Hd.l).flatten ++ d.l)) (hb : Below W.heap.size W w4) (hg : w3.grownBy w4 va.ownBlock) (hat : v1.ownBlock = va.ownBlock ∨ ∃ b, v1.ownBlock = some b ∧ w3.heap.size ≤ b) : RA W Es (i + 1) (ds ++ [d]) v1 vs w4 := by
  have hown := Kd.own_of_R h2
  refine ⟨h1.kept hg ?_, by rw [List.map_append, List.flatten_append]; simpa using ho, fun e he => ?_, by rw [take_snoc Es hi, List.map_append, List.map_append, hm, List.map_cons, List.map_nil, hd]; rfl, hb⟩
  · rcases h1.2 with ⟨rfl, _⟩ | ⟨g, cap, cur, rfl, _, h4, _⟩
    · exact .inl rfl
    · refine .inr (fun eq => ?_)
      have e2 : some g = va.ownBlock := by simpa [Value.ownBlock] using eq
      rcases hown.2 with ⟨rfl, _⟩ | ⟨g', cap', cur', rfl, _, h5, _⟩
      · simp [Value.ownBlock] at e2
      · obtain rfl : g = g' := by simpa [Value.ownBlock] using e2
        rw [h4] at h5; cases h5
  · obtain ⟨m1, m2⟩ := h3 e he
    refine ⟨m1.on (fun hp => hg.block _ (m1.lt hp) (m2 hp)), fun hp eq => ?_⟩
    rcases hat with hat | ⟨b, hb1, hb2⟩
    · rw [hat] at eq; exact m2 hp eq
    · rw [hb1] at eq
      have := m1.lt hp
      cases eq
      omega
theorem flat_short {Es : List Hd} (hb : bulk Es ≤ 4194304) (i : Nat) : (((Es.take i).map fun d => setL ltI d.l).flatten).length ≤ 4194304 := by
  have h1 := bulk_take Es i
  have h2 : ∀ t : List Hd, ((t.map fun d => setL ltI d.l).flatten).length ≤ bulk t := fun t => by
    induction t with
    | nil => exact Nat.le_refl _
    | cons d t ih =>
      have := setL_len totI d.l
      rw [List.map_cons, List.flatten_cons, List.length_append, bulk_cons]
      omega
  exact Nat.le_trans (h2 _) (Nat.le_trans h1 hb)
theorem cnt_take (ls : List (List Int)) (x : Int) {j : Nat} (hj : j < ls.length) : cnt (ls.take (j + 1)) x = cnt (ls.take j) x + (if x ∈ ls.getD j [] then 1 else 0) := by
  rw [List.take_add_one, List.getElem?_eq_getElem hj]
  unfold cnt
  have e : ls.getD j [] = ls[j] := by simp [List.getD_eq_getElem?_getD, List.getElem?_eq_getElem hj]
  rw [List.filter_append, List.length_append, e]
  congr 1
  by_cases h : x ∈ ls[j] <;> simp [h]
theorem map_at (ds : List Hd) {j : Nat} (hj : j < ds.length) : (ds.map Hd.l).getD j [] = (ds.getD j default).l := by
  simp [List.getD_eq_getElem?_getD, List.getElem?_eq_getElem hj]
/-- The sets, as headers in a row. -/
theorem RA.heads {W wr : World} {Es ds : List Hd} {i : Nat} {va vs : Value} (h : RA W Es i ds va vs wr) : ∃ L c, vs = .slice L ds.length c ∧ Heads wr L ds ∧ ds.length = i := by
  have hl : ds.length = i := by have := h.sets.1; simpa using this
  rcases h.sets.2 with ⟨rfl, h0⟩ | ⟨g, cap, cur, rfl, _, h4, h5, h6, h7, h8⟩
  · refine ⟨none, 0, by rw [hl, h0], ⟨fun k hk => by omega, fun d hd => (h.row d hd).1.row⟩, hl⟩
  · refine ⟨some ⟨g, 0, none⟩, cap, by rw [hl], ⟨fun k hk => ⟨g, 0, rfl, ?_⟩, fun d hd => (h.row d hd).1.row⟩, hl⟩
    rw [Nat.zero_add, Blk.At.cell (cs := cur.toList) (show Blk.At wr g cur.toList 22 from h4) k]
    have h9 : (cur.toList.take (i * 1))[k]? = some (ds.getD k default).v := by
      rw [h8, List.getElem?_map, List.getElem?_eq_getElem hk]
      simp [List.getD_eq_getElem?_getD, List.getElem?_eq_getElem hk]
    rwa [List.getElem?_take_of_lt (by omega)] at h9
set_option maxHeartbeats 4000000 in
set_option maxRecDepth 100000 in
theorem ratleast_as (W : World) (k : Int) (c : Nat) (L : Option Addr) (Es : List Hd) (h : Heads W L Es) (hb : bulk Es ≤ 4194304) (hm : Es.length ≤ 4194304) : Calls Try.prog 25 #[.int .i64 k, .slice L Es.length c] W (Got W (atLeast ltI k (Es.map Hd.l))) := by
  obtain ⟨i0, hi, hz0, hz1, hz2⟩ := info_parts info22
  have HH := Lib.hid h
  have HBK := Lib.hid hb
  have HR0 : Hid (RA W Es 0 [] (.slice none 0 0) (.slice none 0 0) W) := Lib.hid ⟨World.ownsRow_nil _ _ _ _, Kd.R_nil _ _ _ _ _, fun d hd => by simp at hd, rfl, Below.refl _ _⟩
  clear h hb
  go_enter Try.func25, Try.ntmps25
  go_wp2
  go_loopw [5, 6, 7] (fun v5 v6 v7 wr => ∃ (i : Nat) (ds : List Hd), i ≤ Es.length ∧ v7 = .int .i64 (i : Nat) ∧ Hid (RA W Es i ds v5 v6 wr)) (fun _ _ v _ => Es.length - (intOf v).toNat)
  case atStart => exact ⟨0, [], Nat.zero_le _, rfl, HR0⟩
  case round =>
    clear HR0
    obtain ⟨i, ds, hi', rfl, HW⟩ := hrel
    by_cases hin : i < Es.length
    · have hlt : (i : Int) < (Es.length : Int) := by omega
      obtain ⟨lr, lo, rfl, hc⟩ := HH.out.head i hin
      have hcw := (HW.out.below.cell (p := ⟨lr, lo + i, none⟩) (World.block_lt_of_cell? W _ hc)).trans hc
      have hmem : Es.getD i default ∈ Es := by rw [← getElem_getD _ _ hin]; exact List.getElem_mem hin
      have hrow : Row wr (Es.getD i default).g (Es.getD i default).A (Es.getD i default).c (Es.getD i default).l := (HH.out.row _ hmem).on (fun hp => HW.out.below.block _ (Row.lt (HH.out.row _ hmem) hp))
      have hlen := Nat.le_trans (bulk_mem _ hmem) HBK.out
      have hfl := flat_short HBK.out i
      have hfl1 := flat_short HBK.out (i + 1)
      rw [← HW.out.maps] at hfl
      obtain ⟨e, he⟩ : ∃ e, Es.getD i default = e := ⟨_, rfl⟩
      rw [he] at hcw hrow hlen
      unfold Hd.v at hcw
      have HE := Lib.hid he
      have hse : (setL ltI e.l).length ≤ 4194304 := Nat.le_trans (setL_len totI _) hlen
      have SO := Lib.hid (rsorted_as wr e.g e.A e.c e.l hrow hlen)
      have hsz := HW.out.below.size
      have hsets := HW.out.sets
      have hml : i + 1 ≤ maxLen := by simp only [maxLen]; omega
      clear hc hmem hrow he
      go_wp2_with (first
        | (go_at_call 33; ((with_reducible refine SO.out.mono ?_); rintro e2 W2 ⟨g2, B2, c2, rfl, q1, q2, q3⟩; have HM := Lib.hid (show Mine wr.heap.size W2 ⟨B2, c2, g2, setL ltI e.l⟩ from ⟨q1, q2⟩); have HB2 := Lib.hid q3; have hsz2 := q3.size; have own2 := own_below hsets q3; clear q1 q2 q3))
        | (at_builtin; refine wpList_append_own _ rfl (.tmp 25) (.tmp 27) 42 rfl W.heap.size 22 i0 (.slice none 0 0) 1 24 Try.underlying42 hi hz0 hz1 hz2 rfl (by decide) _ _ _ rfl (own2.alloc _) ⟨W2.heap.size, 0, none⟩ 1 1 [.slice B2 (setL ltI e.l).length c2] rfl rfl (cell_one_new _ _ _) (by simp [Value.oneCell']) hml (by omega) (by rw [World.size_alloc]; omega) ?_; intro v8 w3 own3 grow3 _; have HP := Lib.hid (RA.put (d := ⟨B2, c2, g2, setL ltI e.l⟩) HW.out HB2.out HM.out grow3 own3); clear own3 grow3)
        | (((with_reducible refine gate_builtin (b := .append) (xs := #[.tmp 29, .tmp 30]) rfl ?_); at_builtin; refine Kd.R_append_rows (Kd.int .i64) (w0 := W) W.heap.size rfl (.tmp 29) (.tmp 30) 22 2 (.int .i64 0) 8 rfl Try.underlying22 Cur.info2 rfl (by decide) (by omega) _ (ds.map Hd.l).flatten (setL ltI e.l) _ _ _ (fun _ => True) (fun _ => False) rfl rfl ?aO ?aR (fun _ _ h => h) (fun _ h => h.elim) ?aF ?aB ?aS ?aL ?_; (case aR => exact numsB (HP.out.2.2.1 ⟨B2, c2, g2, setL ltI e.l⟩ (by simp)).1.row hse); (case aB => exact HP.out.2.2.2); (case aF => exact (fun _ _ => trivial)); (case aO => exact HP.out.2.1); (case aS => exact HP.out.2.2.2.size); (case aL => omega); intro v9 w4 ho hb hg hat; have HQ := Lib.hid (RA.app (d := ⟨B2, c2, g2, setL ltI e.l⟩) HP.out.1 HP.out.2.1 HP.out.2.2.1 HW.out.maps hin (by rw [HE.out]) ho hb hg hat); clear ho hb hg hat))
        | go_in)
      go_roundw
      case rel => exact ⟨i + 1, _, by omega, by go_num, HQ⟩
      case measure => simp [intOf]; omega
    · have hlt : ¬ ((i : Int) < (Es.length : Int)) := by omega
      obtain rfl : i = Es.length := by omega
      obtain ⟨L2, c2, rfl, hh2, hdl⟩ := HW.out.heads
      obtain ⟨A1, cA, rfl⟩ := Kd.R_slice HW.out.all
      obtain ⟨gA, rA, _⟩ := row_of_R HW.out.all
      have hfl := flat_short HBK.out Es.length
      rw [← HW.out.maps] at hfl
      have hmp := HW.out.maps
      rw [List.take_of_length_le (Nat.le_refl _)] at hmp
      have hcn : ∀ x, cnt (ds.map Hd.l) x = cnt (Es.map Hd.l) x := fun x => by
        rw [hmp, ← cnt_sets (Es.map Hd.l) x, List.map_map]
        rfl
      have hris : ∀ d ∈ ds, Ris ltI d.l ∧ d.l.length ≤ 4194304 := fun d hd => by
        have : d.l ∈ Es.map fun d => setL ltI d.l := by rw [← hmp]; exact List.mem_map.2 ⟨d, hd, rfl⟩
        obtain ⟨e, he, heq⟩ := List.mem_map.1 this
        rw [← heq]
        exact ⟨ris_setL totI _, Nat.le_trans (setL_len totI _) (Nat.le_trans (bulk_mem e he) HBK.out)⟩
      have hall : setL ltI (ds.map Hd.l).flatten = setL ltI (Es.map Hd.l).flatten := setL_congr totI (fun x => by rw [mem_flat, mem_flat, hcn])
      have SO := rsorted_as wr gA A1 cA _ rA hfl
      rw [hall] at SO
      have hsl : (setL ltI (Es.map Hd.l).flatten).length ≤ 4194304 := Nat.le_trans (setL_len totI _) (by rw [flat_len]; exact HBK.out)
      have hAT : atLeast ltI k (Es.map Hd.l) = (setL ltI (Es.map Hd.l).flatten).filter fun x => decide (k ≤ (cnt (ds.map Hd.l) x : Int)) := by
        unfold atLeast
        exact List.filter_congr (fun x _ => by rw [hcn])
      generalize setL ltI (Es.map Hd.l).flatten = S at SO hsl hAT
      have H1 := Lib.hid SO
      have HAT := Lib.hid hAT
      have H2 := Lib.hid hh2
      have HRS := Lib.hid hris
      have HDL := Lib.hid hdl
      have HB9 := Lib.hid HW.out.below
      clear SO hAT hh2 hris hall hcn hmp rA hfl HW
      generalize (ds.map Hd.l).flatten = X at H1 ⊢
      have hdm : ds.length ≤ 4194304 := by omega
      clear hdl hlt hin hi'
      rw [← HDL.out]
      obtain ⟨i1, hi1, hy0, hy1, hy2⟩ := info_parts Cur.info2
      go_wp2_with (first | (go_at_call 33; ((with_reducible refine H1.out.mono ?_); rintro e2 W5 ⟨g5, B5, c5, rfl, q1, q2, q3⟩; have HS5 := Lib.hid q1; have HB5 := Lib.hid (HB9.out.trans (q3.mono HB9.out.size)); have H5 := Lib.hid (H2.out.on q3); clear q1 q2 q3)) | go_in)
      have HZ0 : Hid (Below W5.heap.size W5 W5 ∧ W5.ownsRow W5.heap.size 2 1 (.slice none 0 0) ((S.take 0).filter fun x => decide (k ≤ (cnt (ds.map Hd.l) x : Int))).length (((S.take 0).filter fun x => decide (k ≤ (cnt (ds.map Hd.l) x : Int))).map (Value.int .i64))) := Lib.hid ⟨Below.refl _ _, World.ownsRow_nil _ _ _ _⟩
      clear H1 H2 HB9
      go_loopw [9, 10] (fun v9 v10 w2 => ∃ i2 : Nat, i2 ≤ S.length ∧ v10 = .int .i64 (i2 : Nat) ∧ Hid (Below W5.heap.size W5 w2 ∧ w2.ownsRow W5.heap.size 2 1 v9 ((S.take i2).filter fun x => decide (k ≤ (cnt (ds.map Hd.l) x : Int))).length (((S.take i2).filter fun x => decide (k ≤ (cnt (ds.map Hd.l) x : Int))).map (Value.int .i64)))) (fun _ v _ => S.length - (intOf v).toNat)
      case atStart => exact ⟨0, Nat.zero_le _, rfl, HZ0⟩
      case round =>
        clear HZ0
        obtain ⟨i2, hi2, rfl, HW⟩ := hrel
        by_cases hin2 : i2 < S.length
        · have hlt2 : (i2 : Int) < (S.length : Int) := by omega
          obtain ⟨o5, rfl, hc5⟩ := HS5.out.at_ (by omega)
          have cx0 := (HW.out.1.cell (p := ⟨g5, o5 + i2, none⟩) (World.block_lt_of_cell? W5 _ (hc5 i2 hin2))).trans (hc5 i2 hin2)
          have hsn := take_snoc' S hin2
          have hfl2 : ((S.take i2).filter fun x => decide (k ≤ (cnt (ds.map Hd.l) x : Int))).length ≤ i2 := Nat.le_trans (List.length_filter_le _ _) (by rw [List.length_take]; omega)
          have hml2 : ((S.take i2).filter fun x => decide (k ≤ (cnt (ds.map Hd.l) x : Int))).length + 1 ≤ maxLen := by simp only [maxLen]; omega
          have hsz5 := HW.out.1.size
          have hown := HW.out.2
          generalize S.getD i2 0 = x at cx0 hsn
          have HSN := Lib.hid hsn
          clear hc5 hsn
          go_wp2
          go_loopw [11, 12] (fun v11 v12 w3 => ∃ j : Nat, j ≤ ds.length ∧ v11 = .int .i64 ((cnt ((ds.map Hd.l).take j) x : Nat) : Int) ∧ v12 = .int .i64 (j : Nat) ∧ Drawn0 wr w3) (fun _ v _ => ds.length - (intOf v).toNat)
          case atStart => exact ⟨0, Nat.zero_le _, rfl, rfl, Drawn0.refl _⟩
          case round =>
            obtain ⟨j, hj, rfl, rfl, HJ⟩ := hrel
            obtain ⟨n9, rfl⟩ := HJ
            have hcl : cnt ((ds.map Hd.l).take j) x ≤ j := Nat.le_trans (cnt_le _ _) (by rw [List.length_take]; omega)
            by_cases hjn : j < ds.length
            · have hltj : (j : Int) < (ds.length : Int) := by omega
              obtain ⟨lr2, lo2, rfl, hc2⟩ := H5.out.head j hjn
              have cs := (HW.out.1.cell (p := ⟨lr2, lo2 + j, none⟩) (World.block_lt_of_cell? W5 _ hc2)).trans hc2
              have hmd : ds.getD j default ∈ ds := by rw [← getElem_getD _ _ hjn]; exact List.getElem_mem hjn
              have hct := cnt_take (ds.map Hd.l) x (j := j) (by rw [List.length_map]; exact hjn)
              rw [map_at ds hjn] at hct
              have hrd := (H5.out.row _ hmd)
              have hrs := HRS.out _ hmd
              generalize ds.getD j default = d at cs hct hrd hrs
              unfold Hd.v at cs
              have HDR := Lib.hid (hrd.on (fun hp => HW.out.1.block _ (Row.lt hrd hp)))
              have CI := Lib.hid (fun W (hW : Row W d.g d.A d.c d.l) => rin_as W d.g d.A d.c d.l x hW hrs.1 hrs.2)
              have cx : wr.cell? ⟨g5, o5 + i2, none⟩ = some (.int .i64 x) := cx0
              generalize hcj : cnt ((ds.map Hd.l).take j) x = cj at hcl hct ⊢
              clear hc2 hmd hrd hrs hcj
              by_cases hxd : x ∈ d.l
              · rw [if_pos hxd] at hct
                have CT := Lib.hid hct
                have hbd : decide (x ∈ d.l) = true := decide_eq_true hxd
                clear hct hxd
                go_wp2
                refine start_ (n := 10) (S := fun w' => w'.cell? ⟨lr2, lo2 + j, none⟩ = some (.slice d.A d.l.length d.c) ∧ w'.cell? ⟨g5, o5 + i2, none⟩ = some (.int .i64 x)) (ds := [8]) #[false, false, false, false, false, false, false, false, false, false] (by kernel_rfl) rfl rfl ⟨cs, cx⟩ (fun hHeld => ?_)
                refine pure_ (i := 0) (N := some 46) (v := ?_) (a' := ?_) #[true, false, false, false, false, false, false, false, false, false] rfl rfl (by kernel_rfl) (fun _ _ _ h => h) (Or.inl ⟨by rfl, ?_⟩) ?_ ?_
                rotate_left
                · intro w'
                  go_simp
                  with_reducible rfl
                rotate_left
                · simp only [Act.put, List.setIfInBounds_toArray, List.set_cons_zero, List.set_cons_succ, i64_w, i32_w]
                  rfl
                refine pure_ (i := 1) (N := some 47) (v := ?_) (a' := ?_) #[true, true, false, false, false, false, false, false, false, false] rfl rfl (by kernel_rfl) (fun _ _ _ h => h) (Or.inl ⟨by rfl, ?_⟩) ?_ ?_
                rotate_left
                · intro w'
                  go_simp
                  with_reducible rfl
                rotate_left
                · simp only [Act.put, List.setIfInBounds_toArray, List.set_cons_zero, List.set_cons_succ, i64_w, i32_w]
                  rfl
                refine pure_ (i := 2) (N := some 48) (v := ?_) (a' := ?_) #[true, true, true, false, false, false, false, false, false, false] rfl rfl (by kernel_rfl) (fun _ _ _ h => h) (Or.inl ⟨by rfl, ?_⟩) ?_ ?_
                rotate_left
                · intro w'
                  go_simp
                  with_reducible rfl
                rotate_left
                · simp only [Act.put, List.setIfInBounds_toArray, List.set_cons_zero, List.set_cons_succ, i64_w, i32_w]
                  rfl
                refine pure_ (i := 4) (N := some 50) (v := ?_) (a' := ?_) #[true, true, true, false, true, false, false, false, false, false] rfl rfl (by kernel_rfl) (fun _ _ _ h => h) (Or.inl ⟨by rfl, ?_⟩) ?_ ?_
                rotate_left
                · intro w'
                  go_simp
                  with_reducible rfl
                rotate_left
                · simp only [Act.put, List.setIfInBounds_toArray, List.set_cons_zero, List.set_cons_succ, i64_w, i32_w]
                  rfl
                refine pure_ (i := 5) (N := some 51) (v := ?_) (a' := ?_) #[true, true, true, false, true, true, false, false, false, false] rfl rfl (by kernel_rfl) (fun _ _ _ h => h) (Or.inl ⟨by rfl, ?_⟩) ?_ ?_
                rotate_left
                · intro w'
                  go_simp
                  with_reducible rfl
                rotate_left
                · simp only [Act.put, List.setIfInBounds_toArray, List.set_cons_zero, List.set_cons_succ, i64_w, i32_w]
                  rfl
                refine pure_ (i := 6) (N := some 52) (v := ?_) (a' := ?_) #[true, true, true, false, true, true, true, false, false, false] rfl rfl (by kernel_rfl) (fun _ _ _ h => h) (Or.inl ⟨by rfl, ?_⟩) ?_ ?_
                rotate_left
                · intro w'
                  go_simp
                  with_reducible rfl
                rotate_left
                · simp only [Act.put, List.setIfInBounds_toArray, List.set_cons_zero, List.set_cons_succ, i64_w, i32_w]
                  rfl
                refine take_ (i := 3) (N := some 49) (v := ?_) (a' := ?_) #[true, true, true, true, true, true, true, false, false, false] rfl rfl (by kernel_rfl) (fun _ _ _ h => h) (Or.inl ⟨by rfl, ?_⟩) hHeld ?_ ?_
                rotate_left
                · rintro w' ⟨s0, s1⟩
                  go_simp
                  with_reducible rfl
                rotate_left
                · simp only [Act.put, List.setIfInBounds_toArray, List.set_cons_zero, List.set_cons_succ, i64_w, i32_w]
                  rfl
                refine take_ (i := 7) (N := some 53) (v := ?_) (a' := ?_) #[true, true, true, true, true, true, true, true, false, false] rfl rfl (by kernel_rfl) (fun _ _ _ h => h) (Or.inl ⟨by rfl, ?_⟩) hHeld ?_ ?_
                rotate_left
                · rintro w' ⟨s0, s1⟩
                  go_simp
                  with_reducible rfl
                rotate_left
                · simp only [Act.put, List.setIfInBounds_toArray, List.set_cons_zero, List.set_cons_succ, i64_w, i32_w]
                  rfl
                refine last_ (i := 8) (N := some 54) #[true, true, true, true, true, true, true, true, true, false] rfl rfl (by kernel_rfl) (by decide) (fun K hK => ?_)
                refine goes_ Try.func56 (by kernel_rfl) rfl #[.slice d.A d.l.length d.c, .int .i64 x] (by rfl) rfl rfl (by simp only [List.map_toArray, List.map_cons, List.map_nil]; rfl) ?_
                with_reducible refine (CI.out _ ?hx).mono ?_
                case hx => exact HDR.out.on (fun _ => rfl)
                rintro e _ ⟨rfl, ⟨m9, rfl⟩⟩
                refine ⟨_, rfl, ?_⟩
                refine hK.out _ _ ?_
                clear hK K
                refine norm_ (a' := ?_) ?_ ?_
                rotate_left
                · show Act.put _ (some 54) _ = _
                  simp only [Act.put, List.setIfInBounds_toArray, List.set_cons_zero, List.set_cons_succ, i64_w, i32_w]
                  rfl
                refine pure_ (i := 9) (N := some 13) (v := ?_) (a' := ?_) #[true, true, true, true, true, true, true, true, true, true] rfl rfl (by kernel_rfl) (fun _ _ _ h => h) (Or.inl ⟨by rfl, ?_⟩) ?_ ?_
                rotate_left
                · intro w'
                  go_simp
                  with_reducible rfl
                rotate_left
                · simp only [Act.put, List.setIfInBounds_toArray, List.set_cons_zero, List.set_cons_succ, i64_w, i32_w]
                  rfl
                refine done_ (by kernel_rfl) ?_
                go_wp2
                go_roundw
                case rel => exact ⟨j + 1, by omega, by rw [CT.out]; go_num, by go_num, by repeat (first | exact Drawn0.refl _ | apply Drawn0.step)⟩
                case measure => simp [intOf]; omega
              · rw [if_neg hxd, Nat.add_zero] at hct
                have CT := Lib.hid hct
                have hbd : decide (x ∈ d.l) = false := decide_eq_false hxd
                clear hct hxd
                go_wp2
                refine start_ (n := 10) (S := fun w' => w'.cell? ⟨lr2, lo2 + j, none⟩ = some (.slice d.A d.l.length d.c) ∧ w'.cell? ⟨g5, o5 + i2, none⟩ = some (.int .i64 x)) (ds := [8]) #[false, false, false, false, false, false, false, false, false, false] (by kernel_rfl) rfl rfl ⟨cs, cx⟩ (fun hHeld => ?_)
                refine pure_ (i := 0) (N := some 46) (v := ?_) (a' := ?_) #[true, false, false, false, false, false, false, false, false, false] rfl rfl (by kernel_rfl) (fun _ _ _ h => h) (Or.inl ⟨by rfl, ?_⟩) ?_ ?_
                rotate_left
                · intro w'
                  go_simp
                  with_reducible rfl
                rotate_left
                · simp only [Act.put, List.setIfInBounds_toArray, List.set_cons_zero, List.set_cons_succ, i64_w, i32_w]
                  rfl
                refine pure_ (i := 1) (N := some 47) (v := ?_) (a' := ?_) #[true, true, false, false, false, false, false, false, false, false] rfl rfl (by kernel_rfl) (fun _ _ _ h => h) (Or.inl ⟨by rfl, ?_⟩) ?_ ?_
                rotate_left
                · intro w'
                  go_simp
                  with_reducible rfl
                rotate_left
                · simp only [Act.put, List.setIfInBounds_toArray, List.set_cons_zero, List.set_cons_succ, i64_w, i32_w]
                  rfl
                refine pure_ (i := 2) (N := some 48) (v := ?_) (a' := ?_) #[true, true, true, false, false, false, false, false, false, false] rfl rfl (by kernel_rfl) (fun _ _ _ h => h) (Or.inl ⟨by rfl, ?_⟩) ?_ ?_
                rotate_left
                · intro w'
                  go_simp
                  with_reducible rfl
                rotate_left
                · simp only [Act.put, List.setIfInBounds_toArray, List.set_cons_zero, List.set_cons_succ, i64_w, i32_w]
                  rfl
                refine pure_ (i := 4) (N := some 50) (v := ?_) (a' := ?_) #[true, true, true, false, true, false, false, false, false, false] rfl rfl (by kernel_rfl) (fun _ _ _ h => h) (Or.inl ⟨by rfl, ?_⟩) ?_ ?_
                rotate_left
                · intro w'
                  go_simp
                  with_reducible rfl
                rotate_left
                · simp only [Act.put, List.setIfInBounds_toArray, List.set_cons_zero, List.set_cons_succ, i64_w, i32_w]
                  rfl
                refine pure_ (i := 5) (N := some 51) (v := ?_) (a' := ?_) #[true, true, true, false, true, true, false, false, false, false] rfl rfl (by kernel_rfl) (fun _ _ _ h => h) (Or.inl ⟨by rfl, ?_⟩) ?_ ?_
                rotate_left
                · intro w'
                  go_simp
                  with_reducible rfl
                rotate_left
                · simp only [Act.put, List.setIfInBounds_toArray, List.set_cons_zero, List.set_cons_succ, i64_w, i32_w]
                  rfl
                refine pure_ (i := 6) (N := some 52) (v := ?_) (a' := ?_) #[true, true, true, false, true, true, true, false, false, false] rfl rfl (by kernel_rfl) (fun _ _ _ h => h) (Or.inl ⟨by rfl, ?_⟩) ?_ ?_
                rotate_left
                · intro w'
                  go_simp
                  with_reducible rfl
                rotate_left
                · simp only [Act.put, List.setIfInBounds_toArray, List.set_cons_zero, List.set_cons_succ, i64_w, i32_w]
                  rfl
                refine take_ (i := 3) (N := some 49) (v := ?_) (a' := ?_) #[true, true, true, true, true, true, true, false, false, false] rfl rfl (by kernel_rfl) (fun _ _ _ h => h) (Or.inl ⟨by rfl, ?_⟩) hHeld ?_ ?_
                rotate_left
                · rintro w' ⟨s0, s1⟩
                  go_simp
                  with_reducible rfl
                rotate_left
                · simp only [Act.put, List.setIfInBounds_toArray, List.set_cons_zero, List.set_cons_succ, i64_w, i32_w]
                  rfl
                refine take_ (i := 7) (N := some 53) (v := ?_) (a' := ?_) #[true, true, true, true, true, true, true, true, false, false] rfl rfl (by kernel_rfl) (fun _ _ _ h => h) (Or.inl ⟨by rfl, ?_⟩) hHeld ?_ ?_
                rotate_left
                · rintro w' ⟨s0, s1⟩
                  go_simp
                  with_reducible rfl
                rotate_left
                · simp only [Act.put, List.setIfInBounds_toArray, List.set_cons_zero, List.set_cons_succ, i64_w, i32_w]
                  rfl
                refine last_ (i := 8) (N := some 54) #[true, true, true, true, true, true, true, true, true, false] rfl rfl (by kernel_rfl) (by decide) (fun K hK => ?_)
                refine goes_ Try.func56 (by kernel_rfl) rfl #[.slice d.A d.l.length d.c, .int .i64 x] (by rfl) rfl rfl (by simp only [List.map_toArray, List.map_cons, List.map_nil]; rfl) ?_
                with_reducible refine (CI.out _ ?hx).mono ?_
                case hx => exact HDR.out.on (fun _ => rfl)
                rintro e _ ⟨rfl, ⟨m9, rfl⟩⟩
                refine ⟨_, rfl, ?_⟩
                refine hK.out _ _ ?_
                clear hK K
                refine norm_ (a' := ?_) ?_ ?_
                rotate_left
                · show Act.put _ (some 54) _ = _
                  simp only [Act.put, List.setIfInBounds_toArray, List.set_cons_zero, List.set_cons_succ, i64_w, i32_w]
                  rfl
                refine pure_ (i := 9) (N := some 13) (v := ?_) (a' := ?_) #[true, true, true, true, true, true, true, true, true, true] rfl rfl (by kernel_rfl) (fun _ _ _ h => h) (Or.inl ⟨by rfl, ?_⟩) ?_ ?_
                rotate_left
                · intro w'
                  go_simp
                  with_reducible rfl
                rotate_left
                · simp only [Act.put, List.setIfInBounds_toArray, List.set_cons_zero, List.set_cons_succ, i64_w, i32_w]
                  rfl
                refine done_ (by kernel_rfl) ?_
                go_wp2
                go_roundw
                case rel => exact ⟨j + 1, by omega, by rw [CT.out]; first | rfl | go_num, by go_num, by repeat (first | exact Drawn0.refl _ | apply Drawn0.step)⟩
                case measure => simp [intOf]; omega
            · have hltj : ¬ ((j : Int) < (ds.length : Int)) := by omega
              have hce : (ds.map Hd.l).take j = ds.map Hd.l := List.take_of_length_le (by rw [List.length_map]; omega)
              rw [hce]
              obtain ⟨q, hq⟩ : ∃ q, q = cnt (ds.map Hd.l) x := ⟨_, rfl⟩
              rw [← hq]
              by_cases hkq : k ≤ (q : Int)
              · have HF := Lib.hid (show ((so_take S (i2 + 1)).filter fun x => decide (k ≤ (cnt (ds.map Hd.l) x : Int))) = ((S.take i2).filter fun x => decide (k ≤ (cnt (ds.map Hd.l) x : Int))) ++ [x] by
                  show ((S.take (i2 + 1)).filter _) = _
                  rw [HSN.out, List.filter_append, List.filter_cons_of_pos (by rw [← hq]; simpa using hkq), List.filter_nil])
                have cx : wr.cell? ⟨g5, o5 + i2, none⟩ = some (.int .i64 x) := cx0
                clear hq hce hcl
                go_wp2_with (first
                  | (at_builtin; refine wpList_append_own _ rfl (.tmp 61) (.tmp 66) 22 rfl W5.heap.size 2 i1 (.int .i64 0) 1 8 Try.underlying22 hi1 hy0 hy1 hy2 rfl (by decide) _ _ _ rfl (World.ownsRow.alloc (show (wr.drewN n9).ownsRow W5.heap.size 2 1 _ _ _ from hown) _) ⟨wr.heap.size, 0, none⟩ 1 1 [.int .i64 x] rfl rfl (cell_one_new _ _ _) (by simp [Value.oneCell']) hml2 (by omega) (by have h5 : (wr.drewN n9).heap.size = wr.heap.size := rfl; rw [World.size_alloc]; omega) ?_; intro v' w6 own6 grow6 _; have HZ := Lib.hid (And.intro (((pw_below_drewN HW.out.1 n9).alloc (by have h5 : (wr.drewN n9).heap.size = wr.heap.size := rfl; omega) _).grown grow6 (by rw [World.size_alloc]; have h5 : (wr.drewN n9).heap.size = wr.heap.size := rfl; omega) (fun j e => (hown.lt _ e).1)) own6); clear own6 grow6)
                  | go_in)
                go_roundw
                case rel => exact ⟨i2 + 1, by omega, by go_num, Lib.hid ⟨HZ.out.1, by have h7 := HF.out; unfold so_take at h7; rw [h7, List.length_append, List.map_append]; exact HZ.out.2⟩⟩
                case measure => simp [intOf]; omega
              · have HF := Lib.hid (show ((so_take S (i2 + 1)).filter fun x => decide (k ≤ (cnt (ds.map Hd.l) x : Int))) = ((S.take i2).filter fun x => decide (k ≤ (cnt (ds.map Hd.l) x : Int))) by
                  show ((S.take (i2 + 1)).filter _) = _
                  rw [HSN.out, List.filter_append, List.filter_cons_of_neg (by rw [← hq]; simpa using hkq), List.filter_nil, List.append_nil])
                clear hq hce hcl
                go_wp2
                go_roundw
                case rel => exact ⟨i2 + 1, by omega, by go_num, Lib.hid ⟨pw_below_drewN HW.out.1 _, by have h7 := HF.out; unfold so_take at h7; rw [h7]; exact hown⟩⟩
                case measure => simp [intOf]; omega
        · have hlt2 : ¬ ((i2 : Int) < (S.length : Int)) := by omega
          obtain rfl : i2 = S.length := by omega
          go_wp2
          go_ret
          have h1 := HW.out.2
          rw [List.take_of_length_le (Nat.le_refl _), ← HAT.out] at h1
          obtain ⟨g, B, cc, e, h2, h3⟩ := row_of_own h1
          have h4 := HB5.out.size
          exact ⟨g, B, cc, by rw [← e]; rfl, h2, fun hp => ⟨by have := (h3 hp).1; omega, (h3 hp).2⟩, HB5.out.trans (HW.out.1.mono h4)⟩
end Go.Proofs.Ytnflokhffmfifaa.CountV
namespace Go.Proofs.Ytnflokhffmfifaa.CountV
open Go.RowKit Go.Proofs.Ytnflokhffmfifaa.CountW Go.Proofs.Ytnflokhffmfifaa.InEw Go.Proofs.Ytnflokhffmfifaa.Blk Go.Proofs.Ytnflokhffmfifaa.Ris Go.Proofs.Ytnflokhffmfifaa.Cur Go.Proofs.Ytnflokhffmfifaa.OfW Go.Proofs.Ytnflokhffmfifaa.HeapPure Go.Proofs.Ytnflokhffmfifaa.HeapW Go.Proofs.Ytnflokhffmfifaa.CountPure Go.Proofs.Ytnflokhffmfifaa.PostAlg Go.Proofs.YtnflokhffmfifaaW.PrintWords Go.Proofs.YtnflokhffmfifaaW.PrintLast Go.Proofs.YtnflokhffmfifaaW.PrintMore
theorem rmeet_as (w : World) (c : Nat) (L : Option Addr) (Es : List Hd) (h : Heads w L Es) (hb : bulk Es ≤ 4194304) (hm : Es.length ≤ 4194304) : Calls Try.prog 36 #[.slice L Es.length c] w (Got w (meet ltI (Es.map Hd.l))) := by
  have H := Lib.hid (ratleast_as w (Es.length : Int) c L Es h hb hm)
  unfold meet
  rw [List.length_map]
  clear h hb
  by_cases hz : Es.length = 0
  · rw [if_pos hz]
    have hz' : ((Es.length : Int) == 0) = true := by rw [hz]; rfl
    have HZ := Lib.hid hz
    clear hz H
    go_enter Try.func36, Try.ntmps36
    go_wp2
    go_ret
    exact ⟨0, none, 0, rfl, ⟨Nat.le_refl _, fun hp => absurd hp (by simp)⟩, fun hp => absurd hp (by simp), by repeat (first | exact Below.refl _ _ | apply below_alloc | apply pw_below_drewN | apply below_drew1)⟩
  · rw [if_neg hz]
    have hz' : ((Es.length : Int) == 0) = false := beq_eq_false_iff_ne.mpr (by omega)
    generalize atLeast ltI (Es.length : Int) (Es.map Hd.l) = r at H ⊢
    unfold Got at H
    clear hz
    go_enter Try.func36, Try.ntmps36
    go_wp2_with (first | (go_at_call 25; ((with_reducible refine H.out.mono ?_); rintro e w' ⟨g, B, cc, rfl, q1, q2, q3⟩; have HQ := Lib.hid (And.intro q1 (And.intro q2 q3)); clear q1 q2 q3)) | go_in)
    go_ret
    exact ⟨g, B, cc, rfl, HQ.out.1, HQ.out.2.1, HQ.out.2.2⟩
set_option maxHeartbeats 2000000 in
set_option maxRecDepth 100000 in
theorem rrising_as (w : World) (g : Nat) (A : Option Addr) (c : Nat) (l : List Int) (h : Row w g A c l) (hn : l.length ≤ 4194304) : Calls Try.prog 35 #[.slice A l.length c] w fun e w' => e = .returned (.bool (risB ltI l)) ∧ Below w.heap.size w w' := by
  have SO := rsorted_as w g A c l h hn
  have hrs : risB ltI l = decide (setL ltI l = l) := risB_setL totI l
  generalize setL ltI l = S at SO hrs
  have H1 := Lib.hid SO
  have HR := Lib.hid h
  have HX := Lib.hid hrs
  clear SO h hrs
  by_cases hl : S.length = l.length
  · have hne : ((S.length : Int) != (l.length : Int)) = false := by rw [hl]; exact bne_self_eq_false _
    have HL := Lib.hid hl
    clear hl
    go_enter Try.func35, Try.ntmps35
    go_wp2_with (first | (go_at_call 33; ((with_reducible refine H1.out.mono ?_); rintro e W1 ⟨g1, B1, c1, rfl, q1, q2, q3⟩; have HS := Lib.hid (And.intro q1 q3); clear q1 q2 q3)) | go_in)
    go_loopw [4] (fun v wr => ∃ i : Nat, i ≤ l.length ∧ v = .int .i64 (i : Nat) ∧ Hid (Drawn0 W1 wr ∧ ∀ j, j < i → S.getD j 0 = l.getD j 0)) (fun v _ => l.length - (intOf v).toNat)
    case atStart => exact ⟨0, Nat.zero_le _, rfl, Lib.hid ⟨Drawn0.refl _, fun j hj => by omega⟩⟩
    case round =>
      obtain ⟨i, hi, rfl, HW⟩ := hrel
      obtain ⟨n, rfl⟩ := HW.out.1
      by_cases hin : i < l.length
      · have hlt : (i : Int) < (l.length : Int) := by omega
        have hlt2 : (i : Int) < (S.length : Int) := by have := HL.out; omega
        obtain ⟨o, rfl, hc⟩ := HR.out.at_ (by omega)
        have cx := (HS.out.2.cell (p := ⟨g, o + i, none⟩) (World.block_lt_of_cell? w _ (hc i hin))).trans (hc i hin)
        obtain ⟨o1, rfl, hc1⟩ := HS.out.1.at_ (by omega)
        have cy := hc1 i (by omega)
        clear hc hc1
        generalize hx : l.getD i 0 = x at cx
        generalize hy : S.getD i 0 = y at cy
        have HXY := Lib.hid (And.intro hx hy)
        clear hx hy
        by_cases t : y = x
        · have td : (y != x) = false := by rw [t]; exact bne_self_eq_false _
          have HT := Lib.hid t
          clear t
          go_wp2
          repeat (go_quiet (fail); try go_wp2)
          go_roundw
          case rel => exact ⟨i + 1, by omega, by go_num, Lib.hid ⟨by repeat (first | exact Drawn0.refl _ | apply Drawn0.step), fun j hj => by
            by_cases e : j = i
            · subst e; rw [HXY.out.1, HXY.out.2]; exact HT.out
            · exact HW.out.2 j (by omega)⟩⟩
          case measure => simp [intOf]; omega
        · have td : (y != x) = true := bne_iff_ne.mpr t
          have HF : Hid (risB ltI l = false) := Lib.hid (by
            rw [HX.out]
            refine decide_eq_false (fun e => t ?_)
            rw [← HXY.out.2, ← HXY.out.1, e])
          clear t
          go_wp2
          repeat (go_quiet (fail); try go_wp2)
          go_ret
          exact ⟨by rw [HF.out]; rfl, by repeat (first | exact HS.out.2 | apply pw_below_drewN | apply below_drew1)⟩
      · have hlt : ¬ ((i : Int) < (l.length : Int)) := by omega
        have HT : Hid (risB ltI l = true) := Lib.hid (by
          rw [HX.out]
          refine decide_eq_true (List.ext_getElem HL.out (fun j h1 h2 => ?_))
          rw [gI, gI]
          exact HW.out.2 j (by omega))
        go_wp2
        go_ret
        exact ⟨by rw [HT.out]; rfl, by repeat (first | exact HS.out.2 | apply pw_below_drewN | apply below_drew1)⟩
  · have hne : ((S.length : Int) != (l.length : Int)) = true := bne_iff_ne.mpr (by omega)
    have HF : Hid (risB ltI l = false) := Lib.hid (by rw [HX.out]; exact decide_eq_false (fun e => hl (by rw [e])))
    clear hl
    go_enter Try.func35, Try.ntmps35
    go_wp2_with (first | (go_at_call 33; ((with_reducible refine H1.out.mono ?_); rintro e W1 ⟨g1, B1, c1, rfl, q1, q2, q3⟩; have HS := Lib.hid q3; clear q1 q2 q3)) | go_in)
    go_ret
    exact ⟨by rw [HF.out]; rfl, HS.out⟩
set_option maxHeartbeats 2000000 in
set_option maxRecDepth 100000 in
theorem rminus_as (w : World) (ga gb ca cb : Nat) (A B : Option Addr) (a b : List Int) (ha : Row w ga A ca a) (hb : Row w gb B cb b) (la : a.length ≤ 4194304) (lb : b.length ≤ 4194304) : Calls Try.prog 38 #[.slice A a.length ca, .slice B b.length cb] w (Got w (minus ltI a b)) := by
  obtain ⟨i1, hi1, hy0, hy1, hy2⟩ := info_parts Cur.info2
  have H1 := Lib.hid (rsorted_as w ga A ca a ha la)
  have H2 := Lib.hid (fun W (hW : Row W gb B cb b) => rsorted_as W gb B cb b hW lb)
  have HB := Lib.hid hb
  have hmi : minus ltI a b = (setL ltI a).filter fun x => decide (x ∉ setL ltI b) := by
    unfold minus
    exact List.filter_congr (fun x _ => decide_eq_decide.2 (not_congr (mem_setL totI x b).symm))
  have hrb := ris_setL totI b
  have hla : (setL ltI a).length ≤ 4194304 := Nat.le_trans (setL_len totI a) la
  have hlb : (setL ltI b).length ≤ 4194304 := Nat.le_trans (setL_len totI b) lb
  generalize setL ltI a = s at H1 hmi hla
  generalize setL ltI b = u at H2 hmi hrb hlb
  have HMI := Lib.hid hmi
  have HRB := Lib.hid hrb
  clear ha hb hmi hrb
  go_enter Try.func38, Try.ntmps38
  go_wp2_with (first
    | (go_at_call 33; (first
      | ((with_reducible refine H1.out.mono ?_); rintro e W1 ⟨g1, B1, c1, rfl, q1, q2, q3⟩; have HS1 := Lib.hid (And.intro q1 q3); clear q1 q2 q3)
      | ((with_reducible refine (H2.out W1 (HB.out.on (fun hp => HS1.out.2.block _ (Row.lt HB.out hp)))).mono ?_); rintro e W2 ⟨g2, B2, c2, rfl, q1, q2, q3⟩; have HS2 := Lib.hid (And.intro (HS1.out.1.on (fun hp => q3.block _ (Row.lt HS1.out.1 hp))) (And.intro q1 (HS1.out.2.trans (q3.mono HS1.out.2.size)))); clear q1 q2 q3)))
    | go_in)
  have HZ0 : Hid (Below W2.heap.size W2 W2 ∧ W2.ownsRow W2.heap.size 2 1 (.slice none 0 0) ((s.take 0).filter fun x => decide (x ∉ u)).length (((s.take 0).filter fun x => decide (x ∉ u)).map (Value.int .i64))) := Lib.hid ⟨Below.refl _ _, World.ownsRow_nil _ _ _ _⟩
  clear H1 H2 HB HS1
  go_loopw [7, 8] (fun v9 v10 w2 => ∃ i2 : Nat, i2 ≤ s.length ∧ v10 = .int .i64 (i2 : Nat) ∧ Hid (Below W2.heap.size W2 w2 ∧ w2.ownsRow W2.heap.size 2 1 v9 ((s.take i2).filter fun x => decide (x ∉ u)).length (((s.take i2).filter fun x => decide (x ∉ u)).map (Value.int .i64)))) (fun _ v _ => s.length - (intOf v).toNat)
  case atStart => exact ⟨0, Nat.zero_le _, rfl, HZ0⟩
  case round =>
    clear HZ0
    obtain ⟨i2, hi2, rfl, HW⟩ := hrel
    by_cases hin2 : i2 < s.length
    · have hlt2 : (i2 : Int) < (s.length : Int) := by omega
      obtain ⟨o5, rfl, hc5⟩ := HS2.out.1.at_ (by omega)
      have cx := (HW.out.1.cell (p := ⟨g1, o5 + i2, none⟩) (World.block_lt_of_cell? W2 _ (hc5 i2 hin2))).trans (hc5 i2 hin2)
      have hsn := take_snoc' s hin2
      have hfl2 : ((s.take i2).filter fun x => decide (x ∉ u)).length ≤ i2 := Nat.le_trans (List.length_filter_le _ _) (by rw [List.length_take]; omega)
      have hml2 : ((s.take i2).filter fun x => decide (x ∉ u)).length + 1 ≤ maxLen := by simp only [maxLen]; omega
      have hsz5 := HW.out.1.size
      have hown := HW.out.2
      generalize s.getD i2 0 = x at cx hsn
      have HSN := Lib.hid hsn
      clear hc5 hsn
      have CI := rin_as wr g2 B2 c2 u x (HS2.out.2.1.on (fun hp => HW.out.1.block _ (Row.lt HS2.out.2.1 hp))) HRB.out hlb
      by_cases hxu : x ∈ u
      · rw [decide_eq_true hxu] at CI
        have C1 := Lib.hid CI
        have HF := Lib.hid (show ((so_take s (i2 + 1)).filter fun x => decide (x ∉ u)) = ((s.take i2).filter fun x => decide (x ∉ u)) by
          show ((s.take (i2 + 1)).filter _) = _
          rw [HSN.out, List.filter_append, List.filter_cons_of_neg (by simpa using hxu), List.filter_nil, List.append_nil])
        clear CI hxu
        go_wp2_with (first | (go_at_call 56; ((with_reducible refine C1.out.mono ?_); rintro e _ ⟨rfl, ⟨n9, rfl⟩⟩)) | go_in)
        go_roundw
        case rel => exact ⟨i2 + 1, by omega, by go_num, Lib.hid ⟨pw_below_drewN HW.out.1 _, by have h7 := HF.out; unfold so_take at h7; rw [h7]; exact hown⟩⟩
        case measure => simp [intOf]; omega
      · rw [decide_eq_false hxu] at CI
        have C1 := Lib.hid CI
        have HF := Lib.hid (show ((so_take s (i2 + 1)).filter fun x => decide (x ∉ u)) = ((s.take i2).filter fun x => decide (x ∉ u)) ++ [x] by
          show ((s.take (i2 + 1)).filter _) = _
          rw [HSN.out, List.filter_append, List.filter_cons_of_pos (by simpa using hxu), List.filter_nil])
        clear CI hxu
        go_wp2_with (first
          | (go_at_call 56; ((with_reducible refine C1.out.mono ?_); rintro e _ ⟨rfl, ⟨n9, rfl⟩⟩))
          | (at_builtin; refine wpList_append_own _ rfl (.tmp 28) (.tmp 33) 22 rfl W2.heap.size 2 i1 (.int .i64 0) 1 8 Try.underlying22 hi1 hy0 hy1 hy2 rfl (by decide) _ _ _ rfl (World.ownsRow.alloc (show (wr.drewN n9).ownsRow W2.heap.size 2 1 _ _ _ from hown) _) ⟨wr.heap.size, 0, none⟩ 1 1 [.int .i64 x] rfl rfl (cell_one_new _ _ _) (by simp [Value.oneCell']) hml2 (by omega) (by have h5 : (wr.drewN n9).heap.size = wr.heap.size := rfl; rw [World.size_alloc]; omega) ?_; intro v' w6 own6 grow6 _; have HZ := Lib.hid (And.intro (((pw_below_drewN HW.out.1 n9).alloc (by have h5 : (wr.drewN n9).heap.size = wr.heap.size := rfl; omega) _).grown grow6 (by rw [World.size_alloc]; have h5 : (wr.drewN n9).heap.size = wr.heap.size := rfl; omega) (fun j e => (hown.lt _ e).1)) own6); clear own6 grow6)
          | go_in)
        go_roundw
        case rel => exact ⟨i2 + 1, by omega, by go_num, Lib.hid ⟨HZ.out.1, by have h7 := HF.out; unfold so_take at h7; rw [h7, List.length_append, List.map_append]; exact HZ.out.2⟩⟩
        case measure => simp [intOf]; omega
    · have hlt2 : ¬ ((i2 : Int) < (s.length : Int)) := by omega
      obtain rfl : i2 = s.length := by omega
      go_wp2
      go_ret
      have h1 := HW.out.2
      rw [List.take_of_length_le (Nat.le_refl _), ← HMI.out] at h1
      obtain ⟨g, B, cc, e, h2, h3⟩ := row_of_own h1
      have h4 := HS2.out.2.2.size
      exact ⟨g, B, cc, by rw [← e]; rfl, h2, fun hp => ⟨by have := (h3 hp).1; omega, (h3 hp).2⟩, HS2.out.2.2.trans (HW.out.1.mono h4)⟩
end Go.Proofs.Ytnflokhffmfifaa.CountV
namespace Go.Proofs.Ytnflokhffmfifaa.KeptW
open Go.RowKit Go.Proofs.Ytnflokhffmfifaa.Blk Go.Proofs.Ytnflokhffmfifaa.Ris Go.Proofs.Ytnflokhffmfifaa.Cur Go.Proofs.Ytnflokhffmfifaa.OfW Go.Proofs.Ytnflokhffmfifaa.HeapPure Go.Proofs.Ytnflokhffmfifaa.HeapW Go.Proofs.Ytnflokhffmfifaa.CountW Go.Proofs.Ytnflokhffmfifaa.PostAlg Go.Proofs.YtnflokhffmfifaaW.PrintWords Go.Proofs.YtnflokhffmfifaaW.PrintLast Go.Proofs.YtnflokhffmfifaaW.PrintMore
theorem rowV {V W : World} {g c : Nat} {A : Option Addr} {l : List Int} (h : Row V g A c l) (hb : Below V.heap.size V W) : Row W g A c l := h.on (fun hp => hb.block _ (Row.lt h hp))
/-- Headers in a block. -/
theorem heads_at {W : World} {b : Nat} {vs : List Value} {ds : List Hd} (hat : At W b vs 22) (hv : ds.map Hd.v = vs) (hr : ∀ d ∈ ds, Row W d.g d.A d.c d.l) : Heads W (some ⟨b, 0, none⟩) ds := by
  refine ⟨fun k hk => ⟨b, 0, rfl, ?_⟩, hr⟩
  rw [Nat.zero_add, hat.cell k, ← hv, List.getElem?_map, List.getElem?_eq_getElem hk]
  simp [List.getD_eq_getElem?_getD, List.getElem?_eq_getElem hk]
section
variable (V W : World) (b ga ca gb cb : Nat) (Aa Ab : Option Addr) (la lb : List Int) (hB : Below V.heap.size V W) (ha : Row V ga Aa ca la) (hb : Row V gb Ab cb lb) (hla : la.length ≤ 1048576) (hlb : lb.length ≤ 1048576)
include hB ha hb hla hlb
theorem heads3 (hat : At W b [.slice Aa la.length ca, .slice Ab lb.length cb, .slice Aa la.length ca] 22) : Heads W (some ⟨b, 0, none⟩) [⟨Aa, ca, ga, la⟩, ⟨Ab, cb, gb, lb⟩, ⟨Aa, ca, ga, la⟩] := heads_at hat rfl (fun d hd => by
  have hd : d = ⟨Aa, ca, ga, la⟩ ∨ d = ⟨Ab, cb, gb, lb⟩ ∨ d = ⟨Aa, ca, ga, la⟩ := by simpa using hd
  rcases hd with rfl | rfl | rfl
  · exact rowV ha hB
  · exact rowV hb hB
  · exact rowV ha hB)
theorem heads2 (hat : At W b [.slice Aa la.length ca, .slice Ab lb.length cb] 22) : Heads W (some ⟨b, 0, none⟩) [⟨Aa, ca, ga, la⟩, ⟨Ab, cb, gb, lb⟩] := heads_at hat rfl (fun d hd => by
  have hd : d = ⟨Aa, ca, ga, la⟩ ∨ d = ⟨Ab, cb, gb, lb⟩ := by simpa using hd
  rcases hd with rfl | rfl
  · exact rowV ha hB
  · exact rowV hb hB)
theorem bulk3 : bulk [⟨Aa, ca, ga, la⟩, ⟨Ab, cb, gb, lb⟩, ⟨Aa, ca, ga, la⟩] ≤ 4194304 := by simp only [bulk_cons]; have : bulk [] = 0 := rfl; show la.length + (lb.length + (la.length + bulk [])) ≤ _; omega
theorem bulk2 : bulk [⟨Aa, ca, ga, la⟩, ⟨Ab, cb, gb, lb⟩] ≤ 4194304 := by simp only [bulk_cons]; have : bulk [] = 0 := rfl; show la.length + (lb.length + bulk []) ≤ _; omega
theorem al3 (k : Int) : (atLeast ltI k [la, lb, la]).length ≤ 16777216 := by
  have := al_len k [⟨Aa, ca, ga, la⟩, ⟨Ab, cb, gb, lb⟩, ⟨Aa, ca, ga, la⟩]
  have := bulk3 V W ga ca gb cb Aa Ab la lb hB ha hb hla hlb
  simp only [List.map_cons, List.map_nil] at *
  omega
theorem len2 (k : Int) : (atLeast ltI k [la, lb]).length ≤ 16777216 := by
  have := al_len k [⟨Aa, ca, ga, la⟩, ⟨Ab, cb, gb, lb⟩]
  have := bulk2 V W ga ca gb cb Aa Ab la lb hB ha hb hla hlb
  simp only [List.map_cons, List.map_nil] at *
  omega
theorem len2m : (meet ltI [la, lb]).length ≤ 16777216 := by
  have := meet_len [⟨Aa, ca, ga, la⟩, ⟨Ab, cb, gb, lb⟩]
  have := bulk2 V W ga ca gb cb Aa Ab la lb hB ha hb hla hlb
  simp only [List.map_cons, List.map_nil] at *
  omega
theorem c3_atleast (k : Int) (hat : At W b [.slice Aa la.length ca, .slice Ab lb.length cb, .slice Aa la.length ca] 22) : Calls Try.prog 28 #[.int .i64 k, .slice (some ⟨b, 0, none⟩) 3 3] W (GotM W (atLeast ltI k [la, lb, la])) :=
  atleast_m W k 3 _ _ (heads3 V W b ga ca gb cb Aa Ab la lb hB ha hb hla hlb hat) (by have := bulk3 V W ga ca gb cb Aa Ab la lb hB ha hb hla hlb; omega) (fun d hd => by
    have hd : d = ⟨Aa, ca, ga, la⟩ ∨ d = ⟨Ab, cb, gb, lb⟩ ∨ d = ⟨Aa, ca, ga, la⟩ := by simpa using hd
    rcases hd with rfl | rfl | rfl <;> assumption) (by simp)
theorem two_small (d : Hd) (hd : d ∈ ([⟨Aa, ca, ga, la⟩, ⟨Ab, cb, gb, lb⟩] : List Hd)) : d.l.length ≤ 1048576 := by
  have hd : d = ⟨Aa, ca, ga, la⟩ ∨ d = ⟨Ab, cb, gb, lb⟩ := by simpa using hd
  rcases hd with rfl | rfl <;> assumption
theorem c2_meet (hat : At W b [.slice Aa la.length ca, .slice Ab lb.length cb] 22) : Calls Try.prog 31 #[.slice (some ⟨b, 0, none⟩) 2 2] W (GotM W (meet ltI [la, lb])) :=
  meet_m W 2 _ _ (heads2 V W b ga ca gb cb Aa Ab la lb hB ha hb hla hlb hat) (by have := bulk2 V W ga ca gb cb Aa Ab la lb hB ha hb hla hlb; omega) (two_small V W ga ca gb cb Aa Ab la lb hB ha hb hla hlb) (by simp)
theorem c2_union (hat : At W b [.slice Aa la.length ca, .slice Ab lb.length cb] 22) : Calls Try.prog 30 #[.slice (some ⟨b, 0, none⟩) 2 2] W (GotM W (union ltI [la, lb])) :=
  union_m W 2 _ _ (heads2 V W b ga ca gb cb Aa Ab la lb hB ha hb hla hlb hat) (by have := bulk2 V W ga ca gb cb Aa Ab la lb hB ha hb hla hlb; omega) (two_small V W ga ca gb cb Aa Ab la lb hB ha hb hla hlb) (by simp)
theorem c2_minus : Calls Try.prog 37 #[.slice Aa la.length ca, .slice Ab lb.length cb] W (GotM W (minus ltI la lb)) := minus_m W ga gb ca cb Aa Ab la lb (rowV ha hB) (rowV hb hB) hla hlb
theorem r3_atleast (k : Int) (hat : At W b [.slice Aa la.length ca, .slice Ab lb.length cb, .slice Aa la.length ca] 22) : Calls Try.prog 25 #[.int .i64 k, .slice (some ⟨b, 0, none⟩) 3 3] W (Got W (atLeast ltI k [la, lb, la])) :=
  CountV.ratleast_as W k 3 _ _ (heads3 V W b ga ca gb cb Aa Ab la lb hB ha hb hla hlb hat) (bulk3 V W ga ca gb cb Aa Ab la lb hB ha hb hla hlb) (by simp)
theorem r2_union (hat : At W b [.slice Aa la.length ca, .slice Ab lb.length cb] 22) : Calls Try.prog 25 #[.int .i64 1, .slice (some ⟨b, 0, none⟩) 2 2] W (Got W (union ltI [la, lb])) :=
  CountV.ratleast_as W 1 2 _ _ (heads2 V W b ga ca gb cb Aa Ab la lb hB ha hb hla hlb hat) (bulk2 V W ga ca gb cb Aa Ab la lb hB ha hb hla hlb) (by simp)
theorem r2_meet (hat : At W b [.slice Aa la.length ca, .slice Ab lb.length cb] 22) : Calls Try.prog 36 #[.slice (some ⟨b, 0, none⟩) 2 2] W (Got W (meet ltI [la, lb])) :=
  CountV.rmeet_as W 2 _ _ (heads2 V W b ga ca gb cb Aa Ab la lb hB ha hb hla hlb hat) (bulk2 V W ga ca gb cb Aa Ab la lb hB ha hb hla hlb) (by simp)
theorem r2_minus : Calls Try.prog 38 #[.slice Aa la.length ca, .slice Ab lb.length cb] W (Got W (minus ltI la lb)) := rminus_as W ga gb ca cb Aa Ab la lb (rowV ha hB) (rowV hb hB) hla hlb
end
/-- The array of ten, two headers by themselves, and the lists made behind V. -/
structure QX (V W : World) (pb : Nat) (pv arr : List Value) (ms : List Md) : Prop where
  made : MkS V W ms
  gt : ∀ i, i < ms.length → V.heap.size < (ms.getD i default).b
  arr : At W V.heap.size arr 69
  pr : At W pb pv 22
theorem QX.start {V W : World} {arr : List Value} (pv : List Value) (hb : Below V.heap.size V W) (ha : At W V.heap.size arr 69) : QX V (W.alloc (.cells pv.toArray 22)) W.heap.size pv arr [] :=
  ⟨⟨fun i h => by simp at h, fun i h => by simp at h, fun i j _ h => by simp at h, below_alloc hb _⟩, fun i h => by simp at h, ha.alloc _, At.fresh W pv 22⟩
theorem QX.on {V W W' : World} {pb : Nat} {pv arr : List Value} {ms : List Md} (h : QX V W pb pv arr ms) (hb : Below W.heap.size W W') : QX V W' pb pv arr ms :=
  ⟨h.made.on hb, h.gt, (hb.block _ h.arr.lt).trans h.arr, (hb.block _ h.pr.lt).trans h.pr⟩
theorem QX.add {V W Wl W' : World} {pb g c : Nat} {B : Option Addr} {l : List Int} {pv arr : List Value} {ms : List Md} (h : QX V W pb pv arr ms) (hb : Below W.heap.size W Wl) (hm : Mine W' Wl.heap.size g B c l) (hb2 : Below Wl.heap.size Wl W') : QX V W' pb pv arr (ms ++ [⟨Wl.heap.size, g, B, c, l⟩]) := by
  have h2 := (h.on hb).on hb2
  have hl := h.arr.lt
  have hs := hb.size
  refine ⟨h.made.add (hb.trans (hb2.mono hb.size)) ⟨Wl.heap.size, g, B, c, l⟩ hm hb.size, fun i hi => ?_, h2.arr, h2.pr⟩
  rw [List.length_append, List.length_singleton] at hi
  rcases Nat.lt_or_ge i ms.length with h3 | h3
  · rw [show (ms ++ [(⟨Wl.heap.size, g, B, c, l⟩ : Md)]).getD i default = ms.getD i default by simp only [List.getD_eq_getElem?_getD]; rw [List.getElem?_append_left h3]]
    exact h.gt i h3
  · rw [show i = ms.length by omega, show (ms ++ [(⟨Wl.heap.size, g, B, c, l⟩ : Md)]).getD ms.length default = ⟨Wl.heap.size, g, B, c, l⟩ by simp [List.getD_eq_getElem?_getD]]
    show V.heap.size < Wl.heap.size
    omega
theorem QX.cell {V W : World} {pb : Nat} {pv arr : List Value} {ms : List Md} (h : QX V W pb pv arr ms) (k : Nat) (v : Value) (hk : arr[k]? = some v) : W.cell? ⟨V.heap.size, k, none⟩ = some v ∧ W.frozen? ⟨V.heap.size, k, none⟩ = false := ⟨h.arr.get k v hk, h.arr.free k⟩
theorem QX.put {V W : World} {pb : Nat} {pv arr : List Value} {ms : List Md} (h : QX V W pb pv arr ms) (k : Nat) (u : Value) : QX V (W.setCell ⟨V.heap.size, k, none⟩ u) pb pv (arr.set k u) ms := by
  have hg : W.grownBy (W.setCell ⟨V.heap.size, k, none⟩ u) (some V.heap.size) := grown_set (grown_refl W _) k u
  have hne : pb ≠ V.heap.size := fun e => by
    have h1 := h.arr
    have h2 := h.pr
    unfold At at h1 h2
    rw [e, h1] at h2
    injection h2 with h2
    injection h2 with _ h2
    cases h2
  refine ⟨⟨h.made.low, fun i hi => mine_grown (h.made.mine i hi) hg (fun q hq e => ?_), h.made.lt, h.made.below.grown hg h.made.below.size (fun q e => by cases e; exact Nat.le_refl _)⟩, h.gt, h.arr.set k u, h.pr.other _ u hne⟩
  have h1 := (mine_blk (h.made.mine i hi) q hq).1
  have h2 := h.gt i hi
  cases e
  omega
/-- Two headers in a block, as a row of the book's kind. -/
theorem book_src {W : World} {b : Nat} {e1 e2 : Bk} (hat : At W b [e1.v, e2.v] 22) : Kd.C kB W (some ⟨b, 0, none⟩) 2 [e1, e2] := by
  refine Kd.C_of_reads (enc := Bk.v) (d := ⟨none, 0, 0⟩) (h1 := fun _ => rfl) ⟨rfl, by omega, fun hp => ⟨_, rfl, fun i hi => ?_⟩⟩
  rw [add_off, Nat.zero_add, hat.cell i]
  rcases (show i = 0 ∨ i = 1 by omega) with rfl | rfl <;> rfl
/-- The lists made in two goes. -/
theorem MkS.join {W0 W W' : World} {a b : List Md} (h1 : MkS W0 W a) (h2 : MkS W W' b) : MkS W0 W' (a ++ b) := by
  have hl : ∀ i, i < a.length → (a ++ b).getD i default = a.getD i default := fun i hi => by simp only [List.getD_eq_getElem?_getD]; rw [List.getElem?_append_left hi]
  have hr : ∀ i, a.length ≤ i → (a ++ b).getD i default = b.getD (i - a.length) default := fun i hi => by simp only [List.getD_eq_getElem?_getD]; rw [List.getElem?_append_right hi]
  have ho := h1.on h2.below
  have hs := h1.below.size
  refine ⟨fun i hi => ?_, fun i hi => ?_, fun i j hij hj q hq => ?_, ho.below⟩
  · rw [List.length_append] at hi
    rcases Nat.lt_or_ge i a.length with h3 | h3
    · rw [hl i h3]; exact h1.low i h3
    · rw [hr i h3]; have := h2.low (i - a.length) (by omega); omega
  · rw [List.length_append] at hi
    rcases Nat.lt_or_ge i a.length with h3 | h3
    · rw [hl i h3]; exact ho.mine i h3
    · rw [hr i h3]; exact h2.mine (i - a.length) (by omega)
  · rw [List.length_append] at hj
    rcases Nat.lt_or_ge j a.length with h3 | h3
    · rw [hl i (by omega)] at hq
      rw [hl j h3]; exact h1.lt i j hij h3 q hq
    · rw [hr j h3]
      rcases Nat.lt_or_ge i a.length with h4 | h4
      · rw [hl i h4] at hq
        have h5 := (mine_blk (h1.mine i h4) q hq).2.1
        have := h2.low (j - a.length) (by omega)
        omega
      · rw [hr i h4] at hq
        exact h2.lt (i - a.length) (j - a.length) (by omega) (by omega) q hq
end Go.Proofs.Ytnflokhffmfifaa.KeptW
namespace Go.Proofs.Ytnflokhffmfifaa.KeptW
open Go.RowKit Go.Proofs.Ytnflokhffmfifaa.Blk Go.Proofs.Ytnflokhffmfifaa.Ris Go.Proofs.Ytnflokhffmfifaa.Cur Go.Proofs.Ytnflokhffmfifaa.OfW Go.Proofs.Ytnflokhffmfifaa.HeapPure Go.Proofs.Ytnflokhffmfifaa.HeapW Go.Proofs.Ytnflokhffmfifaa.CountW Go.Proofs.Ytnflokhffmfifaa.PostAlg Go.Proofs.YtnflokhffmfifaaW.PrintWords Go.Proofs.YtnflokhffmfifaaW.PrintLast Go.Proofs.YtnflokhffmfifaaW.PrintMore
/-- What stands from the headers' world on: the lists that came in, one's own, the headers held. -/
structure KK (w : World) (B0 : Nat) (L L1 L2 : Option Addr) (Es Ds : List Hd) (W : World) : Prop where
  hE : Heads W L Es
  h1 : Heads W L1 Ds
  h2 : Heads W L2 Ds
  sp : ∀ d ∈ Ds, Spare B0 W d
  below : Below w.heap.size w W
theorem KK.on {w W W' : World} {B0 : Nat} {L L1 L2 : Option Addr} {Es Ds : List Hd} (h : KK w B0 L L1 L2 Es Ds W) (hb : Below W.heap.size W W') : KK w B0 L L1 L2 Es Ds W' :=
  ⟨h.hE.below hb, h.h1.below hb, h.h2.below hb, fun d hd => (h.sp d hd).on (hb.block _ (h.sp d hd).lt), h.below.trans (hb.mono h.below.size)⟩
/-- The book alone. -/
structure BR (W2 W : World) (v : Value) (bk : List Bk) : Prop where
  below : Below W2.heap.size W2 W
  row : kB.R 22 W W2.heap.size (fun _ => True) v bk
  all : ∀ (i : Nat) e, bk[i]? = some e → AllM W e.A e.n (markOf i) ∧ e.n ≤ 16777217
theorem BR.on {W2 W W' : World} {v : Value} {bk : List Bk} (h : BR W2 W v bk) (hb : Below W.heap.size W W') : BR W2 W' v bk := ⟨h.below.trans (hb.mono h.below.size), Kd.R_below h.row hb, fun i e he => ⟨(h.all i e he).1.below hb, (h.all i e he).2⟩⟩
theorem IR.br {W2 W : World} {mb k : Nat} {ms : List Md} {v : Value} {bk : List Bk} (h : IR W2 W mb ms k v bk) : BR W2 W v bk := ⟨h.below, h.row, h.all⟩
theorem BR.fresh {W2 W W' : World} {mb' : Nat} {ms' : List Md} {v : Value} {bk : List Bk} (h : BR W2 W v bk) (hm : W.heap.size ≤ mb') (harr : At W' mb' (ms'.map Md.v) 69) (hmk : MkS W W' ms') : IR W2 W' mb' ms' 0 v bk := by
  have h2 := h.on hmk.below
  refine ⟨Nat.le_trans h.below.size hm, h2.below, harr, fun i hi => Nat.le_trans h.below.size (hmk.low i hi), fun i _ hi => hmk.mine i hi, hmk.apart, h2.row, h2.all, fun e he hp i _ hi q hq e2 => ?_⟩
  obtain ⟨i', he'⟩ := List.mem_iff_getElem?.1 he
  obtain ⟨g, cs, e3, ha, _⟩ := (h.all i' e he').1 hp
  have h3 := (mine_blk (hmk.mine i hi) q hq).1
  have h4 := hmk.low i hi
  rw [e3] at e2
  injection e2 with e2
  injection e2 with e2
  have := ha.lt
  omega
structure QS (w : World) (B0 : Nat) (L L1 L2 : Option Addr) (Es Ds : List Hd) (W2 : World) (v : Value) (bk : List Bk) (gw : Nat) (Bw : Option Addr) (bw : Nat) (S : List Int) (W0 W : World) (ms : List Md) : Prop where
  kk : KK w B0 L L1 L2 Es Ds W
  br : BR W2 W v bk
  want : Row W gw Bw bw S
  made : MkS W0 W ms
theorem QS.on {w W2 W0 W W' : World} {B0 gw bw : Nat} {L L1 L2 Bw : Option Addr} {Es Ds : List Hd} {v : Value} {bk : List Bk} {S : List Int} {ms : List Md} (h : QS w B0 L L1 L2 Es Ds W2 v bk gw Bw bw S W0 W ms) (hb : Below W.heap.size W W') : QS w B0 L L1 L2 Es Ds W2 v bk gw Bw bw S W0 W' ms := ⟨h.kk.on hb, h.br.on hb, h.want.below hb, h.made.on hb⟩
theorem QS.add {w W2 W0 W Wl W' : World} {B0 gw bw g cc : Nat} {L L1 L2 Bw B : Option Addr} {Es Ds : List Hd} {v : Value} {bk : List Bk} {S l : List Int} {ms : List Md} (h : QS w B0 L L1 L2 Es Ds W2 v bk gw Bw bw S W0 W ms) (hb : Below W.heap.size W Wl) (hm : Mine W' Wl.heap.size g B cc l) (hb2 : Below Wl.heap.size Wl W') : QS w B0 L L1 L2 Es Ds W2 v bk gw Bw bw S W0 W' (ms ++ [⟨Wl.heap.size, g, B, cc, l⟩]) := by
  have h2 := (h.on hb).on hb2
  exact ⟨h2.kk, h2.br, h2.want, h.made.add (hb.trans (hb2.mono hb.size)) ⟨Wl.heap.size, g, B, cc, l⟩ hm hb.size⟩
/-- Each of some made lists is S: its header in the array, its row. -/
theorem made_at {W0 W : World} {ms : List Md} {mb : Nat} {rest : List Value} {S : List Int} (h : MkS W0 W ms) (ha : At W mb (ms.map Md.v ++ rest) 69) (hS : ∀ m ∈ ms, m.l = S) (k : Nat) (hk : k < ms.length) : ∃ g B c, W.cell? ⟨mb, k, none⟩ = some (.slice B S.length c) ∧ Row W g B c S := by
  have hm := h.mine k hk
  have he : ms.getD k default = ms[k] := by rw [List.getD_eq_getElem?_getD, List.getElem?_eq_getElem hk]; rfl
  have hl := hS ms[k] (List.getElem_mem hk)
  rw [he] at hm
  refine ⟨_, _, _, ?_, by rw [← hl]; exact hm.row⟩
  rw [ha.cell k, List.getElem?_append_left (by simpa using hk), List.getElem?_map, List.getElem?_eq_getElem hk, ← hl]
  rfl
theorem at_lit1 (W : World) (o : Obj) (vs : List Value) : At ((W.alloc o).alloc (.cells vs.toArray 22)).drew (W.heap.size + 1) vs 22 := by
  have := At.fresh (W.alloc o) vs 22
  rw [World.size_alloc] at this
  exact this.drew
theorem at_lit2 (W : World) (a : Addr) (u : Value) (vs : List Value) : At ((W.setCell a u).alloc (.cells vs.toArray 22)) W.heap.size vs 22 := by
  have := At.fresh (W.setCell a u) vs 22
  rwa [World.size_setCell] at this
/-- An entry of the book: its header stands in the row. -/
theorem book_at {W : World} {base : Nat} {ok : Nat → Prop} {A : Option Addr} {c : Nat} {bk : List Bk} (h : kB.R 22 W base ok (.slice A bk.length c) bk) {q : Nat} (hq : q < bk.length) : ∃ g, A = some ⟨g, 0, none⟩ ∧ W.cell? ⟨g, q, none⟩ = some (bk.getD q ⟨none, 0, 0⟩).v := by
  obtain ⟨_, inner, own, hr⟩ := h
  rcases own.2 with ⟨e, h0⟩ | ⟨g, cap, cur, e, _, h4, h5, h6, h7, h8⟩
  · injection e with _ e2 _
    omega
  · injection e with e1 e2 e3
    subst e1
    refine ⟨g, rfl, ?_⟩
    rw [Blk.At.cell (cs := cur.toList) (show Blk.At W g cur.toList 22 from h4) q]
    have h9 : (cur.toList.take (bk.length * 1))[q]? = some (bk.getD q ⟨none, 0, 0⟩).v := by
      have h10 : cur.toList.take (bk.length * 1) = inner := h8
      rw [h10]
      have h11 : List.take 1 (List.drop (q * 1) inner) = [(bk.getD q ⟨none, 0, 0⟩).v] := hr.2 q (bk.getD q ⟨none, 0, 0⟩) (by rw [List.getElem?_eq_getElem hq]; simp [List.getD_eq_getElem?_getD, List.getElem?_eq_getElem hq])
      rw [Nat.mul_one] at h11
      have h12 := congrArg (fun z : List Value => z[0]?) h11
      simp only [List.getElem?_cons_zero] at h12
      rw [List.getElem?_take_of_lt (by omega), List.getElem?_drop, Nat.add_zero] at h12
      exact h12
    rwa [List.getElem?_take_of_lt (by omega)] at h9
theorem below_lit {V V' : World} {n : Nat} {o : Obj} (h : Below ((V.drewN n).alloc o).heap.size ((V.drewN n).alloc o) V') : Below V.heap.size V V' :=
  (below_alloc (pw_below_drewN (Below.refl _ _) n) o).trans (h.mono (by rw [World.size_alloc]; exact Nat.le_succ _))
structure Stop (P : Prop) : Prop where
  out : P
set_option maxHeartbeats 8000000 in
set_option maxRecDepth 100000 in
theorem kept_walk (w : World) (c0 : Nat) (L : Option Addr) (Es : List Hd) (h : Heads w L Es) (hb : bulk Es ≤ 1048576) (hm : Es.length ≤ 1048576) :
    Calls Try.prog 9 #[.slice L Es.length c0] w fun e w' => e = .returned (.bool true) ∧ Below w.heap.size w w' := by
  have hdl : ∀ d ∈ Es, d.l.length ≤ 1048576 := fun d hd => Nat.le_trans (bulk_mem d hd) hb
  have HE := Lib.hid h
  have HDL := Lib.hid hdl
  have HBK := Lib.hid hb
  clear h hdl hb
  go_enter Try.func9, Try.ntmps9
  go_wp2_with (first
    | (go_at_call 23; ((with_reducible refine (spared_as _ c0 L Es ?hx HDL.out hm).mono ?_); (case hx => exact HE.out.below (by repeat (first | exact Below.refl _ _ | apply pw_below_drewN | apply below_drew1))); rintro e W1 ⟨L1, c1, Ds, rfl, q1, q2, q3, hb⟩; have hdn : Ds.length = Es.length := (by simpa using congrArg List.length q3); have HDN := Lib.hid hdn; have HM := Lib.hid q3; have HK1 := Lib.hid (And.intro q1 (And.intro q2 hb)); clear q1 q2 q3 hb hdn))
    | (go_at_call 24; ((with_reducible refine (headers_as _ c1 L1 Ds ?hx (by have := HDN.out; omega)).mono ?_); (case hx => exact HK1.out.1); rintro e W2 ⟨L2, c2, rfl, q1, hb⟩; have HK2 : Hid (KK w w.heap.size L L1 L2 Es Ds W2) := Lib.hid ⟨HE.out.below (HK1.out.2.2.trans (hb.mono HK1.out.2.2.size)), HK1.out.1.below hb, q1, fun d hd => (HK1.out.2.1 d hd).on (hb.block _ (HK1.out.2.1 d hd).lt), HK1.out.2.2.trans (hb.mono HK1.out.2.2.size)⟩; clear q1 hb))
    | go_in)
  go_loopw [5, 6, 7, 8, 9, 10, 11, 12, 13, 14, 15, 16, 17] (fun v5 v6 v7 v8 v9 v10 v11 v12 v13 v14 v15 v16 v17 wr => ∃ (i : Nat) (bk : List Bk), i ≤ Es.length ∧ i ≤ 12 ∧ v6 = .int .i64 (i : Nat) ∧ bk.length = 20 * i ∧ Hid (BR W2 wr v5 bk)) (fun _ v6 _ _ _ _ _ _ _ _ _ _ _ _ => Es.length - (intOf v6).toNat)
  case atStart => exact ⟨0, [], Nat.zero_le _, by omega, rfl, rfl, Lib.hid ⟨Below.refl _ _, Kd.R_nil _ _ _ _ _, fun i e he => by simp at he⟩⟩
  case round =>
    obtain ⟨i, bk, hi, hi12, rfl, hbl, HB⟩ := hrel
    have HKK := Lib.hid (HK2.out.on HB.out.below)
    by_cases hin : i < Es.length
    · by_cases hin2 : i < 12
      · have hlt : (i : Int) < (Es.length : Int) := by omega
        have hlt2 : (i : Int) < 12 := by omega
        have hltD : (i : Int) < (Ds.length : Int) := by have := HDN.out; omega
        have hwi : IntKind.i64.wrap ((i : Int) + 1) = ((i + 1 : Nat) : Int) := by rw [IntWalk.i64_in _ (by omega)]; rfl
        obtain ⟨r0, o0, hL0, cE⟩ := HKK.out.hE.head i hin
        obtain ⟨r1, o1, hL1, cD⟩ := HKK.out.h1.head i (by have := HDN.out; omega)
        subst hL0 hL1
        have hmp := maps_get HM.out i
        have hbg := bulk_get Es i
        have hrE := heads_get HKK.out.hE i
        have hrD := heads_get HKK.out.h1 i
        obtain ⟨⟨Ae, ce, ge, le⟩, hEd⟩ : ∃ d, d = Es.getD i default := ⟨_, rfl⟩
        obtain ⟨⟨Aa, ca, ga, la⟩, hDd⟩ : ∃ d, d = Ds.getD i default := ⟨_, rfl⟩
        rw [← hEd] at cE hmp hbg hrE
        rw [← hDd] at cD hmp hrD
        simp only at hmp hbg hrE hrD
        change wr.cell? ⟨r0, o0 + i, none⟩ = some (.slice Ae le.length ce) at cE
        change wr.cell? ⟨r1, o1 + i, none⟩ = some (.slice Aa la.length ca) at cD
        subst hmp
        have hll : la.length ≤ 1048576 := by have := HBK.out; omega
        have HRE := Lib.hid hrE
        have HRD := Lib.hid hrD
        have HBL := Lib.hid hbl
        have HEI := Lib.hid hEd
        clear hEd hDd hrE hrD hbg hbl
        go_wp2_with (first
          | (go_at_call 33; ((with_reducible refine (rsorted_got _ ge Ae ce la HRE.out hll).mono ?_); rintro e V1 ⟨gw, Bw, bw, rfl, q1, _, hb⟩; have HBR1 := Lib.hid (HB.out.on hb); have HQ0 := Lib.hid (QS.mk (HKK.out.on hb) (HB.out.on hb) q1 (MkS.nil V1)); have HA0 := Lib.hid (HRD.out.below hb); have cD1 := (hb.cell (p := ⟨r1, o1 + i, none⟩) (World.block_lt_of_cell? wr _ cD)).trans cD; clear q1 hb))
          | (go_at_call 22; ((with_reducible refine (six_of _ ga ca Aa la HA0.out hll).mono ?_); rintro e V2 ⟨g1, B1, k1, rfl, q1, hb⟩; have HQ1 := Lib.hid (HQ0.out.add (Below.refl _ _) q1 hb); have HA1 := Lib.hid (HA0.out.below hb); clear q1 hb))
          | (go_at_call 30; (first
            | ((with_reducible refine (six_un V2 _ rfl ga ca Aa la HA1.out hll).mono ?_); rintro e V3 ⟨g2, B2, k2, rfl, q1, hb⟩; have HQ2 := Lib.hid (HQ1.out.add (below_alloc (Below.refl _ _) _) q1 hb); have HA2 := Lib.hid ((HA1.out.below (below_alloc (Below.refl _ _) _)).below hb); clear q1 hb)
            | ((with_reducible refine (six_un2 V6 _ rfl ga ca Aa la HA5.out hll).mono ?_); rintro e V7 ⟨g6, B6, k6, rfl, q1, hb⟩; have HQ6 := Lib.hid (HQ5.out.add (below_alloc (Below.refl _ _) _) q1 hb); have HA6 := Lib.hid ((HA5.out.below (below_alloc (Below.refl _ _) _)).below hb); clear q1 hb)))
          | (go_at_call 31; ((with_reducible refine (six_me V3 _ rfl ga ca Aa la HA2.out hll).mono ?_); rintro e V4 ⟨g3, B3, k3, rfl, q1, hb⟩; have HQ3 := Lib.hid (HQ2.out.add (below_alloc (Below.refl _ _) _) q1 hb); have HA3 := Lib.hid ((HA2.out.below (below_alloc (Below.refl _ _) _)).below hb); clear q1 hb))
          | (go_at_call 37; ((with_reducible refine (six_min _ ga ca Aa la HA3.out hll).mono ?_); rintro e V5 ⟨g4, B4, k4, rfl, q1, hb⟩; have HQ4 := Lib.hid (HQ3.out.add (Below.refl _ _) q1 hb); have HA4 := Lib.hid (HA3.out.below hb); clear q1 hb))
          | (go_at_call 28; ((with_reducible refine (six_at V5 _ rfl ga ca Aa la HA4.out hll).mono ?_); rintro e V6 ⟨g5, B5, k5, rfl, q1, hb⟩; have HQ5 := Lib.hid (HQ4.out.add (below_alloc (Below.refl _ _) _) q1 hb); have HA5 := Lib.hid ((HA4.out.below (below_alloc (Below.refl _ _) _)).below hb); clear q1 hb))
          | go_in)
        have HS6 : Hid (At (V7.alloc (.cells #[.slice B1 (setL ltI la).length k1, .slice B2 (setL ltI la).length k2, .slice B3 (setL ltI la).length k3, .slice B4 (setL ltI la).length k4, .slice B5 (setL ltI la).length k5, .slice B6 (setL ltI la).length k6, .slice none 0 0, .slice none 0 0, .slice none 0 0, .slice none 0 0] 69)) V7.heap.size ([.slice B1 (setL ltI la).length k1, .slice B2 (setL ltI la).length k2, .slice B3 (setL ltI la).length k3, .slice B4 (setL ltI la).length k4, .slice B5 (setL ltI la).length k5, .slice B6 (setL ltI la).length k6] ++ [.slice none 0 0, .slice none 0 0, .slice none 0 0, .slice none 0 0]) 69) := Lib.hid (At.fresh V7 _ 69)
        have HQA := Lib.hid (HQ6.out.on (below_alloc (Below.refl _ _) (.cells #[.slice B1 (setL ltI la).length k1, .slice B2 (setL ltI la).length k2, .slice B3 (setL ltI la).length k3, .slice B4 (setL ltI la).length k4, .slice B5 (setL ltI la).length k5, .slice B6 (setL ltI la).length k6, .slice none 0 0, .slice none 0 0, .slice none 0 0, .slice none 0 0] 69)))
        clear HQ0 HQ1 HQ2 HQ3 HQ4 HQ5 HA0 HA1 HA2 HA3 HA4 HA5
        as_aux_lemma =>
          have hSl : (setL ltI la).length ≤ 16777216 := by have := setL_len totI la; omega
          generalize setL ltI la = S at *
          go_loopw [10, 11] (fun v10 v11 wi => ∃ k : Nat, k ≤ 6 ∧ v10 = .int .i64 (k : Nat) ∧ Hid (At wi V7.heap.size ([.slice B1 S.length k1, .slice B2 S.length k2, .slice B3 S.length k3, .slice B4 S.length k4, .slice B5 S.length k5, .slice B6 S.length k6] ++ [.slice none 0 0, .slice none 0 0, .slice none 0 0, .slice none 0 0]) 69) ∧ Hid (QS w w.heap.size (some ⟨r0, o0, none⟩) (some ⟨r1, o1, none⟩) L2 Es Ds W2 u5 bk gw Bw bw S V1 wi _) ∧ Hid (Below V7.heap.size V7 wi)) (fun v10 _ _ => 6 - (intOf v10).toNat)
          case atStart => exact ⟨0, by omega, rfl, HS6, HQA, Lib.hid (below_alloc (Below.refl _ _) _)⟩
          case round =>
            clear HS6 HQA
            obtain ⟨k, hk, rfl, HAr, HQ, HBV⟩ := hrel
            have hwk : IntKind.i64.wrap ((k : Int) + 1) = ((k + 1 : Nat) : Int) := by rw [IntWalk.i64_in _ (by omega)]; rfl
            by_cases hk6 : k < 6
            · have hltk : (k : Int) < 6 := by omega
              have hltk2 : (k : Int) < 10 := by omega
              obtain ⟨gk, Bk_, ck, hck, hrk⟩ := made_at HQ.out.made HAr.out (S := S) (by simp) k (by simpa using hk6)
              have HRK := Lib.hid hrk
              clear hrk
              go_wp2_with (first
                | (go_at_call 29; ((with_reducible refine (same_as _ gk gw ck bw Bk_ Bw S HRK.out HQ.out.want hSl).mono ?_); rintro e _ ⟨rfl, ⟨n1, rfl⟩⟩))
                | go_in)
              go_roundw
              case rel => exact ⟨k + 1, by omega, by go_num, Lib.hid (HAr.out.drewN n1), Lib.hid (HQ.out.on (pw_below_drewN (Below.refl _ _) n1)), Lib.hid (pw_below_drewN HBV.out n1)⟩
              case measure => simp [intOf]; omega
            · have hltk : ¬ (k : Int) < 6 := by omega
              have hdl := HDN.out
              obtain ⟨p, hp⟩ : ∃ p : Nat, p = Ds.length - 1 := ⟨_, rfl⟩
              obtain ⟨j, hj⟩ : ∃ j : Nat, j = p - i := ⟨_, rfl⟩
              have hD1 : IntKind.i64.wrap ((Ds.length : Int) - 1) = (p : Int) := by rw [IntWalk.i64_in _ (by omega)]; omega
              have hE1 : IntKind.i64.wrap ((Es.length : Int) - 1) = (p : Int) := by rw [IntWalk.i64_in _ (by omega)]; omega
              have hD2 : IntKind.i64.wrap ((p : Int) - (i : Int)) = (j : Int) := by rw [IntWalk.i64_in _ (by omega)]; omega
              have hjD : (j : Int) < (Ds.length : Int) := by omega
              have hjE : (j : Int) < (Es.length : Int) := by omega
              have hjn : j < Es.length := by omega
              obtain ⟨r2, o2, hL2, cEj⟩ := HQ.out.kk.hE.head j hjn
              obtain ⟨r3, o3, hL3, cDj⟩ := HQ.out.kk.h1.head j (by omega)
              cases hL2
              cases hL3
              obtain ⟨r4, o4, hL4, cEi⟩ := HQ.out.kk.hE.head i hin
              cases hL4
              rw [← HEI.out] at cEi
              change wr.cell? ⟨r0, o0 + i, none⟩ = some (.slice Ae la.length ce) at cEi
              clear hdl hp hj
              obtain ⟨⟨Af, cf, gf, lf⟩, hEf⟩ : ∃ d, d = Es.getD j default := ⟨_, rfl⟩
              obtain ⟨⟨Ab, cb, gb, lb⟩, hDf⟩ : ∃ d, d = Ds.getD j default := ⟨_, rfl⟩
              have hmp2 := maps_get HM.out j
              have hbg2 := bulk_get Es j
              have hrE2 := heads_get HQ6.out.kk.hE j
              have hrE3 := heads_get HQ6.out.kk.hE i
              rw [← HEI.out] at hrE3
              have hrD2 := heads_get HQ6.out.kk.h1 j
              rw [← hEf] at cEj hmp2 hbg2 hrE2
              rw [← hDf] at cDj hmp2 hrD2
              simp only at hmp2 hbg2 hrE2 hrD2
              change wr.cell? ⟨r0, o0 + j, none⟩ = some (.slice Af lf.length cf) at cEj
              change wr.cell? ⟨r1, o1 + j, none⟩ = some (.slice Ab lb.length cb) at cDj
              subst hmp2
              have hlb : lb.length ≤ 1048576 := by have := HBK.out; omega
              have HAB : Hid (Row V7 ga Aa ca la ∧ Row V7 gb Ab cb lb) := Lib.hid ⟨HA6.out, hrD2⟩
              have HEF : Hid (Row V7 ge Ae ce la ∧ Row V7 gf Af cf lb) := Lib.hid ⟨hrE3, hrE2⟩
              have HX0 := Lib.hid (QX.start [.slice Ae la.length ce, .slice Af lb.length cf] HBV.out HAr.out)
              clear hEf hDf hrE2 hrD2 hrE3 hbg2
              go_wp2
              refine start_ (n := 14) (S := fun w' => w'.cell? ⟨r0, o0 + i, none⟩ = some (.slice Ae la.length ce) ∧ w'.cell? ⟨r0, o0 + j, none⟩ = some (.slice Af lb.length cf)) (ds := [12]) #[false, false, false, false, false, false, false, false, false, false, false, false, false, false] (by kernel_rfl) rfl rfl ⟨cEi, cEj⟩ (fun hHeld => ?_)
              refine pure_ (i := 0) (N := some 82) (v := ?_) (a' := ?_) #[true, false, false, false, false, false, false, false, false, false, false, false, false, false] rfl rfl (by kernel_rfl) (fun _ _ _ h => h) (Or.inl ⟨by rfl, ?_⟩) ?_ ?_
              rotate_left
              · intro w'
                go_simp
                with_reducible rfl
              rotate_left
              · simp only [Act.put, List.setIfInBounds_toArray, List.set_cons_zero, List.set_cons_succ, i64_w, i32_w]
                rfl
              refine pure_ (i := 1) (N := some 83) (v := ?_) (a' := ?_) #[true, true, false, false, false, false, false, false, false, false, false, false, false, false] rfl rfl (by kernel_rfl) (fun _ _ _ h => h) (Or.inl ⟨by rfl, ?_⟩) ?_ ?_
              rotate_left
              · intro w'
                go_simp
                with_reducible rfl
              rotate_left
              · simp only [Act.put, List.setIfInBounds_toArray, List.set_cons_zero, List.set_cons_succ, i64_w, i32_w]
                rfl
              refine pure_ (i := 2) (N := some 84) (v := ?_) (a' := ?_) #[true, true, true, false, false, false, false, false, false, false, false, false, false, false] rfl rfl (by kernel_rfl) (fun _ _ _ h => h) (Or.inl ⟨by rfl, ?_⟩) ?_ ?_
              rotate_left
              · intro w'
                go_simp
                with_reducible rfl
              rotate_left
              · simp only [Act.put, List.setIfInBounds_toArray, List.set_cons_zero, List.set_cons_succ, i64_w, i32_w]
                rfl
              refine pure_ (i := 4) (N := some 86) (v := ?_) (a' := ?_) #[true, true, true, false, true, false, false, false, false, false, false, false, false, false] rfl rfl (by kernel_rfl) (fun _ _ _ h => h) (Or.inl ⟨by rfl, ?_⟩) ?_ ?_
              rotate_left
              · intro w'
                go_simp
                with_reducible rfl
              rotate_left
              · simp only [Act.put, List.setIfInBounds_toArray, List.set_cons_zero, List.set_cons_succ, i64_w, i32_w]
                rfl
              refine pure_ (i := 5) (N := some 87) (v := ?_) (a' := ?_) #[true, true, true, false, true, true, false, false, false, false, false, false, false, false] rfl rfl (by kernel_rfl) (fun _ _ _ h => h) (Or.inl ⟨by rfl, ?_⟩) ?_ ?_
              rotate_left
              · intro w'
                go_simp
                with_reducible rfl
              rotate_left
              · simp only [Act.put, List.setIfInBounds_toArray, List.set_cons_zero, List.set_cons_succ, i64_w, i32_w]
                rfl
              refine pure_ (i := 6) (N := some 88) (v := ?_) (a' := ?_) #[true, true, true, false, true, true, true, false, false, false, false, false, false, false] rfl rfl (by kernel_rfl) (fun _ _ _ h => h) (Or.inl ⟨by rfl, ?_⟩) ?_ ?_
              rotate_left
              · intro w'
                go_simp
                with_reducible rfl
              rotate_left
              · simp only [Act.put, List.setIfInBounds_toArray, List.set_cons_zero, List.set_cons_succ, i64_w, i32_w]
                rfl
              refine pure_ (i := 7) (N := some 89) (v := ?_) (a' := ?_) #[true, true, true, false, true, true, true, true, false, false, false, false, false, false] rfl rfl (by kernel_rfl) (fun _ _ _ h => h) (Or.inl ⟨by rfl, ?_⟩) ?_ ?_
              rotate_left
              · intro w'
                go_simp
                with_reducible rfl
              rotate_left
              · simp only [Act.put, List.setIfInBounds_toArray, List.set_cons_zero, List.set_cons_succ, i64_w, i32_w]
                rfl
              refine pure_ (i := 8) (N := some 90) (v := ?_) (a' := ?_) #[true, true, true, false, true, true, true, true, true, false, false, false, false, false] rfl rfl (by kernel_rfl) (fun _ _ _ h => h) (Or.inl ⟨by rfl, ?_⟩) ?_ ?_
              rotate_left
              · intro w'
                go_simp
                with_reducible rfl
              rotate_left
              · simp only [Act.put, List.setIfInBounds_toArray, List.set_cons_zero, List.set_cons_succ, i64_w, i32_w]
                rfl
              refine pure_ (i := 9) (N := some 91) (v := ?_) (a' := ?_) #[true, true, true, false, true, true, true, true, true, true, false, false, false, false] rfl rfl (by kernel_rfl) (fun _ _ _ h => h) (Or.inl ⟨by rfl, ?_⟩) ?_ ?_
              rotate_left
              · intro w'
                go_simp
                with_reducible rfl
              rotate_left
              · simp only [Act.put, List.setIfInBounds_toArray, List.set_cons_zero, List.set_cons_succ, i64_w, i32_w]
                rfl
              refine pure_ (i := 10) (N := some 92) (v := ?_) (a' := ?_) #[true, true, true, false, true, true, true, true, true, true, true, false, false, false] rfl rfl (by kernel_rfl) (fun _ _ _ h => h) (Or.inl ⟨by rfl, ?_⟩) ?_ ?_
              rotate_left
              · intro w'
                go_simp
                with_reducible rfl
              rotate_left
              · simp only [Act.put, List.setIfInBounds_toArray, List.set_cons_zero, List.set_cons_succ, i64_w, i32_w]
                rfl
              refine take_ (i := 3) (N := some 85) (v := ?_) (a' := ?_) #[true, true, true, true, true, true, true, true, true, true, true, false, false, false] rfl rfl (by kernel_rfl) (fun _ _ _ h => h) (Or.inl ⟨by rfl, ?_⟩) hHeld ?_ ?_
              rotate_left
              · rintro w' ⟨s0, s1⟩
                go_simp
                with_reducible rfl
              rotate_left
              · simp only [Act.put, List.setIfInBounds_toArray, List.set_cons_zero, List.set_cons_succ, i64_w, i32_w]
                rfl
              refine take_ (i := 11) (N := some 93) (v := ?_) (a' := ?_) #[true, true, true, true, true, true, true, true, true, true, true, true, false, false] rfl rfl (by kernel_rfl) (fun _ _ _ h => h) (Or.inl ⟨by rfl, ?_⟩) hHeld ?_ ?_
              rotate_left
              · rintro w' ⟨s0, s1⟩
                go_simp
                with_reducible rfl
              rotate_left
              · simp only [Act.put, List.setIfInBounds_toArray, List.set_cons_zero, List.set_cons_succ, i64_w, i32_w]
                rfl
              refine last_ (i := 12) (N := some 94) #[true, true, true, true, true, true, true, true, true, true, true, true, true, false] rfl rfl (by kernel_rfl) (by decide) (fun K hK => ?_)
              refine value_ (w1 := ?_) (v := ?_) (by rfl) rfl ?_ ?_
              rotate_left 2
              · go_simp
                constructor
                · rfl
                · rfl
              refine hK.out _ _ ?_
              clear hK K
              refine norm_ (a' := ?_) ?_ ?_
              rotate_left
              · show Act.put _ (some 94) _ = _
                simp only [Act.put, List.setIfInBounds_toArray, List.set_cons_zero, List.set_cons_succ, i64_w, i32_w]
                rfl
              refine pure_ (i := 13) (N := some 13) (v := ?_) (a' := ?_) #[true, true, true, true, true, true, true, true, true, true, true, true, true, true] rfl rfl (by kernel_rfl) (fun _ _ _ h => h) (Or.inl ⟨by rfl, ?_⟩) ?_ ?_
              rotate_left
              · intro w'
                go_simp
                with_reducible rfl
              rotate_left
              · simp only [Act.put, List.setIfInBounds_toArray, List.set_cons_zero, List.set_cons_succ, i64_w, i32_w]
                rfl
              refine done_ (by kernel_rfl) ?_
              go_wp2_with (first
                | (go_at_call 28; ((with_reducible refine (c3_atleast V7 _ _ ga ca gb cb Aa Ab la lb ?hB HAB.out.1 HAB.out.2 hll hlb 2 ?hat).mono ?_); (case hB => exact (by repeat (first | exact HX0.out.made.below | apply below_alloc | apply pw_below_drewN | apply below_drew1))); (case hat => exact at_lit1 _ _ _); rintro e U1 ⟨g7, B7, k7, rfl, q1, hb⟩; have HX1 := Lib.hid (HX0.out.add (by repeat (first | exact Below.refl _ _ | apply below_alloc | apply pw_below_drewN | apply below_drew1)) q1 hb); obtain ⟨cM1, fM1⟩ := HX1.out.cell 6 _ rfl; clear q1 hb))
                | (go_at_call 31; ((with_reducible refine (c2_meet V7 _ _ ga ca gb cb Aa Ab la lb ?hB HAB.out.1 HAB.out.2 hll hlb ?hat).mono ?_); (case hB => exact (by repeat (first | exact (HX1.out.put 6 _).made.below | apply below_alloc | apply pw_below_drewN | apply below_drew1))); (case hat => exact at_lit2 _ _ _ _); rintro e U2 ⟨g8, B8, k8, rfl, q1, hb⟩; have HX2 := Lib.hid ((HX1.out.put 6 _).add (by repeat (first | exact Below.refl _ _ | apply below_alloc | apply pw_below_drewN | apply below_drew1)) q1 hb); obtain ⟨cM2, fM2⟩ := HX2.out.cell 7 _ rfl; clear q1 hb))
                | (go_at_call 37; ((with_reducible refine (c2_minus V7 _ ga ca gb cb Aa Ab la lb ?hB HAB.out.1 HAB.out.2 hll hlb).mono ?_); (case hB => exact (by repeat (first | exact (HX2.out.put 7 _).made.below | apply below_alloc | apply pw_below_drewN | apply below_drew1))); rintro e U3 ⟨g9, B9, k9, rfl, q1, hb⟩; have HX3 := Lib.hid ((HX2.out.put 7 _).add (by repeat (first | exact Below.refl _ _ | apply below_alloc | apply pw_below_drewN | apply below_drew1)) q1 hb); obtain ⟨cM3, fM3⟩ := HX3.out.cell 8 _ rfl; clear q1 hb))
                | (go_at_call 30; ((with_reducible refine (c2_union V7 _ _ ga ca gb cb Aa Ab la lb ?hB HAB.out.1 HAB.out.2 hll hlb ?hat).mono ?_); (case hB => exact (by repeat (first | exact (HX3.out.put 8 _).made.below | apply below_alloc | apply pw_below_drewN | apply below_drew1))); (case hat => exact at_lit2 _ _ _ _); rintro e U4 ⟨g10, B10, k10, rfl, q1, hb⟩; have HX4 := Lib.hid ((HX3.out.put 8 _).add (by repeat (first | exact Below.refl _ _ | apply below_alloc | apply pw_below_drewN | apply below_drew1)) q1 hb); obtain ⟨cM4, fM4⟩ := HX4.out.cell 9 _ rfl; clear q1 hb))
                | go_in)
              have HX5 := Lib.hid (HX4.out.put 9 (.slice B10 (union ltI [la, lb]).length k10))
              have cP0 := HX5.out.pr.get 0 _ rfl
              have cP1 := HX5.out.pr.get 1 _ rfl
              refine start_ (n := 11) (S := fun w' => w'.cell? ⟨wr.heap.size, 0, none⟩ = some (.slice Ae la.length ce) ∧ w'.cell? ⟨wr.heap.size, 1, none⟩ = some (.slice Af lb.length cf)) (ds := [9]) #[false, false, false, false, false, false, false, false, false, false, false] (by kernel_rfl) rfl rfl ⟨cP0, cP1⟩ (fun hHeld => ?_)
              refine pure_ (i := 0) (N := some 115) (v := ?_) (a' := ?_) #[true, false, false, false, false, false, false, false, false, false, false] rfl rfl (by kernel_rfl) (fun _ _ _ h => h) (Or.inl ⟨by rfl, ?_⟩) ?_ ?_
              rotate_left
              · intro w'
                go_simp
                with_reducible rfl
              rotate_left
              · simp only [Act.put, List.setIfInBounds_toArray, List.set_cons_zero, List.set_cons_succ, i64_w, i32_w]
                rfl
              refine pure_ (i := 1) (N := some 116) (v := ?_) (a' := ?_) #[true, true, false, false, false, false, false, false, false, false, false] rfl rfl (by kernel_rfl) (fun _ _ _ h => h) (Or.inl ⟨by rfl, ?_⟩) ?_ ?_
              rotate_left
              · intro w'
                go_simp
                with_reducible rfl
              rotate_left
              · simp only [Act.put, List.setIfInBounds_toArray, List.set_cons_zero, List.set_cons_succ, i64_w, i32_w]
                rfl
              refine pure_ (i := 3) (N := some 118) (v := ?_) (a' := ?_) #[true, true, false, true, false, false, false, false, false, false, false] rfl rfl (by kernel_rfl) (fun _ _ _ h => h) (Or.inl ⟨by rfl, ?_⟩) ?_ ?_
              rotate_left
              · intro w'
                go_simp
                with_reducible rfl
              rotate_left
              · simp only [Act.put, List.setIfInBounds_toArray, List.set_cons_zero, List.set_cons_succ, i64_w, i32_w]
                rfl
              refine pure_ (i := 4) (N := some 119) (v := ?_) (a' := ?_) #[true, true, false, true, true, false, false, false, false, false, false] rfl rfl (by kernel_rfl) (fun _ _ _ h => h) (Or.inl ⟨by rfl, ?_⟩) ?_ ?_
              rotate_left
              · intro w'
                go_simp
                with_reducible rfl
              rotate_left
              · simp only [Act.put, List.setIfInBounds_toArray, List.set_cons_zero, List.set_cons_succ, i64_w, i32_w]
                rfl
              refine pure_ (i := 6) (N := some 121) (v := ?_) (a' := ?_) #[true, true, false, true, true, false, true, false, false, false, false] rfl rfl (by kernel_rfl) (fun _ _ _ h => h) (Or.inl ⟨by rfl, ?_⟩) ?_ ?_
              rotate_left
              · intro w'
                go_simp
                with_reducible rfl
              rotate_left
              · simp only [Act.put, List.setIfInBounds_toArray, List.set_cons_zero, List.set_cons_succ, i64_w, i32_w]
                rfl
              refine pure_ (i := 7) (N := some 122) (v := ?_) (a' := ?_) #[true, true, false, true, true, false, true, true, false, false, false] rfl rfl (by kernel_rfl) (fun _ _ _ h => h) (Or.inl ⟨by rfl, ?_⟩) ?_ ?_
              rotate_left
              · intro w'
                go_simp
                with_reducible rfl
              rotate_left
              · simp only [Act.put, List.setIfInBounds_toArray, List.set_cons_zero, List.set_cons_succ, i64_w, i32_w]
                rfl
              refine take_ (i := 2) (N := some 117) (v := ?_) (a' := ?_) #[true, true, true, true, true, false, true, true, false, false, false] rfl rfl (by kernel_rfl) (fun _ _ _ h => h) (Or.inl ⟨by rfl, ?_⟩) hHeld ?_ ?_
              rotate_left
              · rintro w' ⟨s0, s1⟩
                go_simp
                with_reducible rfl
              rotate_left
              · simp only [Act.put, List.setIfInBounds_toArray, List.set_cons_zero, List.set_cons_succ, i64_w, i32_w]
                rfl
              refine take_ (i := 5) (N := some 120) (v := ?_) (a' := ?_) #[true, true, true, true, true, true, true, true, false, false, false] rfl rfl (by kernel_rfl) (fun _ _ _ h => h) (Or.inl ⟨by rfl, ?_⟩) hHeld ?_ ?_
              rotate_left
              · rintro w' ⟨s0, s1⟩
                go_simp
                with_reducible rfl
              rotate_left
              · simp only [Act.put, List.setIfInBounds_toArray, List.set_cons_zero, List.set_cons_succ, i64_w, i32_w]
                rfl
              refine take_ (i := 8) (N := some 123) (v := ?_) (a' := ?_) #[true, true, true, true, true, true, true, true, true, false, false] rfl rfl (by kernel_rfl) (fun _ _ _ h => h) (Or.inl ⟨by rfl, ?_⟩) hHeld ?_ ?_
              rotate_left
              · rintro w' ⟨s0, s1⟩
                go_simp
                with_reducible rfl
              rotate_left
              · simp only [Act.put, List.setIfInBounds_toArray, List.set_cons_zero, List.set_cons_succ, i64_w, i32_w]
                rfl
              refine last_ (i := 9) (N := some 124) #[true, true, true, true, true, true, true, true, true, true, false] rfl rfl (by kernel_rfl) (by decide) (fun K hK => ?_)
              refine value_ (w1 := ?_) (v := ?_) (by rfl) rfl ?_ ?_
              rotate_left 2
              · go_simp
                constructor
                · rfl
                · rfl
              refine hK.out _ _ ?_
              clear hK K
              refine norm_ (a' := ?_) ?_ ?_
              rotate_left
              · show Act.put _ (some 124) _ = _
                simp only [Act.put, List.setIfInBounds_toArray, List.set_cons_zero, List.set_cons_succ, i64_w, i32_w]
                rfl
              refine pure_ (i := 10) (N := some 14) (v := ?_) (a' := ?_) #[true, true, true, true, true, true, true, true, true, true, true] rfl rfl (by kernel_rfl) (fun _ _ _ h => h) (Or.inl ⟨by rfl, ?_⟩) ?_ ?_
              rotate_left
              · intro w'
                go_simp
                with_reducible rfl
              rotate_left
              · simp only [Act.put, List.setIfInBounds_toArray, List.set_cons_zero, List.set_cons_succ, i64_w, i32_w]
                rfl
              refine done_ (by kernel_rfl) ?_
              have HX6 : Hid (QX V7 ((U4.setCell ⟨V7.heap.size, 9, none⟩ (.slice B10 (union ltI [la, lb]).length k10)).alloc (.cells #[.slice Ae la.length ce, .slice Af lb.length cf, .slice Ae la.length ce] 22)).drew wr.heap.size [.slice Ae la.length ce, .slice Af lb.length cf] [.slice B1 S.length k1, .slice B2 S.length k2, .slice B3 S.length k3, .slice B4 S.length k4, .slice B5 S.length k5, .slice B6 S.length k6, .slice B7 (atLeast ltI 2 [la, lb, la]).length k7, .slice B8 (meet ltI [la, lb]).length k8, .slice B9 (minus ltI la lb).length k9, .slice B10 (union ltI [la, lb]).length k10] _) := Lib.hid (HX5.out.on (below_drew1 (below_alloc (Below.refl _ _) _)))
              have HT := Lib.hid (at_lit2 U4 ⟨V7.heap.size, 9, none⟩ (.slice B10 (union ltI [la, lb]).length k10) [.slice Ae la.length ce, .slice Af lb.length cf, .slice Ae la.length ce]).drew
              have hL3 := al3 V7 V7 ga ca gb cb Aa Ab la lb (Below.refl _ _) HAB.out.1 HAB.out.2 hll hlb 2
              have hLu : (union ltI [la, lb]).length ≤ 16777216 := len2 V7 V7 ga ca gb cb Aa Ab la lb (Below.refl _ _) HAB.out.1 HAB.out.2 hll hlb 1
              have hLm := len2m V7 V7 ga ca gb cb Aa Ab la lb (Below.refl _ _) HAB.out.1 HAB.out.2 hll hlb
              have hLi : (minus ltI la lb).length ≤ 16777216 := by have := minus_len la lb; omega
              clear hHeld cP0 cP1 cM1 cM2 cM3 cM4 fM1 fM2 fM3 fM4 HX0 HX1 HX2 HX3 HX4 HX5
              change Exit.then _ _ _ _ ((U4.setCell ⟨V7.heap.size, 9, none⟩ (.slice B10 (union ltI [la, lb]).length k10)).alloc (.cells #[.slice Ae la.length ce, .slice Af lb.length cf, .slice Ae la.length ce] 22)).drew
              generalize ((U4.setCell ⟨V7.heap.size, 9, none⟩ (.slice B10 (union ltI [la, lb]).length k10)).alloc (.cells #[.slice Ae la.length ce, .slice Af lb.length cf, .slice Ae la.length ce] 22)).drew = W6 at HX6 HT ⊢
              generalize hR3 : atLeast ltI 2 [la, lb, la] = R3 at *
              generalize hRm : meet ltI [la, lb] = Rm at *
              generalize hRi : minus ltI la lb = Ri at *
              generalize hRu : union ltI [la, lb] = Ru at *
              have CR3 := Lib.hid hR3
              have CRm := Lib.hid hRm
              have CRi := Lib.hid hRi
              have CRu := Lib.hid hRu
              clear hR3 hRm hRi hRu
              have cQ0 := HX6.out.pr.get 0 _ rfl
              have cQ1 := HX6.out.pr.get 1 _ rfl
              have cQ2 := (HX6.out.cell 6 _ rfl).1
              have cQ3 := (HX6.out.cell 7 _ rfl).1
              have cQ4 := (HX6.out.cell 8 _ rfl).1
              have cQ5 := (HX6.out.cell 9 _ rfl).1
              go_wp2
              refine start_ (n := 35) (S := fun w' => w'.cell? ⟨wr.heap.size, 0, none⟩ = some (.slice Ae la.length ce) ∧ w'.cell? ⟨wr.heap.size, 1, none⟩ = some (.slice Af lb.length cf) ∧ w'.cell? ⟨V7.heap.size, 6, none⟩ = some (.slice B7 R3.length k7) ∧ w'.cell? ⟨V7.heap.size, 7, none⟩ = some (.slice B8 Rm.length k8) ∧ w'.cell? ⟨V7.heap.size, 8, none⟩ = some (.slice B9 Ri.length k9) ∧ w'.cell? ⟨V7.heap.size, 9, none⟩ = some (.slice B10 Ru.length k10)) (ds := [32]) #[false, false, false, false, false, false, false, false, false, false, false, false, false, false, false, false, false, false, false, false, false, false, false, false, false, false, false, false, false, false, false, false, false, false, false] (by kernel_rfl) rfl rfl ⟨cQ0, cQ1, cQ2, cQ3, cQ4, cQ5⟩ (fun hHeld => ?_)
              refine pure_ (i := 0) (N := some 125) (v := ?_) (a' := ?_) #[true, false, false, false, false, false, false, false, false, false, false, false, false, false, false, false, false, false, false, false, false, false, false, false, false, false, false, false, false, false, false, false, false, false, false] rfl rfl (by kernel_rfl) (fun _ _ _ h => h) (Or.inl ⟨by rfl, ?_⟩) ?_ ?_
              rotate_left
              · intro w'
                go_simp
                with_reducible rfl
              rotate_left
              · simp only [Act.put, List.setIfInBounds_toArray, List.set_cons_zero, List.set_cons_succ, i64_w, i32_w]
                rfl
              refine pure_ (i := 2) (N := some 127) (v := ?_) (a' := ?_) #[true, false, true, false, false, false, false, false, false, false, false, false, false, false, false, false, false, false, false, false, false, false, false, false, false, false, false, false, false, false, false, false, false, false, false] rfl rfl (by kernel_rfl) (fun _ _ _ h => h) (Or.inl ⟨by rfl, ?_⟩) ?_ ?_
              rotate_left
              · intro w'
                go_simp
                with_reducible rfl
              rotate_left
              · simp only [Act.put, List.setIfInBounds_toArray, List.set_cons_zero, List.set_cons_succ, i64_w, i32_w]
                rfl
              refine take_ (i := 1) (N := some 126) (v := ?_) (a' := ?_) #[true, true, true, false, false, false, false, false, false, false, false, false, false, false, false, false, false, false, false, false, false, false, false, false, false, false, false, false, false, false, false, false, false, false, false] rfl rfl (by kernel_rfl) (fun _ _ _ h => h) (Or.inl ⟨by rfl, ?_⟩) hHeld ?_ ?_
              rotate_left
              · rintro w' ⟨s0, s1, s2, s3, s4, s5⟩
                go_simp
                with_reducible rfl
              rotate_left
              · simp only [Act.put, List.setIfInBounds_toArray, List.set_cons_zero, List.set_cons_succ, i64_w, i32_w]
                rfl
              refine one_ (i := 3) (N := some 128) #[true, true, true, true, false, false, false, false, false, false, false, false, false, false, false, false, false, false, false, false, false, false, false, false, false, false, false, false, false, false, false, false, false, false, false] rfl rfl (by kernel_rfl) (by decide) (fun K hK => ?_)
              refine goes_ Try.func25 (by kernel_rfl) rfl #[.int .i64 2, .slice (some ⟨U4.heap.size, 0, none⟩) 3 3] (by rfl) rfl rfl (by simp only [List.map_toArray, List.map_cons, List.map_nil]; rfl) ?_
              with_reducible refine (r3_atleast V7 W6.drew U4.heap.size ge ce gf cf Ae Af la lb (below_drew1 HX6.out.made.below) HEF.out.1 HEF.out.2 hll hlb 2 HT.out.drew).mono ?_
              rintro e Y1 ⟨gy1, Dy1, cy1, rfl, qy, _, hb0⟩
              rw [CR3.out] at qy ⊢
              have hb : Below W6.heap.size W6 Y1 := undrew1 hb0
              have HY1 := Lib.hid (HX6.out.on hb)
              have HD1 := Lib.hid qy
              have HM1 : Hid (Row Y1 g7 B7 k7 R3) := Lib.hid (by exact (HY1.out.made.mine 0 (by simp)).row)
              clear qy hb hb0
              refine ⟨_, rfl, ?_⟩
              refine hK.out _ _ ⟨HY1.out.pr.get 0 _ rfl, HY1.out.pr.get 1 _ rfl, (HY1.out.cell 6 _ rfl).1, (HY1.out.cell 7 _ rfl).1, (HY1.out.cell 8 _ rfl).1, (HY1.out.cell 9 _ rfl).1⟩ (fun hHeld => ?_)
              clear hK K
              refine norm_ (a' := ?_) ?_ ?_
              rotate_left
              · show Act.put _ (some 128) _ = _
                simp only [Act.put, List.setIfInBounds_toArray, List.set_cons_zero, List.set_cons_succ, i64_w, i32_w]
                rfl
              refine one_ (i := 4) (N := some 129) #[true, true, true, true, true, false, false, false, false, false, false, false, false, false, false, false, false, false, false, false, false, false, false, false, false, false, false, false, false, false, false, false, false, false, false] rfl rfl (by kernel_rfl) (by decide) (fun K hK => ?_)
              refine goes_ Try.func29 (by kernel_rfl) rfl #[.slice B7 R3.length k7, .slice Dy1 R3.length cy1] (by rfl) rfl rfl (by simp only [List.map_toArray, List.map_cons, List.map_nil]; rfl) ?_
              with_reducible refine (same_as Y1 g7 gy1 k7 cy1 B7 Dy1 R3 HM1.out HD1.out hL3).mono ?_
              rintro e _ ⟨rfl, ⟨ny1, rfl⟩⟩
              refine ⟨_, rfl, ?_⟩
              refine hK.out _ _ ⟨HY1.out.pr.get 0 _ rfl, HY1.out.pr.get 1 _ rfl, (HY1.out.cell 6 _ rfl).1, (HY1.out.cell 7 _ rfl).1, (HY1.out.cell 8 _ rfl).1, (HY1.out.cell 9 _ rfl).1⟩ (fun hHeld => ?_)
              clear hK K
              refine norm_ (a' := ?_) ?_ ?_
              rotate_left
              · show Act.put _ (some 129) _ = _
                simp only [Act.put, List.setIfInBounds_toArray, List.set_cons_zero, List.set_cons_succ, i64_w, i32_w]
                rfl
              refine pure_ (i := 5) (N := some 130) (v := ?_) (a' := ?_) #[true, true, true, true, true, true, false, false, false, false, false, false, false, false, false, false, false, false, false, false, false, false, false, false, false, false, false, false, false, false, false, false, false, false, false] rfl rfl (by kernel_rfl) (fun _ _ _ h => h) (Or.inl ⟨by rfl, ?_⟩) ?_ ?_
              rotate_left
              · intro w'
                go_simp
                with_reducible rfl
              rotate_left
              · simp only [Act.put, List.setIfInBounds_toArray, List.set_cons_zero, List.set_cons_succ, i64_w, i32_w]
                rfl
              refine pure_ (i := 6) (N := some 131) (v := ?_) (a' := ?_) #[true, true, true, true, true, true, true, false, false, false, false, false, false, false, false, false, false, false, false, false, false, false, false, false, false, false, false, false, false, false, false, false, false, false, false] rfl rfl (by kernel_rfl) (fun _ _ _ h => h) (Or.inl ⟨by rfl, ?_⟩) ?_ ?_
              rotate_left
              · intro w'
                go_simp
                with_reducible rfl
              rotate_left
              · simp only [Act.put, List.setIfInBounds_toArray, List.set_cons_zero, List.set_cons_succ, i64_w, i32_w]
                rfl
              refine pure_ (i := 7) (N := some 132) (v := ?_) (a' := ?_) #[true, true, true, true, true, true, true, true, false, false, false, false, false, false, false, false, false, false, false, false, false, false, false, false, false, false, false, false, false, false, false, false, false, false, false] rfl rfl (by kernel_rfl) (fun _ _ _ h => h) (Or.inl ⟨by rfl, ?_⟩) ?_ ?_
              rotate_left
              · intro w'
                go_simp
                with_reducible rfl
              rotate_left
              · simp only [Act.put, List.setIfInBounds_toArray, List.set_cons_zero, List.set_cons_succ, i64_w, i32_w]
                rfl
              refine pure_ (i := 9) (N := some 134) (v := ?_) (a' := ?_) #[true, true, true, true, true, true, true, true, false, true, false, false, false, false, false, false, false, false, false, false, false, false, false, false, false, false, false, false, false, false, false, false, false, false, false] rfl rfl (by kernel_rfl) (fun _ _ _ h => h) (Or.inl ⟨by rfl, ?_⟩) ?_ ?_
              rotate_left
              · intro w'
                go_simp
                with_reducible rfl
              rotate_left
              · simp only [Act.put, List.setIfInBounds_toArray, List.set_cons_zero, List.set_cons_succ, i64_w, i32_w]
                rfl
              refine take_ (i := 8) (N := some 133) (v := ?_) (a' := ?_) #[true, true, true, true, true, true, true, true, true, true, false, false, false, false, false, false, false, false, false, false, false, false, false, false, false, false, false, false, false, false, false, false, false, false, false] rfl rfl (by kernel_rfl) (fun _ _ _ h => h) (Or.inl ⟨by rfl, ?_⟩) hHeld ?_ ?_
              rotate_left
              · rintro w' ⟨s0, s1, s2, s3, s4, s5⟩
                go_simp
                with_reducible rfl
              rotate_left
              · simp only [Act.put, List.setIfInBounds_toArray, List.set_cons_zero, List.set_cons_succ, i64_w, i32_w]
                rfl
              refine one_ (i := 10) (N := some 135) #[true, true, true, true, true, true, true, true, true, true, true, false, false, false, false, false, false, false, false, false, false, false, false, false, false, false, false, false, false, false, false, false, false, false, false] rfl rfl (by kernel_rfl) (by decide) (fun K hK => ?_)
              refine goes_ Try.func36 (by kernel_rfl) rfl #[.slice (some ⟨wr.heap.size, 0, none⟩) 2 2] (by rfl) rfl rfl (by simp only [List.map_toArray, List.map_cons, List.map_nil]; rfl) ?_
              with_reducible refine (r2_meet V7 (Y1.drewN ny1) wr.heap.size ge ce gf cf Ae Af la lb (pw_below_drewN HY1.out.made.below _) HEF.out.1 HEF.out.2 hll hlb (HY1.out.pr.drewN _)).mono ?_
              rintro e Y2 ⟨gy2, Dy2, cy2, rfl, qy, _, hb0⟩
              rw [CRm.out] at qy ⊢
              have hb : Below Y1.heap.size Y1 Y2 := undrewN hb0
              have HY2 := Lib.hid (HY1.out.on hb)
              have HD2 := Lib.hid qy
              have HM2 : Hid (Row Y2 g8 B8 k8 Rm) := Lib.hid (by exact (HY2.out.made.mine 1 (by simp)).row)
              clear qy hb hb0
              refine ⟨_, rfl, ?_⟩
              refine hK.out _ _ ⟨HY2.out.pr.get 0 _ rfl, HY2.out.pr.get 1 _ rfl, (HY2.out.cell 6 _ rfl).1, (HY2.out.cell 7 _ rfl).1, (HY2.out.cell 8 _ rfl).1, (HY2.out.cell 9 _ rfl).1⟩ (fun hHeld => ?_)
              clear hK K
              refine norm_ (a' := ?_) ?_ ?_
              rotate_left
              · show Act.put _ (some 135) _ = _
                simp only [Act.put, List.setIfInBounds_toArray, List.set_cons_zero, List.set_cons_succ, i64_w, i32_w]
                rfl
              refine one_ (i := 11) (N := some 136) #[true, true, true, true, true, true, true, true, true, true, true, true, false, false, false, false, false, false, false, false, false, false, false, false, false, false, false, false, false, false, false, false, false, false, false] rfl rfl (by kernel_rfl) (by decide) (fun K hK => ?_)
              refine goes_ Try.func29 (by kernel_rfl) rfl #[.slice B8 Rm.length k8, .slice Dy2 Rm.length cy2] (by rfl) rfl rfl (by simp only [List.map_toArray, List.map_cons, List.map_nil]; rfl) ?_
              with_reducible refine (same_as Y2 g8 gy2 k8 cy2 B8 Dy2 Rm HM2.out HD2.out hLm).mono ?_
              rintro e _ ⟨rfl, ⟨ny2, rfl⟩⟩
              refine ⟨_, rfl, ?_⟩
              refine hK.out _ _ ⟨HY2.out.pr.get 0 _ rfl, HY2.out.pr.get 1 _ rfl, (HY2.out.cell 6 _ rfl).1, (HY2.out.cell 7 _ rfl).1, (HY2.out.cell 8 _ rfl).1, (HY2.out.cell 9 _ rfl).1⟩ (fun hHeld => ?_)
              clear hK K
              refine norm_ (a' := ?_) ?_ ?_
              rotate_left
              · show Act.put _ (some 136) _ = _
                simp only [Act.put, List.setIfInBounds_toArray, List.set_cons_zero, List.set_cons_succ, i64_w, i32_w]
                rfl
              refine pure_ (i := 12) (N := some 137) (v := ?_) (a' := ?_) #[true, true, true, true, true, true, true, true, true, true, true, true, true, false, false, false, false, false, false, false, false, false, false, false, false, false, false, false, false, false, false, false, false, false, false] rfl rfl (by kernel_rfl) (fun _ _ _ h => h) (Or.inl ⟨by rfl, ?_⟩) ?_ ?_
              rotate_left
              · intro w'
                go_simp
                with_reducible rfl
              rotate_left
              · simp only [Act.put, List.setIfInBounds_toArray, List.set_cons_zero, List.set_cons_succ, i64_w, i32_w]
                rfl
              refine pure_ (i := 13) (N := some 138) (v := ?_) (a' := ?_) #[true, true, true, true, true, true, true, true, true, true, true, true, true, true, false, false, false, false, false, false, false, false, false, false, false, false, false, false, false, false, false, false, false, false, false] rfl rfl (by kernel_rfl) (fun _ _ _ h => h) (Or.inl ⟨by rfl, ?_⟩) ?_ ?_
              rotate_left
              · intro w'
                go_simp
                with_reducible rfl
              rotate_left
              · simp only [Act.put, List.setIfInBounds_toArray, List.set_cons_zero, List.set_cons_succ, i64_w, i32_w]
                rfl
              refine pure_ (i := 14) (N := some 139) (v := ?_) (a' := ?_) #[true, true, true, true, true, true, true, true, true, true, true, true, true, true, true, false, false, false, false, false, false, false, false, false, false, false, false, false, false, false, false, false, false, false, false] rfl rfl (by kernel_rfl) (fun _ _ _ h => h) (Or.inl ⟨by rfl, ?_⟩) ?_ ?_
              rotate_left
              · intro w'
                go_simp
                with_reducible rfl
              rotate_left
              · simp only [Act.put, List.setIfInBounds_toArray, List.set_cons_zero, List.set_cons_succ, i64_w, i32_w]
                rfl
              refine pure_ (i := 15) (N := some 140) (v := ?_) (a' := ?_) #[true, true, true, true, true, true, true, true, true, true, true, true, true, true, true, true, false, false, false, false, false, false, false, false, false, false, false, false, false, false, false, false, false, false, false] rfl rfl (by kernel_rfl) (fun _ _ _ h => h) (Or.inl ⟨by rfl, ?_⟩) ?_ ?_
              rotate_left
              · intro w'
                go_simp
                with_reducible rfl
              rotate_left
              · simp only [Act.put, List.setIfInBounds_toArray, List.set_cons_zero, List.set_cons_succ, i64_w, i32_w]
                rfl
              refine pure_ (i := 17) (N := some 142) (v := ?_) (a' := ?_) #[true, true, true, true, true, true, true, true, true, true, true, true, true, true, true, true, false, true, false, false, false, false, false, false, false, false, false, false, false, false, false, false, false, false, false] rfl rfl (by kernel_rfl) (fun _ _ _ h => h) (Or.inl ⟨by rfl, ?_⟩) ?_ ?_
              rotate_left
              · intro w'
                go_simp
                with_reducible rfl
              rotate_left
              · simp only [Act.put, List.setIfInBounds_toArray, List.set_cons_zero, List.set_cons_succ, i64_w, i32_w]
                rfl
              refine pure_ (i := 18) (N := some 143) (v := ?_) (a' := ?_) #[true, true, true, true, true, true, true, true, true, true, true, true, true, true, true, true, false, true, true, false, false, false, false, false, false, false, false, false, false, false, false, false, false, false, false] rfl rfl (by kernel_rfl) (fun _ _ _ h => h) (Or.inl ⟨by rfl, ?_⟩) ?_ ?_
              rotate_left
              · intro w'
                go_simp
                with_reducible rfl
              rotate_left
              · simp only [Act.put, List.setIfInBounds_toArray, List.set_cons_zero, List.set_cons_succ, i64_w, i32_w]
                rfl
              refine pure_ (i := 20) (N := some 145) (v := ?_) (a' := ?_) #[true, true, true, true, true, true, true, true, true, true, true, true, true, true, true, true, false, true, true, false, true, false, false, false, false, false, false, false, false, false, false, false, false, false, false] rfl rfl (by kernel_rfl) (fun _ _ _ h => h) (Or.inl ⟨by rfl, ?_⟩) ?_ ?_
              rotate_left
              · intro w'
                go_simp
                with_reducible rfl
              rotate_left
              · simp only [Act.put, List.setIfInBounds_toArray, List.set_cons_zero, List.set_cons_succ, i64_w, i32_w]
                rfl
              refine pure_ (i := 21) (N := some 146) (v := ?_) (a' := ?_) #[true, true, true, true, true, true, true, true, true, true, true, true, true, true, true, true, false, true, true, false, true, true, false, false, false, false, false, false, false, false, false, false, false, false, false] rfl rfl (by kernel_rfl) (fun _ _ _ h => h) (Or.inl ⟨by rfl, ?_⟩) ?_ ?_
              rotate_left
              · intro w'
                go_simp
                with_reducible rfl
              rotate_left
              · simp only [Act.put, List.setIfInBounds_toArray, List.set_cons_zero, List.set_cons_succ, i64_w, i32_w]
                rfl
              refine take_ (i := 16) (N := some 141) (v := ?_) (a' := ?_) #[true, true, true, true, true, true, true, true, true, true, true, true, true, true, true, true, true, true, true, false, true, true, false, false, false, false, false, false, false, false, false, false, false, false, false] rfl rfl (by kernel_rfl) (fun _ _ _ h => h) (Or.inl ⟨by rfl, ?_⟩) hHeld ?_ ?_
              rotate_left
              · rintro w' ⟨s0, s1, s2, s3, s4, s5⟩
                go_simp
                with_reducible rfl
              rotate_left
              · simp only [Act.put, List.setIfInBounds_toArray, List.set_cons_zero, List.set_cons_succ, i64_w, i32_w]
                rfl
              refine take_ (i := 19) (N := some 144) (v := ?_) (a' := ?_) #[true, true, true, true, true, true, true, true, true, true, true, true, true, true, true, true, true, true, true, true, true, true, false, false, false, false, false, false, false, false, false, false, false, false, false] rfl rfl (by kernel_rfl) (fun _ _ _ h => h) (Or.inl ⟨by rfl, ?_⟩) hHeld ?_ ?_
              rotate_left
              · rintro w' ⟨s0, s1, s2, s3, s4, s5⟩
                go_simp
                with_reducible rfl
              rotate_left
              · simp only [Act.put, List.setIfInBounds_toArray, List.set_cons_zero, List.set_cons_succ, i64_w, i32_w]
                rfl
              refine take_ (i := 22) (N := some 147) (v := ?_) (a' := ?_) #[true, true, true, true, true, true, true, true, true, true, true, true, true, true, true, true, true, true, true, true, true, true, true, false, false, false, false, false, false, false, false, false, false, false, false] rfl rfl (by kernel_rfl) (fun _ _ _ h => h) (Or.inl ⟨by rfl, ?_⟩) hHeld ?_ ?_
              rotate_left
              · rintro w' ⟨s0, s1, s2, s3, s4, s5⟩
                go_simp
                with_reducible rfl
              rotate_left
              · simp only [Act.put, List.setIfInBounds_toArray, List.set_cons_zero, List.set_cons_succ, i64_w, i32_w]
                rfl
              refine one_ (i := 23) (N := some 148) #[true, true, true, true, true, true, true, true, true, true, true, true, true, true, true, true, true, true, true, true, true, true, true, true, false, false, false, false, false, false, false, false, false, false, false] rfl rfl (by kernel_rfl) (by decide) (fun K hK => ?_)
              refine goes_ Try.func38 (by kernel_rfl) rfl #[.slice Ae la.length ce, .slice Af lb.length cf] (by rfl) rfl rfl (by simp only [List.map_toArray, List.map_cons, List.map_nil]; rfl) ?_
              with_reducible refine (r2_minus V7 (Y2.drewN ny2) ge ce gf cf Ae Af la lb (pw_below_drewN HY2.out.made.below _) HEF.out.1 HEF.out.2 hll hlb).mono ?_
              rintro e Y3 ⟨gy3, Dy3, cy3, rfl, qy, _, hb0⟩
              rw [CRi.out] at qy ⊢
              have hb : Below Y2.heap.size Y2 Y3 := undrewN hb0
              have HY3 := Lib.hid (HY2.out.on hb)
              have HD3 := Lib.hid qy
              have HM3 : Hid (Row Y3 g9 B9 k9 Ri) := Lib.hid (by exact (HY3.out.made.mine 2 (by simp)).row)
              clear qy hb hb0
              refine ⟨_, rfl, ?_⟩
              refine hK.out _ _ ⟨HY3.out.pr.get 0 _ rfl, HY3.out.pr.get 1 _ rfl, (HY3.out.cell 6 _ rfl).1, (HY3.out.cell 7 _ rfl).1, (HY3.out.cell 8 _ rfl).1, (HY3.out.cell 9 _ rfl).1⟩ (fun hHeld => ?_)
              clear hK K
              refine norm_ (a' := ?_) ?_ ?_
              rotate_left
              · show Act.put _ (some 148) _ = _
                simp only [Act.put, List.setIfInBounds_toArray, List.set_cons_zero, List.set_cons_succ, i64_w, i32_w]
                rfl
              refine one_ (i := 24) (N := some 149) #[true, true, true, true, true, true, true, true, true, true, true, true, true, true, true, true, true, true, true, true, true, true, true, true, true, false, false, false, false, false, false, false, false, false, false] rfl rfl (by kernel_rfl) (by decide) (fun K hK => ?_)
              refine goes_ Try.func29 (by kernel_rfl) rfl #[.slice B9 Ri.length k9, .slice Dy3 Ri.length cy3] (by rfl) rfl rfl (by simp only [List.map_toArray, List.map_cons, List.map_nil]; rfl) ?_
              with_reducible refine (same_as Y3 g9 gy3 k9 cy3 B9 Dy3 Ri HM3.out HD3.out hLi).mono ?_
              rintro e _ ⟨rfl, ⟨ny3, rfl⟩⟩
              refine ⟨_, rfl, ?_⟩
              refine hK.out _ _ ⟨HY3.out.pr.get 0 _ rfl, HY3.out.pr.get 1 _ rfl, (HY3.out.cell 6 _ rfl).1, (HY3.out.cell 7 _ rfl).1, (HY3.out.cell 8 _ rfl).1, (HY3.out.cell 9 _ rfl).1⟩ (fun hHeld => ?_)
              clear hK K
              refine norm_ (a' := ?_) ?_ ?_
              rotate_left
              · show Act.put _ (some 149) _ = _
                simp only [Act.put, List.setIfInBounds_toArray, List.set_cons_zero, List.set_cons_succ, i64_w, i32_w]
                rfl
              refine pure_ (i := 25) (N := some 150) (v := ?_) (a' := ?_) #[true, true, true, true, true, true, true, true, true, true, true, true, true, true, true, true, true, true, true, true, true, true, true, true, true, true, false, false, false, false, false, false, false, false, false] rfl rfl (by kernel_rfl) (fun _ _ _ h => h) (Or.inl ⟨by rfl, ?_⟩) ?_ ?_
              rotate_left
              · intro w'
                go_simp
                with_reducible rfl
              rotate_left
              · simp only [Act.put, List.setIfInBounds_toArray, List.set_cons_zero, List.set_cons_succ, i64_w, i32_w]
                rfl
              refine pure_ (i := 26) (N := some 151) (v := ?_) (a' := ?_) #[true, true, true, true, true, true, true, true, true, true, true, true, true, true, true, true, true, true, true, true, true, true, true, true, true, true, true, false, false, false, false, false, false, false, false] rfl rfl (by kernel_rfl) (fun _ _ _ h => h) (Or.inl ⟨by rfl, ?_⟩) ?_ ?_
              rotate_left
              · intro w'
                go_simp
                with_reducible rfl
              rotate_left
              · simp only [Act.put, List.setIfInBounds_toArray, List.set_cons_zero, List.set_cons_succ, i64_w, i32_w]
                rfl
              refine pure_ (i := 27) (N := some 152) (v := ?_) (a' := ?_) #[true, true, true, true, true, true, true, true, true, true, true, true, true, true, true, true, true, true, true, true, true, true, true, true, true, true, true, true, false, false, false, false, false, false, false] rfl rfl (by kernel_rfl) (fun _ _ _ h => h) (Or.inl ⟨by rfl, ?_⟩) ?_ ?_
              rotate_left
              · intro w'
                go_simp
                with_reducible rfl
              rotate_left
              · simp only [Act.put, List.setIfInBounds_toArray, List.set_cons_zero, List.set_cons_succ, i64_w, i32_w]
                rfl
              refine pure_ (i := 28) (N := some 153) (v := ?_) (a' := ?_) #[true, true, true, true, true, true, true, true, true, true, true, true, true, true, true, true, true, true, true, true, true, true, true, true, true, true, true, true, true, false, false, false, false, false, false] rfl rfl (by kernel_rfl) (fun _ _ _ h => h) (Or.inl ⟨by rfl, ?_⟩) ?_ ?_
              rotate_left
              · intro w'
                go_simp
                with_reducible rfl
              rotate_left
              · simp only [Act.put, List.setIfInBounds_toArray, List.set_cons_zero, List.set_cons_succ, i64_w, i32_w]
                rfl
              refine pure_ (i := 30) (N := some 155) (v := ?_) (a' := ?_) #[true, true, true, true, true, true, true, true, true, true, true, true, true, true, true, true, true, true, true, true, true, true, true, true, true, true, true, true, true, false, true, false, false, false, false] rfl rfl (by kernel_rfl) (fun _ _ _ h => h) (Or.inl ⟨by rfl, ?_⟩) ?_ ?_
              rotate_left
              · intro w'
                go_simp
                with_reducible rfl
              rotate_left
              · simp only [Act.put, List.setIfInBounds_toArray, List.set_cons_zero, List.set_cons_succ, i64_w, i32_w]
                rfl
              refine take_ (i := 29) (N := some 154) (v := ?_) (a' := ?_) #[true, true, true, true, true, true, true, true, true, true, true, true, true, true, true, true, true, true, true, true, true, true, true, true, true, true, true, true, true, true, true, false, false, false, false] rfl rfl (by kernel_rfl) (fun _ _ _ h => h) (Or.inl ⟨by rfl, ?_⟩) hHeld ?_ ?_
              rotate_left
              · rintro w' ⟨s0, s1, s2, s3, s4, s5⟩
                go_simp
                with_reducible rfl
              rotate_left
              · simp only [Act.put, List.setIfInBounds_toArray, List.set_cons_zero, List.set_cons_succ, i64_w, i32_w]
                rfl
              refine one_ (i := 31) (N := some 156) #[true, true, true, true, true, true, true, true, true, true, true, true, true, true, true, true, true, true, true, true, true, true, true, true, true, true, true, true, true, true, true, true, false, false, false] rfl rfl (by kernel_rfl) (by decide) (fun K hK => ?_)
              refine goes_ Try.func25 (by kernel_rfl) rfl #[.int .i64 1, .slice (some ⟨wr.heap.size, 0, none⟩) 2 2] (by rfl) rfl rfl (by simp only [List.map_toArray, List.map_cons, List.map_nil]; rfl) ?_
              with_reducible refine (r2_union V7 (Y3.drewN ny3) wr.heap.size ge ce gf cf Ae Af la lb (pw_below_drewN HY3.out.made.below _) HEF.out.1 HEF.out.2 hll hlb (HY3.out.pr.drewN _)).mono ?_
              rintro e Y4 ⟨gy4, Dy4, cy4, rfl, qy, _, hb0⟩
              rw [CRu.out] at qy ⊢
              have hb : Below Y3.heap.size Y3 Y4 := undrewN hb0
              have HY4 := Lib.hid (HY3.out.on hb)
              have HD4 := Lib.hid qy
              have HM4 : Hid (Row Y4 g10 B10 k10 Ru) := Lib.hid (by exact (HY4.out.made.mine 3 (by simp)).row)
              clear qy hb hb0
              refine ⟨_, rfl, ?_⟩
              refine hK.out _ _ ⟨HY4.out.pr.get 0 _ rfl, HY4.out.pr.get 1 _ rfl, (HY4.out.cell 6 _ rfl).1, (HY4.out.cell 7 _ rfl).1, (HY4.out.cell 8 _ rfl).1, (HY4.out.cell 9 _ rfl).1⟩ (fun hHeld => ?_)
              clear hK K
              refine norm_ (a' := ?_) ?_ ?_
              rotate_left
              · show Act.put _ (some 156) _ = _
                simp only [Act.put, List.setIfInBounds_toArray, List.set_cons_zero, List.set_cons_succ, i64_w, i32_w]
                rfl
              refine last_ (i := 32) (N := some 157) #[true, true, true, true, true, true, true, true, true, true, true, true, true, true, true, true, true, true, true, true, true, true, true, true, true, true, true, true, true, true, true, true, true, false, false] rfl rfl (by kernel_rfl) (by decide) (fun K hK => ?_)
              refine goes_ Try.func29 (by kernel_rfl) rfl #[.slice B10 Ru.length k10, .slice Dy4 Ru.length cy4] (by rfl) rfl rfl (by simp only [List.map_toArray, List.map_cons, List.map_nil]; rfl) ?_
              with_reducible refine (same_as Y4 g10 gy4 k10 cy4 B10 Dy4 Ru HM4.out HD4.out hLu).mono ?_
              rintro e _ ⟨rfl, ⟨ny4, rfl⟩⟩
              refine ⟨_, rfl, ?_⟩
              refine hK.out _ _ ?_
              clear hK K
              refine norm_ (a' := ?_) ?_ ?_
              rotate_left
              · show Act.put _ (some 157) _ = _
                simp only [Act.put, List.setIfInBounds_toArray, List.set_cons_zero, List.set_cons_succ, i64_w, i32_w]
                rfl
              refine pure_ (i := 33) (N := some 158) (v := ?_) (a' := ?_) #[true, true, true, true, true, true, true, true, true, true, true, true, true, true, true, true, true, true, true, true, true, true, true, true, true, true, true, true, true, true, true, true, true, true, false] rfl rfl (by kernel_rfl) (fun _ _ _ h => h) (Or.inl ⟨by rfl, ?_⟩) ?_ ?_
              rotate_left
              · intro w'
                go_simp
                with_reducible rfl
              rotate_left
              · simp only [Act.put, List.setIfInBounds_toArray, List.set_cons_zero, List.set_cons_succ, i64_w, i32_w]
                rfl
              refine pure_ (i := 34) (N := some 159) (v := ?_) (a' := ?_) #[true, true, true, true, true, true, true, true, true, true, true, true, true, true, true, true, true, true, true, true, true, true, true, true, true, true, true, true, true, true, true, true, true, true, true] rfl rfl (by kernel_rfl) (fun _ _ _ h => h) (Or.inl ⟨by rfl, ?_⟩) ?_ ?_
              rotate_left
              · intro w'
                go_simp
                with_reducible rfl
              rotate_left
              · simp only [Act.put, List.setIfInBounds_toArray, List.set_cons_zero, List.set_cons_succ, i64_w, i32_w]
                rfl
              refine done_ (by kernel_rfl) ?_
              have hms : ∃ ms : List Md, ms.length = 10 ∧ (∀ m ∈ ms, m.l.length ≤ 16777216) ∧ Hid (IR W2 (Y4.drewN ny4) V7.heap.size ms 0 u5 bk) := by
                have hj := HQ6.out.made.join HY4.out.made
                refine ⟨_, ?_, ?_, Lib.hid ((BR.fresh HBR1.out HQ6.out.made.below.size HY4.out.arr hj).on (pw_below_drewN (Below.refl _ _) ny4))⟩
                · rfl
                · intro m hm
                  simp only [List.nil_append, List.cons_append, List.mem_cons, List.not_mem_nil, or_false] at hm
                  rcases hm with rfl | rfl | rfl | rfl | rfl | rfl | rfl | rfl | rfl | rfl <;> assumption
              obtain ⟨ms, hml, hmb, HIR⟩ := hms
              have HML := Lib.hid hml
              have HMB := Lib.hid hmb
              have HBL2 : Hid (bk.length = 20 * i + 2 * 0) := Lib.hid (by have := HBL.out; omega)
              repeat clear hHeld
              clear cQ0 cQ1 cQ2 cQ3 cQ4 cQ5 hL3 hLu hLm hLi hml hmb
              clear HQ6 HX6 HY1 HY2 HY3 HY4 HD1 HD2 HD3 HD4 HM1 HM2 HM3 HM4 HT HAB HEF HBR1 HA6 HAr HQ HBV CR3 CRm CRi CRu
              as_aux_lemma =>
                go_wp2
                go_loopw [5, 15, 16, 17] (fun v5 v15 v16 v17 wk => ∃ (kk : Nat) (bk2 : List Bk), kk ≤ 10 ∧ v15 = .int .i64 (kk : Nat) ∧ Hid (bk2.length = 20 * i + 2 * kk) ∧ Hid (IR W2 wk V7.heap.size ms kk v5 bk2)) (fun _ v15 _ _ _ => 10 - (intOf v15).toNat)
                case atStart => exact ⟨0, bk, by omega, rfl, HBL2, HIR⟩
                case round =>
                  clear HIR HBL2
                  obtain ⟨kk, bk2, hk10, rfl, HBL2, HI⟩ := hrel
                  by_cases hkk : kk < 10
                  · have hltk : (kk : Int) < 10 := by omega
                    as_aux_lemma =>
                      obtain ⟨Ab5, cb5, rfl⟩ := Kd.R_slice HI.out.row
                      have hb24 : bk2.length ≤ 1048576 := by have := HBL2.out; omega
                      obtain ⟨mk, hmk⟩ : ∃ mk, mk = markOf bk2.length := ⟨_, rfl⟩
                      have hmk2 : mk = markOf (bk2.length + 1) := by rw [hmk]; unfold markOf; have := HBL2.out; congr 2; omega
                      have hsp : (bk2.length : Int) / 2 + 1000000 = mk := by rw [hmk]; unfold markOf; omega
                      have hxx : kk < ms.length := by have := HML.out; omega
                      obtain ⟨⟨xb, xg, xA, xc, xl⟩, hx⟩ : ∃ x, x = ms.getD kk default := ⟨_, rfl⟩
                      have hxl : xl.length ≤ 16777216 := HMB.out ⟨xb, xg, xA, xc, xl⟩ (by rw [hx, List.getD_eq_getElem?_getD, List.getElem?_eq_getElem hxx]; exact List.getElem_mem hxx)
                      have hA1 : (ms.map Md.v)[kk]? = some (.slice xA xl.length xc) := by
                        rw [List.getElem?_map, List.getElem?_eq_getElem hxx]
                        rw [List.getD_eq_getElem?_getD, List.getElem?_eq_getElem hxx] at hx
                        exact congrArg (fun z : Md => some z.v) hx.symm
                      have HA1 := Lib.hid hA1
                      have HJ0 : Hid (JR W2 wr V7.heap.size ms kk (.slice Ab5 bk2.length cb5) bk2 ⟨xb, xg, xA, xc, xl⟩ mk 0) := Lib.hid (by rw [hx]; exact HI.out.start hxx mk)
                      have HMK := Lib.hid (And.intro hmk hmk2)
                      clear hmk hmk2 hx hA1 HI
                      go_wp2
                      try rw [hsp]
                      clear hsp
                      go_loopw [17] (fun v17 wj => ∃ jj : Nat, jj ≤ xl.length ∧ v17 = .int .i64 (jj : Nat) ∧ Hid (JR W2 wj V7.heap.size ms kk (.slice Ab5 bk2.length cb5) bk2 ⟨xb, xg, xA, xc, xl⟩ mk jj)) (fun v17 _ => xl.length - (intOf v17).toNat)
                      case atStart => exact ⟨0, Nat.zero_le _, rfl, HJ0⟩
                      case round =>
                        clear HJ0
                        obtain ⟨jj, hjj, rfl, HJ⟩ := hrel
                        have cA := HJ.out.arr.get kk _ HA1.out
                        by_cases hjl : jj < xl.length
                        · have hltj : (jj : Int) < (xl.length : Int) := by omega
                          have hwj : IntKind.i64.wrap ((jj : Int) + 1) = ((jj + 1 : Nat) : Int) := by rw [IntWalk.i64_in _ (by omega)]; rfl
                          obtain ⟨g9, old, rfl, cO, fO, hJn⟩ := HJ.out.store hjl
                          have HJn := Lib.hid hJn
                          clear hJn
                          go_wp2
                          go_roundw
                          case rel => exact ⟨jj + 1, by omega, by go_num, HJn⟩
                          case measure => simp [intOf]; omega
                        · have hltj : ¬ (jj : Int) < (xl.length : Int) := by omega
                          obtain rfl : jj = xl.length := by omega
                          have hxb : At ((wr.alloc (.cells #[.int .i64 mk] 2)).drew) wr.heap.size [.int .i64 mk] 2 := (At.fresh wr [.int .i64 mk] 2).drew
                          obtain ⟨A9, c9, W9, hr9, a1, a2, a3, a4, a5⟩ := app_run (wr.alloc (.cells #[.int .i64 mk] 2)).drew xA xl.length xc mk wr.heap.size hxl (by
                            rcases HJ.out.now with ⟨h1, h2, h3⟩ | ⟨g, cs, h1, h2, h3, h4, h5, h6⟩
                            · exact .inl ⟨h1, h2, h3⟩
                            · exact .inr ⟨g, cs, h1, (h3.alloc _).drew, h4, h5, by have := h3.lt; omega, h6⟩) hxb
                          have hg9 : wr.grownBy W9 (Md.blk ⟨xb, xg, xA, xc, xl⟩) := grown_trans (grown_below (below_drew1 (below_alloc (Below.refl _ _) _)) _) a4
                          obtain ⟨hI9, hf9⟩ := HJ.out.done (A2 := A9) hg9 (fun g2 e => by
                            rcases a5 g2 e with h | h
                            · exact .inl h
                            · right
                              have : ((wr.alloc (.cells #[.int .i64 mk] 2)).drew).heap.size = wr.heap.size + 1 := World.size_alloc _ _
                              omega)
                          have HI9 := Lib.hid hI9
                          have HF9 := Lib.hid (And.intro hf9 (And.intro a1 (And.intro a2 a3)))
                          have HR9 := Lib.hid hr9
                          have hcx : xl.length ≤ xc := by
                            rcases HJ.out.now with ⟨h1, h2, h3⟩ | ⟨g, cs, h1, h2, h3, h4, h5, h6⟩
                            · have h2 : xl.length = 0 := h2
                              omega
                            · exact h4
                          clear hI9 hf9 a1 a2 a3 a4 a5 hr9 hxb hg9
                          go_wp2
                          refine start_ (n := 13) (S := fun w' => w'.cell? ⟨V7.heap.size, kk, none⟩ = some (.slice xA xl.length xc)) (ds := [10, 11]) #[false, false, false, false, false, false, false, false, false, false, false, false, false] (by kernel_rfl) rfl rfl (cA) (fun hHeld => ?_)
                          refine pure_ (i := 0) (N := some 182) (v := ?_) (a' := ?_) #[true, false, false, false, false, false, false, false, false, false, false, false, false] rfl rfl (by kernel_rfl) (fun _ _ _ h => h) (Or.inl ⟨by rfl, ?_⟩) ?_ ?_
                          rotate_left
                          · intro w'
                            go_simp
                            with_reducible rfl
                          rotate_left
                          · simp only [Act.put, List.setIfInBounds_toArray, List.set_cons_zero, List.set_cons_succ, i64_w, i32_w]
                            rfl
                          refine pure_ (i := 1) (N := some 183) (v := ?_) (a' := ?_) #[true, true, false, false, false, false, false, false, false, false, false, false, false] rfl rfl (by kernel_rfl) (fun _ _ _ h => h) (Or.inl ⟨by rfl, ?_⟩) ?_ ?_
                          rotate_left
                          · intro w'
                            go_simp
                            with_reducible rfl
                          rotate_left
                          · simp only [Act.put, List.setIfInBounds_toArray, List.set_cons_zero, List.set_cons_succ, i64_w, i32_w]
                            rfl
                          refine pure_ (i := 2) (N := some 184) (v := ?_) (a' := ?_) #[true, true, true, false, false, false, false, false, false, false, false, false, false] rfl rfl (by kernel_rfl) (fun _ _ _ h => h) (Or.inl ⟨by rfl, ?_⟩) ?_ ?_
                          rotate_left
                          · intro w'
                            go_simp
                            with_reducible rfl
                          rotate_left
                          · simp only [Act.put, List.setIfInBounds_toArray, List.set_cons_zero, List.set_cons_succ, i64_w, i32_w]
                            rfl
                          refine pure_ (i := 4) (N := some 186) (v := ?_) (a' := ?_) #[true, true, true, false, true, false, false, false, false, false, false, false, false] rfl rfl (by kernel_rfl) (fun _ _ _ h => h) (Or.inl ⟨by rfl, ?_⟩) ?_ ?_
                          rotate_left
                          · intro w'
                            go_simp
                            with_reducible rfl
                          rotate_left
                          · simp only [Act.put, List.setIfInBounds_toArray, List.set_cons_zero, List.set_cons_succ, i64_w, i32_w]
                            rfl
                          refine pure_ (i := 5) (N := some 187) (v := ?_) (a' := ?_) #[true, true, true, false, true, true, false, false, false, false, false, false, false] rfl rfl (by kernel_rfl) (fun _ _ _ h => h) (Or.inl ⟨by rfl, ?_⟩) ?_ ?_
                          rotate_left
                          · intro w'
                            go_simp
                            with_reducible rfl
                          rotate_left
                          · simp only [Act.put, List.setIfInBounds_toArray, List.set_cons_zero, List.set_cons_succ, i64_w, i32_w]
                            rfl
                          refine pure_ (i := 7) (N := some 189) (v := ?_) (a' := ?_) #[true, true, true, false, true, true, false, true, false, false, false, false, false] rfl rfl (by kernel_rfl) (fun _ _ _ h => h) (Or.inl ⟨by rfl, ?_⟩) ?_ ?_
                          rotate_left
                          · intro w'
                            go_simp
                            with_reducible rfl
                          rotate_left
                          · simp only [Act.put, List.setIfInBounds_toArray, List.set_cons_zero, List.set_cons_succ, i64_w, i32_w]
                            rfl
                          refine take_ (i := 3) (N := some 185) (v := ?_) (a' := ?_) #[true, true, true, true, true, true, false, true, false, false, false, false, false] rfl rfl (by kernel_rfl) (fun _ _ _ h => h) (Or.inl ⟨by rfl, ?_⟩) hHeld ?_ ?_
                          rotate_left
                          · intro w' s0
                            go_simp
                            with_reducible rfl
                          rotate_left
                          · simp only [Act.put, List.setIfInBounds_toArray, List.set_cons_zero, List.set_cons_succ, i64_w, i32_w]
                            rfl
                          refine take_ (i := 6) (N := some 188) (v := ?_) (a' := ?_) #[true, true, true, true, true, true, true, true, false, false, false, false, false] rfl rfl (by kernel_rfl) (fun _ _ _ h => h) (Or.inl ⟨by rfl, ?_⟩) hHeld ?_ ?_
                          rotate_left
                          · intro w' s0
                            go_simp
                            with_reducible rfl
                          rotate_left
                          · simp only [Act.put, List.setIfInBounds_toArray, List.set_cons_zero, List.set_cons_succ, i64_w, i32_w]
                            rfl
                          refine one_ (i := 8) (N := some 190) #[true, true, true, true, true, true, true, true, true, false, false, false, false] rfl rfl (by kernel_rfl) (by decide) (fun K hK => ?_)
                          refine value_ (w1 := ?_) (v := ?_) (by rfl) rfl ?_ ?_
                          rotate_left 2
                          · go_simp
                            constructor
                            · rfl
                            · rfl
                          refine hK.out _ _ ((At.alloc HJ.out.arr _).get kk _ HA1.out) (fun hHeld => ?_)
                          clear hK K
                          refine norm_ (a' := ?_) ?_ ?_
                          rotate_left
                          · show Act.put _ (some 190) _ = _
                            simp only [Act.put, List.setIfInBounds_toArray, List.set_cons_zero, List.set_cons_succ, i64_w, i32_w]
                            rfl
                          refine one_ (i := 9) (N := some 191) #[true, true, true, true, true, true, true, true, true, true, false, false, false] rfl rfl (by kernel_rfl) (by decide) (fun K hK => ?_)
                          refine step_app (by rfl) (.tmp 188) (.tmp 190) 22 22 rfl _ _ _ rfl rfl HR9.out ?_
                          refine hK.out _ _ (HI9.out.arr.get kk _ HA1.out) (fun hHeld => ?_)
                          clear hK K
                          refine norm_ (a' := ?_) ?_ ?_
                          rotate_left
                          · show Act.put _ (some 191) _ = _
                            simp only [Act.put, List.setIfInBounds_toArray, List.set_cons_zero, List.set_cons_succ, i64_w, i32_w]
                            rfl
                          refine last_ (i := 10) (N := some 192) #[true, true, true, true, true, true, true, true, true, true, true, false, false] rfl rfl (by kernel_rfl) (by decide) (fun K hK => ?_)
                          refine value_ (w1 := ?_) (v := ?_) (by rfl) rfl ?_ ?_
                          rotate_left 2
                          · go_simp
                            constructor
                            · rfl
                            · rfl
                          refine hK.out _ _ ?_
                          clear hK K
                          refine norm_ (a' := ?_) ?_ ?_
                          rotate_left
                          · show Act.put _ (some 192) _ = _
                            simp only [Act.put, List.setIfInBounds_toArray, List.set_cons_zero, List.set_cons_succ, i64_w, i32_w]
                            rfl
                          refine last_ (i := 11) (N := some 193) #[true, true, true, true, true, true, true, true, true, true, true, true, false] rfl rfl (by kernel_rfl) (by decide) (fun K hK => ?_)
                          refine Kd.R_append_rows_step kB (w0 := W2) W2.heap.size (by rfl) (.tmp 182) (.tmp 192) 42 22 (.slice none 0 0) 24 rfl Try.underlying42 info22 rfl (by decide) (by omega) (.slice Ab5 bk2.length cb5) bk2 [⟨xA, xl.length, xc⟩, ⟨A9, xl.length + 1, c9⟩] _ _ _ (fun _ => True) (fun _ => False) rfl rfl ?aO ?aR (fun _ _ h => h) (fun _ h => h.elim) ?aF ?aB ?aS ?aL ?_
                          case aR => exact book_src (At.fresh W9 [.slice xA xl.length xc, .slice A9 (xl.length + 1) c9] 22)
                          case aB => exact HI9.out.below.alloc HI9.out.below.size _
                          case aF => exact (fun _ _ => trivial)
                          case aO => exact Kd.R_alloc HI9.out.row _
                          case aS => rw [World.size_alloc]; have := HI9.out.below.size; omega
                          case aL => omega
                          intro v9 w9 ho hb hg hat
                          have HO9 := Lib.hid ho
                          have HB9 := Lib.hid hb
                          have HG9 := Lib.hid hg
                          clear ho hb hg hat
                          refine hK.out _ _ ?_
                          clear hK K
                          refine norm_ (a' := ?_) ?_ ?_
                          rotate_left
                          · show Act.put _ (some 193) _ = _
                            simp only [Act.put, List.setIfInBounds_toArray, List.set_cons_zero, List.set_cons_succ, i64_w, i32_w]
                            rfl
                          refine pure_ (i := 12) (N := some 5) (v := ?_) (a' := ?_) #[true, true, true, true, true, true, true, true, true, true, true, true, true] rfl rfl (by kernel_rfl) (fun _ _ _ h => h) (Or.inl ⟨by rfl, ?_⟩) ?_ ?_
                          rotate_left
                          · intro w'
                            go_simp
                            with_reducible rfl
                          rotate_left
                          · simp only [Act.put, List.setIfInBounds_toArray, List.set_cons_zero, List.set_cons_succ, i64_w, i32_w]
                            rfl
                          refine done_ (by kernel_rfl) ?_
                          have HIN := Lib.hid (IR.more (HI9.out.on (below_alloc (Below.refl _ _) (.cells #[.slice xA xl.length xc, .slice A9 (xl.length + 1) c9] 22))) ⟨xA, xl.length, xc⟩ ⟨A9, xl.length + 1, c9⟩ (by rw [← HMK.out.1]; exact HF9.out.2.1.below (below_alloc (Below.refl _ _) _)) (by rw [← HMK.out.2]; exact HF9.out.2.2.1.below (below_alloc (Below.refl _ _) _)) (by show xl.length ≤ _; omega) (by show xl.length + 1 ≤ _; omega) HF9.out.1 HO9.out HB9.out HG9.out)
                          have hwk2 : IntKind.i64.wrap ((kk : Int) + 1) = ((kk + 1 : Nat) : Int) := by rw [IntWalk.i64_in _ (by omega)]; rfl
                          clear hHeld HI9 HF9 HO9 HB9 HG9 HR9 HJ
                          go_wp2
                          go_roundw
                          case rel => exact ⟨kk + 1, _, by omega, by go_num, Lib.hid (by have := HBL2.out; simp only [List.length_append, List.length_cons, List.length_nil]; omega), HIN⟩
                          case measure => simp [intOf]; omega
                  · have hltk : ¬ (kk : Int) < 10 := by omega
                    obtain rfl : kk = 10 := by omega
                    go_wp2
                    go_roundw
                    case rel => exact ⟨i + 1, bk2, by omega, by omega, by go_num, by have := HBL2.out; omega, Lib.hid HI.out.br⟩
                    case measure => simp [intOf]; omega
      · have hlt : (i : Int) < (Es.length : Int) := by omega
        have hlt2 : ¬ (i : Int) < 12 := by omega
        as_aux_lemma =>
          obtain ⟨Ab6, cb6, rfl⟩ := Kd.R_slice HB.out.row
          have hb24 : bk.length ≤ 240 := by omega
          have hle : 12 < Es.length := by omega
          clear HKK
          go_wp2
          go_loopw [18, 19] (fun v18 v19 wl => ∃ q : Nat, q ≤ 12 ∧ v18 = .int .i64 (q : Nat) ∧ Hid (BR W2 wl (.slice Ab6 bk.length cb6) bk)) (fun v18 _ _ => 12 - (intOf v18).toNat)
          case atStart => exact ⟨0, by omega, rfl, HB⟩
          case round =>
            clear HB
            obtain ⟨q, hqn, rfl, HB⟩ := hrel
            have HKK := Lib.hid (HK2.out.on HB.out.below)
            by_cases hq : q < 12
            · have hlq : (q : Int) < (Es.length : Int) := by omega
              have hlq2 : (q : Int) < 12 := by omega
              have hlqD : (q : Int) < (Ds.length : Int) := by have := HDN.out; omega
              have hwq : IntKind.i64.wrap ((q : Int) + 1) = ((q + 1 : Nat) : Int) := by rw [IntWalk.i64_in _ (by omega)]; rfl
              obtain ⟨r0, o0, hL0, cE⟩ := HKK.out.hE.head q (by omega)
              obtain ⟨r1, o1, hL1, cD⟩ := HKK.out.h1.head q (by have := HDN.out; omega)
              subst hL0 hL1
              have hmp := maps_get HM.out q
              have hbg := bulk_get Es q
              have hrE := heads_get HKK.out.hE q
              have hrD := heads_get HKK.out.h1 q
              obtain ⟨⟨Ae, ce, ge, le⟩, hEd⟩ : ∃ d, d = Es.getD q default := ⟨_, rfl⟩
              obtain ⟨⟨Aa, ca, ga, la⟩, hDd⟩ : ∃ d, d = Ds.getD q default := ⟨_, rfl⟩
              rw [← hEd] at cE hmp hbg hrE
              rw [← hDd] at cD hmp hrD
              simp only at hmp hbg hrE hrD
              change wr.cell? ⟨r0, o0 + q, none⟩ = some (.slice Ae le.length ce) at cE
              change wr.cell? ⟨r1, o1 + q, none⟩ = some (.slice Aa la.length ca) at cD
              subst hmp
              have hll : la.length ≤ 1048576 := by have := HBK.out; omega
              have hsl : (setL ltI la).length ≤ 16777216 := by have := setL_len totI la; omega
              have HRE := Lib.hid hrE
              have HRD := Lib.hid hrD
              clear hEd hDd hrE hrD hbg
              go_wp2_with (first
                | (go_at_call 33; ((with_reducible refine (rsorted_got _ ge Ae ce la HRE.out hll).mono ?_); rintro e V1 ⟨gw, Bw, bw, rfl, q1, _, hb⟩; have HZ1 := Lib.hid (And.intro (HB.out.on hb) (And.intro q1 (HRD.out.below hb))); have cD1 := (hb.cell (p := ⟨r1, o1 + q, none⟩) (World.block_lt_of_cell? wr _ cD)).trans cD; clear q1 hb))
                | (go_at_call 22; ((with_reducible refine (of_got _ ga Aa ca la HZ1.out.2.2 hll).mono ?_); rintro e V2 ⟨g1, B1, k1, rfl, q1, _, hb⟩; have HZ2 := Lib.hid (And.intro (HZ1.out.1.on hb) (And.intro (HZ1.out.2.1.below hb) (HZ1.out.2.2.below hb))); have HN2 := Lib.hid q1; have cD2 := (hb.cell (p := ⟨r1, o1 + q, none⟩) (World.block_lt_of_cell? V1 _ cD1)).trans cD1; clear q1 hb))
                | (go_at_call 30; ((with_reducible refine (six_un (V2.drewN m1) V2.heap.size ?h0 ga ca Aa la ?hx hll).mono ?_); (case h0 => rfl); (case hx => exact HZ2.out.2.2.below (pw_below_drewN (Below.refl _ _) _)); rintro e V3 ⟨g2, B2, k2, rfl, q1, hb0⟩; have hb : Below V2.heap.size V2 V3 := below_lit hb0; have HZ3 := Lib.hid (And.intro (HZ2.out.1.on hb) (And.intro (HZ2.out.2.1.below hb) (HZ2.out.2.2.below hb))); have HN3 := Lib.hid q1.row; have cD3 := (hb.cell (p := ⟨r1, o1 + q, none⟩) (World.block_lt_of_cell? V2 _ cD2)).trans cD2; clear q1 hb hb0))
                | (go_at_call 31; ((with_reducible refine (six_me (V3.drewN m2) V3.heap.size ?h0 ga ca Aa la ?hx hll).mono ?_); (case h0 => rfl); (case hx => exact HZ3.out.2.2.below (pw_below_drewN (Below.refl _ _) _)); rintro e V4 ⟨g3, B3, k3, rfl, q1, hb0⟩; have hb : Below V3.heap.size V3 V4 := below_lit hb0; have HZ4 := Lib.hid (And.intro (HZ3.out.1.on hb) (And.intro (HZ3.out.2.1.below hb) (HZ3.out.2.2.below hb))); have HN4 := Lib.hid q1.row; clear q1 hb hb0))
                | (go_at_call 29; (first
                  | ((with_reducible refine (same_as V2 g1 gw k1 bw B1 Bw (setL ltI la) HN2.out HZ2.out.2.1 hsl).mono ?_); rintro e _ ⟨rfl, ⟨m1, rfl⟩⟩)
                  | ((with_reducible refine (same_as V3 g2 gw k2 bw B2 Bw (setL ltI la) HN3.out HZ3.out.2.1 hsl).mono ?_); rintro e _ ⟨rfl, ⟨m2, rfl⟩⟩)
                  | ((with_reducible refine (same_as V4 g3 gw k3 bw B3 Bw (setL ltI la) HN4.out HZ4.out.2.1 hsl).mono ?_); rintro e _ ⟨rfl, ⟨m3, rfl⟩⟩)))
                | go_in)
              go_roundw
              case rel => exact ⟨q + 1, by omega, by go_num, Lib.hid (HZ4.out.1.on (pw_below_drewN (Below.refl _ _) m3))⟩
              case measure => simp [intOf]; omega
            · have hltq : (q : Int) < (Es.length : Int) := by omega
              have hltq2 : ¬ (q : Int) < 12 := by omega
              clear HKK
              go_wp2
              go_loopw [20, 21] (fun v20 v21 wl => ∃ s : Nat, s ≤ bk.length ∧ v20 = .int .i64 (s : Nat) ∧ Drawn0 wr wl) (fun v20 _ _ => bk.length - (intOf v20).toNat)
              case atStart => exact ⟨0, Nat.zero_le _, rfl, Drawn0.refl _⟩
              case round =>
                obtain ⟨s, hs, rfl, HD⟩ := hrel
                obtain ⟨n8, rfl⟩ := HD
                by_cases hsn : s < bk.length
                · have hls : (s : Int) < (bk.length : Int) := by omega
                  have hws : IntKind.i64.wrap ((s : Int) + 1) = ((s + 1 : Nat) : Int) := by rw [IntWalk.i64_in _ (by omega)]; rfl
                  obtain ⟨gb, rfl, cB⟩ := book_at HB.out.row hsn
                  have hall := HB.out.all s (bk.getD s ⟨none, 0, 0⟩) (by rw [List.getElem?_eq_getElem hsn]; simp [List.getD_eq_getElem?_getD, List.getElem?_eq_getElem hsn])
                  obtain ⟨⟨eA, en, ec⟩, he⟩ : ∃ e, e = bk.getD s ⟨none, 0, 0⟩ := ⟨_, rfl⟩
                  rw [← he] at cB hall
                  change wr.cell? ⟨gb, s, none⟩ = some (.slice eA en ec) at cB
                  have HAL := Lib.hid hall
                  obtain ⟨mk, hmk⟩ : ∃ mk, mk = markOf s := ⟨_, rfl⟩
                  have hsp : (s : Int) / 2 + 1000000 = mk := by rw [hmk]; unfold markOf; omega
                  have HMK := Lib.hid hmk
                  have hen : en ≤ 16777217 := hall.2
                  clear hall he hmk
                  go_wp2
                  go_loopw [21] (fun v21 wl => ∃ u : Nat, u ≤ en ∧ v21 = .int .i64 (u : Nat) ∧ Drawn0 wr wl) (fun v21 _ => en - (intOf v21).toNat)
                  case atStart => exact ⟨0, Nat.zero_le _, rfl, n8, rfl⟩
                  case round =>
                    obtain ⟨u, hu, rfl, HD⟩ := hrel
                    obtain ⟨n9, rfl⟩ := HD
                    by_cases hun : u < en
                    · have hlu : (u : Int) < (en : Int) := by omega
                      have hwu : IntKind.i64.wrap ((u : Int) + 1) = ((u + 1 : Nat) : Int) := by rw [IntWalk.i64_in _ (by omega)]; rfl
                      obtain ⟨gz, cz, rfl, hz1, hz2⟩ := HAL.out.1 (by omega)
                      have cZ := hz1.get u _ (hz2 u hun)
                      rw [show markOf s = mk from HMK.out.symm] at cZ
                      clear hz1 hz2
                      go_wp2
                      go_roundw
                      case rel => exact ⟨u + 1, by omega, by go_num, n9, rfl⟩
                      case measure => simp [intOf]; omega
                    · have hlu : ¬ (u : Int) < (en : Int) := by omega
                      go_wp2
                      go_roundw
                      case rel => exact ⟨s + 1, by omega, by go_num, n9, rfl⟩
                      case measure => simp [intOf]; omega
                · have hls : ¬ (s : Int) < (bk.length : Int) := by omega
                  have HKK := Lib.hid (HK2.out.on HB.out.below)
                  go_wp2_with (first
                    | (go_at_call 27; ((with_reducible refine (unchanged_as _ w.heap.size c1 c2 c0 _ _ L1 L2 L Ds Es ?h1 ?h2 ?h3 ?h4 HM.out HDN.out HDN.out HDL.out hm).mono ?_); (case h1 => exact HKK.out.h1.below (pw_below_drewN (Below.refl _ _) _)); (case h2 => exact HKK.out.h2.below (pw_below_drewN (Below.refl _ _) _)); (case h3 => exact HKK.out.hE.below (pw_below_drewN (Below.refl _ _) _)); (case h4 => exact (HKK.out.on (pw_below_drewN (Below.refl _ _) _)).sp); rintro e _ ⟨rfl, ⟨n7, rfl⟩⟩))
                    | go_in)
                  go_ret
                  exact ⟨rfl, by repeat (first | exact HKK.out.below | apply pw_below_drewN | apply below_drew1)⟩
    · have hlt : ¬ (i : Int) < (Es.length : Int) := by omega
      as_aux_lemma =>
        obtain ⟨Ab6, cb6, rfl⟩ := Kd.R_slice HB.out.row
        have hb24 : bk.length ≤ 240 := by omega
        have hle : Es.length ≤ 12 := by omega
        clear HKK
        go_wp2
        go_loopw [18, 19] (fun v18 v19 wl => ∃ q : Nat, q ≤ Es.length ∧ v18 = .int .i64 (q : Nat) ∧ Hid (BR W2 wl (.slice Ab6 bk.length cb6) bk)) (fun v18 _ _ => Es.length - (intOf v18).toNat)
        case atStart => exact ⟨0, by omega, rfl, HB⟩
        case round =>
          clear HB
          obtain ⟨q, hqn, rfl, HB⟩ := hrel
          have HKK := Lib.hid (HK2.out.on HB.out.below)
          by_cases hq : q < Es.length
          · have hlq : (q : Int) < (Es.length : Int) := by omega
            have hlq2 : (q : Int) < 12 := by omega
            have hlqD : (q : Int) < (Ds.length : Int) := by have := HDN.out; omega
            have hwq : IntKind.i64.wrap ((q : Int) + 1) = ((q + 1 : Nat) : Int) := by rw [IntWalk.i64_in _ (by omega)]; rfl
            obtain ⟨r0, o0, hL0, cE⟩ := HKK.out.hE.head q (by omega)
            obtain ⟨r1, o1, hL1, cD⟩ := HKK.out.h1.head q (by have := HDN.out; omega)
            subst hL0 hL1
            have hmp := maps_get HM.out q
            have hbg := bulk_get Es q
            have hrE := heads_get HKK.out.hE q
            have hrD := heads_get HKK.out.h1 q
            obtain ⟨⟨Ae, ce, ge, le⟩, hEd⟩ : ∃ d, d = Es.getD q default := ⟨_, rfl⟩
            obtain ⟨⟨Aa, ca, ga, la⟩, hDd⟩ : ∃ d, d = Ds.getD q default := ⟨_, rfl⟩
            rw [← hEd] at cE hmp hbg hrE
            rw [← hDd] at cD hmp hrD
            simp only at hmp hbg hrE hrD
            change wr.cell? ⟨r0, o0 + q, none⟩ = some (.slice Ae le.length ce) at cE
            change wr.cell? ⟨r1, o1 + q, none⟩ = some (.slice Aa la.length ca) at cD
            subst hmp
            have hll : la.length ≤ 1048576 := by have := HBK.out; omega
            have hsl : (setL ltI la).length ≤ 16777216 := by have := setL_len totI la; omega
            have HRE := Lib.hid hrE
            have HRD := Lib.hid hrD
            clear hEd hDd hrE hrD hbg
            go_wp2_with (first
              | (go_at_call 33; ((with_reducible refine (rsorted_got _ ge Ae ce la HRE.out hll).mono ?_); rintro e V1 ⟨gw, Bw, bw, rfl, q1, _, hb⟩; have HZ1 := Lib.hid (And.intro (HB.out.on hb) (And.intro q1 (HRD.out.below hb))); have cD1 := (hb.cell (p := ⟨r1, o1 + q, none⟩) (World.block_lt_of_cell? wr _ cD)).trans cD; clear q1 hb))
              | (go_at_call 22; ((with_reducible refine (of_got _ ga Aa ca la HZ1.out.2.2 hll).mono ?_); rintro e V2 ⟨g1, B1, k1, rfl, q1, _, hb⟩; have HZ2 := Lib.hid (And.intro (HZ1.out.1.on hb) (And.intro (HZ1.out.2.1.below hb) (HZ1.out.2.2.below hb))); have HN2 := Lib.hid q1; have cD2 := (hb.cell (p := ⟨r1, o1 + q, none⟩) (World.block_lt_of_cell? V1 _ cD1)).trans cD1; clear q1 hb))
              | (go_at_call 30; ((with_reducible refine (six_un (V2.drewN m1) V2.heap.size ?h0 ga ca Aa la ?hx hll).mono ?_); (case h0 => rfl); (case hx => exact HZ2.out.2.2.below (pw_below_drewN (Below.refl _ _) _)); rintro e V3 ⟨g2, B2, k2, rfl, q1, hb0⟩; have hb : Below V2.heap.size V2 V3 := below_lit hb0; have HZ3 := Lib.hid (And.intro (HZ2.out.1.on hb) (And.intro (HZ2.out.2.1.below hb) (HZ2.out.2.2.below hb))); have HN3 := Lib.hid q1.row; have cD3 := (hb.cell (p := ⟨r1, o1 + q, none⟩) (World.block_lt_of_cell? V2 _ cD2)).trans cD2; clear q1 hb hb0))
              | (go_at_call 31; ((with_reducible refine (six_me (V3.drewN m2) V3.heap.size ?h0 ga ca Aa la ?hx hll).mono ?_); (case h0 => rfl); (case hx => exact HZ3.out.2.2.below (pw_below_drewN (Below.refl _ _) _)); rintro e V4 ⟨g3, B3, k3, rfl, q1, hb0⟩; have hb : Below V3.heap.size V3 V4 := below_lit hb0; have HZ4 := Lib.hid (And.intro (HZ3.out.1.on hb) (And.intro (HZ3.out.2.1.below hb) (HZ3.out.2.2.below hb))); have HN4 := Lib.hid q1.row; clear q1 hb hb0))
              | (go_at_call 29; (first
                | ((with_reducible refine (same_as V2 g1 gw k1 bw B1 Bw (setL ltI la) HN2.out HZ2.out.2.1 hsl).mono ?_); rintro e _ ⟨rfl, ⟨m1, rfl⟩⟩)
                | ((with_reducible refine (same_as V3 g2 gw k2 bw B2 Bw (setL ltI la) HN3.out HZ3.out.2.1 hsl).mono ?_); rintro e _ ⟨rfl, ⟨m2, rfl⟩⟩)
                | ((with_reducible refine (same_as V4 g3 gw k3 bw B3 Bw (setL ltI la) HN4.out HZ4.out.2.1 hsl).mono ?_); rintro e _ ⟨rfl, ⟨m3, rfl⟩⟩)))
              | go_in)
            go_roundw
            case rel => exact ⟨q + 1, by omega, by go_num, Lib.hid (HZ4.out.1.on (pw_below_drewN (Below.refl _ _) m3))⟩
            case measure => simp [intOf]; omega
          · have hltq : ¬ (q : Int) < (Es.length : Int) := by omega
            clear HKK
            go_wp2
            go_loopw [20, 21] (fun v20 v21 wl => ∃ s : Nat, s ≤ bk.length ∧ v20 = .int .i64 (s : Nat) ∧ Drawn0 wr wl) (fun v20 _ _ => bk.length - (intOf v20).toNat)
            case atStart => exact ⟨0, Nat.zero_le _, rfl, Drawn0.refl _⟩
            case round =>
              obtain ⟨s, hs, rfl, HD⟩ := hrel
              obtain ⟨n8, rfl⟩ := HD
              by_cases hsn : s < bk.length
              · have hls : (s : Int) < (bk.length : Int) := by omega
                have hws : IntKind.i64.wrap ((s : Int) + 1) = ((s + 1 : Nat) : Int) := by rw [IntWalk.i64_in _ (by omega)]; rfl
                obtain ⟨gb, rfl, cB⟩ := book_at HB.out.row hsn
                have hall := HB.out.all s (bk.getD s ⟨none, 0, 0⟩) (by rw [List.getElem?_eq_getElem hsn]; simp [List.getD_eq_getElem?_getD, List.getElem?_eq_getElem hsn])
                obtain ⟨⟨eA, en, ec⟩, he⟩ : ∃ e, e = bk.getD s ⟨none, 0, 0⟩ := ⟨_, rfl⟩
                rw [← he] at cB hall
                change wr.cell? ⟨gb, s, none⟩ = some (.slice eA en ec) at cB
                have HAL := Lib.hid hall
                obtain ⟨mk, hmk⟩ : ∃ mk, mk = markOf s := ⟨_, rfl⟩
                have hsp : (s : Int) / 2 + 1000000 = mk := by rw [hmk]; unfold markOf; omega
                have HMK := Lib.hid hmk
                have hen : en ≤ 16777217 := hall.2
                clear hall he hmk
                go_wp2
                go_loopw [21] (fun v21 wl => ∃ u : Nat, u ≤ en ∧ v21 = .int .i64 (u : Nat) ∧ Drawn0 wr wl) (fun v21 _ => en - (intOf v21).toNat)
                case atStart => exact ⟨0, Nat.zero_le _, rfl, n8, rfl⟩
                case round =>
                  obtain ⟨u, hu, rfl, HD⟩ := hrel
                  obtain ⟨n9, rfl⟩ := HD
                  by_cases hun : u < en
                  · have hlu : (u : Int) < (en : Int) := by omega
                    have hwu : IntKind.i64.wrap ((u : Int) + 1) = ((u + 1 : Nat) : Int) := by rw [IntWalk.i64_in _ (by omega)]; rfl
                    obtain ⟨gz, cz, rfl, hz1, hz2⟩ := HAL.out.1 (by omega)
                    have cZ := hz1.get u _ (hz2 u hun)
                    rw [show markOf s = mk from HMK.out.symm] at cZ
                    clear hz1 hz2
                    go_wp2
                    go_roundw
                    case rel => exact ⟨u + 1, by omega, by go_num, n9, rfl⟩
                    case measure => simp [intOf]; omega
                  · have hlu : ¬ (u : Int) < (en : Int) := by omega
                    go_wp2
                    go_roundw
                    case rel => exact ⟨s + 1, by omega, by go_num, n9, rfl⟩
                    case measure => simp [intOf]; omega
              · have hls : ¬ (s : Int) < (bk.length : Int) := by omega
                have HKK := Lib.hid (HK2.out.on HB.out.below)
                go_wp2_with (first
                  | (go_at_call 27; ((with_reducible refine (unchanged_as _ w.heap.size c1 c2 c0 _ _ L1 L2 L Ds Es ?h1 ?h2 ?h3 ?h4 HM.out HDN.out HDN.out HDL.out hm).mono ?_); (case h1 => exact HKK.out.h1.below (pw_below_drewN (Below.refl _ _) _)); (case h2 => exact HKK.out.h2.below (pw_below_drewN (Below.refl _ _) _)); (case h3 => exact HKK.out.hE.below (pw_below_drewN (Below.refl _ _) _)); (case h4 => exact (HKK.out.on (pw_below_drewN (Below.refl _ _) _)).sp); rintro e _ ⟨rfl, ⟨n7, rfl⟩⟩))
                  | go_in)
                go_ret
                exact ⟨rfl, by repeat (first | exact HKK.out.below | apply pw_below_drewN | apply below_drew1)⟩
end Go.Proofs.Ytnflokhffmfifaa.KeptW
namespace Go.Proofs.Ytnflokhffmfifaa.XZ
open Go.RowKit Go.Proofs.Ytnflokhffmfifaa.CountW Go.Proofs.Ytnflokhffmfifaa.HeapW Go.Proofs.YtnflokhffmfifaaW.PrintWords Go.Proofs.YtnflokhffmfifaaW.PrintLast Go.Proofs.YtnflokhffmfifaaW.PrintMore
def rosterlaw10_PostingKept.f (x0 : List (List Int)) : Option Bool := if x0.flatten.length ≤ 1048576 ∧ x0.length ≤ 1048576 then some true else none
theorem rosterlaw10_PostingKept.calls (A0 : Option Addr) (c0 : Nat) (l0 : List (List Int)) (r : Bool) (w : World) (hr0 : Kd.C (Kd.slice 2 (Kd.int .i64)) w A0 l0.length l0) (hc0 : l0.length ≤ c0) (h : rosterlaw10_PostingKept.f l0 = some r) :
    Calls Try.prog 9 #[.slice A0 l0.length c0] w fun e w' => e = .returned (.bool r) ∧ Below w.heap.size w w' := by
  unfold rosterlaw10_PostingKept.f at h
  split at h
  case isFalse => cases h
  case isTrue hs =>
  obtain rfl := Option.some.inj h
  obtain ⟨Es, hh, rfl⟩ := heads_of_C hr0
  rw [flat_len] at hs
  rw [List.length_map] at hs hc0 ⊢
  exact KeptW.kept_walk w c0 A0 Es hh hs.1 hs.2
end Go.Proofs.Ytnflokhffmfifaa.XZ

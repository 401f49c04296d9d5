/- Joined: link; Build whole. For every world. -/
import Derived.Test.YtnogmaljcocfjaaDoorPkC
import Derived.Maps.RangeWalk
import Derived.Maps.OwnRows
import Derived.Maps.GroupsBeside
import Derived.Deep.OwnRows
import Derived.Sort.KeysCollected
import Derived.Shelf.SortM.Plain
import Derived.Shelf.SortM.SortNone
set_option linter.unusedVariables false
set_option linter.unusedSimpArgs false
set_option linter.unusedSectionVars false
namespace Go.Proofs.YtnogmaljcocfjaaDoor.DitBuild
open Go Go.Maps Go.RowKit Go.Proofs.YtnogmaljcocfjaaDoor.XK Go.Proofs.YtnogmaljcocfjaaDoor.Blk Go.Proofs.YtnogmaljcocfjaaDoor.DitTab Go.Proofs.YtnogmaljcocfjaaDoor.DitRow Go.Proofs.YtnogmaljcocfjaaDoor.DitTerm Go.Proofs.YtnogmaljcocfjaaDoor.DitMap Go.Proofs.YtnogmaljcocfjaaDoor.DitCheck Go.Proofs.YtnogmaljcocfjaaDoor.DitCopy Go.Proofs.YtnogmaljcocfjaaDoorW.PrintWords Go.Proofs.YtnogmaljcocfjaaDoorW.PrintLast Go.Proofs.YtnogmaljcocfjaaDoorW.PrintMore
/-- All that stood, but for the tree's own block and the children's map. -/
structure LA (W0 W : World) (tb kb : Nat) : Prop where
  os : W.os = W0.os
  tape : W.tape = W0.tape
  output : W.output = W0.output
  size : W0.heap.size ≤ W.heap.size
  keep : ∀ k, k < W0.heap.size → k ≠ tb → k ≠ kb → W.heap[k]? = W0.heap[k]?
section
variable {W0 W W' : World} {tb kb : Nat}
theorem LA.refl (W : World) (tb kb : Nat) : LA W W tb kb := ⟨rfl, rfl, rfl, Nat.le_refl _, fun _ _ _ _ => rfl⟩
theorem LA.grown {row : Option Nat} (h : LA W0 W tb kb) (hg : W.grownBy W' row) (hr : ∀ q, row = some q → q = tb ∨ q = kb ∨ W0.heap.size ≤ q) : LA W0 W' tb kb :=
  ⟨hg.os.trans h.os, hg.tape.trans h.tape, hg.output.trans h.output, Nat.le_trans h.size hg.size, fun k h1 h2 h3 => (hg.block k (Nat.lt_of_lt_of_le h1 h.size) (fun e => by
    rcases hr k e.symm with h4 | h4 | h4
    · exact h2 h4
    · exact h3 h4
    · omega)).trans (h.keep k h1 h2 h3)⟩
theorem LA.below (h : LA W0 W tb kb) (hb : Below W.heap.size W W') : LA W0 W' tb kb := h.grown (grown_below hb) (fun q e => by cases e)
theorem LA.same {lo hi : Nat} (h : LA W0 W tb kb) (hl : tb < lo) (hk : kb < lo) (hh : hi ≤ W0.heap.size) : Same lo hi W0 W := fun k h1 h2 => h.keep k (by omega) (by omega) (by omega)
/-- Below what stood ahead of it all. -/
theorem LA.under {w : World} (h : LA W0 W tb kb) (hb : Below w.heap.size w W0) (h1 : w.heap.size ≤ tb) (h2 : w.heap.size ≤ kb) : Below w.heap.size w W :=
  ⟨h.os.trans hb.os, h.tape.trans hb.tape, h.output.trans hb.output, Nat.le_trans hb.size h.size, fun k hk => (h.keep k (Nat.lt_of_lt_of_le hk hb.size) (by omega) (by omega)).trans (hb.block k hk)⟩
end
/-- The entries' copies, read in whatever world keeps them. -/
theorem ents_own {w W0 : World} {A : Option Addr} {n c eb kb nb tb g cap m : Nat} {es : List S45} {p : List Nat} {v : Value} (h : P2 w A n c eb kb nb tb g cap es p v n m W0) (hn : 0 < n) (hp : p.length = n) :
    ∃ eg ec, v = .slice (some ⟨eg, 0, none⟩) n ec ∧ n ≤ ec ∧ g < eg ∧ eg < W0.heap.size ∧ ∀ W, LA W0 W tb kb → ∀ j, j < n → EntAt W eg (j * 4) (ent es (p.getD j 0)) := by
  obtain ⟨o1, o2, o3, o4, o5, o6⟩ := h.ord
  obtain ⟨hs, own, hx, hk⟩ := h.own
  rcases own.2 with ⟨rfl, h0⟩ | ⟨eg, ec, cur, rfl, h3, h4, h5, h6, h7, h8⟩
  · omega
  · refine ⟨eg, ec, rfl, h5, by omega, (Array.getElem?_eq_some_iff.1 h4).1, fun W hW j hj => ?_⟩
    have hat : At W eg cur.toList 45 := (hW.keep eg (Array.getElem?_eq_some_iff.1 h4).1 (by omega) (by omega)).trans h4
    rw [List.take_of_length_le (by omega)] at hx
    have hlen : hs.length = n := by have := congrArg List.length hx; simp at this; omega
    have hxj : (hs[j]'(by omega)).x = ent es (p.getD j 0) := by
      have h9 : (hs.map EH.x)[j]? = (p.map (ent es))[j]? := by rw [hx]
      rw [List.getElem?_map, List.getElem?_map, List.getElem?_eq_getElem (by omega), List.getElem?_eq_getElem (by omega)] at h9
      have := Option.some.inj h9
      rw [this, List.getD_eq_getElem?_getD, List.getElem?_eq_getElem (by omega)]
      rfl
    obtain ⟨k1, k2, k3⟩ := hk _ (List.getElem_mem (show j < hs.length by omega))
    generalize hhe : hs[j]'(by omega) = e at hxj k1 k2 k3
    have hcell : ∀ m, (hm : m < 4) → W.cell? ⟨eg, j * 4 + m, none⟩ = e.cells[m]? := fun m hm => by
      rw [hat.cell]
      have h9 : (cur.toList.take (n * 4))[j * 4 + m]? = (hs.flatMap EH.cells)[j * 4 + m]? := by rw [h8]
      rw [List.getElem?_take_of_lt (by omega)] at h9
      rw [h9]
      have key : ∀ (l : List EH) (j : Nat) (hj : j < l.length), (l.flatMap EH.cells)[j * 4 + m]? = (l[j]).cells[m]? := by
        intro l
        induction l with
        | nil => intro j hj; simp at hj
        | cons a l ih =>
          intro j hj
          rw [List.flatMap_cons]
          have hl4 : a.cells.length = 4 := rfl
          cases j with
          | zero =>
            rw [Nat.zero_mul, Nat.zero_add, List.getElem?_append_left (by omega)]
            rfl
          | succ j =>
            rw [List.getElem?_append_right (by omega), hl4, show (j + 1) * 4 + m - 4 = j * 4 + m by omega]
            exact ih j (by simpa using hj)
      rw [key hs j (by omega), hhe]
    obtain ⟨r1, r2⟩ := k1.rd W (hW.same (by omega) (by omega) k1.le)
    obtain ⟨q, hq⟩ := rowS_of_C r1 k1.c2
    rw [← hxj]
    exact ⟨hcell 0 (by omega), hcell 1 (by omega), e.B2, e.d2, q, e.B3, e.d3, hcell 2 (by omega), hcell 3 (by omega), hq, k1.c3, r2⟩
end Go.Proofs.YtnogmaljcocfjaaDoor.DitBuild
namespace Go.Proofs.YtnogmaljcocfjaaDoor.DitBuild
open Go Go.Maps Go.RowKit Go.Proofs.YtnogmaljcocfjaaDoor.XK Go.Proofs.YtnogmaljcocfjaaDoor.Blk Go.Proofs.YtnogmaljcocfjaaDoor.DitTab Go.Proofs.YtnogmaljcocfjaaDoor.DitRow Go.Proofs.YtnogmaljcocfjaaDoor.DitTerm Go.Proofs.YtnogmaljcocfjaaDoor.DitMap Go.Proofs.YtnogmaljcocfjaaDoor.DitCheck Go.Proofs.YtnogmaljcocfjaaDoor.DitCopy Go.Proofs.YtnogmaljcocfjaaDoorW.PrintWords Go.Proofs.YtnogmaljcocfjaaDoorW.PrintLast Go.Proofs.YtnogmaljcocfjaaDoorW.PrintMore
theorem law3 : Keyed Tryd.prog 3 := int_keyed Tryd.underlying3
theorem zero23 (w : World) : (zeroValue 23).run Tryd.prog w = .ok (.slice none 0 0) w := by kernel_rfl
def kdat (l : List Int) : DataW Unit := match l with | [] => .nil | _ => .slice (Go.ChangeShapes.lits .i64 l) []
theorem kdat_of {v : Value} {w : World} {base : Nat} {zs l : List Int} (h : w.ownsInts base 3 .i64 v zs) (e : kdat l = rowDatum .i64 v zs) : zs = l := by
  rcases h.datum (H := Unit) with ⟨h1, h2⟩ | h1
  · rw [h1] at e
    cases l with
    | nil => exact h2
    | cons x l => simp [kdat] at e
  · rw [h1] at e
    cases l with
    | nil => simp [kdat] at e
    | cons x l =>
      simp only [kdat, DataW.slice.injEq, and_true] at e
      exact ((List.map_inj_right (fun a b hab => by cases hab; rfl)).1 e).symm
theorem lit3_inj {p q : Int} (h : (Lit.int .i64 p) = .int .i64 q) : p = q := by cases h; rfl
abbrev wfi (x : Int) : Prop := (Lit.int .i64 x).wf = true
/-- Block kb is the children's map: of x the list G x. -/
def Kids (w : World) (base kb m : Nat) (G : Int → List Int) : Prop := ∃ D : DataW Unit, w.ownsGroups Tryd.prog 3 base 3 .i64 kb m D ∧ ∀ x : Int, wfi x → D.atKey (.int .i64 x) .nil = kdat (G x)
theorem kids_empty {w : World} {base kb : Nat} (h : w.heap[kb]? = some (.map #[] 0)) (hb : kb < base) : Kids w base kb 0 (fun _ => []) :=
  ⟨.map [], ⟨#[], 0, h, ⟨by simp, Go.MapKept.stamped_empty 0, by simp⟩, Nat.le_refl _, rfl, hb, by simp, by simp⟩, fun p _ => rfl⟩
theorem Kids.kept {w w' : World} {base kb m : Nat} {G : Int → List Int} {row : Option Nat} (h : Kids w base kb m G) (hg : w.grownBy w' row) (h1 : some kb ≠ row) (h2 : ∀ j, row = some j → j < base) : Kids w' base kb m G := by
  obtain ⟨D, a, b⟩ := h
  exact ⟨D, a.kept hg h1 (a.rowsAbove h2), b⟩
theorem Kids.below {w w' : World} {base kb m : Nat} {G : Int → List Int} (h : Kids w base kb m G) (hb : Below w.heap.size w w') : Kids w' base kb m G := h.kept (grown_below hb) (by simp) (fun j e => by cases e)
/-- The way back. -/
def KBack (w : World) (base kb m : Nat) (q : Int) (G : Int → List Int) (v : Value) : Prop := ∀ (w1 : World) (v' : Value) (zs' : List Int), w.grownBy w1 v.ownBlock → w1.ownsInts base 3 .i64 v' zs' → zs' ≠ [] → zs'.length ≤ m + 1 → (v'.ownBlock = v.ownBlock ∨ ∃ g, v'.ownBlock = some g ∧ w.heap.size ≤ g) →
    ∃ w2, (Instr.mapUpdate 77 (.map (some kb)) (.int .i64 q) v').run Tryd.prog w1 = .ok () w2 ∧ Kids w2 base kb (m + 1) (fun p => if p = q then zs' else G p) ∧ w1.grownBy w2 (some kb)
theorem Kids.look {w : World} {base kb m : Nat} {q : Int} {G : Int → List Int} (h : Kids w base kb m G) (hm : m < maxLen) (hwf : (Lit.int .i64 q).wf = true) :
    ∃ v, (Instr.lookup 77 (.map (some kb)) (.int .i64 q) false).run Tryd.prog w = .ok v w ∧ w.ownsInts base 3 .i64 v (G q) ∧ (G q).length ≤ m ∧ KBack w base kb m q G v := by
  obtain ⟨D, a, b⟩ := h
  obtain ⟨v, zs, hrun, hat, hoi, hzl, hback⟩ := a.at law3 Tryd.underlying77 (zero23 w) hm (keyOf_int_mk Tryd.underlying3 hwf)
  have e : zs = G q := kdat_of hoi ((b q hwf).symm.trans hat)
  subst e
  refine ⟨v, hrun, hoi, hzl, fun w1 v' zs' hg ho hne hl hloc => ?_⟩
  obtain ⟨w2, r1, r2, r3⟩ := hback w1 v' zs' hg ho hl hloc
  refine ⟨w2, r1, ⟨_, r2, fun p hp => ?_⟩, r3⟩
  have him : IsMap D := by obtain ⟨es, clock, _, _, _, rfl, _⟩ := a; exact ⟨_, rfl⟩
  show _ = kdat (if p = q then zs' else G p)
  by_cases e : p = q
  · subst e
    rw [if_pos rfl, atKey_put_same him (by trivial), ho.datum_pos hne]
    cases zs' with
    | nil => exact absurd rfl hne
    | cons x l => rfl
  · rw [if_neg e, atKey_put_other (fun q2 => e (lit3_inj q2))]
    exact b p hp
section
variable {ops : Array Oper} {o : Oper} {a : Act} {Q : Exit → Act → World → Prop} {K : Act → World → Prop}
/-- 't.kids[p]' in a region that draws its order. -/
theorem step_klook (w : World) (hw : Region.wanted o (yielded ops a.tmps) = true) (m x : Operand) (hop : o.op = Op.lookup 77 m x false) {base kb mm : Nat} {q : Int} {G : Int → List Int} (hm : a.eval m = .map (some kb)) (h : Kids w base kb mm G) (hmm : mm < maxLen) (hwf : (Lit.int .i64 q).wf = true) (hx : a.eval x = .int .i64 q)
    (hK : ∀ v, w.ownsInts base 3 .i64 v (G q) → (G q).length ≤ mm → KBack w base kb mm q G v → K (a.put o.dst v) w) : if Region.wanted o (yielded ops a.tmps) = true then Oper.wp Tryd.prog o a w K Q else K (a.put o.dst undef) w := by
  obtain ⟨v, hrun, h1, h2, h3⟩ := h.look hmm hwf
  rw [if_pos hw]
  unfold Oper.wp
  simp [execOp, hop, hm, hx, hrun, Result.andThen]
  exact hK v h1 h2 h3
/-- 't.kids[p] = v'. -/
theorem step_kput (w : World) (hw : Region.wanted o (yielded ops a.tmps) = true) (m x v : Operand) (hop : o.op = Op.mapUpdate 77 m x v) {w0 : World} {base kb mm : Nat} {q : Int} {G : Int → List Int} {u v' : Value} {zs' : List Int} (hm : a.eval m = .map (some kb)) (hx : a.eval x = .int .i64 q) (hv : a.eval v = v') (hb : KBack w0 base kb mm q G u)
    (hg : w0.grownBy w u.ownBlock) (ho : w.ownsInts base 3 .i64 v' zs') (hne : zs' ≠ []) (hl : zs'.length ≤ mm + 1) (hloc : v'.ownBlock = u.ownBlock ∨ ∃ g, v'.ownBlock = some g ∧ w0.heap.size ≤ g)
    (hK : ∀ w2, Kids w2 base kb (mm + 1) (fun p => if p = q then zs' else G p) → w.grownBy w2 (some kb) → K (a.put o.dst undef) w2) : if Region.wanted o (yielded ops a.tmps) = true then Oper.wp Tryd.prog o a w K Q else K (a.put o.dst undef) w := by
  obtain ⟨w2, hrun, h1, h2⟩ := hb w v' zs' hg ho hne hl hloc
  rw [if_pos hw]
  unfold Oper.wp
  simp [execOp, hop, hm, hx, hv, hrun, Result.andThen]
  exact hK w2 h1 h2
/-- 't.numbers[w]'. -/
theorem step_look (w : World) (hw : Region.wanted o (yielded ops a.tmps) = true) (m x : Operand) (hop : o.op = Op.lookup 78 m x false) (b n : Nat) (f : ByteArray → Option Int) (hm : a.eval m = .map (some b)) (h : Num w b n f) (s : ByteArray) (hx : a.eval x = .string s) (hs : s.size ≤ maxLen)
    (hK : K (a.put o.dst (.int .i64 ((f s).getD 0))) w) : if Region.wanted o (yielded ops a.tmps) = true then Oper.wp Tryd.prog o a w K Q else K (a.put o.dst undef) w := by
  obtain ⟨D, h1, h2, h3⟩ := h.val
  obtain ⟨c, hrun, hat, _⟩ := h1.lookup_int law9 Tryd.underlying78 Tryd.underlying3 (zero3 w) (key_mk s hs)
  rw [if_pos hw]
  unfold Oper.wp
  simp [execOp, hop, hm, hx, hrun, Result.andThen]
  rw [h3 s c hat]
  exact hK
end
theorem numF_some {ks : List (List ByteArray)} {s : ByteArray} {v : Int} (h : numF ks s = some v) : ∃ j : Nat, j < ks.length ∧ v = (j : Int) ∧ wordB (ks.getD j []) = s := by
  unfold numF at h
  obtain ⟨j, hj, rfl⟩ := Option.map_eq_some_iff.1 h
  obtain ⟨h1, h2, _⟩ := List.findIdx?_eq_some_iff_getElem.1 hj
  refine ⟨j, h1, rfl, ?_⟩
  rw [List.getD_eq_getElem?_getD, List.getElem?_eq_getElem h1]
  simpa using h2
theorem numF_at {ks : List (List ByteArray)} (hnd : ks.Nodup) {j : Nat} (hj : j < ks.length) : numF ks (wordB (ks.getD j [])) = some (j : Int) := by
  unfold numF
  have : ks.findIdx? (fun k => decide (wordB k = wordB (ks.getD j []))) = some j := by
    rw [List.findIdx?_eq_some_iff_getElem]
    have e : ks.getD j [] = ks[j] := by rw [List.getD_eq_getElem?_getD, List.getElem?_eq_getElem hj]; rfl
    rw [e]
    refine ⟨hj, by simp, fun i hi => ?_⟩
    simp only [decide_eq_true_eq, Bool.not_eq_true]
    intro e2
    have := nodup_inj hnd (by omega) hj (wordB_inj e2)
    omega
  rw [this]
  rfl
end Go.Proofs.YtnogmaljcocfjaaDoor.DitBuild
namespace Go.Proofs.YtnogmaljcocfjaaDoor.DitBuild
open Go Go.Maps Go.RowKit Go.Proofs.YtnogmaljcocfjaaDoor.XK Go.Proofs.YtnogmaljcocfjaaDoor.Blk Go.Proofs.YtnogmaljcocfjaaDoor.DitTab Go.Proofs.YtnogmaljcocfjaaDoor.DitRow Go.Proofs.YtnogmaljcocfjaaDoor.DitTerm Go.Proofs.YtnogmaljcocfjaaDoor.DitMap Go.Proofs.YtnogmaljcocfjaaDoor.DitCheck Go.Proofs.YtnogmaljcocfjaaDoor.DitCopy Go.Proofs.YtnogmaljcocfjaaDoorW.PrintWords Go.Proofs.YtnogmaljcocfjaaDoorW.PrintLast Go.Proofs.YtnogmaljcocfjaaDoorW.PrintMore
/-- Where the tree's parts lie. -/
structure Lay where
  tb : Nat
  kb : Nat
  nb : Nat
  gp : Nat
  ge : Nat
  base : Nat
  EV : Value
  PV : Value
/-- The numbers while they are ranged over: who has come. -/
structure NR (wr : World) (nb r N cnt : Nat) (ks : List (List ByteArray)) (vis : Nat → Bool) : Prop where
  ex : ∃ (D : DataW Unit) (left : Lit → Bool), wr.ranges Tryd.prog 9 (plainElem Tryd.prog 3) nb r N D left cnt ∧ (∀ s, has D (lit s) = (numF ks s).isSome) ∧ (∀ s v, numF ks s = some v → ∀ z, D.atKey (lit s) z = .lit (.int .i64 v)) ∧ ∀ j, j < ks.length → left (lit (wordB (ks.getD j []))) = !vis j
/-- Parents as they are told. -/
def ParQ (n : Nat) (PI : Nat → Nat) (vis : Nat → Bool) (pc : List Value) : Prop := pc.length = n ∧ ∀ j, j < n → ∃ c : Int, pc[j]? = some (.int .i64 c) ∧ -1 ≤ c ∧ c < n ∧ (j = 0 → c = -1) ∧ (0 < j → vis j = true → c = (PI j : Int))
/-- Children as they are told. -/
def KidQ (n : Nat) (PI : Nat → Nat) (vis : Nat → Bool) (G : Int → List Int) : Prop := ∀ p, wfi p → (G p).Nodup ∧ ∀ x, x ∈ G p ↔ ∃ j : Nat, x = (j : Int) ∧ 0 < j ∧ j < n ∧ vis j = true ∧ (PI j : Int) = p
structure LB (L : Lay) (W0 : World) (n r N : Nat) (ks : List (List ByteArray)) (PI : Nat → Nat) (cnt : Nat) (wr : World) : Prop where
  la : LA W0 wr L.tb L.kb
  ord : L.tb < W0.heap.size ∧ L.kb < L.tb ∧ L.nb < L.tb ∧ L.kb < L.nb ∧ W0.heap.size ≤ L.gp ∧ L.gp < L.ge ∧ L.ge < r ∧ r < L.base ∧ L.base ≤ wr.heap.size
  tc : At wr L.tb (tcells L.EV L.PV (.slice (some ⟨L.gp, 0, none⟩) n n) (.slice (some ⟨L.ge, 0, none⟩) n n) L.kb L.nb) 80
  en : At wr L.ge (List.replicate n (.int .i64 0)) 3
  rest : ∃ (vis : Nat → Bool) (G : Int → List Int) (pc : List Value) (m : Nat), NR wr L.nb r N cnt ks vis ∧ m + cnt ≤ N ∧ At wr L.gp pc 3 ∧ ParQ n PI vis pc ∧ Kids wr L.base L.kb m G ∧ KidQ n PI vis G
theorem NR.num {wr : World} {nb r N cnt : Nat} {ks : List (List ByteArray)} {vis : Nat → Bool} (h : NR wr nb r N cnt ks vis) : Num wr nb N (numF ks) := by
  obtain ⟨D, left, a, b, c, _⟩ := h.ex
  exact ⟨D, a.owns, b, c⟩
theorem NR.kept {wr w' : World} {nb r N cnt : Nat} {ks : List (List ByteArray)} {vis : Nat → Bool} {row : Option Nat} (h : NR wr nb r N cnt ks vis) (hg : wr.grownBy w' row) (h1 : some nb ≠ row) (h2 : some r ≠ row) : NR w' nb r N cnt ks vis := by
  obtain ⟨D, left, a, b⟩ := h.ex
  exact ⟨D, left, a.kept hg h1 h2, b⟩
/-- The world when an entry has come, nothing else turned yet. -/
structure LC (L : Lay) (W0 : World) (n r N : Nat) (ks : List (List ByteArray)) (PI : Nat → Nat) (cnt j : Nat) (wr : World) : Prop where
  la : LA W0 wr L.tb L.kb
  ord : L.tb < W0.heap.size ∧ L.kb < L.tb ∧ L.nb < L.tb ∧ L.kb < L.nb ∧ W0.heap.size ≤ L.gp ∧ L.gp < L.ge ∧ L.ge < r ∧ r < L.base ∧ L.base ≤ wr.heap.size
  tc : At wr L.tb (tcells L.EV L.PV (.slice (some ⟨L.gp, 0, none⟩) n n) (.slice (some ⟨L.ge, 0, none⟩) n n) L.kb L.nb) 80
  en : At wr L.ge (List.replicate n (.int .i64 0)) 3
  lt : j < n
  rest : ∃ (vis : Nat → Bool) (G : Int → List Int) (pc : List Value) (m : Nat), vis j = false ∧ NR wr L.nb r N cnt ks (fun i => vis i || i == j) ∧ m + 1 + cnt ≤ N ∧ At wr L.gp pc 3 ∧ ParQ n PI vis pc ∧ Kids wr L.base L.kb m G ∧ KidQ n PI vis G
section
variable {L : Lay} {W0 wr w' : World} {n r N cnt j : Nat} {ks : List (List ByteArray)} {PI : Nat → Nat}
theorem LC.below (h : LC L W0 n r N ks PI cnt j wr) (hb : Below wr.heap.size wr w') : LC L W0 n r N ks PI cnt j w' := by
  obtain ⟨o1, o2, o3, o3', o4, o5, o6, o7, o8⟩ := h.ord
  obtain ⟨vis, G, pc, m, v1, a, b, c, d, e, f⟩ := h.rest
  have hz := hb.size
  exact ⟨h.la.below hb, ⟨o1, o2, o3, o3', o4, o5, o6, o7, by omega⟩, h.tc.below hb h.tc.lt, h.en.below hb h.en.lt, h.lt, vis, G, pc, m, v1, a.kept (grown_below hb) (by simp) (by simp), b, c.below hb c.lt, d, e.below hb, f⟩
/-- The root's number: nothing is told of it. -/
theorem LC.root (h : LC L W0 n r N ks PI cnt j wr) (hj : j = 0) : LB L W0 n r N ks PI cnt wr := by
  subst hj
  obtain ⟨vis, G, pc, m, v1, a, b, c, d, e, f⟩ := h.rest
  refine ⟨h.la, h.ord, h.tc, h.en, _, G, pc, m, a, by omega, c, ⟨d.1, fun i hi => ?_⟩, e, fun p hp => ⟨(f p hp).1, fun x => ?_⟩⟩
  · obtain ⟨c1, q1, q2, q3, q4, q5⟩ := d.2 i hi
    refine ⟨c1, q1, q2, q3, q4, fun h0 hv => q5 h0 ?_⟩
    have : (i == 0) = false := beq_eq_false_iff_ne.2 (by omega)
    simpa [this] using hv
  · rw [(f p hp).2 x]
    constructor
    · rintro ⟨i, e1, e2, e3, e4, e5⟩
      exact ⟨i, e1, e2, e3, by simp [e4], e5⟩
    · rintro ⟨i, e1, e2, e3, e4, e5⟩
      have : (i == 0) = false := beq_eq_false_iff_ne.2 (by omega)
      exact ⟨i, e1, e2, e3, by simpa [this] using e4, e5⟩
/-- A parent told. -/
theorem LC.par (h : LC L W0 n r N ks PI cnt j wr) (hj : 0 < j) (hP : PI j < n) :
    (∃ old, wr.cell? ⟨L.gp, j, none⟩ = some old) ∧ wr.frozen? ⟨L.gp, j, none⟩ = false ∧ LC L W0 n r N ks PI cnt j (wr.setCell ⟨L.gp, j, none⟩ (.int .i64 (PI j : Int))) ∧ ∃ pc, At (wr.setCell ⟨L.gp, j, none⟩ (.int .i64 (PI j : Int))) L.gp pc 3 ∧ pc[j]? = some (.int .i64 (PI j : Int)) := by
  obtain ⟨o1, o2, o3, o3', o4, o5, o6, o7, o8⟩ := h.ord
  obtain ⟨vis, G, pc, m, v1, a, b, c, d, e, f⟩ := h.rest
  have hlt := h.lt
  have hset : wr.grownBy (wr.setCell ⟨L.gp, j, none⟩ (.int .i64 (PI j : Int))) (some L.gp) := grown_set (grown_refl wr (some L.gp)) _ _
  have hl := d.1
  refine ⟨⟨_, c.get j _ (List.getElem?_eq_getElem (by omega))⟩, c.free j, ⟨h.la.grown hset (fun q e => by have := Option.some.inj e; omega), ⟨o1, o2, o3, o3', o4, o5, o6, o7, by rw [World.size_setCell]; omega⟩, h.tc.other _ _ (by show L.tb ≠ L.gp; omega), h.en.other _ _ (by show L.ge ≠ L.gp; omega), hlt, vis, G, pc.set j (.int .i64 (PI j : Int)), m, v1, a.kept hset (fun e => by have := Option.some.inj e; omega) (fun e => by have := Option.some.inj e; omega), b, c.set j _, ⟨by rw [List.length_set]; exact hl, fun i hi => ?_⟩, e.kept hset (fun e => by have := Option.some.inj e; omega) (fun q e => by have := Option.some.inj e; omega), f⟩, _, c.set j _, by rw [List.getElem?_set_self (by omega)]⟩
  by_cases e : i = j
  · subst e
    exact ⟨_, by rw [List.getElem?_set_self (by omega)], by omega, by omega, fun h0 => by omega, fun _ _ => rfl⟩
  · rw [List.getElem?_set_ne (by omega)]
    exact d.2 i hi
/-- A child told, behind its parent. -/
theorem LC.kid {w1 w2 : World} {u : Value} {pc : List Value} {vis : Nat → Bool} {G : Int → List Int} {m : Nat} (h : LC L W0 n r N ks PI cnt j wr) (hj : 0 < j) (hP : PI j < n)
    (v1 : vis j = false) (a : NR wr L.nb r N cnt ks (fun i => vis i || i == j)) (b : m + 1 + cnt ≤ N) (c : At wr L.gp pc 3) (d : ParQ n PI vis pc) (f : KidQ n PI vis G) (hpj : pc[j]? = some (.int .i64 (PI j : Int)))
    (hul : ∀ q, u.ownBlock = some q → L.base ≤ q) (hg1 : wr.grownBy w1 u.ownBlock) (hk : Kids w2 L.base L.kb (m + 1) (fun p => if p = (PI j : Int) then G p ++ [(j : Int)] else G p)) (hg2 : w1.grownBy w2 (some L.kb)) : LB L W0 n r N ks PI cnt w2 := by
  obtain ⟨o1, o2, o3, o3', o4, o5, o6, o7, o8⟩ := h.ord
  have hz1 := hg1.size
  have hz2 := hg2.size
  have hne : ∀ q, q < L.base → some q ≠ u.ownBlock := fun q hq e => by have := hul q e.symm; omega
  have keep : ∀ q, q < L.base → q ≠ L.kb → w2.heap[q]? = wr.heap[q]? := fun q hq hq2 => (hg2.block q (by omega) (fun e => hq2 (Option.some.inj e))).trans (hg1.block q (by omega) (hne q hq))
  refine ⟨(h.la.grown hg1 (fun q e => by have := hul q e; omega)).grown hg2 (fun q e => by have := Option.some.inj e; omega), ⟨o1, o2, o3, o3', o4, o5, o6, o7, by omega⟩, (keep L.tb (by omega) (by omega)).trans h.tc, (keep L.ge (by omega) (by omega)).trans h.en, fun i => vis i || i == j, _, pc, m + 1, (a.kept hg1 (hne _ (by omega)) (hne _ (by omega))).kept hg2 (fun e => by have := Option.some.inj e; omega) (fun e => by have := Option.some.inj e; omega), by omega, (keep L.gp (by omega) (by omega)).trans c, ⟨d.1, fun i hi => ?_⟩, hk, fun p hp => ?_⟩
  · obtain ⟨c1, q1, q2, q3, q4, q5⟩ := d.2 i hi
    refine ⟨c1, q1, q2, q3, q4, fun h0 hv => ?_⟩
    by_cases e : i = j
    · subst e
      rw [hpj] at q1
      have := Option.some.inj q1
      injection this with _ this
      exact this.symm
    · have : (i == j) = false := beq_eq_false_iff_ne.2 e
      exact q5 h0 (by simpa [this] using hv)
  · show (if p = (PI j : Int) then G p ++ [(j : Int)] else G p).Nodup ∧ ∀ x, x ∈ (if p = (PI j : Int) then G p ++ [(j : Int)] else G p) ↔ _
    obtain ⟨f1, f2⟩ := f p hp
    have hlt := h.lt
    by_cases e : p = (PI j : Int)
    · rw [if_pos e]
      refine ⟨List.nodup_append.2 ⟨f1, by simp, fun x hx y hy => ?_⟩, fun x => ?_⟩
      · rw [List.mem_singleton] at hy
        subst hy
        rintro rfl
        obtain ⟨i, e1, _, _, e4, _⟩ := (f2 _).1 hx
        have : i = j := by omega
        rw [this, v1] at e4
        cases e4
      · rw [List.mem_append, List.mem_singleton, f2 x]
        constructor
        · rintro (⟨i, e1, e2, e3, e4, e5⟩ | rfl)
          · exact ⟨i, e1, e2, e3, by simp [e4], e5⟩
          · exact ⟨j, rfl, hj, hlt, by simp, e.symm⟩
        · rintro ⟨i, e1, e2, e3, e4, e5⟩
          by_cases e6 : i = j
          · right; rw [e1, e6]
          · left
            have : (i == j) = false := beq_eq_false_iff_ne.2 e6
            exact ⟨i, e1, e2, e3, by simpa [this] using e4, e5⟩
    · rw [if_neg e]
      refine ⟨f1, fun x => ?_⟩
      rw [f2 x]
      constructor
      · rintro ⟨i, e1, e2, e3, e4, e5⟩
        exact ⟨i, e1, e2, e3, by simp [e4], e5⟩
      · rintro ⟨i, e1, e2, e3, e4, e5⟩
        have : (i == j) = false := beq_eq_false_iff_ne.2 (fun q => e (by rw [← e5, q]))
        exact ⟨i, e1, e2, e3, by simpa [this] using e4, e5⟩
end
end Go.Proofs.YtnogmaljcocfjaaDoor.DitBuild
namespace Go.Proofs.YtnogmaljcocfjaaDoor.DitBuild
open Go Go.Maps Go.RowKit Go.Proofs.YtnogmaljcocfjaaDoor.XK Go.Proofs.YtnogmaljcocfjaaDoor.Blk Go.Proofs.YtnogmaljcocfjaaDoor.DitTab Go.Proofs.YtnogmaljcocfjaaDoor.DitRow Go.Proofs.YtnogmaljcocfjaaDoor.DitTerm Go.Proofs.YtnogmaljcocfjaaDoor.DitMap Go.Proofs.YtnogmaljcocfjaaDoor.DitCheck Go.Proofs.YtnogmaljcocfjaaDoor.DitCopy Go.Proofs.YtnogmaljcocfjaaDoorW.PrintWords Go.Proofs.YtnogmaljcocfjaaDoorW.PrintLast Go.Proofs.YtnogmaljcocfjaaDoorW.PrintMore
theorem inv_key {key : Value} {kl : Lit} (h : keyOf Tryd.prog 9 key = some kl) : ∃ x : ByteArray, key = .string x ∧ kl = lit x := by
  obtain ⟨x, hx, rfl, _⟩ := Maps.keyOf_str Tryd.underlying9 h
  exact ⟨⟨x.toArray⟩, hx, rfl⟩
theorem inv_val {v : Value} {y : DataW Unit × List MemPlace} (h : plainElem Tryd.prog 3 v = some y) : ∃ c : Int, v = .int .i64 c ∧ y.1 = .lit (.int .i64 c) := by
  obtain ⟨c, e, rfl, _⟩ := plainElem_int_inv Tryd.underlying3 h
  exact ⟨c, e, rfl⟩
theorem LB.came {L : Lay} {W0 wr w' : World} {n r N cnt cnt' : Nat} {ks : List (List ByteArray)} {PI : Nat → Nat} {vis : Nat → Bool} {G : Int → List Int} {pc : List Value} {m : Nat} {D : DataW Unit} {left : Lit → Bool} {x : ByteArray} {c : Int} {kl : Lit} {y : DataW Unit × List MemPlace}
    (h : LB L W0 n r N ks PI cnt wr) (hn : ks.length = n) (hnd : ks.Nodup) (b : m + cnt ≤ N) (hc : At wr L.gp pc 3) (d : ParQ n PI vis pc) (e : Kids wr L.base L.kb m G) (f : KidQ n PI vis G)
    (hD1 : ∀ s, has D (lit s) = (numF ks s).isSome) (hD2 : ∀ s v, numF ks s = some v → ∀ z, D.atKey (lit s) z = .lit (.int .i64 v)) (hD3 : ∀ j, j < ks.length → left (lit (wordB (ks.getD j []))) = !vis j)
    (hkey : keyOf Tryd.prog 9 (.string x) = some kl) (hlk : left kl = true) (hv : plainElem Tryd.prog 3 (.int .i64 c) = some y) (hat : ∀ zd, D.atKey kl zd = y.1) (hrg : w'.ranges Tryd.prog 9 (plainElem Tryd.prog 3) L.nb r N D (fun z => left z && !z.sameKey kl) cnt') (hlt : cnt' < cnt) (hg : wr.grownBy w' (some r)) :
    ∃ j : Nat, c = (j : Int) ∧ LC L W0 n r N ks PI cnt' j w' := by
  obtain ⟨o1, o2, o3, o3', o4, o5, o6, o7, o8⟩ := h.ord
  obtain ⟨x', ex, rfl⟩ := inv_key hkey
  obtain rfl : x = x' := by injection ex
  obtain ⟨c', ec, ey⟩ := inv_val hv
  have ecc : c = c' := (Value.int.inj ec).2
  subst ecc
  have hhas := has_true_of_atKey hat
  rw [hD1 x] at hhas
  obtain ⟨v, hnum⟩ := Option.isSome_iff_exists.1 hhas
  have h1 := hD2 x v hnum .nil
  rw [hat .nil, ey] at h1
  have ecv : c = v := (Lit.int.inj (DataW.lit.inj h1)).2
  subst ecv
  obtain ⟨j, hj, rfl, hw⟩ := numF_some hnum
  have hvj := hD3 j hj
  rw [hw, hlk] at hvj
  have hvf : vis j = false := by
    cases hb : vis j with
    | false => rfl
    | true => rw [hb] at hvj; cases hvj
  have hz := hg.size
  have hne : ∀ q, q ≠ r → some q ≠ some r := fun q hq e => hq (Option.some.inj e)
  refine ⟨j, rfl, h.la.grown hg (fun q e => by have := Option.some.inj e; omega), ⟨o1, o2, o3, o3', o4, o5, o6, o7, by omega⟩, h.tc.grown hg (hne _ (by omega)), h.en.grown hg (hne _ (by omega)), by omega, vis, G, pc, m, hvf, ⟨D, _, hrg, hD1, hD2, fun i hi => ?_⟩, by omega, hc.grown hg (hne _ (by omega)), d, e.kept hg (hne _ (by omega)) (fun q e => by have := Option.some.inj e; omega), f⟩
  show (left (lit (wordB (ks.getD i []))) && !(lit (wordB (ks.getD i []))).sameKey (lit x)) = !(vis i || i == j)
  rw [hD3 i hi]
  by_cases e2 : i = j
  · subst e2
    rw [hw, WideAt.sameKey_self (show WideAt.IsKeyLit (lit x) by trivial)]
    simp
  · have h3 : lit (wordB (ks.getD i [])) ≠ lit x := fun q => by
      have q2 := lit_inj q
      rw [← hw] at q2
      have q3 := wordB_inj q2
      rw [List.getD_eq_getElem?_getD, List.getD_eq_getElem?_getD, List.getElem?_eq_getElem hi, List.getElem?_eq_getElem hj] at q3
      exact e2 (nodup_inj hnd hi hj q3)
    rw [sameKey_ne h3, beq_eq_false_iff_ne.2 e2]
    simp
theorem At.uniq {w : World} {g : Nat} {a b : List Value} {e : TypeId} (h : At w g a e) (k : At w g b e) : a = b := by
  have e1 := h.symm.trans k
  simp only [Option.some.injEq, Obj.cells.injEq] at e1
  exact Array.toList_inj.2 e1.1 |> fun x => by simpa using x
theorem undrewNG {W W' : World} {n : Nat} {row : Option Nat} (h : (W.drewN n).grownBy W' row) : W.grownBy W' row := ⟨h.os, h.tape, h.output, h.size, h.block⟩
theorem undrew1G {W W' : World} {row : Option Nat} (h : W.drew.grownBy W' row) : W.grownBy W' row := ⟨h.os, h.tape, h.output, h.size, h.block⟩
/-- A look-up asks the map's block alone. -/
theorem look_same {w w' : World} {base kb m : Nat} {q : Int} {D : DataW Unit} {v : Value} (h : w.ownsGroups Tryd.prog 3 base 3 .i64 kb m D) (hb' : w'.heap[kb]? = w.heap[kb]?) (hwf : (Lit.int .i64 q).wf = true)
    (hr : (Instr.lookup 77 (.map (some kb)) (.int .i64 q) false).run Tryd.prog w = .ok v w) : (Instr.lookup 77 (.map (some kb)) (.int .i64 q) false).run Tryd.prog w' = .ok v w' := by
  obtain ⟨es, clock, hb, F, hs, _, _⟩ := h
  have hk := keyOf_int_mk Tryd.underlying3 hwf
  have e2 : ∀ {a b : Value} {u : World}, Result.ok a u = Result.ok b u → a = b := fun h => by injection h
  rcases Maps.fit_look false law3 Tryd.underlying77 (zero23 w) hb F hk with ⟨r1, n1, _⟩ | ⟨x, _, m1, k1, r1, _⟩
  · rcases Maps.fit_look false law3 Tryd.underlying77 (zero23 w') (hb'.trans hb) F hk with ⟨r2, _, _⟩ | ⟨y, _, m2, k2, r2, _⟩
    · rw [hr] at r1
      rw [r2, e2 r1]
    · exact absurd k2 (n1 y m2)
  · rcases Maps.fit_look false law3 Tryd.underlying77 (zero23 w') (hb'.trans hb) F hk with ⟨_, n2, _⟩ | ⟨y, _, m2, k2, r2, _⟩
    · exact absurd k1 (n2 x m1)
    · have hnd := F.stamped.2.2
      have hxy : x = y := by
        obtain ⟨i, hi, e3⟩ := List.mem_iff_getElem.1 m1
        obtain ⟨j, hj, e4⟩ := List.mem_iff_getElem.1 m2
        have h5 : i = j := nodup_inj hnd (by simpa using hi) (by simpa using hj) (by rw [List.getElem_map, List.getElem_map, e3, e4, k1, k2])
        subst h5
        rw [← e3, ← e4]
      subst hxy
      rw [hr] at r1
      rw [r2, e2 r1]
theorem Kids.looks {w : World} {base kb m : Nat} {q : Int} {G : Int → List Int} (h : Kids w base kb m G) (hm : m < maxLen) (hwf : (Lit.int .i64 q).wf = true) :
    ∃ v, (∀ w' : World, w'.heap[kb]? = w.heap[kb]? → (Instr.lookup 77 (.map (some kb)) (.int .i64 q) false).run Tryd.prog w' = .ok v w') ∧ w.ownsInts base 3 .i64 v (G q) ∧ (G q).length ≤ m ∧ KBack w base kb m q G v := by
  obtain ⟨v, r, h1, h2, h3⟩ := h.look hm hwf
  obtain ⟨D, a, _⟩ := h
  exact ⟨v, fun w' hw => look_same a hw hwf r, h1, h2, h3⟩
end Go.Proofs.YtnogmaljcocfjaaDoor.DitBuild
namespace Go.Proofs.YtnogmaljcocfjaaDoor.DitBuild
open Go Go.Maps Go.RowKit Go.Sort Go.Shelf Go.Proofs Go.Proofs.YtnogmaljcocfjaaDoor.XK Go.Proofs.YtnogmaljcocfjaaDoor.Blk Go.Proofs.YtnogmaljcocfjaaDoor.DitTab Go.Proofs.YtnogmaljcocfjaaDoor.DitRow Go.Proofs.YtnogmaljcocfjaaDoor.DitTerm Go.Proofs.YtnogmaljcocfjaaDoor.DitMap Go.Proofs.YtnogmaljcocfjaaDoor.DitCheck Go.Proofs.YtnogmaljcocfjaaDoor.DitCopy Go.Proofs.YtnogmaljcocfjaaDoorW.PrintWords Go.Proofs.YtnogmaljcocfjaaDoorW.PrintLast Go.Proofs.YtnogmaljcocfjaaDoorW.PrintMore
def LI_ren : Go.Shelf.Ren := ⟨fun | 5 => 63 | 8 => 59 | 7 => 77 | 19 => 74 | 20 => 75 | 10 => 85 | 11 => 86 | 12 => 87 | 13 => 88 | 14 => 89 | 15 => 90 | 16 => 91 | 17 => 92 | 18 => 93 | 30 => 96 | 31 => 80 | 32 => 81 | 33 => 97 | 34 => 98 | 35 => 99 | 40 => 104 | n => n, fun | 23 => 23 | 25 => 3 | 3 => 3 | 32 => 95 | 22 => 23 | 0 => 0 | 44 => 108 | 46 => 110 | 4 => 4 | 36 => 102 | 35 => 101 | 41 => 88 | 5 => 5 | 9 => 9 | 53 => 113 | 57 => 117 | 63 => 127 | 64 => 57 | n => n, fun | n => n⟩
theorem LI : Go.Proofs.SlLaysM.n5 Tryd.prog LI_ren := {
  mixed := by kernel_rfl
  f5 := ⟨Tryd.f63.name, by decide, Tryd.func63.trans (congrArg some (by kernel_rfl))⟩
  f7 := ⟨Tryd.f77.name, by decide, Tryd.func77.trans (congrArg some (by kernel_rfl))⟩
  f8 := Tryd.func59.trans (congrArg some (by kernel_rfl))
  f10 := ⟨Tryd.f85.name, by decide, Tryd.func85.trans (congrArg some (by kernel_rfl))⟩
  f11 := ⟨Tryd.f86.name, by decide, Tryd.func86.trans (congrArg some (by kernel_rfl))⟩
  f12 := ⟨Tryd.f87.name, by decide, Tryd.func87.trans (congrArg some (by kernel_rfl))⟩
  f13 := ⟨Tryd.f88.name, by decide, Tryd.func88.trans (congrArg some (by kernel_rfl))⟩
  f14 := ⟨Tryd.f89.name, by decide, Tryd.func89.trans (congrArg some (by kernel_rfl))⟩
  f15 := ⟨Tryd.f90.name, by decide, Tryd.func90.trans (congrArg some (by kernel_rfl))⟩
  f16 := ⟨Tryd.f91.name, by decide, Tryd.func91.trans (congrArg some (by kernel_rfl))⟩
  f17 := ⟨Tryd.f92.name, by decide, Tryd.func92.trans (congrArg some (by kernel_rfl))⟩
  f18 := ⟨Tryd.f93.name, by decide, Tryd.func93.trans (congrArg some (by kernel_rfl))⟩
  f19 := Tryd.func74.trans (congrArg some (by kernel_rfl))
  f20 := Tryd.func75.trans (congrArg some (by kernel_rfl))
  f30 := ⟨Tryd.f96.name, by decide, Tryd.func96.trans (congrArg some (by kernel_rfl))⟩
  f31 := Tryd.func80.trans (congrArg some (by kernel_rfl))
  f32 := Tryd.func81.trans (congrArg some (by kernel_rfl))
  f33 := ⟨Tryd.f97.name, by decide, Tryd.func97.trans (congrArg some (by kernel_rfl))⟩
  f34 := ⟨Tryd.f98.name, by decide, Tryd.func98.trans (congrArg some (by kernel_rfl))⟩
  f35 := ⟨Tryd.f99.name, by decide, Tryd.func99.trans (congrArg some (by kernel_rfl))⟩
  f40 := ⟨Tryd.f104.name, by decide, Tryd.func104.trans (congrArg some (by kernel_rfl))⟩
  t0 := Tryd.underlying0
  a0 := Tryd.isAgg0
  z0 := Tryd.sizeOf0
  v0 := Tryd.zeroValue0
  t3 := Tryd.underlying3
  a3 := Tryd.isAgg3
  z3 := Tryd.sizeOf3
  v3 := Tryd.zeroValue3
  t4 := Tryd.underlying4
  a4 := Tryd.isAgg4
  z4 := Tryd.sizeOf4
  v4 := Tryd.zeroValue4
  t5 := Tryd.underlying5
  a5 := Tryd.isAgg5
  z5 := Tryd.sizeOf5
  v5 := Tryd.zeroValue5
  t9 := Tryd.underlying9
  a9 := Tryd.isAgg9
  z9 := Tryd.sizeOf9
  v9 := Tryd.zeroValue9
  t22 := Tryd.underlying23
  a22 := Tryd.isAgg23
  z22 := Tryd.sizeOf23
  v22 := Tryd.zeroValue23
  t23 := Tryd.underlying23
  a23 := Tryd.isAgg23
  z23 := Tryd.sizeOf23
  v23 := Tryd.zeroValue23
  t25 := Tryd.underlying3
  a25 := Tryd.isAgg3
  z25 := Tryd.sizeOf3
  v25 := Tryd.zeroValue3
  t32 := Tryd.underlying95
  a32 := Tryd.isAgg95
  z32 := Tryd.sizeOf95
  v32 := Tryd.zeroValue95
  t35 := Tryd.underlying101
  a35 := Tryd.isAgg101
  z35 := Tryd.sizeOf101
  v35 := Tryd.zeroValue101
  t36 := Tryd.underlying102
  a36 := Tryd.isAgg102
  z36 := Tryd.sizeOf102
  v36 := Tryd.zeroValue102
  t41 := Tryd.underlying88
  a41 := Tryd.isAgg88
  z41 := Tryd.sizeOf88
  v41 := Tryd.zeroValue88
  t44 := Tryd.underlying108
  a44 := Tryd.isAgg108
  z44 := Tryd.sizeOf108
  v44 := Tryd.zeroValue108
  t46 := Tryd.underlying110
  a46 := Tryd.isAgg110
  z46 := Tryd.sizeOf110
  v46 := Tryd.zeroValue110
  t53 := Tryd.underlying113
  a53 := Tryd.isAgg113
  z53 := Tryd.sizeOf113
  v53 := Tryd.zeroValue113
  t57 := Tryd.underlying117
  a57 := Tryd.isAgg117
  z57 := Tryd.sizeOf117
  v57 := Tryd.zeroValue117
  t63 := Tryd.underlying127
  a63 := Tryd.isAgg127
  z63 := Tryd.sizeOf127
  v63 := Tryd.zeroValue127
  t64 := Tryd.underlying57
  a64 := Tryd.isAgg57
  z64 := Tryd.sizeOf57
  v64 := Tryd.zeroValue57 }
def sortZ (l : List Int) : List Int := l.mergeSort fun x y => decide (x ≤ y)
theorem sortZ_perm (l : List Int) : (sortZ l).Perm l := List.mergeSort_perm _ _
theorem sortZ_len (l : List Int) : (sortZ l).length = l.length := (sortZ_perm l).length_eq
theorem sortZ_sorted (l : List Int) : (sortZ l).Pairwise (fun x y => x ≤ y) := by
  have := List.pairwise_mergeSort (le := fun (x y : Int) => decide (x ≤ y)) (fun a b c h1 h2 => by simp only [decide_eq_true_eq] at *; omega) (fun a b => by simp only [Bool.or_eq_true, decide_eq_true_eq]; omega) l
  exact this.imp (fun h => by simpa using h)
theorem sort63_as (w : World) (base : Nat) (v : Value) (zs : List Int) (h : w.ownsInts base 3 .i64 v zs) (hn : zs.length < 4611686018427387904) :
    Calls Tryd.prog 63 #[v] w fun e w' => e = .returned (.tuple #[]) ∧ w.grownBy w' v.ownBlock ∧ w'.ownsInts base 3 .i64 v (sortZ zs) := by
  rcases h.1.2 with ⟨rfl, h0⟩ | ⟨g, cap, cur, rfl, h3, h4, h5, h6, h7, h8⟩
  · have : zs = [] := List.eq_nil_of_length_eq_zero h0
    subst this
    have hcon := AnyM.slices_Sort_int_none LI none 0 w
    change Calls Tryd.prog 63 _ _ _ at hcon
    refine hcon.mono ?_
    rintro e w' ⟨rfl, rfl⟩
    exact ⟨rfl, ⟨rfl, rfl, rfl, Nat.le_refl _, fun k _ _ => rfl⟩, by rw [show sortZ [] = [] by simp [sortZ]]; exact World.ownsInts_nil _ _ _ _⟩
  · have hg : g < w.heap.size := (Array.getElem?_eq_some_iff.1 h4).1
    have hat : At w g cur.toList 3 := h4
    have hH : Holds (Value.int .i64) w g 0 zs.toArray := fun j hj => by
      have hj' : j < zs.length := by simpa using hj
      refine ⟨?_, hat.free _⟩
      rw [Nat.zero_add, hat.cell]
      have h9 : (cur.toList.take (zs.length * 1))[j]? = some (.int .i64 zs[j]) := by rw [h8, List.getElem?_map, List.getElem?_eq_getElem hj']; rfl
      rw [List.getElem?_take_of_lt (by omega)] at h9
      rw [h9]
      simp [hj']
    have hcon := AnyM.slices_Sort_int LI g 0 cap zs w hH hg hn
    change Calls Tryd.prog 63 _ _ _ at hcon
    refine hcon.mono ?_
    rintro e w' ⟨rfl, n, os, rfl⟩
    have hgr : w.grownBy (grow (putRow (Value.int .i64) (Sort.ahead w n) g 0 (sortZ zs).toArray) os) (some g) := by
      refine ⟨rfl, rfl, rfl, by simp, fun k hk hne => ?_⟩
      rw [heap_grow_old _ _ (by simpa using hk)]
      have : g ≠ k := fun e => hne (by rw [e])
      simp [putRow, mapBlock, Sort.ahead, Array.getElem?_modify, this]
    have hlen : (sortZ zs).length = zs.length := sortZ_len zs
    have hb : (grow (putRow (Value.int .i64) (Sort.ahead w n) g 0 (sortZ zs).toArray) os).heap[g]? = some (.cells (putCells (Value.int .i64) 0 (sortZ zs).toArray cur) 3 (0, 0)) := DitSort.heap_sortedG (enc := Value.int .i64) (os := os) (n := n) _ h4
    refine ⟨rfl, hgr, ⟨by simp [hlen], .inr ⟨g, cap, _, by rw [hlen], h3, hb, by rw [hlen]; exact h5, h6, by rw [← h7]; simp [putCells], ?_⟩⟩, fun z hz => h.2 z ((sortZ_perm zs).mem_iff.1 hz)⟩
    apply List.ext_getElem?
    intro i
    by_cases hi : i < (sortZ zs).length
    · have hcl : zs.length ≤ cur.size := by
        have := congrArg List.length h8
        simp at this
        omega
      rw [List.getElem?_take_of_lt (by omega), List.getElem?_map, List.getElem?_eq_getElem hi, Array.getElem?_toList]
      have : i < cur.size := by omega
      simp [putCells, hi, this]
    · rw [List.getElem?_eq_none (by simp; omega), List.getElem?_eq_none (by simp; omega)]
end Go.Proofs.YtnogmaljcocfjaaDoor.DitBuild
namespace Go.Proofs.YtnogmaljcocfjaaDoor.DitBuild
open Go Go.Maps Go.MapKept Go.WideElems Go.RowKit Go.Proofs.YtnogmaljcocfjaaDoor.XK Go.Proofs.YtnogmaljcocfjaaDoor.Blk Go.Proofs.YtnogmaljcocfjaaDoor.DitTab Go.Proofs.YtnogmaljcocfjaaDoor.DitRow Go.Proofs.YtnogmaljcocfjaaDoor.DitTerm Go.Proofs.YtnogmaljcocfjaaDoor.DitMap Go.Proofs.YtnogmaljcocfjaaDoor.DitCheck Go.Proofs.YtnogmaljcocfjaaDoor.DitCopy Go.Proofs.YtnogmaljcocfjaaDoorW.PrintWords Go.Proofs.YtnogmaljcocfjaaDoorW.PrintLast Go.Proofs.YtnogmaljcocfjaaDoorW.PrintMore
/-- Each element read as itself. -/
def RH (v : Value) : Option (DataW Value × List MemPlace) := some (.held v, [])
/-- The children's map, key by key: the value V, the numbers Z. -/
structure KV (W : World) (base kb m : Nat) (V : Int → Value) (Z : Int → List Int) (D : DataW Value) : Prop where
  owns : W.ownsMap Tryd.prog 3 RH kb m D
  look : ∀ x, wfi x → ∀ w' : World, w'.heap[kb]? = W.heap[kb]? → (Instr.lookup 77 (.map (some kb)) (.int .i64 x) false).run Tryd.prog w' = .ok (V x) w'
  own : ∀ x, wfi x → W.ownsInts base 3 .i64 (V x) (Z x)
  len : ∀ x, wfi x → (Z x).length ≤ m
  at_ : ∀ x, wfi x → ∀ z y, D.atKey (.int .i64 x) z = .held y → has D (.int .i64 x) = true → y = V x
  empty : ∀ x, wfi x → has D (.int .i64 x) = false → Z x = []
  apart : ∀ x y, wfi x → wfi y → x ≠ y → (V x).ownBlock = none ∨ (V x).ownBlock ≠ (V y).ownBlock
theorem Kids.kv {W : World} {base kb m : Nat} {G : Int → List Int} (h : Kids W base kb m G) (hm : m < maxLen) : ∃ V Z D, KV W base kb m V Z D ∧ ∀ p, wfi p → Z p = G p := by
  obtain ⟨D0, hD, hat0⟩ := h
  have hg := hD
  obtain ⟨es, clock, hb, F, hs, hDe, hbb, hlen, hap⟩ := hD
  have F1 : Fit Tryd.prog 3 RH es clock := ⟨F.size, F.stamped, fun x hx => by
    obtain ⟨y, hy⟩ := F.reads x hx
    exact ⟨_, rd_mk (rd_key hy) rfl⟩⟩
  have key : ∀ x : Int, ∃ vz : Value × List Int, wfi x → (∀ w' : World, w'.heap[kb]? = W.heap[kb]? → (Instr.lookup 77 (.map (some kb)) (.int .i64 x) false).run Tryd.prog w' = .ok vz.1 w') ∧ W.ownsInts base 3 .i64 vz.1 vz.2 ∧ vz.2.length ≤ m ∧ D0.atKey (.int .i64 x) .nil = rowDatum .i64 vz.1 vz.2 ∧
      (((∀ zd, (DataW.map ((es.toList.map (rg Tryd.prog 3 RH)).foldr DataW.insert [])).atKey (.int .i64 x) zd = zd) ∧ vz.1.ownBlock = none ∧ vz.2 = []) ∨ ∃ e0, e0 ∈ es.toList ∧ e0.key = .int .i64 x ∧ e0.val = vz.1 ∧ ∀ zd, (DataW.map ((es.toList.map (rg Tryd.prog 3 RH)).foldr DataW.insert [])).atKey (.int .i64 x) zd = .held vz.1) := fun x => by
    by_cases hx : wfi x
    · have hk := keyOf_int_mk (P := Tryd.prog) Tryd.underlying3 hx
      obtain ⟨v, zs, hrun, hat, hoi, hzl, _⟩ := hg.at law3 Tryd.underlying77 (zero23 W) hm hk
      refine ⟨(v, zs), fun _ => ⟨fun w' hw => look_same hg hw hx hrun, hoi, hzl, hat, ?_⟩⟩
      rcases Maps.fit_look false law3 Tryd.underlying77 (zero23 W) hb F1 hk with ⟨r1, n1, a1⟩ | ⟨e0, y, m1, k1, r1, q1, a1, _⟩
      · rw [hrun] at r1
        have e : v = .slice none 0 0 := by injection r1
        subst e
        refine .inl ⟨a1, rfl, ?_⟩
        exact hoi.unique (World.ownsInts_nil _ _ _ _)
      · rw [hrun] at r1
        have e : v = e0.val := by injection r1
        refine .inr ⟨e0, m1, k1, e.symm, fun zd => ?_⟩
        rw [a1 zd]
        have := Option.some.inj q1
        rw [← this, e]
    · exact ⟨(.slice none 0 0, []), fun h => absurd h hx⟩
  obtain ⟨f, hf⟩ := Classical.skolem.1 key
  refine ⟨fun x => (f x).1, fun x => (f x).2, _, ⟨⟨es, clock, hb, F1, hs, rfl⟩, fun x hx => (hf x hx).1, fun x hx => (hf x hx).2.1, fun x hx => (hf x hx).2.2.1, fun x hx z y h1 h2 => ?_, fun x hx h1 => ?_, fun x y hx hy hne => ?_⟩, fun p hp => ?_⟩
  · rcases (hf x hx).2.2.2.2 with ⟨a, _⟩ | ⟨e0, _, _, _, a⟩
    · rw [has_false_of_atKey a] at h2
      cases h2
    · rw [a z] at h1
      injection h1 with h1
      exact h1.symm
  · rcases (hf x hx).2.2.2.2 with ⟨_, _, a⟩ | ⟨e0, _, _, _, a⟩
    · exact a
    · rw [has_true_of_atKey a] at h1
      cases h1
  · rcases (hf x hx).2.2.2.2 with ⟨_, a, _⟩ | ⟨e0, b1, b2, b3, _⟩
    · exact .inl a
    · rcases (hf y hy).2.2.2.2 with ⟨_, a, _⟩ | ⟨e1, c1, c2, c3, _⟩
      · cases hxx : (f x).1.ownBlock with
        | none => exact .inl rfl
        | some q =>
          right
          intro e
          have e := e.trans a
          cases e
      · have := hap e0 b1 e1 c1 (by rw [b2, c2]; intro e; injection e with _ e; exact hne e)
        rw [b3, c3] at this
        exact this
  · exact kdat_of (hf _ hp).2.1 ((hat0 p hp).symm.trans (hf _ hp).2.2.2.1)
structure SC (W : World) (base kb : Nat) (V : Int → Value) (Z : Int → List Int) (D : DataW Value) (N cnt : Nat) (W' : World) : Prop where
  os : W'.os = W.os
  tape : W'.tape = W.tape
  output : W'.output = W.output
  size : W.heap.size < W'.heap.size
  keep : ∀ k, k < base → W'.heap[k]? = W.heap[k]?
  rest : ∃ left, W'.ranges Tryd.prog 3 RH kb W.heap.size N D left cnt ∧ ∀ x, wfi x → W'.ownsInts base 3 .i64 (V x) (if left (.int .i64 x) = true then Z x else sortZ (Z x))
section
variable {W W' W1 : World} {base kb m N cnt cnt' : Nat} {V : Int → Value} {Z : Int → List Int} {D : DataW Value}
theorem SC.start (h : KV W base kb m V Z D) (hr : W1.ranges Tryd.prog 3 RH kb W.heap.size N D (Maps.has D) cnt) (hg : W.grownBy W1 none) (hs : W1.heap.size = W.heap.size + 1) (hbs : base ≤ W.heap.size) : SC W base kb V Z D N cnt W1 := by
  refine ⟨hg.os, hg.tape, hg.output, by omega, fun k hk => hg.block k (by omega) (by simp), _, hr, fun x hx => ?_⟩
  have ho := (h.own x hx).kept hg (by cases (V x).ownBlock <;> simp)
  cases hh : Maps.has D (.int .i64 x) with
  | true => exact ho
  | false =>
    have := h.empty x hx hh
    rw [this] at ho ⊢
    rw [if_neg (by simp), show sortZ [] = [] by simp [sortZ]]
    exact ho
theorem sameKey_int {x y : Int} (h : x ≠ y) : (Lit.int .i64 x).sameKey (.int .i64 y) = false := sameKey_ne (fun e => h (by injection e))
/-- An entry comes. -/
theorem SC.came {key : Int} {c : Value} {kl : Lit} {left : Lit → Bool} {y : DataW Value × List MemPlace} (hK : KV W base kb m V Z D) (hbs : base ≤ W.heap.size) (hkb : kb < base) (h : SC W base kb V Z D N cnt W')
    (hl : ∀ x, wfi x → W'.ownsInts base 3 .i64 (V x) (if left (.int .i64 x) = true then Z x else sortZ (Z x))) (hkey : keyOf Tryd.prog 3 (.int .i64 key) = some kl) (hlk : left kl = true) (hv : RH c = some y) (hat : ∀ zd, D.atKey kl zd = y.1)
    (hrg : W1.ranges Tryd.prog 3 RH kb W.heap.size N D (fun z => left z && !z.sameKey kl) cnt') (hg : W'.grownBy W1 (some W.heap.size)) :
    W1.ownsInts base 3 .i64 c (Z key) ∧ (Z key).length ≤ m ∧ ∀ w2, W1.grownBy w2 c.ownBlock → w2.ownsInts base 3 .i64 c (sortZ (Z key)) → SC W base kb V Z D N cnt' w2 := by
  obtain ⟨x', ex, rfl, hwf⟩ := keyOf_int_inv Tryd.underlying3 hkey
  have exx : key = x' := by injection ex
  subst exx
  have hy := Option.some.inj hv
  have hc : c = V key := hK.at_ key hwf .nil c (by rw [hat .nil, ← hy]) (has_true_of_atKey hat)
  subst hc
  have hz := h.size
  have hgz := hg.size
  have rowne : ∀ x, wfi x → (V x).ownBlock = none ∨ (V x).ownBlock ≠ some W.heap.size := fun x hx => by
    cases hb : (V x).ownBlock with
    | none => exact .inl rfl
    | some q =>
      right
      intro e
      have h1 := ((hK.own x hx).1.lt q hb).2
      have := Option.some.inj e
      omega
  have h1 : ∀ x, wfi x → W1.ownsInts base 3 .i64 (V x) (if left (.int .i64 x) = true then Z x else sortZ (Z x)) := fun x hx => (hl x hx).kept hg (rowne x hx)
  have hk1 := h1 key hwf
  rw [if_pos hlk] at hk1
  refine ⟨hk1, hK.len key hwf, fun w2 hg2 ho2 => ?_⟩
  have hnb : ∀ q, q < base → some q ≠ (V key).ownBlock := fun q hq e => by have := (hk1.1.lt q e.symm).1; omega
  have hg2z := hg2.size
  refine ⟨(hg2.os.trans hg.os).trans h.os, (hg2.tape.trans hg.tape).trans h.tape, (hg2.output.trans hg.output).trans h.output, by omega, fun k hk => (hg2.block k (by omega) (hnb k hk)).trans ((hg.block k (by omega) (fun e => by have := Option.some.inj e; omega)).trans (h.keep k hk)), _, hrg.kept hg2 (hnb kb hkb) (fun e => ?_), fun x hx => ?_⟩
  · rcases rowne key hwf with h2 | h2
    · rw [h2] at e; cases e
    · exact h2 e.symm
  · by_cases e : x = key
    · subst e
      rw [if_neg (by simp [WideAt.sameKey_self (show WideAt.IsKeyLit (Lit.int .i64 x) by trivial)])]
      exact ho2
    · have h3 := (h1 x hx).kept hg2 (hK.apart x key hx hwf e)
      have h4 : (left (.int .i64 x) && !(Lit.int .i64 x).sameKey (.int .i64 key)) = left (.int .i64 x) := by rw [sameKey_int e]; simp
      rw [h4]
      exact h3
theorem SC.done {left : Lit → Bool} (hl : ∀ x, wfi x → W'.ownsInts base 3 .i64 (V x) (if left (.int .i64 x) = true then Z x else sortZ (Z x))) (h0 : ∀ kl, left kl = false) (x : Int) (hx : wfi x) : W'.ownsInts base 3 .i64 (V x) (sortZ (Z x)) := by
  have := hl x hx
  rwa [if_neg (by rw [h0]; simp)] at this
theorem SC.measure (h : SC W base kb V Z D N cnt W') {c0 : Nat} (hlt : cnt < c0) : W'.rangeLeft kb W.heap.size < c0 := by
  obtain ⟨left, a, _⟩ := h.rest
  rw [a.left_eq]
  exact hlt
end
end Go.Proofs.YtnogmaljcocfjaaDoor.DitBuild
namespace Go.Proofs.YtnogmaljcocfjaaDoor.DitBuild
open Go Go.Maps Go.RowKit Go.Proofs.YtnogmaljcocfjaaDoor.XK Go.Proofs.YtnogmaljcocfjaaDoor.Blk Go.Proofs.YtnogmaljcocfjaaDoor.DitTab Go.Proofs.YtnogmaljcocfjaaDoor.DitRow Go.Proofs.YtnogmaljcocfjaaDoor.DitTerm Go.Proofs.YtnogmaljcocfjaaDoor.DitMap Go.Proofs.YtnogmaljcocfjaaDoor.DitCheck Go.Proofs.YtnogmaljcocfjaaDoor.DitCopy Go.Proofs.YtnogmaljcocfjaaDoor.DitPure Go.Proofs.YtnogmaljcocfjaaDoorW.PrintWords Go.Proofs.YtnogmaljcocfjaaDoorW.PrintLast Go.Proofs.YtnogmaljcocfjaaDoorW.PrintMore
abbrev keysOf (es : List S45) (p : List Nat) : List (List ByteArray) := p.map fun q => (ent es q).f2
/-- The keys as lists of bytes. -/
def keyS (es : List S45) (p : List Nat) : List DitPure.Key := (keysOf es p).map DitEv.kl
theorem keyS_len (es : List S45) (p : List Nat) : (keyS es p).length = p.length := by simp [keyS]
theorem keyS_at (es : List S45) (p : List Nat) (i : Nat) : (keyS es p).getD i [] = DitEv.kl ((keysOf es p).getD i []) := by
  unfold keyS
  rw [List.getD_eq_getElem?_getD, List.getD_eq_getElem?_getD, List.getElem?_map]
  cases (keysOf es p)[i]? <;> rfl
/-- Ends as they are told. -/
def endc (n : Nat) (e : Nat → Nat) : List Value := (List.range n).map fun m => Value.int .i64 (e m : Int)
theorem endc_len (n : Nat) (e : Nat → Nat) : (endc n e).length = n := by simp [endc]
theorem endc_at {n : Nat} (e : Nat → Nat) {m : Nat} (h : m < n) : (endc n e)[m]? = some (.int .i64 (e m : Int)) := by simp [endc, h]
theorem endc_zero (n : Nat) : endc n (fun _ => 0) = List.replicate n (.int .i64 0) := by
  apply List.ext_getElem
  · simp [endc]
  · intro i h1 h2
    simp [endc]
theorem endc_set {n : Nat} (e : Nat → Nat) {k : Nat} (c : Nat) : (endc n e).set k (.int .i64 (c : Int)) = endc n (fun m => if m = k then c else e m) := by
  apply List.ext_getElem
  · simp [endc]
  · intro i h1 h2
    rw [List.getElem_set]
    by_cases h : k = i
    · subst h; simp [endc]
    · rw [if_neg h]
      simp [endc, show ¬ i = k by omega]
structure DE (W5 : World) (ge n : Nat) (S : List DitPure.Key) (i : Nat) (wr : World) : Prop where
  gr : W5.grownBy wr (some ge)
  ex : ∃ e : Nat → Nat, At wr ge (endc n e) 3 ∧ EI S i e ∧ ∀ m, e m ≤ n
theorem DE.start {W : World} {ge n : Nat} {S : List DitPure.Key} (hS : S.length = n) (h : At W ge (List.replicate n (.int .i64 0)) 3) : DE W ge n S n W := by
  refine ⟨⟨rfl, rfl, rfl, Nat.le_refl _, fun k _ _ => rfl⟩, fun _ => 0, by rw [endc_zero]; exact h, ?_, fun _ => Nat.zero_le _⟩
  have := EI.start (S := S) (fun _ => 0) (fun _ => rfl)
  rwa [hS] at this
section
variable {W5 wr : World} {ge n i : Nat} {S : List DitPure.Key} {e : Nat → Nat}
theorem DE.self (hg : W5.grownBy wr (some ge)) (ha : At wr ge (endc n e) 3) (hi : i < n) : (∃ old, wr.cell? ⟨ge, i, none⟩ = some old) ∧ wr.frozen? ⟨ge, i, none⟩ = false ∧ ∀ c : Nat, W5.grownBy (wr.setCell ⟨ge, i, none⟩ (.int .i64 (c : Int))) (some ge) ∧ At (wr.setCell ⟨ge, i, none⟩ (.int .i64 (c : Int))) ge (endc n (fun m => if m = i then c else e m)) 3 :=
  ⟨⟨_, ha.get i _ (endc_at e hi)⟩, ha.free i, fun c => ⟨grown_set hg _ _, by rw [← endc_set]; exact ha.set i _⟩⟩
theorem DE.root (hS : TS S) (hl : S.length = n) (hE : EI S (i + 1) e) (hi : i < n) (hb : ∀ m, e m ≤ n) (h0 : i = 0) (hg : W5.grownBy wr (some ge)) (ha : At wr ge (endc n (fun m => if m = i then max (e i) (i + 1) else e m)) 3) : DE W5 ge n S i wr := by
  refine ⟨hg, _, ha, hE.step hS (by omega) (fun m hm _ => if_neg hm) (if_pos rfl) (fun p hk => ?_), fun m => ?_⟩
  · have := hk.1; omega
  · show (if m = i then _ else _) ≤ n
    have := hb m; have := hb i
    split <;> omega
theorem DE.kid {q : Nat} (hS : TS S) (hl : S.length = n) (hE : EI S (i + 1) e) (hi : i < n) (hb : ∀ m, e m ≤ n) (hq : Kid S q i) (hg : W5.grownBy wr (some ge)) (ha : At wr ge (endc n (fun m => if m = q then max (e q) (max (e i) (i + 1)) else if m = i then max (e i) (i + 1) else e m)) 3) : DE W5 ge n S i wr := by
  have hqi := hq.lt hS
  refine ⟨hg, _, ha, hE.step hS (by omega) (fun m hm hk => ?_) ?_ (fun p hk => ?_), fun m => ?_⟩
  · show (if m = q then _ else if m = i then _ else e m) = e m
    rw [if_neg (fun e => hk (by rw [e]; exact hq)), if_neg hm]
  · show (if i = q then _ else if i = i then _ else e i) = _
    rw [if_neg (by omega), if_pos rfl]
  · have := hk.one hS hq
    subst this
    show (if p = p then _ else _) = max (e p) (if i = p then _ else if i = i then _ else _)
    rw [if_pos rfl, if_neg (by omega), if_pos rfl]
  · show (if m = q then _ else if m = i then _ else e m) ≤ n
    have := hb m; have := hb i; have := hb q
    split
    · omega
    · split <;> omega
end
theorem num_on {w w' : World} {b n : Nat} {f : ByteArray → Option Int} (h : Num w b n f) (he : w'.heap[b]? = w.heap[b]?) : Num w' b n f := by
  obtain ⟨D, ⟨es, clock, a, b⟩, c⟩ := h
  exact ⟨D, ⟨es, clock, he.trans a, b⟩, c⟩
theorem fin_start {L : Lay} {W0 wa w5 : World} {n r N cnt m c5 : Nat} {ks : List (List ByteArray)} {PI : Nat → Nat} {pc : List Value} {V : Int → Value} {Z : Int → List Int} {D : DataW Value}
    (h : LB L W0 n r N ks PI cnt wa) (hpc : At wa L.gp pc 3) (hs : SC wa L.base L.kb V Z D m c5 w5) : LA W0 w5 L.tb L.kb ∧ At w5 L.tb (tcells L.EV L.PV (.slice (some ⟨L.gp, 0, none⟩) n n) (.slice (some ⟨L.ge, 0, none⟩) n n) L.kb L.nb) 80 ∧ At w5 L.ge (List.replicate n (.int .i64 0)) 3 ∧ At w5 L.gp pc 3 ∧ Num w5 L.nb N (numF ks) := by
  obtain ⟨o1, o2, o3, o3', o4, o5, o6, o7, o8⟩ := h.ord
  obtain ⟨vis2, G, pc2, m2, a, _⟩ := h.rest
  have hz := hs.size
  exact ⟨⟨hs.os.trans h.la.os, hs.tape.trans h.la.tape, hs.output.trans h.la.output, Nat.le_trans h.la.size (by omega), fun k h1 h2 h3 => (hs.keep k (by omega)).trans (h.la.keep k h1 h2 h3)⟩, (hs.keep _ (by omega)).trans h.tc, (hs.keep _ (by omega)).trans h.en, (hs.keep _ (by omega)).trans hpc, num_on a.num (hs.keep _ (by omega))⟩
/-- The tree in memory: where it lies, what it tells. -/
structure TreeAt (es : List S45) (p : List Nat) (n : Nat) (PI : Nat → Nat) (tb : Nat) (W : World) : Prop where
  ex : ∃ (L : Lay) (eg ec g cap : Nat) (pc : List Value) (e : Nat → Nat) (V : Int → Value) (Z : Int → List Int), L.tb = tb ∧ L.EV = .slice (some ⟨eg, 0, none⟩) n ec ∧ L.PV = .slice (some ⟨g, 0, none⟩) n cap ∧ n ≤ ec ∧
    At W tb (tcells (.slice (some ⟨eg, 0, none⟩) n ec) (.slice (some ⟨g, 0, none⟩) n cap) (.slice (some ⟨L.gp, 0, none⟩) n n) (.slice (some ⟨L.ge, 0, none⟩) n n) L.kb L.nb) 80 ∧
    eg < W.heap.size ∧ (∀ j, j < n → EntAt W eg (j * 4) (ent es (p.getD j 0))) ∧ (∃ cur, At W g cur 3 ∧ ∀ j, j < n → cur[j]? = some (.int .i64 (p.getD j 0 : Nat))) ∧
    At W L.gp pc 3 ∧ ParQ n PI (fun _ => true) pc ∧ At W L.ge (endc n e) 3 ∧ (∀ m, m < n → IsEnd (keyS es p) m (e m)) ∧
    L.kb < W.heap.size ∧ (∀ x, wfi x → (∀ w' : World, w'.heap[L.kb]? = W.heap[L.kb]? → (Instr.lookup 77 (.map (some L.kb)) (.int .i64 x) false).run Tryd.prog w' = .ok (V x) w') ∧ W.ownsInts L.base 3 .i64 (V x) (sortZ (Z x)) ∧ (Z x).length ≤ n) ∧
    KidQ n PI (fun _ => true) Z ∧ Num W L.nb n (numF (keysOf es p))
theorem TreeAt.below {es : List S45} {p : List Nat} {n tb : Nat} {PI : Nat → Nat} {W W' : World} (h : TreeAt es p n PI tb W) (hb : Below W.heap.size W W') : TreeAt es p n PI tb W' := by
  obtain ⟨L, eg, ec, g, cap, pc, e, V, Z, a1, a2, a3, a4, a5, a6, a7, ⟨cur, a8, a8'⟩, a9, a10, a11, a12, a13, a14, a15, a16⟩ := h
  have hz := hb.size
  refine ⟨L, eg, ec, g, cap, pc, e, V, Z, a1, a2, a3, a4, a5.below hb a5.lt, by omega, fun j hj => (a7 j hj).below a6 hb, ⟨cur, a8.below hb a8.lt, a8'⟩, a9.below hb a9.lt, a10, a11.below hb a11.lt, a12, by omega, fun x hx => ?_, a15, a16.below hb⟩
  obtain ⟨b1, b2, b3⟩ := a14 x hx
  exact ⟨fun w' hw => b1 w' (hw.trans (hb.block L.kb a13)), b2.kept (grown_below hb) (by cases (V x).ownBlock <;> simp), b3⟩
theorem TreeAt.lt {es : List S45} {p : List Nat} {n tb : Nat} {PI : Nat → Nat} {W : World} (h : TreeAt es p n PI tb W) : tb < W.heap.size := by
  obtain ⟨L, eg, ec, g, cap, pc, e, V, Z, a1, a2, a3, a4, a5, _⟩ := h
  exact a5.lt
theorem drewG {W5 W W' : World} {row : Option Nat} (h : W5.grownBy W row) (e : W' = W.drew) : W5.grownBy W' row := by rw [e]; exact ⟨h.os, h.tape, h.output, h.size, h.block⟩
theorem drewA {W W' : World} {g : Nat} {l : List Value} {t : TypeId} (h : At W g l t) (e : W' = W.drew) : At W' g l t := by rw [e]; exact h
theorem ParQ.all {n : Nat} {PI : Nat → Nat} {vis : Nat → Bool} {pc : List Value} (h : ParQ n PI vis pc) (hv : ∀ j, j < n → vis j = true) : ParQ n PI (fun _ => true) pc :=
  ⟨h.1, fun j hj => by obtain ⟨c, a1, a2, a3, a4, a5⟩ := h.2 j hj; exact ⟨c, a1, a2, a3, a4, fun h0 _ => a5 h0 (hv j hj)⟩⟩
theorem KidQ.all {n : Nat} {PI : Nat → Nat} {vis : Nat → Bool} {G Z : Int → List Int} (h : KidQ n PI vis G) (hv : ∀ j, j < n → vis j = true) (hz : ∀ p, wfi p → Z p = G p) : KidQ n PI (fun _ => true) Z := fun p hp => by
  rw [hz p hp]
  refine ⟨(h p hp).1, fun x => ?_⟩
  rw [(h p hp).2 x]
  exact ⟨fun ⟨j, a1, a2, a3, a4, a5⟩ => ⟨j, a1, a2, a3, rfl, a5⟩, fun ⟨j, a1, a2, a3, a4, a5⟩ => ⟨j, a1, a2, a3, hv j a3, a5⟩⟩
theorem kid_of {es : List S45} {p : List Nat} {n : Nat} {PI : Nat → Nat} (hpl : p.length = n) (hPI : ∀ j, 0 < j → j < n → (keysOf es p).getD j [] ≠ [] ∧ PI j < n ∧ (keysOf es p).getD (PI j) [] = ((keysOf es p).getD j []).dropLast) {j : Nat} (h0 : 0 < j) (hj : j < n) : Kid (keyS es p) (PI j) j := by
  obtain ⟨_, h2, h3⟩ := hPI j h0 hj
  refine ⟨h0, by rw [keyS_len, hpl]; exact hj, by rw [keyS_len, hpl]; exact h2, ?_⟩
  rw [keyS_at, keyS_at, h3]
  unfold DitEv.kl
  rw [List.map_dropLast]
end Go.Proofs.YtnogmaljcocfjaaDoor.DitBuild
namespace Go.Proofs.YtnogmaljcocfjaaDoor.DitBuild
open Go Go.Maps Go.RowKit Go.Proofs.YtnogmaljcocfjaaDoor.XK Go.Proofs.YtnogmaljcocfjaaDoor.Blk Go.Proofs.YtnogmaljcocfjaaDoor.DitTab Go.Proofs.YtnogmaljcocfjaaDoor.DitRow Go.Proofs.YtnogmaljcocfjaaDoor.DitTerm Go.Proofs.YtnogmaljcocfjaaDoor.DitMap Go.Proofs.YtnogmaljcocfjaaDoor.DitCheck Go.Proofs.YtnogmaljcocfjaaDoor.DitCopy Go.Proofs.YtnogmaljcocfjaaDoorW.PrintWords Go.Proofs.YtnogmaljcocfjaaDoorW.PrintLast Go.Proofs.YtnogmaljcocfjaaDoorW.PrintMore
theorem own_la {W0 W : World} {tb kb nb m : Nat} {D : DataW Unit} (h : LA W0 W tb kb) (h1 : nb ≠ tb) (h2 : nb ≠ kb) (ho : W0.ownsMap Tryd.prog 9 (plainElem Tryd.prog 3) nb m D) : W.ownsMap Tryd.prog 9 (plainElem Tryd.prog 3) nb m D := by
  have hl := ho.lt
  obtain ⟨es, clock, a, b⟩ := ho
  exact ⟨es, clock, (h.keep nb hl h1 h2).trans a, b⟩
theorem made_zero (n : Nat) : (madeCells #[Value.int .i64 0] n).toList = List.replicate n (.int .i64 0) := by
  apply List.ext_getElem
  · simp [size_madeCells]
  · intro i h1 h2
    simp [madeCells, Nat.mod_one]
structure WA (W0 : World) (tb kb nb n : Nat) (EV PV : Value) (W3 : World) : Prop where
  la : LA W0 W3 tb kb
  size : W3.heap.size = W0.heap.size + 2
  kid : W3.heap[kb]? = W0.heap[kb]?
  tc : At W3 tb (tcells EV PV (.slice (some ⟨W0.heap.size, 0, none⟩) n n) (.slice (some ⟨W0.heap.size + 1, 0, none⟩) n n) kb nb) 80
  en : At W3 (W0.heap.size + 1) (List.replicate n (.int .i64 0)) 3
  pa : At W3 W0.heap.size ((List.replicate n (Value.int .i64 0)).set 0 (.int .i64 (-1))) 3
theorem measure_of {L : Lay} {W0 wr : World} {n r N cnt cnt0 : Nat} {ks : List (List ByteArray)} {PI : Nat → Nat} (h : LB L W0 n r N ks PI cnt wr) (hlt : cnt < cnt0) : wr.rangeLeft L.nb r < cnt0 := by
  obtain ⟨vis, G, pc, m, a, _⟩ := h.rest
  obtain ⟨D, left, b, _⟩ := a.ex
  rw [b.left_eq]
  exact hlt
theorem lb_start {w W0 W3 W4 : World} {tb kb nb eb g n r : Nat} {ks : List (List ByteArray)} {PI : Nat → Nat} {L : Lay} {D : DataW Unit} (ho : w.heap.size ≤ eb ∧ eb < kb ∧ kb < nb ∧ nb < tb ∧ tb < g ∧ g < W0.heap.size) (hks : ks.length = n) (hnd : ks.Nodup) (hn : 0 < n)
    (hWA : WA W0 L.tb L.kb L.nb n L.EV L.PV W3) (hkid : W0.heap[L.kb]? = some (.map #[] 0)) (e1 : L.gp = W0.heap.size) (e2 : L.ge = W0.heap.size + 1) (e3 : L.base = W0.heap.size + 3) (e4 : r = W0.heap.size + 1 + 1)
    (hD1 : ∀ s, has D (lit s) = (numF ks s).isSome) (hD2 : ∀ s v, numF ks s = some v → ∀ z, D.atKey (lit s) z = .lit (.int .i64 v)) (hrg : W4.ranges Tryd.prog 9 (plainElem Tryd.prog 3) L.nb W3.heap.size n D (Maps.has D) (Maps.size D)) (hg : W3.grownBy W4 none) (hs : W4.heap.size = W3.heap.size + 1)
    (h5 : L.tb = tb := by rfl) (h6 : L.kb = kb := by rfl) (h7 : L.nb = nb := by rfl) : LB L W0 n r n ks PI (Maps.size D) W4 := by
  have hsz := hWA.size
  have hr : W3.heap.size = r := by omega
  rw [hr] at hrg
  have hpa := hWA.pa.grown hg (by simp)
  rw [← e1] at hpa
  refine ⟨hWA.la.grown hg (fun q e => by cases e), by omega, by rw [e1, e2]; exact hWA.tc.grown hg (by simp), by rw [e2]; exact hWA.en.grown hg (by simp), fun _ => false, fun _ => [], _, 0, ⟨D, _, hrg, hD1, hD2, fun j hj => ?_⟩, by have := hrg.owns.size_le; omega, hpa, ⟨by simp, fun j hj => ?_⟩, kids_empty ?_ (by omega), fun p hp => ⟨List.nodup_nil, fun x => by simp⟩⟩
  · rw [hD1, numF_at hnd hj]; rfl
  · by_cases e : j = 0
    · subst e
      exact ⟨-1, by rw [List.getElem?_set_self (by simpa using hj)], by omega, by omega, fun _ => rfl, fun h => by omega⟩
    · exact ⟨0, by rw [List.getElem?_set_ne (by omega), List.getElem?_replicate, if_pos hj], by omega, by omega, fun h => absurd h e, fun _ h => by cases h⟩
  · obtain ⟨es, clock, since, seen, c0, hb, _⟩ := hrg
    have hkl : L.kb < W0.heap.size := by omega
    have h3 : W3.heap[L.kb]? = some (.map #[] 0) := hWA.kid.trans hkid
    exact (hg.block _ (by omega) (by simp)).trans h3
theorem wa_start {W0 : World} {tb kb nb n : Nat} {EV PV : Value} {Z : Array Value} (hZ : Z.toList = List.replicate n (Value.int .i64 0)) (hn : 0 < n) (h : At W0 tb (tcells EV PV (.slice none 0 0) (.slice none 0 0) kb nb) 80) (hkt : kb ≠ tb) (hkl : kb < W0.heap.size) :
    At (W0.alloc (.cells Z 3)) tb (tcells EV PV (.slice none 0 0) (.slice none 0 0) kb nb) 80 ∧
    At (((W0.alloc (.cells Z 3)).setCell ⟨tb, 2, none⟩ (.slice (some ⟨W0.heap.size, 0, none⟩) n n)).alloc (.cells Z 3)) tb (tcells EV PV (.slice (some ⟨W0.heap.size, 0, none⟩) n n) (.slice none 0 0) kb nb) 80 ∧ (∃ old, ((((W0.alloc (.cells Z 3)).setCell ⟨tb, 2, none⟩ (.slice (some ⟨W0.heap.size, 0, none⟩) n n)).alloc (.cells Z 3)).setCell ⟨tb, 3, none⟩ (.slice (some ⟨W0.heap.size + 1, 0, none⟩) n n)).cell? ⟨W0.heap.size, 0, none⟩ = some old) ∧ ((((W0.alloc (.cells Z 3)).setCell ⟨tb, 2, none⟩ (.slice (some ⟨W0.heap.size, 0, none⟩) n n)).alloc (.cells Z 3)).setCell ⟨tb, 3, none⟩ (.slice (some ⟨W0.heap.size + 1, 0, none⟩) n n)).frozen? ⟨W0.heap.size, 0, none⟩ = false ∧ WA W0 tb kb nb n EV PV (((((W0.alloc (.cells Z 3)).setCell ⟨tb, 2, none⟩ (.slice (some ⟨W0.heap.size, 0, none⟩) n n)).alloc (.cells Z 3)).setCell ⟨tb, 3, none⟩ (.slice (some ⟨W0.heap.size + 1, 0, none⟩) n n)).setCell ⟨W0.heap.size, 0, none⟩ (.int .i64 (-1))) := by
  have hlt := h.lt
  have s1 : (W0.alloc (.cells Z 3)).heap.size = W0.heap.size + 1 := World.size_alloc _ _
  have s2 : ((W0.alloc (.cells Z 3)).setCell ⟨tb, 2, none⟩ (.slice (some ⟨W0.heap.size, 0, none⟩) n n)).heap.size = W0.heap.size + 1 := by rw [World.size_setCell, s1]
  have s3 : (((W0.alloc (.cells Z 3)).setCell ⟨tb, 2, none⟩ (.slice (some ⟨W0.heap.size, 0, none⟩) n n)).alloc (.cells Z 3)).heap.size = W0.heap.size + 2 := by rw [World.size_alloc, s2]
  have t1 := h.alloc (.cells Z 3)
  have t2 : At ((W0.alloc (.cells Z 3)).setCell ⟨tb, 2, none⟩ (.slice (some ⟨W0.heap.size, 0, none⟩) n n)) tb (tcells EV PV (.slice (some ⟨W0.heap.size, 0, none⟩) n n) (.slice none 0 0) kb nb) 80 := t1.set 2 _
  have t3 : At (((W0.alloc (.cells Z 3)).setCell ⟨tb, 2, none⟩ (.slice (some ⟨W0.heap.size, 0, none⟩) n n)).alloc (.cells Z 3)) tb (tcells EV PV (.slice (some ⟨W0.heap.size, 0, none⟩) n n) (.slice none 0 0) kb nb) 80 := t2.alloc _
  have t4 : At ((((W0.alloc (.cells Z 3)).setCell ⟨tb, 2, none⟩ (.slice (some ⟨W0.heap.size, 0, none⟩) n n)).alloc (.cells Z 3)).setCell ⟨tb, 3, none⟩ (.slice (some ⟨W0.heap.size + 1, 0, none⟩) n n)) tb (tcells EV PV (.slice (some ⟨W0.heap.size, 0, none⟩) n n) (.slice (some ⟨W0.heap.size + 1, 0, none⟩) n n) kb nb) 80 := t3.set 3 _
  have g1 : At (W0.alloc (.cells Z 3)) W0.heap.size (List.replicate n (.int .i64 0)) 3 := by rw [← hZ]; have := At.fresh W0 Z.toList 3; rwa [Array.toArray_toList] at this
  have g4 : At ((((W0.alloc (.cells Z 3)).setCell ⟨tb, 2, none⟩ (.slice (some ⟨W0.heap.size, 0, none⟩) n n)).alloc (.cells Z 3)).setCell ⟨tb, 3, none⟩ (.slice (some ⟨W0.heap.size + 1, 0, none⟩) n n)) W0.heap.size (List.replicate n (.int .i64 0)) 3 := ((g1.other ⟨tb, 2, none⟩ (.slice (some ⟨W0.heap.size, 0, none⟩) n n) (by show W0.heap.size ≠ tb; omega)).alloc (.cells Z 3)).other ⟨tb, 3, none⟩ (.slice (some ⟨W0.heap.size + 1, 0, none⟩) n n) (by show W0.heap.size ≠ tb; omega)
  have e3 : At (((W0.alloc (.cells Z 3)).setCell ⟨tb, 2, none⟩ (.slice (some ⟨W0.heap.size, 0, none⟩) n n)).alloc (.cells Z 3)) (W0.heap.size + 1) (List.replicate n (.int .i64 0)) 3 := by rw [← hZ]; have := At.fresh ((W0.alloc (.cells Z 3)).setCell ⟨tb, 2, none⟩ (.slice (some ⟨W0.heap.size, 0, none⟩) n n)) Z.toList 3; rw [s2, Array.toArray_toList] at this; exact this
  have e4 : At ((((W0.alloc (.cells Z 3)).setCell ⟨tb, 2, none⟩ (.slice (some ⟨W0.heap.size, 0, none⟩) n n)).alloc (.cells Z 3)).setCell ⟨tb, 3, none⟩ (.slice (some ⟨W0.heap.size + 1, 0, none⟩) n n)) (W0.heap.size + 1) (List.replicate n (.int .i64 0)) 3 := e3.other ⟨tb, 3, none⟩ (.slice (some ⟨W0.heap.size + 1, 0, none⟩) n n) (by show W0.heap.size + 1 ≠ tb; omega)
  have l1 : LA W0 (W0.alloc (.cells Z 3)) tb kb := (LA.refl W0 tb kb).below (below_alloc (Below.refl _ _) _)
  have l2 : LA W0 ((W0.alloc (.cells Z 3)).setCell ⟨tb, 2, none⟩ (.slice (some ⟨W0.heap.size, 0, none⟩) n n)) tb kb := l1.grown (grown_set (grown_refl _ (some tb)) 2 (.slice (some ⟨W0.heap.size, 0, none⟩) n n)) (fun q e => .inl (Option.some.inj e).symm)
  have l3 : LA W0 (((W0.alloc (.cells Z 3)).setCell ⟨tb, 2, none⟩ (.slice (some ⟨W0.heap.size, 0, none⟩) n n)).alloc (.cells Z 3)) tb kb := l2.below (below_alloc (Below.refl _ _) _)
  have l4 : LA W0 ((((W0.alloc (.cells Z 3)).setCell ⟨tb, 2, none⟩ (.slice (some ⟨W0.heap.size, 0, none⟩) n n)).alloc (.cells Z 3)).setCell ⟨tb, 3, none⟩ (.slice (some ⟨W0.heap.size + 1, 0, none⟩) n n)) tb kb := l3.grown (grown_set (grown_refl _ (some tb)) 3 (.slice (some ⟨W0.heap.size + 1, 0, none⟩) n n)) (fun q e => .inl (Option.some.inj e).symm)
  have l5 : LA W0 (((((W0.alloc (.cells Z 3)).setCell ⟨tb, 2, none⟩ (.slice (some ⟨W0.heap.size, 0, none⟩) n n)).alloc (.cells Z 3)).setCell ⟨tb, 3, none⟩ (.slice (some ⟨W0.heap.size + 1, 0, none⟩) n n)).setCell ⟨W0.heap.size, 0, none⟩ (.int .i64 (-1))) tb kb := l4.grown (grown_set (grown_refl _ (some W0.heap.size)) 0 (.int .i64 (-1))) (fun q e => by have := Option.some.inj e; omega)
  have l5' : LA W0 (((((W0.alloc (.cells Z 3)).setCell ⟨tb, 2, none⟩ (.slice (some ⟨W0.heap.size, 0, none⟩) n n)).alloc (.cells Z 3)).setCell ⟨tb, 3, none⟩ (.slice (some ⟨W0.heap.size + 1, 0, none⟩) n n)).setCell ⟨W0.heap.size, 0, none⟩ (.int .i64 (-1))) tb tb := ((((LA.refl W0 tb tb).below (below_alloc (Below.refl _ _) (.cells Z 3))).grown (grown_set (grown_refl _ (some tb)) 2 (.slice (some ⟨W0.heap.size, 0, none⟩) n n)) (fun q e => .inl (Option.some.inj e).symm)).below (below_alloc (Below.refl _ _) (.cells Z 3))).grown (grown_set (grown_refl _ (some tb)) 3 (.slice (some ⟨W0.heap.size + 1, 0, none⟩) n n)) (fun q e => .inl (Option.some.inj e).symm) |>.grown (grown_set (grown_refl _ (some W0.heap.size)) 0 (.int .i64 (-1))) (fun q e => by have := Option.some.inj e; omega)
  refine ⟨t1, t3, ⟨_, g4.get 0 _ (List.getElem?_eq_getElem (by simpa using hn))⟩, g4.free 0, l5, by rw [World.size_setCell, World.size_setCell, s3], l5'.keep kb hkl hkt hkt, t4.other _ _ (by show tb ≠ W0.heap.size; omega), e4.other _ _ (by show W0.heap.size + 1 ≠ W0.heap.size; omega), g4.set 0 _⟩
set_option maxHeartbeats 8000000 in
set_option maxRecDepth 100000 in
theorem link_as {w W0 : World} {A : Option Addr} {n c eb kb nb tb g cap : Nat} {es : List S45} {p : List Nat} {v : Value} (h : P2 w A n c eb kb nb tb g cap es p v n n W0) (hn : 0 < n) (hpl : p.length = n) (hmax : n ≤ 1048576) (hF : Fit es) (hle : ∀ q ∈ p, q < es.length) (hnd : (keysOf es p).Nodup) (hTS : DitPure.TS (keyS es p)) (ht : Tabs w) (PI : Nat → Nat)
    (hPI : ∀ j, 0 < j → j < n → (keysOf es p).getD j [] ≠ [] ∧ PI j < n ∧ (keysOf es p).getD (PI j) [] = ((keysOf es p).getD j []).dropLast) :
    Calls Tryd.prog 50 #[.pointer (some ⟨tb, 0, none⟩)] W0 fun e W' => e = .returned (.tuple #[]) ∧ LA W0 W' tb kb ∧ TreeAt es p n PI tb W' := by
  have HTS := Lib.hid hTS
  clear hTS
  obtain ⟨eg, ec, rfl, hec, heg, hegl, hEn⟩ := ents_own h hn hpl
  have hmk := run_make_row' (P := Tryd.prog) 23 3 (.int .i64 0) 8 Tryd.underlying23 DitRow.info3 rfl .i64 .i64 n (by omega) (by omega)
  have hZ := made_zero n
  generalize madeCells #[Value.int .i64 0] n = Z at hmk hZ
  have HH := Lib.hid h
  have HE := Lib.hid hEn
  have HF := Lib.hid hF
  have HLE := Lib.hid hle
  have HND := Lib.hid hnd
  have HT := Lib.hid ht
  have HPI := Lib.hid hPI
  have hord := h.ord
  have HZ := Lib.hid hZ
  obtain ⟨hta, htc, ⟨old9, d0⟩, fd0, hWA⟩ := wa_start (n := n) hZ hn h.tc (by omega) (by omega)
  have hpl' : p.take n = p := List.take_of_length_le (by omega)
  have a0 := h.tc.get 0 _ rfl
  have b0 := hta.get 0 _ rfl
  have b2 := hta.get 2 _ rfl
  have b3 := hta.get 3 _ rfl
  have fb2 := hta.free 2
  have c0 := htc.get 0 _ rfl
  have c2 := htc.get 2 _ rfl
  have c3 := htc.get 3 _ rfl
  have fc3 := htc.free 3
  have e5 := hWA.tc.get 5 _ rfl
  have HWA := Lib.hid hWA
  have hn0 : (0 : Int) < (n : Int) := by omega
  obtain ⟨D, hD0, hD1, hD2⟩ := h.num
  have hD3 := own_la hWA.la (by omega) (by omega) hD0
  have HDD := Lib.hid (And.intro hD1 hD2)
  clear h hEn hF hle hnd ht hPI hZ hta htc hWA hD1 hD2 hD0
  go_enter Tryd.func50, Tryd.ntmps50
  go_wp2_with (first
    | (at_range; go_loud (refine wpList_range_own _ rfl _ 78 rfl 9 3 law9 Tryd.underlying78 _ nb n _ rfl hD3 ?_; intro W4 hrg hg4 hs4; have HRG := Lib.hid (And.intro hrg (And.intro hg4 hs4)); clear hrg hg4 hs4))
    | go_in)
  have hs5 := HWA.out.size
  rw [hs5]
  clear hs5
  go_frame
  obtain ⟨r, hr⟩ : ∃ r, r = W0.heap.size + 2 := ⟨_, rfl⟩
  obtain ⟨gp, hgp⟩ : ∃ r, r = W0.heap.size := ⟨_, rfl⟩
  obtain ⟨ge, hge⟩ : ∃ r, r = gp + 1 := ⟨_, rfl⟩
  obtain ⟨base, hbase⟩ : ∃ r, r = gp + 3 := ⟨_, rfl⟩
  have HLB := Lib.hid (lb_start (L := ⟨tb, kb, nb, gp, ge, base, .slice (some ⟨eg, 0, none⟩) n ec, .slice (some ⟨g, 0, none⟩) n cap⟩) (PI := PI) (ks := keysOf es p) (r := r) hord (by simp [hpl]) HND.out hn HWA.out HH.out.kid (by rw [← hgp]) (by rw [hge, hgp]) (by rw [hbase, hgp]) (by omega) (by rw [hpl'] at HDD; exact HDD.out.1) (by rw [hpl'] at HDD; exact HDD.out.2) HRG.out.1 HRG.out.2.1 HRG.out.2.2)
  rw [← hr]
  clear hr hgp hge hbase HRG HWA HDD a0 b0 b2 b3 fb2 c0 c2 c3 fc3 e5 d0 fd0 hD3
  go_loopw [3] (fun _ wr => ∃ cnt, Hid (LB ⟨tb, kb, nb, gp, ge, base, .slice (some ⟨eg, 0, none⟩) n ec, .slice (some ⟨g, 0, none⟩) n cap⟩ W0 n r n (keysOf es p) PI cnt wr)) (fun _ wr => wr.rangeLeft nb r)
  case atStart => exact ⟨_, HLB⟩
  case round =>
    clear HLB
    obtain ⟨cnt, HW⟩ := hrel
    obtain ⟨vis, G, pc, m, hNR, hmN, hpc, hpar, hkid, hkq⟩ := HW.out.rest
    obtain ⟨D', left, hrg, q1, q2, q3⟩ := hNR.ex
    have HQ0 := Lib.hid (And.intro hmN (And.intro hpc (And.intro hpar (And.intro hkid (And.intro hkq (And.intro q1 (And.intro q2 q3)))))))
    clear hmN hpc hpar hkid hkq q1 q2 q3 hNR
    go_wp2_with (first
      | (at_next; refine wpList_next_ranges _ rfl _ rfl 9 law9 (plainElem Tryd.prog 3) Value.string (Value.int .i64) (fun key kl hk => by obtain ⟨x, hx, _⟩ := inv_key hk; exact ⟨x, hx⟩) (fun v y hv => by obtain ⟨c, hc, _⟩ := inv_val hv; exact ⟨c, hc⟩) nb r n D' left cnt rfl hrg ?_ ?_)
      | go_in)
    · intro _ hl0
      have hvis : ∀ j, j < n → vis j = true := fun j hj => by
        have h1 := HQ0.out.2.2.2.2.2.2.2 j (by simpa [hpl] using hj)
        rw [hl0] at h1
        cases hb : vis j with
        | true => rfl
        | false => rw [hb] at h1; cases h1
      have hmn : m ≤ n := by have := HQ0.out.1; omega
      have hmx : m < maxLen := by unfold maxLen; omega
      have hkw := HQ0.out.2.2.2.1
      have hkbl : kb < wr.heap.size := by obtain ⟨D8, ⟨es8, cl8, hb8, _⟩, _⟩ := hkw; exact (Array.getElem?_eq_some_iff.1 hb8).1
      obtain ⟨V, Z, D2, hKV, hZG⟩ := hkw.kv hmx
      have t4 : wr.cell? ⟨tb, 4, none⟩ = some (.map (some kb)) := HW.out.tc.get 4 _ rfl
      have hbs : base ≤ wr.heap.size := HW.out.ord.2.2.2.2.2.2.2.2
      have hkb0 : tb < base ∧ kb < base ∧ gp < base ∧ ge < base ∧ nb < base := by have := HW.out.ord; dsimp only at this; omega
      have HVIS := Lib.hid hvis
      have HKV := Lib.hid hKV
      have HZG := Lib.hid hZG
      have hown := hKV.owns
      clear hrg hl0 hvis hKV hZG hkw
      go_wp2_with (first
        | (at_range; go_loud (refine wpList_range_own _ rfl _ 77 rfl 3 23 law3 Tryd.underlying77 RH kb m _ rfl hown ?_; intro W5 hrg5 hg5 hs5; have HSC := Lib.hid (SC.start HKV.out hrg5 hg5 hs5 hbs); clear hrg5 hg5 hs5))
        | go_in)
      go_frame
      clear t4
      go_loopw [7] (fun _ w5 => ∃ cnt5, Hid (SC wr base kb V Z D2 m cnt5 w5)) (fun _ w5 => w5.rangeLeft kb wr.heap.size)
      case atStart => exact ⟨_, HSC⟩
      case round =>
        clear HSC
        obtain ⟨cnt5, HS5⟩ := hrel
        obtain ⟨left5, hrg5, hl5⟩ := HS5.out.rest
        have HL5 := Lib.hid hl5
        clear hl5
        go_wp2_with (first
          | (at_next; refine wpList_next_ranges _ rfl _ rfl 3 law3 RH (Value.int .i64) (fun (c : Value) => c) (fun key kl hk => by obtain ⟨x, hx, _⟩ := keyOf_int_inv Tryd.underlying3 hk; exact ⟨x, hx⟩) (fun v y hv => ⟨v, rfl⟩) kb _ m D2 left5 cnt5 rfl hrg5 ?_ ?_)
          | go_in)
        · intro _ hl0
          have HDN := Lib.hid (fun x hx => SC.done HL5.out hl0 x hx)
          obtain ⟨hLA5, htc5, hen5, hpa5, hnum5⟩ := fin_start HW.out HQ0.out.2.1 HS5.out
          dsimp only at hLA5 htc5 hen5 hpa5 hnum5
          have hwn : IntKind.i64.wrap ((n : Int) - 1) = ((n : Int) - 1) := IntWalk.i64_in _ (by omega)
          have t0 := htc5.get 0 _ rfl
          have HLA := Lib.hid hLA5
          have HTC := Lib.hid htc5
          have HPA := Lib.hid hpa5
          have HNU := Lib.hid hnum5
          have HDE := Lib.hid (DE.start (S := keyS es p) (by rw [keyS_len, hpl]) hen5)
          have hord5 : tb ≠ ge ∧ gp ≠ ge ∧ kb ≠ ge ∧ nb ≠ ge ∧ tb < base ∧ kb < base ∧ gp < base ∧ ge < base ∧ nb < base ∧ W0.heap.size ≤ ge ∧ W0.heap.size ≤ gp ∧ ge < base := by have := HW.out.ord; dsimp only at this; omega
          clear hl0 hrg5 hLA5 htc5 hen5 hpa5 hnum5
          go_wp2
          clear t0
          go_loopw [8] (fun v8 wd => ∃ (i : Nat) (x : Int), i ≤ n ∧ v8 = .int .i64 x ∧ x = (i : Int) - 1 ∧ Hid (DE wr ge n (keyS es p) i wd)) (fun v _ => (intOf v + 1).toNat)
          case atStart => exact ⟨n, _, Nat.le_refl _, rfl, rfl, HDE⟩
          case round =>
            clear HDE
            obtain ⟨i, x, hi, rfl, hx, HD⟩ := hrel
            obtain ⟨e, hae, hEI, hbe⟩ := HD.out.ex
            by_cases hi0 : i = 0
            · have hge : ¬ (0 : Int) ≤ x := by omega
              go_wp2
              go_end0
              subst hi0
              have hLAf := HLA.out.grown HD.out.gr (fun q e => by have := Option.some.inj e; omega)
              have hbk : wr.heap[kb]? = _ := (HD.out.gr.block kb (by have := HS5.out.size; omega) (fun e => hord5.2.2.1 (Option.some.inj e))).trans (HS5.out.keep kb hord5.2.2.2.2.2.1)
              have hzw := HD.out.gr.size
              have hz5 := HS5.out.size
              obtain ⟨curP, hcp, hcp2⟩ := HH.out.pl
              refine ⟨rfl, hLAf, ⟨⟨tb, kb, nb, gp, ge, base, .slice (some ⟨eg, 0, none⟩) n ec, .slice (some ⟨g, 0, none⟩) n cap⟩, eg, ec, g, cap, pc, e, V, Z, rfl, rfl, rfl, hec, HTC.out.grown HD.out.gr (fun e => hord5.1 (Option.some.inj e)), by have := hLAf.size; omega, fun j hj => HE.out _ hLAf j hj, ⟨curP, (hLAf.keep g (by omega) (by omega) (by omega)).trans hcp, hcp2⟩, HPA.out.grown HD.out.gr (fun e => hord5.2.1 (Option.some.inj e)), HQ0.out.2.2.1.all HVIS.out, hae, fun m hm => hEI.done m (Nat.zero_le m) (by rw [keyS_len, hpl]; exact hm), by show kb < wr.heap.size; omega, fun x hx => ⟨fun w' hw => HKV.out.look x hx w' (hw.trans hbk), (HDN.out x hx).kept HD.out.gr ?_, Nat.le_trans (HKV.out.len x hx) hmn⟩, HQ0.out.2.2.2.2.1.all HVIS.out HZG.out, ?_⟩⟩
              · cases hb : (V x).ownBlock with
                | none => exact .inl rfl
                | some q =>
                  right
                  intro e2
                  have h1 := ((HDN.out x hx).1.lt q hb).1
                  have := Option.some.inj e2
                  have := hord5.2.2.2.2.2.2.2.1
                  omega
              · exact HNU.out.kept HD.out.gr (fun e => hord5.2.2.2.1 (Option.some.inj e))
            · obtain ⟨i, rfl⟩ : ∃ j, i = j + 1 := ⟨i - 1, by omega⟩
              obtain rfl : x = (i : Int) := by omega
              have hge : (0 : Int) ≤ (i : Int) := by omega
              have hin : i < n := by omega
              have hltn : (i : Int) < (n : Int) := by omega
              have hwi : IntKind.i64.wrap ((i : Int) + 1) = ((i + 1 : Nat) : Int) := by rw [IntWalk.i64_in _ (by omega)]; rfl
              have hwd : IntKind.i64.wrap ((i : Int) - 1) = (i : Int) - 1 := IntWalk.i64_in _ (by omega)
              have htcd := HTC.out.grown HD.out.gr (fun e => hord5.1 (Option.some.inj e))
              have hpad := HPA.out.grown HD.out.gr (fun e => hord5.2.1 (Option.some.inj e))
              have k2 : wr.cell? ⟨tb, 2, none⟩ = some (.slice (some ⟨gp, 0, none⟩) n n) := htcd.get 2 _ rfl
              have k3 : wr.cell? ⟨tb, 3, none⟩ = some (.slice (some ⟨ge, 0, none⟩) n n) := htcd.get 3 _ rfl
              have ke : wr.cell? ⟨ge, i, none⟩ = some (.int .i64 (e i : Int)) := hae.get i _ (endc_at e hin)
              obtain ⟨⟨old18, d18⟩, f18, hset18⟩ := DE.self HD.out.gr hae hin
              have HSET := Lib.hid hset18
              clear hset18 htcd hpad hae hx hi0
              go_wp2
              refine start_ (n := 17) (S := fun w' => w'.cell? ⟨tb, 3, none⟩ = some (.slice (some ⟨ge, 0, none⟩) n n) ∧ w'.cell? ⟨ge, i, none⟩ = some (.int .i64 (e i : Int))) (ds := [16]) #[false, false, false, false, false, false, false, false, false, false, false, false, false, false, false, false, false] (by kernel_rfl) rfl rfl ⟨k3, ke⟩ (fun hHeld => ?_)
              refine pure_ (i := 0) (N := some 105) (v := ?_) (a' := ?_) #[true, false, false, false, false, false, false, false, false, false, false, false, false, false, false, false, false] rfl rfl (by kernel_rfl) (fun _ _ _ h => h) (Or.inl ⟨by rfl, ?_⟩) ?_ ?_
              rotate_left
              · intro w'
                go_simp
                with_reducible rfl
              rotate_left
              · simp only [Act.put, List.setIfInBounds_toArray, List.set_cons_zero, List.set_cons_succ, i64_w, i32_w]
                rfl
              refine pure_ (i := 1) (N := some 106) (v := ?_) (a' := ?_) #[true, true, false, false, false, false, false, false, false, false, false, false, false, false, false, false, false] rfl rfl (by kernel_rfl) (fun _ _ _ h => h) (Or.inl ⟨by rfl, ?_⟩) ?_ ?_
              rotate_left
              · intro w'
                go_simp
                with_reducible rfl
              rotate_left
              · simp only [Act.put, List.setIfInBounds_toArray, List.set_cons_zero, List.set_cons_succ, i64_w, i32_w]
                rfl
              refine pure_ (i := 2) (N := some 107) (v := ?_) (a' := ?_) #[true, true, true, false, false, false, false, false, false, false, false, false, false, false, false, false, false] rfl rfl (by kernel_rfl) (fun _ _ _ h => h) (Or.inl ⟨by rfl, ?_⟩) ?_ ?_
              rotate_left
              · intro w'
                go_simp
                with_reducible rfl
              rotate_left
              · simp only [Act.put, List.setIfInBounds_toArray, List.set_cons_zero, List.set_cons_succ, i64_w, i32_w]
                rfl
              refine pure_ (i := 4) (N := some 109) (v := ?_) (a' := ?_) #[true, true, true, false, true, false, false, false, false, false, false, false, false, false, false, false, false] rfl rfl (by kernel_rfl) (fun _ _ _ h => h) (Or.inl ⟨by rfl, ?_⟩) ?_ ?_
              rotate_left
              · intro w'
                go_simp
                with_reducible rfl
              rotate_left
              · simp only [Act.put, List.setIfInBounds_toArray, List.set_cons_zero, List.set_cons_succ, i64_w, i32_w]
                rfl
              refine pure_ (i := 5) (N := some 110) (v := ?_) (a' := ?_) #[true, true, true, false, true, true, false, false, false, false, false, false, false, false, false, false, false] rfl rfl (by kernel_rfl) (fun _ _ _ h => h) (Or.inl ⟨by rfl, ?_⟩) ?_ ?_
              rotate_left
              · intro w'
                go_simp
                with_reducible rfl
              rotate_left
              · simp only [Act.put, List.setIfInBounds_toArray, List.set_cons_zero, List.set_cons_succ, i64_w, i32_w]
                rfl
              refine pure_ (i := 6) (N := some 111) (v := ?_) (a' := ?_) #[true, true, true, false, true, true, true, false, false, false, false, false, false, false, false, false, false] rfl rfl (by kernel_rfl) (fun _ _ _ h => h) (Or.inl ⟨by rfl, ?_⟩) ?_ ?_
              rotate_left
              · intro w'
                go_simp
                with_reducible rfl
              rotate_left
              · simp only [Act.put, List.setIfInBounds_toArray, List.set_cons_zero, List.set_cons_succ, i64_w, i32_w]
                rfl
              refine pure_ (i := 7) (N := some 112) (v := ?_) (a' := ?_) #[true, true, true, false, true, true, true, true, false, false, false, false, false, false, false, false, false] rfl rfl (by kernel_rfl) (fun _ _ _ h => h) (Or.inl ⟨by rfl, ?_⟩) ?_ ?_
              rotate_left
              · intro w'
                go_simp
                with_reducible rfl
              rotate_left
              · simp only [Act.put, List.setIfInBounds_toArray, List.set_cons_zero, List.set_cons_succ, i64_w, i32_w]
                rfl
              refine pure_ (i := 9) (N := some 114) (v := ?_) (a' := ?_) #[true, true, true, false, true, true, true, true, false, true, false, false, false, false, false, false, false] rfl rfl (by kernel_rfl) (fun _ _ _ h => h) (Or.inl ⟨by rfl, ?_⟩) ?_ ?_
              rotate_left
              · intro w'
                go_simp
                with_reducible rfl
              rotate_left
              · simp only [Act.put, List.setIfInBounds_toArray, List.set_cons_zero, List.set_cons_succ, i64_w, i32_w]
                rfl
              refine pure_ (i := 12) (N := some 117) (v := ?_) (a' := ?_) #[true, true, true, false, true, true, true, true, false, true, false, false, true, false, false, false, false] rfl rfl (by kernel_rfl) (fun _ _ _ h => h) (Or.inl ⟨by rfl, ?_⟩) ?_ ?_
              rotate_left
              · intro w'
                go_simp
                with_reducible rfl
              rotate_left
              · simp only [Act.put, List.setIfInBounds_toArray, List.set_cons_zero, List.set_cons_succ, i64_w, i32_w]
                rfl
              refine pure_ (i := 13) (N := some 118) (v := ?_) (a' := ?_) #[true, true, true, false, true, true, true, true, false, true, false, false, true, true, false, false, false] rfl rfl (by kernel_rfl) (fun _ _ _ h => h) (Or.inl ⟨by rfl, ?_⟩) ?_ ?_
              rotate_left
              · intro w'
                go_simp
                with_reducible rfl
              rotate_left
              · simp only [Act.put, List.setIfInBounds_toArray, List.set_cons_zero, List.set_cons_succ, i64_w, i32_w]
                rfl
              refine take_ (i := 3) (N := some 108) (v := ?_) (a' := ?_) #[true, true, true, true, true, true, true, true, false, true, false, false, true, true, false, false, false] rfl rfl (by kernel_rfl) (fun _ _ _ h => h) (Or.inl ⟨by rfl, ?_⟩) hHeld ?_ ?_
              rotate_left
              · rintro w' ⟨s0, s1⟩
                go_simp
                with_reducible rfl
              rotate_left
              · simp only [Act.put, List.setIfInBounds_toArray, List.set_cons_zero, List.set_cons_succ, i64_w, i32_w]
                rfl
              refine take_ (i := 8) (N := some 113) (v := ?_) (a' := ?_) #[true, true, true, true, true, true, true, true, true, true, false, false, true, true, false, false, false] rfl rfl (by kernel_rfl) (fun _ _ _ h => h) (Or.inl ⟨by rfl, ?_⟩) hHeld ?_ ?_
              rotate_left
              · rintro w' ⟨s0, s1⟩
                go_simp
                with_reducible rfl
              rotate_left
              · simp only [Act.put, List.setIfInBounds_toArray, List.set_cons_zero, List.set_cons_succ, i64_w, i32_w]
                rfl
              refine pure_ (i := 10) (N := some 115) (v := ?_) (a' := ?_) #[true, true, true, true, true, true, true, true, true, true, true, false, true, true, false, false, false] rfl rfl (by kernel_rfl) (fun _ _ _ h => h) (Or.inl ⟨by rfl, ?_⟩) ?_ ?_
              rotate_left
              · intro w'
                go_simp
                with_reducible rfl
              rotate_left
              · simp only [Act.put, List.setIfInBounds_toArray, List.set_cons_zero, List.set_cons_succ, i64_w, i32_w]
                rfl
              refine take_ (i := 11) (N := some 116) (v := ?_) (a' := ?_) #[true, true, true, true, true, true, true, true, true, true, true, true, true, true, false, false, false] rfl rfl (by kernel_rfl) (fun _ _ _ h => h) (Or.inl ⟨by rfl, ?_⟩) hHeld ?_ ?_
              rotate_left
              · rintro w' ⟨s0, s1⟩
                go_simp
                with_reducible rfl
              rotate_left
              · simp only [Act.put, List.setIfInBounds_toArray, List.set_cons_zero, List.set_cons_succ, i64_w, i32_w]
                rfl
              refine pure_ (i := 14) (N := some 119) (v := ?_) (a' := ?_) #[true, true, true, true, true, true, true, true, true, true, true, true, true, true, true, false, false] rfl rfl (by kernel_rfl) (fun _ _ _ h => h) (Or.inl ⟨by rfl, ?_⟩) ?_ ?_
              rotate_left
              · intro w'
                go_simp
                with_reducible rfl
              rotate_left
              · simp only [Act.put, List.setIfInBounds_toArray, List.set_cons_zero, List.set_cons_succ, i64_w, i32_w]
                rfl
              refine pure_ (i := 15) (N := some 120) (v := ?_) (a' := ?_) #[true, true, true, true, true, true, true, true, true, true, true, true, true, true, true, true, false] rfl rfl (by kernel_rfl) (fun _ _ _ h => h) (Or.inl ⟨by rfl, ?_⟩) ?_ ?_
              rotate_left
              · intro w'
                go_simp
                with_reducible rfl
              rotate_left
              · simp only [Act.put, List.setIfInBounds_toArray, List.set_cons_zero, List.set_cons_succ, i64_w, i32_w]
                rfl
              refine last_ (i := 16) (N := none) #[true, true, true, true, true, true, true, true, true, true, true, true, true, true, true, true, true] rfl rfl (by kernel_rfl) (by decide) (fun K hK => ?_)
              refine skip_ (w1 := ?_) (by rfl) rfl ?_ ?_
              rotate_left
              · go_simp
                rfl
              refine hK.out _ _ ?_
              clear hK K
              refine done_ (by kernel_rfl) ?_
              have hmm : max ((e i : Nat) : Int) ((i : Int) + 1) = ((max (e i) (i + 1) : Nat) : Int) := by omega
              rw [hmm]
              obtain ⟨W18, e18⟩ : ∃ W, W = (wr.setCell ⟨ge, i, none⟩ (.int .i64 ((max (e i) (i + 1) : Nat) : Int))).drew := ⟨_, rfl⟩
              have hg18 := drewG (HSET.out (max (e i) (i + 1))).1 e18
              have ha18 := drewA (HSET.out (max (e i) (i + 1))).2 e18
              rw [← e18]
              have hpa18 := HPA.out.grown hg18 (fun e => hord5.2.1 (Option.some.inj e))
              have htc18 := HTC.out.grown hg18 (fun e => hord5.1 (Option.some.inj e))
              obtain ⟨c19, b1, b2, b3, b4, b5⟩ := HQ0.out.2.2.1.2 i hin
              have k19 : W18.cell? ⟨gp, i, none⟩ = some (.int .i64 c19) := hpa18.get i _ b1
              have k2 : W18.cell? ⟨tb, 2, none⟩ = some (.slice (some ⟨gp, 0, none⟩) n n) := htc18.get 2 _ rfl
              have k3 : W18.cell? ⟨tb, 3, none⟩ = some (.slice (some ⟨ge, 0, none⟩) n n) := htc18.get 3 _ rfl
              have hSL : (keyS es p).length = n := by rw [keyS_len, hpl]
              have HEI := Lib.hid hEI
              have HBE := Lib.hid hbe
              have HG18 := Lib.hid hg18
              have HA18 := Lib.hid ha18
              clear e18 hmm ke d18 f18 HSET hpa18 htc18 b1 hEI hbe hg18 ha18
              by_cases hi0 : i = 0
              · obtain rfl := b4 hi0
                have hge2 : ¬ (0 : Int) ≤ -1 := by omega
                have HND2 := Lib.hid (DE.root HTS.out hSL HEI.out hin HBE.out hi0 HG18.out HA18.out)
                clear b2 b3 b4 b5 hi0
                go_wp2
                go_roundw
                case rel => exact ⟨i, _, by omega, rfl, rfl, HND2⟩
                case measure => simp [intOf]
              · obtain rfl := b5 (by omega) (HVIS.out i hin)
                have HKD := Lib.hid (kid_of hpl HPI.out (show 0 < i by omega) hin)
                have hPl := (HPI.out i (by omega) hin).2.1
                have hPi := HKD.out.lt HTS.out
                have hge2 : (0 : Int) ≤ (PI i : Int) := by omega
                have hPlt : (PI i : Int) < (n : Int) := by omega
                clear b2 b3 b4 b5
                have q1 : W18.cell? ⟨ge, PI i, none⟩ = some (.int .i64 (e (PI i) : Int)) := by
                  have := HA18.out.get (PI i) _ (endc_at _ hPl)
                  rwa [if_neg (by omega)] at this
                have q2 : W18.cell? ⟨ge, i, none⟩ = some (.int .i64 ((max (e i) (i + 1) : Nat) : Int)) := by
                  have := HA18.out.get i _ (endc_at _ hin)
                  rwa [if_pos rfl] at this
                obtain ⟨⟨old21, d21⟩, f21, hset21⟩ := DE.self HG18.out HA18.out hPl
                have HSET := Lib.hid hset21
                clear hset21
                obtain ⟨mx, hmx2⟩ : ∃ mx, mx = max (e i) (i + 1) := ⟨_, rfl⟩
                rw [← hmx2] at q2
                have HM := Lib.hid hmx2
                clear hmx2
                go_wp2
                refine start_ (n := 22) (S := fun w' => w'.cell? ⟨tb, 3, none⟩ = some (.slice (some ⟨ge, 0, none⟩) n n) ∧ w'.cell? ⟨ge, PI i, none⟩ = some (.int .i64 (e (PI i) : Int)) ∧ w'.cell? ⟨ge, i, none⟩ = some (.int .i64 (mx : Int))) (ds := [21]) #[false, false, false, false, false, false, false, false, false, false, false, false, false, false, false, false, false, false, false, false, false, false] (by kernel_rfl) rfl rfl ⟨k3, q1, q2⟩ (fun hHeld => ?_)
                refine pure_ (i := 0) (N := some 130) (v := ?_) (a' := ?_) #[true, false, false, false, false, false, false, false, false, false, false, false, false, false, false, false, false, false, false, false, false, false] rfl rfl (by kernel_rfl) (fun _ _ _ h => h) (Or.inl ⟨by rfl, ?_⟩) ?_ ?_
                rotate_left
                · intro w'
                  go_simp
                  with_reducible rfl
                rotate_left
                · simp only [Act.put, List.setIfInBounds_toArray, List.set_cons_zero, List.set_cons_succ, i64_w, i32_w]
                  rfl
                refine pure_ (i := 1) (N := some 131) (v := ?_) (a' := ?_) #[true, true, false, false, false, false, false, false, false, false, false, false, false, false, false, false, false, false, false, false, false, false] rfl rfl (by kernel_rfl) (fun _ _ _ h => h) (Or.inl ⟨by rfl, ?_⟩) ?_ ?_
                rotate_left
                · intro w'
                  go_simp
                  with_reducible rfl
                rotate_left
                · simp only [Act.put, List.setIfInBounds_toArray, List.set_cons_zero, List.set_cons_succ, i64_w, i32_w]
                  rfl
                refine pure_ (i := 2) (N := some 132) (v := ?_) (a' := ?_) #[true, true, true, false, false, false, false, false, false, false, false, false, false, false, false, false, false, false, false, false, false, false] rfl rfl (by kernel_rfl) (fun _ _ _ h => h) (Or.inl ⟨by rfl, ?_⟩) ?_ ?_
                rotate_left
                · intro w'
                  go_simp
                  with_reducible rfl
                rotate_left
                · simp only [Act.put, List.setIfInBounds_toArray, List.set_cons_zero, List.set_cons_succ, i64_w, i32_w]
                  rfl
                refine pure_ (i := 4) (N := some 134) (v := ?_) (a' := ?_) #[true, true, true, false, true, false, false, false, false, false, false, false, false, false, false, false, false, false, false, false, false, false] rfl rfl (by kernel_rfl) (fun _ _ _ h => h) (Or.inl ⟨by rfl, ?_⟩) ?_ ?_
                rotate_left
                · intro w'
                  go_simp
                  with_reducible rfl
                rotate_left
                · simp only [Act.put, List.setIfInBounds_toArray, List.set_cons_zero, List.set_cons_succ, i64_w, i32_w]
                  rfl
                refine pure_ (i := 5) (N := some 135) (v := ?_) (a' := ?_) #[true, true, true, false, true, true, false, false, false, false, false, false, false, false, false, false, false, false, false, false, false, false] rfl rfl (by kernel_rfl) (fun _ _ _ h => h) (Or.inl ⟨by rfl, ?_⟩) ?_ ?_
                rotate_left
                · intro w'
                  go_simp
                  with_reducible rfl
                rotate_left
                · simp only [Act.put, List.setIfInBounds_toArray, List.set_cons_zero, List.set_cons_succ, i64_w, i32_w]
                  rfl
                refine pure_ (i := 6) (N := some 136) (v := ?_) (a' := ?_) #[true, true, true, false, true, true, true, false, false, false, false, false, false, false, false, false, false, false, false, false, false, false] rfl rfl (by kernel_rfl) (fun _ _ _ h => h) (Or.inl ⟨by rfl, ?_⟩) ?_ ?_
                rotate_left
                · intro w'
                  go_simp
                  with_reducible rfl
                rotate_left
                · simp only [Act.put, List.setIfInBounds_toArray, List.set_cons_zero, List.set_cons_succ, i64_w, i32_w]
                  rfl
                refine pure_ (i := 7) (N := some 137) (v := ?_) (a' := ?_) #[true, true, true, false, true, true, true, true, false, false, false, false, false, false, false, false, false, false, false, false, false, false] rfl rfl (by kernel_rfl) (fun _ _ _ h => h) (Or.inl ⟨by rfl, ?_⟩) ?_ ?_
                rotate_left
                · intro w'
                  go_simp
                  with_reducible rfl
                rotate_left
                · simp only [Act.put, List.setIfInBounds_toArray, List.set_cons_zero, List.set_cons_succ, i64_w, i32_w]
                  rfl
                refine pure_ (i := 9) (N := some 139) (v := ?_) (a' := ?_) #[true, true, true, false, true, true, true, true, false, true, false, false, false, false, false, false, false, false, false, false, false, false] rfl rfl (by kernel_rfl) (fun _ _ _ h => h) (Or.inl ⟨by rfl, ?_⟩) ?_ ?_
                rotate_left
                · intro w'
                  go_simp
                  with_reducible rfl
                rotate_left
                · simp only [Act.put, List.setIfInBounds_toArray, List.set_cons_zero, List.set_cons_succ, i64_w, i32_w]
                  rfl
                refine pure_ (i := 12) (N := some 142) (v := ?_) (a' := ?_) #[true, true, true, false, true, true, true, true, false, true, false, false, true, false, false, false, false, false, false, false, false, false] rfl rfl (by kernel_rfl) (fun _ _ _ h => h) (Or.inl ⟨by rfl, ?_⟩) ?_ ?_
                rotate_left
                · intro w'
                  go_simp
                  with_reducible rfl
                rotate_left
                · simp only [Act.put, List.setIfInBounds_toArray, List.set_cons_zero, List.set_cons_succ, i64_w, i32_w]
                  rfl
                refine pure_ (i := 13) (N := some 143) (v := ?_) (a' := ?_) #[true, true, true, false, true, true, true, true, false, true, false, false, true, true, false, false, false, false, false, false, false, false] rfl rfl (by kernel_rfl) (fun _ _ _ h => h) (Or.inl ⟨by rfl, ?_⟩) ?_ ?_
                rotate_left
                · intro w'
                  go_simp
                  with_reducible rfl
                rotate_left
                · simp only [Act.put, List.setIfInBounds_toArray, List.set_cons_zero, List.set_cons_succ, i64_w, i32_w]
                  rfl
                refine pure_ (i := 14) (N := some 144) (v := ?_) (a' := ?_) #[true, true, true, false, true, true, true, true, false, true, false, false, true, true, true, false, false, false, false, false, false, false] rfl rfl (by kernel_rfl) (fun _ _ _ h => h) (Or.inl ⟨by rfl, ?_⟩) ?_ ?_
                rotate_left
                · intro w'
                  go_simp
                  with_reducible rfl
                rotate_left
                · simp only [Act.put, List.setIfInBounds_toArray, List.set_cons_zero, List.set_cons_succ, i64_w, i32_w]
                  rfl
                refine pure_ (i := 16) (N := some 146) (v := ?_) (a' := ?_) #[true, true, true, false, true, true, true, true, false, true, false, false, true, true, true, false, true, false, false, false, false, false] rfl rfl (by kernel_rfl) (fun _ _ _ h => h) (Or.inl ⟨by rfl, ?_⟩) ?_ ?_
                rotate_left
                · intro w'
                  go_simp
                  with_reducible rfl
                rotate_left
                · simp only [Act.put, List.setIfInBounds_toArray, List.set_cons_zero, List.set_cons_succ, i64_w, i32_w]
                  rfl
                refine take_ (i := 3) (N := some 133) (v := ?_) (a' := ?_) #[true, true, true, true, true, true, true, true, false, true, false, false, true, true, true, false, true, false, false, false, false, false] rfl rfl (by kernel_rfl) (fun _ _ _ h => h) (Or.inl ⟨by rfl, ?_⟩) hHeld ?_ ?_
                rotate_left
                · rintro w' ⟨s0, s1, s2⟩
                  go_simp
                  with_reducible rfl
                rotate_left
                · simp only [Act.put, List.setIfInBounds_toArray, List.set_cons_zero, List.set_cons_succ, i64_w, i32_w]
                  rfl
                refine take_ (i := 8) (N := some 138) (v := ?_) (a' := ?_) #[true, true, true, true, true, true, true, true, true, true, false, false, true, true, true, false, true, false, false, false, false, false] rfl rfl (by kernel_rfl) (fun _ _ _ h => h) (Or.inl ⟨by rfl, ?_⟩) hHeld ?_ ?_
                rotate_left
                · rintro w' ⟨s0, s1, s2⟩
                  go_simp
                  with_reducible rfl
                rotate_left
                · simp only [Act.put, List.setIfInBounds_toArray, List.set_cons_zero, List.set_cons_succ, i64_w, i32_w]
                  rfl
                refine pure_ (i := 10) (N := some 140) (v := ?_) (a' := ?_) #[true, true, true, true, true, true, true, true, true, true, true, false, true, true, true, false, true, false, false, false, false, false] rfl rfl (by kernel_rfl) (fun _ _ _ h => h) (Or.inl ⟨by rfl, ?_⟩) ?_ ?_
                rotate_left
                · intro w'
                  go_simp
                  with_reducible rfl
                rotate_left
                · simp only [Act.put, List.setIfInBounds_toArray, List.set_cons_zero, List.set_cons_succ, i64_w, i32_w]
                  rfl
                refine take_ (i := 11) (N := some 141) (v := ?_) (a' := ?_) #[true, true, true, true, true, true, true, true, true, true, true, true, true, true, true, false, true, false, false, false, false, false] rfl rfl (by kernel_rfl) (fun _ _ _ h => h) (Or.inl ⟨by rfl, ?_⟩) hHeld ?_ ?_
                rotate_left
                · rintro w' ⟨s0, s1, s2⟩
                  go_simp
                  with_reducible rfl
                rotate_left
                · simp only [Act.put, List.setIfInBounds_toArray, List.set_cons_zero, List.set_cons_succ, i64_w, i32_w]
                  rfl
                refine take_ (i := 15) (N := some 145) (v := ?_) (a' := ?_) #[true, true, true, true, true, true, true, true, true, true, true, true, true, true, true, true, true, false, false, false, false, false] rfl rfl (by kernel_rfl) (fun _ _ _ h => h) (Or.inl ⟨by rfl, ?_⟩) hHeld ?_ ?_
                rotate_left
                · rintro w' ⟨s0, s1, s2⟩
                  go_simp
                  with_reducible rfl
                rotate_left
                · simp only [Act.put, List.setIfInBounds_toArray, List.set_cons_zero, List.set_cons_succ, i64_w, i32_w]
                  rfl
                refine pure_ (i := 17) (N := some 147) (v := ?_) (a' := ?_) #[true, true, true, true, true, true, true, true, true, true, true, true, true, true, true, true, true, true, false, false, false, false] rfl rfl (by kernel_rfl) (fun _ _ _ h => h) (Or.inl ⟨by rfl, ?_⟩) ?_ ?_
                rotate_left
                · intro w'
                  go_simp
                  with_reducible rfl
                rotate_left
                · simp only [Act.put, List.setIfInBounds_toArray, List.set_cons_zero, List.set_cons_succ, i64_w, i32_w]
                  rfl
                refine take_ (i := 18) (N := some 148) (v := ?_) (a' := ?_) #[true, true, true, true, true, true, true, true, true, true, true, true, true, true, true, true, true, true, true, false, false, false] rfl rfl (by kernel_rfl) (fun _ _ _ h => h) (Or.inl ⟨by rfl, ?_⟩) hHeld ?_ ?_
                rotate_left
                · rintro w' ⟨s0, s1, s2⟩
                  go_simp
                  with_reducible rfl
                rotate_left
                · simp only [Act.put, List.setIfInBounds_toArray, List.set_cons_zero, List.set_cons_succ, i64_w, i32_w]
                  rfl
                refine pure_ (i := 19) (N := some 149) (v := ?_) (a' := ?_) #[true, true, true, true, true, true, true, true, true, true, true, true, true, true, true, true, true, true, true, true, false, false] rfl rfl (by kernel_rfl) (fun _ _ _ h => h) (Or.inl ⟨by rfl, ?_⟩) ?_ ?_
                rotate_left
                · intro w'
                  go_simp
                  with_reducible rfl
                rotate_left
                · simp only [Act.put, List.setIfInBounds_toArray, List.set_cons_zero, List.set_cons_succ, i64_w, i32_w]
                  rfl
                refine pure_ (i := 20) (N := some 150) (v := ?_) (a' := ?_) #[true, true, true, true, true, true, true, true, true, true, true, true, true, true, true, true, true, true, true, true, true, false] rfl rfl (by kernel_rfl) (fun _ _ _ h => h) (Or.inl ⟨by rfl, ?_⟩) ?_ ?_
                rotate_left
                · intro w'
                  go_simp
                  with_reducible rfl
                rotate_left
                · simp only [Act.put, List.setIfInBounds_toArray, List.set_cons_zero, List.set_cons_succ, i64_w, i32_w]
                  rfl
                refine last_ (i := 21) (N := none) #[true, true, true, true, true, true, true, true, true, true, true, true, true, true, true, true, true, true, true, true, true, true] rfl rfl (by kernel_rfl) (by decide) (fun K hK => ?_)
                refine skip_ (w1 := ?_) (by rfl) rfl ?_ ?_
                rotate_left
                · go_simp
                  rfl
                refine hK.out _ _ ?_
                clear hK K
                refine done_ (by kernel_rfl) ?_
                have hmm : max ((e (PI i) : Nat) : Int) (mx : Int) = ((max (e (PI i)) mx : Nat) : Int) := by omega
                rw [hmm]
                obtain ⟨W21, e21⟩ : ∃ W, W = (W18.setCell ⟨ge, PI i, none⟩ (.int .i64 ((max (e (PI i)) mx : Nat) : Int))).drew := ⟨_, rfl⟩
                have hg21 := drewG (HSET.out (max (e (PI i)) mx)).1 e21
                have ha21 : At W21 ge (endc n (fun m => if m = PI i then max (e (PI i)) (max (e i) (i + 1)) else if m = i then max (e i) (i + 1) else e m)) 3 := by have := drewA (HSET.out (max (e (PI i)) mx)).2 e21; rw [HM.out] at this; exact this
                rw [← e21]
                have HND2 := Lib.hid (DE.kid HTS.out hSL HEI.out hin HBE.out HKD.out hg21 ha21)
                clear hg21 ha21 e21 hmm q1 q2 d21 f21 HM
                go_wp2
                go_roundw
                case rel => exact ⟨i, _, by omega, rfl, rfl, HND2⟩
                case measure => simp [intOf]
        · intro x c kl yd yp w6 cnt6 hkey hlk hv hat hrg6 hlt hg6 hs6 hen
          obtain ⟨hoc, hzl, hnx⟩ := SC.came (y := (yd, yp)) HKV.out hbs hkb0.2.1 HS5.out HL5.out hkey hlk hv hat hrg6 hg6
          have HNX := Lib.hid hnx
          have HMS := Lib.hid (And.intro hrg5.left_eq hlt)
          have CS6 := Lib.hid (sort63_as w6 base c (Z x) hoc (by omega))
          clear hkey hlk hv hat hrg6 hlt hg6 hs6 hrg5 hoc hnx
          go_wp2_with (first
            | (go_at_call 63; ((with_reducible refine CS6.out.mono ?_); rintro e w7 ⟨rfl, hg7, ho7⟩; have HN7 := Lib.hid (HNX.out w7 hg7 ho7); clear hg7 ho7))
            | go_in)
          go_roundw
          case rel => exact ⟨_, HN7⟩
          case measure => rw [HMS.out.1]; exact HN7.out.measure HMS.out.2
    · intro x c kl yd yp w1 cnt1 hkey hlk hv hat hrg1 hlt hg1 hs1 hen
      obtain ⟨j, rfl, hLC⟩ := LB.came (y := (yd, yp)) HW.out (by simp [hpl]) HND.out HQ0.out.1 HQ0.out.2.1 HQ0.out.2.2.1 HQ0.out.2.2.2.1 HQ0.out.2.2.2.2.1 HQ0.out.2.2.2.2.2.1 HQ0.out.2.2.2.2.2.2.1 HQ0.out.2.2.2.2.2.2.2 hkey hlk hv hat hrg1 hlt hg1
      have HLC := Lib.hid hLC
      have HMS := Lib.hid (And.intro hrg.left_eq hlt)
      clear hkey hlk hv hat hrg1 hlt hg1 hs1 hLC hrg HQ0 HW
      by_cases hj0 : j = 0
      · have hgt : ¬ (0 : Int) < (j : Int) := by omega
        have HB2 := Lib.hid (HLC.out.root hj0)
        go_wp2
        go_roundw
        case rel => exact ⟨cnt1, HB2⟩
        case measure => rw [HMS.out.1]; exact measure_of HB2.out HMS.out.2
      · have hgt : (0 : Int) < (j : Int) := by omega
        have hjn := HLC.out.lt
        have hj1 : 0 < j := by omega
        have hltj : (j : Int) < (n : Int) := by omega
        have hEj := HE.out _ HLC.out.la j hjn
        obtain ⟨A2, d2, q2, _, _, k2, _, hr2, _, _⟩ := hEj.more
        obtain ⟨hne, hPn, hPk⟩ := HPI.out j hj1 hjn
        have hkj : (keysOf es p).getD j [] = (ent es (p.getD j 0)).f2 := by
          simp [keysOf, List.getD_eq_getElem?_getD, List.getElem?_eq_getElem (show j < p.length by omega)]
        have hfk := HF.out.key (ent es (p.getD j 0)) (DitPure.getD_mem es z45 (HLE.out _ (DitPure.getD_mem p 0 (show j < p.length by omega))))
        rw [hkj] at hne hPk
        have HFK := Lib.hid hfk
        generalize (ent es (p.getD j 0)).f2 = key at k2 hr2 hne hPk HFK
        have hkl : 0 < key.length := List.length_pos_iff.2 hne
        have hkn := HFK.out.1
        obtain ⟨par, hpar⟩ : ∃ par, par = key.take (key.length - 1) := ⟨_, rfl⟩
        have hpl2 : par.length = key.length - 1 := by rw [hpar, List.length_take]; omega
        have hpn : par.length ≤ 1048576 := by omega
        have hbp : bulkK par ≤ 33554432 := by rw [hpar]; exact Nat.le_trans (bulkK_take _ _) HFK.out.2.1
        have hpp : ∀ q ∈ par, q.size ≤ 1048576 := fun q hq => HFK.out.2.2 q (by rw [hpar] at hq; exact List.mem_of_mem_take hq)
        have hsp : (wordB par).size ≤ maxLen := by have := wordL_le _ hpp; show (wordL par).length ≤ maxLen; unfold maxLen; omega
        have hws : IntKind.i64.wrap ((key.length : Int) - 1) = (par.length : Int) := by rw [IntWalk.i64_in _ (by omega)]; omega
        obtain ⟨i9, hi9, _, _, _⟩ := info_parts DitRow.info9
        have hcut := fun W => cut_to (P := Tryd.prog) 39 9 .i64 Tryd.underlying39 hi9 A2 key.length d2 (par.length : Int) (by omega) (by omega) hr2.cap W
        rw [Int.toNat_natCast] at hcut
        have HRP : Hid (RowS w1 q2 A2 d2 par) := Lib.hid (by rw [hpar]; exact hr2.take _ (by omega) d2 (by have := hr2.cap; omega))
        have HPP := Lib.hid hpp
        have hnp : (numF (keysOf es p) (wordB par)).getD 0 = (PI j : Int) := by
          have h1 : par = (keysOf es p).getD (PI j) [] := by rw [hPk, hpar, List.dropLast_eq_take]
          rw [h1, numF_at HND.out (by simpa [hpl] using hPn)]
          rfl
        have k0 : w1.cell? ⟨tb, 0, none⟩ = some (.slice (some ⟨eg, 0, none⟩) n ec) := HLC.out.tc.get 0 _ rfl
        have k5 : w1.cell? ⟨tb, 5, none⟩ = some (.map (some nb)) := HLC.out.tc.get 5 _ rfl
        have HTW : Hid (Tabs w1) := Lib.hid (Tabs_at HT.out (HLC.out.la.under HH.out.below (show w.heap.size ≤ tb by omega) (show w.heap.size ≤ kb by omega)))
        have hbt : tb < w1.heap.size := by have := HLC.out.la.size; omega
        have hPwf : (Lit.int .i64 (PI j : Int)).wf = true := WalkArith.wf_i64 (by omega)
        clear hEj hne hkj hfk hpar hpl2 hpp hi9 hr2 hPk
        go_wp2
        refine start_ (n := 12) (S := fun w' => w'.cell? ⟨tb, 5, none⟩ = some (.map (some nb))) (ds := []) #[false, false, false, false, false, false, false, false, false, false, false, false] (by kernel_rfl) rfl rfl (k5) (fun hHeld => ?_)
        refine pure_ (i := 0) (N := some 52) (v := ?_) (a' := ?_) #[true, false, false, false, false, false, false, false, false, false, false, false] rfl rfl (by kernel_rfl) (fun _ _ _ h => h) (Or.inl ⟨by rfl, ?_⟩) ?_ ?_
        rotate_left
        · intro w'
          go_simp
          with_reducible rfl
        rotate_left
        · simp only [Act.put, List.setIfInBounds_toArray, List.set_cons_zero, List.set_cons_succ, i64_w, i32_w]
          rfl
        refine pure_ (i := 1) (N := some 53) (v := ?_) (a' := ?_) #[true, true, false, false, false, false, false, false, false, false, false, false] rfl rfl (by kernel_rfl) (fun _ _ _ h => h) (Or.inl ⟨by rfl, ?_⟩) ?_ ?_
        rotate_left
        · intro w'
          go_simp
          with_reducible rfl
        rotate_left
        · simp only [Act.put, List.setIfInBounds_toArray, List.set_cons_zero, List.set_cons_succ, i64_w, i32_w]
          rfl
        refine pure_ (i := 2) (N := some 54) (v := ?_) (a' := ?_) #[true, true, true, false, false, false, false, false, false, false, false, false] rfl rfl (by kernel_rfl) (fun _ _ _ h => h) (Or.inl ⟨by rfl, ?_⟩) ?_ ?_
        rotate_left
        · intro w'
          go_simp
          with_reducible rfl
        rotate_left
        · simp only [Act.put, List.setIfInBounds_toArray, List.set_cons_zero, List.set_cons_succ, i64_w, i32_w]
          rfl
        refine pure_ (i := 4) (N := some 56) (v := ?_) (a' := ?_) #[true, true, true, false, true, false, false, false, false, false, false, false] rfl rfl (by kernel_rfl) (fun _ _ _ h => h) (Or.inl ⟨by rfl, ?_⟩) ?_ ?_
        rotate_left
        · intro w'
          go_simp
          with_reducible rfl
        rotate_left
        · simp only [Act.put, List.setIfInBounds_toArray, List.set_cons_zero, List.set_cons_succ, i64_w, i32_w]
          rfl
        refine pure_ (i := 5) (N := some 57) (v := ?_) (a' := ?_) #[true, true, true, false, true, true, false, false, false, false, false, false] rfl rfl (by kernel_rfl) (fun _ _ _ h => h) (Or.inl ⟨by rfl, ?_⟩) ?_ ?_
        rotate_left
        · intro w'
          go_simp
          with_reducible rfl
        rotate_left
        · simp only [Act.put, List.setIfInBounds_toArray, List.set_cons_zero, List.set_cons_succ, i64_w, i32_w]
          rfl
        refine pure_ (i := 6) (N := some 58) (v := ?_) (a' := ?_) #[true, true, true, false, true, true, true, false, false, false, false, false] rfl rfl (by kernel_rfl) (fun _ _ _ h => h) (Or.inl ⟨by rfl, ?_⟩) ?_ ?_
        rotate_left
        · intro w'
          go_simp
          with_reducible rfl
        rotate_left
        · simp only [Act.put, List.setIfInBounds_toArray, List.set_cons_zero, List.set_cons_succ, i64_w, i32_w]
          rfl
        refine pure_ (i := 7) (N := some 59) (v := ?_) (a' := ?_) #[true, true, true, false, true, true, true, true, false, false, false, false] rfl rfl (by kernel_rfl) (fun _ _ _ h => h) (Or.inl ⟨by rfl, ?_⟩) ?_ ?_
        rotate_left
        · intro w'
          go_simp
          with_reducible rfl
        rotate_left
        · simp only [Act.put, List.setIfInBounds_toArray, List.set_cons_zero, List.set_cons_succ, i64_w, i32_w]
          rfl
        refine pure_ (i := 8) (N := some 60) (v := ?_) (a' := ?_) #[true, true, true, false, true, true, true, true, true, false, false, false] rfl rfl (by kernel_rfl) (fun _ _ _ h => h) (Or.inl ⟨by rfl, ?_⟩) ?_ ?_
        rotate_left
        · intro w'
          go_simp
          with_reducible rfl
        rotate_left
        · simp only [Act.put, List.setIfInBounds_toArray, List.set_cons_zero, List.set_cons_succ, i64_w, i32_w]
          rfl
        refine take_ (i := 3) (N := some 55) (v := ?_) (a' := ?_) #[true, true, true, true, true, true, true, true, true, false, false, false] rfl rfl (by kernel_rfl) (fun _ _ _ h => h) (Or.inl ⟨by rfl, ?_⟩) hHeld ?_ ?_
        rotate_left
        · intro w' s0
          go_simp
          with_reducible rfl
        rotate_left
        · simp only [Act.put, List.setIfInBounds_toArray, List.set_cons_zero, List.set_cons_succ, i64_w, i32_w]
          rfl
        refine one_ (i := 9) (N := some 61) #[true, true, true, true, true, true, true, true, true, true, false, false] rfl rfl (by kernel_rfl) (by decide) (fun K hK => ?_)
        refine goes_ Tryd.func49 (by kernel_rfl) rfl #[.slice A2 par.length d2] (by rfl) rfl rfl (by simp only [List.map_toArray, List.map_cons, List.map_nil]; rfl) ?_
        with_reducible refine (word_as _ q2 A2 d2 par (by exact HRP.out.on (fun _ => rfl)) (Tabs_at HTW.out (by repeat (first | exact Below.refl _ _ | apply pw_below_drewN | apply below_drew1))) hbp hpn HPP.out).mono ?_
        rintro e W7 ⟨rfl, q⟩
        have HB7 : Hid (Below w1.heap.size w1 W7) := Lib.hid (by repeat (first | exact q | apply undrewN | apply undrew1))
        have HC7 := Lib.hid (HLC.out.below HB7.out)
        have HN7 : Hid (Num W7 nb n (numF (keysOf es p))) := Lib.hid (by obtain ⟨_, _, _, _, _, a, _⟩ := HC7.out.rest; exact a.num)
        clear q
        refine ⟨_, rfl, ?_⟩
        refine hK.out _ _ ((HB7.out.cell (p := ⟨tb, 5, none⟩) hbt).trans k5) (fun hHeld => ?_)
        clear hK K
        refine norm_ (a' := ?_) ?_ ?_
        rotate_left
        · show Act.put _ (some 61) _ = _
          simp only [Act.put, List.setIfInBounds_toArray, List.set_cons_zero, List.set_cons_succ, i64_w, i32_w]
          rfl
        refine one_ (i := 10) (N := some 62) #[true, true, true, true, true, true, true, true, true, true, true, false] rfl rfl (by kernel_rfl) (by decide) (fun K hK => ?_)
        refine step_look _ (by rfl) (.tmp 55) (.tmp 61) rfl nb n _ rfl HN7.out (wordB par) rfl hsp ?_
        rw [hnp]
        refine hK.out _ _ ((HB7.out.cell (p := ⟨tb, 5, none⟩) hbt).trans k5) (fun hHeld => ?_)
        clear hK K
        refine norm_ (a' := ?_) ?_ ?_
        rotate_left
        · show Act.put _ (some 62) _ = _
          simp only [Act.put, List.setIfInBounds_toArray, List.set_cons_zero, List.set_cons_succ, i64_w, i32_w]
          rfl
        refine pure_ (i := 11) (N := some 5) (v := ?_) (a' := ?_) #[true, true, true, true, true, true, true, true, true, true, true, true] rfl rfl (by kernel_rfl) (fun _ _ _ h => h) (Or.inl ⟨by rfl, ?_⟩) ?_ ?_
        rotate_left
        · intro w'
          go_simp
          with_reducible rfl
        rotate_left
        · simp only [Act.put, List.setIfInBounds_toArray, List.set_cons_zero, List.set_cons_succ, i64_w, i32_w]
          rfl
        refine done_ (by kernel_rfl) ?_
        obtain ⟨⟨old9, d9⟩, f9, hC8, pc8, hpc8, hpj8⟩ := HC7.out.par hj1 hPn
        have t2 : W7.cell? ⟨tb, 2, none⟩ = some (.slice (some ⟨gp, 0, none⟩) n n) := HC7.out.tc.get 2 _ rfl
        have HC8 := Lib.hid hC8
        have HP8 := Lib.hid (And.intro hpc8 hpj8)
        clear hC8 hpc8 hpj8
        go_wp2
        obtain ⟨W8, e8⟩ : ∃ W, W = W7.setCell ⟨gp, j, none⟩ (.int .i64 (PI j : Int)) := ⟨_, rfl⟩
        rw [← e8] at HC8 HP8 ⊢
        obtain ⟨vis, G, pc, m, hv1, hNR8, hmc, hpc8, hpar8, hkid8, hkq8⟩ := HC8.out.rest
        obtain rfl := At.uniq hpc8 HP8.out.1
        dsimp only at hkid8 hpc8
        have hmx : m < maxLen := by unfold maxLen; omega
        obtain ⟨v, hlk8, hoi8, hgl8, hbk8⟩ := hkid8.looks (q := (PI j : Int)) hmx hPwf
        have t4 : W8.cell? ⟨tb, 4, none⟩ = some (.map (some kb)) := HC8.out.tc.get 4 _ rfl
        have hbs8 : base ≤ W8.heap.size := HC8.out.ord.2.2.2.2.2.2.2.2
        have htb8 : tb < base ∧ kb < base := by have := HC8.out.ord; dsimp only at this; omega
        have ht8 : tb < W8.heap.size := HC8.out.tc.lt
        have hk8 : kb < W8.heap.size := by obtain ⟨D8, ⟨es8, cl8, hb8, _⟩, _⟩ := hkid8; exact (Array.getElem?_eq_some_iff.1 hb8).1
        have hjwf : (Lit.int .i64 (j : Int)).wf = true := WalkArith.wf_i64 (by omega)
        have HLK := Lib.hid hlk8
        have HOI := Lib.hid hoi8
        have HBK := Lib.hid hbk8
        have HKD := Lib.hid (fun w1 w2 (u : Value) (hu : ∀ q, u.ownBlock = some q → base ≤ q) (hg1 : W8.grownBy w1 u.ownBlock) hk hg2 => LC.kid (w1 := w1) (w2 := w2) (u := u) HC8.out hj1 hPn hv1 hNR8 hmc hpc8 hpar8 hkq8 HP8.out.2 hu hg1 hk hg2)
        clear hlk8 hoi8 hbk8 hv1 hNR8 hpc8 hpar8 hkid8 hkq8 e8 d9 f9 t2
        refine start_ (n := 15) (S := fun w' => w'.cell? ⟨tb, 4, none⟩ = some (.map (some kb)) ∧ (Instr.lookup 77 (.map (some kb)) (.int .i64 (PI j : Int)) false).run Tryd.prog w' = .ok v w') (ds := [14]) #[false, false, false, false, false, false, false, false, false, false, false, false, false, false, false] (by kernel_rfl) rfl rfl ⟨t4, HLK.out _ rfl⟩ (fun hHeld => ?_)
        refine pure_ (i := 0) (N := some 70) (v := ?_) (a' := ?_) #[true, false, false, false, false, false, false, false, false, false, false, false, false, false, false] rfl rfl (by kernel_rfl) (fun _ _ _ h => h) (Or.inl ⟨by rfl, ?_⟩) ?_ ?_
        rotate_left
        · intro w'
          go_simp
          with_reducible rfl
        rotate_left
        · simp only [Act.put, List.setIfInBounds_toArray, List.set_cons_zero, List.set_cons_succ, i64_w, i32_w]
          rfl
        refine pure_ (i := 1) (N := some 71) (v := ?_) (a' := ?_) #[true, true, false, false, false, false, false, false, false, false, false, false, false, false, false] rfl rfl (by kernel_rfl) (fun _ _ _ h => h) (Or.inl ⟨by rfl, ?_⟩) ?_ ?_
        rotate_left
        · intro w'
          go_simp
          with_reducible rfl
        rotate_left
        · simp only [Act.put, List.setIfInBounds_toArray, List.set_cons_zero, List.set_cons_succ, i64_w, i32_w]
          rfl
        refine pure_ (i := 2) (N := some 72) (v := ?_) (a' := ?_) #[true, true, true, false, false, false, false, false, false, false, false, false, false, false, false] rfl rfl (by kernel_rfl) (fun _ _ _ h => h) (Or.inl ⟨by rfl, ?_⟩) ?_ ?_
        rotate_left
        · intro w'
          go_simp
          with_reducible rfl
        rotate_left
        · simp only [Act.put, List.setIfInBounds_toArray, List.set_cons_zero, List.set_cons_succ, i64_w, i32_w]
          rfl
        refine pure_ (i := 4) (N := some 74) (v := ?_) (a' := ?_) #[true, true, true, false, true, false, false, false, false, false, false, false, false, false, false] rfl rfl (by kernel_rfl) (fun _ _ _ h => h) (Or.inl ⟨by rfl, ?_⟩) ?_ ?_
        rotate_left
        · intro w'
          go_simp
          with_reducible rfl
        rotate_left
        · simp only [Act.put, List.setIfInBounds_toArray, List.set_cons_zero, List.set_cons_succ, i64_w, i32_w]
          rfl
        refine pure_ (i := 5) (N := some 75) (v := ?_) (a' := ?_) #[true, true, true, false, true, true, false, false, false, false, false, false, false, false, false] rfl rfl (by kernel_rfl) (fun _ _ _ h => h) (Or.inl ⟨by rfl, ?_⟩) ?_ ?_
        rotate_left
        · intro w'
          go_simp
          with_reducible rfl
        rotate_left
        · simp only [Act.put, List.setIfInBounds_toArray, List.set_cons_zero, List.set_cons_succ, i64_w, i32_w]
          rfl
        refine pure_ (i := 6) (N := some 76) (v := ?_) (a' := ?_) #[true, true, true, false, true, true, true, false, false, false, false, false, false, false, false] rfl rfl (by kernel_rfl) (fun _ _ _ h => h) (Or.inl ⟨by rfl, ?_⟩) ?_ ?_
        rotate_left
        · intro w'
          go_simp
          with_reducible rfl
        rotate_left
        · simp only [Act.put, List.setIfInBounds_toArray, List.set_cons_zero, List.set_cons_succ, i64_w, i32_w]
          rfl
        refine pure_ (i := 7) (N := some 77) (v := ?_) (a' := ?_) #[true, true, true, false, true, true, true, true, false, false, false, false, false, false, false] rfl rfl (by kernel_rfl) (fun _ _ _ h => h) (Or.inl ⟨by rfl, ?_⟩) ?_ ?_
        rotate_left
        · intro w'
          go_simp
          with_reducible rfl
        rotate_left
        · simp only [Act.put, List.setIfInBounds_toArray, List.set_cons_zero, List.set_cons_succ, i64_w, i32_w]
          rfl
        refine pure_ (i := 9) (N := some 79) (v := ?_) (a' := ?_) #[true, true, true, false, true, true, true, true, false, true, false, false, false, false, false] rfl rfl (by kernel_rfl) (fun _ _ _ h => h) (Or.inl ⟨by rfl, ?_⟩) ?_ ?_
        rotate_left
        · intro w'
          go_simp
          with_reducible rfl
        rotate_left
        · simp only [Act.put, List.setIfInBounds_toArray, List.set_cons_zero, List.set_cons_succ, i64_w, i32_w]
          rfl
        refine pure_ (i := 11) (N := some 81) (v := ?_) (a' := ?_) #[true, true, true, false, true, true, true, true, false, true, false, true, false, false, false] rfl rfl (by kernel_rfl) (fun _ _ _ h => h) (Or.inl ⟨by rfl, ?_⟩) ?_ ?_
        rotate_left
        · intro w'
          go_simp
          with_reducible rfl
        rotate_left
        · simp only [Act.put, List.setIfInBounds_toArray, List.set_cons_zero, List.set_cons_succ, i64_w, i32_w]
          rfl
        refine take_ (i := 3) (N := some 73) (v := ?_) (a' := ?_) #[true, true, true, true, true, true, true, true, false, true, false, true, false, false, false] rfl rfl (by kernel_rfl) (fun _ _ _ h => h) (Or.inl ⟨by rfl, ?_⟩) hHeld ?_ ?_
        rotate_left
        · rintro w' ⟨s0, s1⟩
          go_simp
          with_reducible rfl
        rotate_left
        · simp only [Act.put, List.setIfInBounds_toArray, List.set_cons_zero, List.set_cons_succ, i64_w, i32_w]
          rfl
        refine take_ (i := 8) (N := some 78) (v := ?_) (a' := ?_) #[true, true, true, true, true, true, true, true, true, true, false, true, false, false, false] rfl rfl (by kernel_rfl) (fun _ _ _ h => h) (Or.inl ⟨by rfl, ?_⟩) hHeld ?_ ?_
        rotate_left
        · rintro w' ⟨s0, s1⟩
          go_simp
          with_reducible rfl
        rotate_left
        · simp only [Act.put, List.setIfInBounds_toArray, List.set_cons_zero, List.set_cons_succ, i64_w, i32_w]
          rfl
        refine take_ (i := 10) (N := some 80) (v := ?_) (a' := ?_) #[true, true, true, true, true, true, true, true, true, true, true, true, false, false, false] rfl rfl (by kernel_rfl) (fun _ _ _ h => h) (Or.inl ⟨by rfl, ?_⟩) hHeld ?_ ?_
        rotate_left
        · rintro w' ⟨s0, s1⟩
          go_simp
          with_reducible rfl
        rotate_left
        · simp only [Act.put, List.setIfInBounds_toArray, List.set_cons_zero, List.set_cons_succ, i64_w, i32_w]
          rfl
        refine one_ (i := 12) (N := some 82) #[true, true, true, true, true, true, true, true, true, true, true, true, true, false, false] rfl rfl (by kernel_rfl) (by decide) (fun K hK => ?_)
        refine value_ (w1 := ?_) (v := ?_) (by rfl) rfl ?_ ?_
        rotate_left 2
        · go_simp
          constructor
          · rfl
          · rfl
        refine hK.out _ _ ⟨((show Below W8.heap.size W8 _ from (by repeat (first | exact Below.refl _ _ | apply below_alloc | apply pw_below_drewN | apply below_drew1))).cell (p := ⟨tb, 4, none⟩) ht8).trans t4, HLK.out _ ((show Below W8.heap.size W8 _ from (by repeat (first | exact Below.refl _ _ | apply below_alloc | apply pw_below_drewN | apply below_drew1))).block kb hk8)⟩ (fun hHeld => ?_)
        clear hK K
        refine norm_ (a' := ?_) ?_ ?_
        rotate_left
        · show Act.put _ (some 82) _ = _
          simp only [Act.put, List.setIfInBounds_toArray, List.set_cons_zero, List.set_cons_succ, i64_w, i32_w]
          rfl
        refine one_ (i := 13) (N := some 83) #[true, true, true, true, true, true, true, true, true, true, true, true, true, true, false] rfl rfl (by kernel_rfl) (by decide) (fun K hK => ?_)
        refine step_append_cells (w0 := W8.drew) (W := W8.drew) base (by rfl) (.tmp 80) (.tmp 82) 23 3 (.int .i64 0) 1 8 rfl Tryd.underlying23 DitRow.info3 rfl (by decide) (by decide) v (G (PI j)).length ((G (PI j)).map (Value.int .i64)) [.int .i64 (j : Int)] rfl rfl rfl (by simp [Value.oneCell']) (by exact HOI.out.1) (Below.refl _ _) (by exact hbs8) (by omega) ?_
        intro v9 w9 own9 _ hg9 hat9
        have HG9 : Hid (W8.grownBy w9 v.ownBlock) := Lib.hid (by repeat (first | exact hg9 | apply undrewNG | apply undrew1G))
        have HA9 : Hid (v9.ownBlock = v.ownBlock ∨ ∃ b, v9.ownBlock = some b ∧ W8.heap.size ≤ b) := Lib.hid (by exact hat9)
        have HO9 := Lib.hid (HOI.out.appended own9 hjwf)
        clear own9 hg9 hat9
        refine hK.out _ _ ⟨(World.cell?_of_block (a := ⟨tb, 4, none⟩) (HG9.out.block tb ht8 (fun e => by have := (HOI.out.1.lt tb e.symm).1; omega))).trans t4, HLK.out _ (HG9.out.block kb hk8 (fun e => by have := (HOI.out.1.lt kb e.symm).1; omega))⟩ (fun hHeld => ?_)
        clear hK K
        refine norm_ (a' := ?_) ?_ ?_
        rotate_left
        · show Act.put _ (some 83) _ = _
          simp only [Act.put, List.setIfInBounds_toArray, List.set_cons_zero, List.set_cons_succ, i64_w, i32_w]
          rfl
        refine last_ (i := 14) (N := none) #[true, true, true, true, true, true, true, true, true, true, true, true, true, true, true] rfl rfl (by kernel_rfl) (by decide) (fun K hK => ?_)
        refine step_kput _ (by rfl) (.tmp 73) (.tmp 74) (.tmp 83) rfl rfl rfl rfl HBK.out HG9.out HO9.out (by simp) (by rw [List.length_append, List.length_singleton]; omega) HA9.out ?_
        intro w10 hk10 hg10
        have HB10 := Lib.hid (HKD.out _ _ _ (fun q hq => (HOI.out.1.lt q hq).1) HG9.out (by have e : (fun (p : Int) => if p = (PI j : Int) then G (PI j) ++ [(j : Int)] else G p) = fun (p : Int) => if p = (PI j : Int) then G p ++ [(j : Int)] else G p := (funext fun p => by by_cases h : p = PI j <;> simp [h]); rw [← e]; exact hk10) hg10)
        clear hk10 hg10
        refine hK.out _ _ ?_
        clear hK K
        refine done_ (by kernel_rfl) ?_
        go_wp2
        go_roundw
        case rel => exact ⟨cnt1, HB10⟩
        case measure => rw [HMS.out.1]; exact measure_of HB10.out HMS.out.2
end Go.Proofs.YtnogmaljcocfjaaDoor.DitBuild
namespace Go.Proofs.YtnogmaljcocfjaaDoor.DitBuild
open Go Go.Maps Go.RowKit Go.Proofs.YtnogmaljcocfjaaDoor.XK Go.Proofs.YtnogmaljcocfjaaDoor.Blk Go.Proofs.YtnogmaljcocfjaaDoor.DitTab Go.Proofs.YtnogmaljcocfjaaDoor.DitRow Go.Proofs.YtnogmaljcocfjaaDoor.DitTerm Go.Proofs.YtnogmaljcocfjaaDoor.DitMap Go.Proofs.YtnogmaljcocfjaaDoor.DitCheck Go.Proofs.YtnogmaljcocfjaaDoor.DitCopy Go.Proofs.YtnogmaljcocfjaaDoor.DitPure Go.Proofs.YtnogmaljcocfjaaDoor.DitSort Go.Proofs.YtnogmaljcocfjaaDoor.Keys Go.Proofs.YtnogmaljcocfjaaDoorW.PrintWords Go.Proofs.YtnogmaljcocfjaaDoorW.PrintLast Go.Proofs.YtnogmaljcocfjaaDoorW.PrintMore
/-- Keys of a list that is taken. -/
structure Good (K : List (List ByteArray)) : Prop where
  pos : 0 < K.length
  nd : K.Nodup
  par : ∀ i, 0 < i → i < K.length → K.getD i [] ≠ [] ∧ (K.getD i []).dropLast ∈ K.take i
theorem fault_ok {K : List (List ByteArray)} {i : Nat} : faultAt K i = 0 ↔ K.getD i [] ∉ K.take i ∧ (i = 0 ∨ (K.getD i [] ≠ [] ∧ (K.getD i []).dropLast ∈ K.take i)) := by
  unfold faultAt
  by_cases h1 : K.getD i [] ∈ K.take i
  · rw [if_pos h1]
    exact ⟨fun h => by omega, fun h => absurd h1 h.1⟩
  · rw [if_neg h1]
    by_cases h2 : i = 0
    · rw [if_pos h2]
      exact ⟨fun _ => ⟨h1, .inl h2⟩, fun _ => rfl⟩
    · rw [if_neg h2]
      by_cases h3 : K.getD i [] = [] ∨ (K.getD i []).dropLast ∉ K.take i
      · rw [if_pos h3]
        refine ⟨fun h => by omega, fun h => ?_⟩
        rcases h.2 with h4 | ⟨h4, h5⟩
        · exact absurd h4 h2
        · rcases h3 with h3 | h3
          · exact absurd h3 h4
          · exact absurd h5 h3
      · rw [if_neg h3]
        refine ⟨fun _ => ⟨h1, .inr ⟨fun h => h3 (.inl h), Classical.byContradiction fun h => h3 (.inr h)⟩⟩, fun _ => rfl⟩
theorem chk_good {K : List (List ByteArray)} : chk K = (0, 0) ↔ 0 < K.length ∧ ∀ i, i < K.length → faultAt K i = 0 := by
  refine ⟨fun h => ?_, fun h => chk_ok h.1 h.2⟩
  unfold chk at h
  by_cases h0 : K.length = 0
  · rw [if_pos h0] at h
    cases h
  · rw [if_neg h0] at h
    refine ⟨by omega, fun i hi => ?_⟩
    cases hf : (List.range K.length).find? (fun i => decide (faultAt K i ≠ 0)) with
    | none =>
      rw [List.find?_eq_none] at hf
      have := hf i (by simpa using hi)
      simpa using this
    | some j =>
      rw [hf] at h
      have h1 := List.find?_some hf
      have h2 : faultAt K j = 0 := congrArg Prod.fst h
      simp [h2] at h1
theorem good_iff {K : List (List ByteArray)} : chk K = (0, 0) ↔ Good K := by
  rw [chk_good]
  constructor
  · rintro ⟨h0, h⟩
    refine ⟨h0, ?_, fun i h1 h2 => ?_⟩
    · refine List.pairwise_iff_getElem.2 fun i j hi hj hij e => ?_
      have h1 := (fault_ok.1 (h j hj)).1
      rw [List.getD_eq_getElem?_getD, List.getElem?_eq_getElem hj] at h1
      refine h1 (List.mem_iff_getElem.2 ⟨i, by rw [List.length_take]; omega, ?_⟩)
      rw [List.getElem_take]
      exact e
    · rcases (fault_ok.1 (h i h2)).2 with h3 | h3
      · omega
      · exact h3
  · rintro ⟨h0, h1, h2⟩
    refine ⟨h0, fun i hi => fault_ok.2 ⟨fun hm => ?_, ?_⟩⟩
    · obtain ⟨j, hj, hjl, e⟩ := DitPure.take_getD (d := []) hm
      rw [List.getD_eq_getElem?_getD, List.getD_eq_getElem?_getD, List.getElem?_eq_getElem hi, List.getElem?_eq_getElem hjl] at e
      have := nodup_inj h1 hjl hi e
      omega
    · by_cases h3 : i = 0
      · exact .inl h3
      · exact .inr (h2 i (by omega) hi)
def keyK (es : List S45) : List DitPure.Key := (Keys es).map DitEv.kl
theorem kl_dropLast (k : List ByteArray) : DitEv.kl k.dropLast = (DitEv.kl k).dropLast := by
  unfold DitEv.kl
  rw [List.map_dropLast]
theorem map_kl_at (K : List (List ByteArray)) (i : Nat) : (K.map DitEv.kl).getD i [] = DitEv.kl (K.getD i []) := by
  rw [List.getD_eq_getElem?_getD, List.getD_eq_getElem?_getD, List.getElem?_map]
  cases K[i]? <;> rfl
theorem Good.tl {K : List (List ByteArray)} (h : Good K) : TL (K.map DitEv.kl) := by
  refine ⟨by simpa using h.pos, ?_, fun i h0 hi => ?_⟩
  · have := h.nd
    exact List.Pairwise.map _ (fun a b hab e => hab (DitEv.kl_inj e)) this
  · rw [List.length_map] at hi
    obtain ⟨h1, h2⟩ := h.par i h0 hi
    rw [map_kl_at, ← kl_dropLast, ← List.map_take]
    refine ⟨fun e => h1 (List.eq_nil_of_length_eq_zero ?_), List.mem_map_of_mem h2⟩
    have := congrArg List.length e
    rw [DitEv.kl_length] at this
    exact this
theorem kx_keyS (es : List S45) (p : List Nat) {i : Nat} (hi : i < p.length) : (keyS es p).getD i [] = kx es (p.getD i 0) := by
  rw [keyS_at]
  unfold kx keysOf
  rw [List.getD_eq_getElem?_getD, List.getElem?_map, List.getElem?_eq_getElem hi]
  simp [List.getD_eq_getElem?_getD, List.getElem?_eq_getElem hi]
theorem keyS_perm {es : List S45} {p : List Nat} (h : p.Perm (List.range es.length)) : (keyS es p).Perm (keyK es) := by
  unfold keyS keyK keysOf
  refine List.Perm.map _ ?_
  refine (h.map _).trans ?_
  have : (List.range es.length).map (fun q => (ent es q).f2) = Keys es := by
    apply List.ext_getElem
    · simp
    · intro i h1 h2
      have h3 : i < es.length := by simpa using h1
      simp [ent, List.getD_eq_getElem?_getD, List.getElem?_eq_getElem h3]
  rw [this]
theorem sorted_ts {es : List S45} {p : List Nat} (h : Sorted es p) (hg : Good (Keys es)) : TS (keyS es p) ∧ (keyS es p).getD 0 [] = (keyK es).getD 0 [] := by
  have hp := keyS_perm h.perm
  have hnd : (keyS es p).Nodup := hp.nodup_iff.2 hg.tl.nd
  refine TS.of hg.tl hp fun i j hij hj => ?_
  rw [keyS_len] at hj
  have h1 := h.ris i j hij hj
  rw [kx_keyS es p (by omega), kx_keyS es p hj]
  have h2 : cmpK (kx es (p.getD i 0)) (kx es (p.getD j 0)) ≠ 0 := fun e => by
    have e2 := cmpK_zero _ _ e
    rw [← kx_keyS es p (by omega), ← kx_keyS es p hj] at e2
    have hi' : i < (keyS es p).length := by rw [keyS_len]; omega
    have hj' : j < (keyS es p).length := by rw [keyS_len]; omega
    rw [List.getD_eq_getElem?_getD, List.getD_eq_getElem?_getD, List.getElem?_eq_getElem hi', List.getElem?_eq_getElem hj'] at e2
    have := nodup_inj hnd hi' hj' e2
    omega
  omega
theorem keysOf_nodup {es : List S45} {p : List Nat} (h : Sorted es p) (hg : Good (Keys es)) : (keysOf es p).Nodup := by
  have hnd : (keyS es p).Nodup := (keyS_perm h.perm).nodup_iff.2 hg.tl.nd
  exact (List.pairwise_map.1 hnd).imp (fun hab e => hab (by rw [e]))
/-- A tree that is built. -/
structure BQ (w : World) (es : List S45) (tb : Nat) (p : List Nat) (W : World) : Prop where
  good : Good (Keys es)
  sorted : Sorted es p
  below : Below w.heap.size w W
  low : w.heap.size ≤ tb
  tree : ∃ PI, TreeAt es p es.length PI tb W ∧ ∀ j, 0 < j → j < es.length → Kid (keyS es p) (PI j) j
theorem built_as (w : World) (A : Option Addr) (c : Nat) (es : List S45) (h : Kd.C k45 w A es.length es) (hF : Fit es) (ht : Tabs w) (hok : Good (Keys es)) :
    Calls Tryd.prog 16 #[.slice A es.length c] w fun e w' => ∃ tb p, e = .returned (.tuple #[.pointer (some ⟨tb, 0, none⟩), .int .i64 0, .int .i64 0]) ∧ BQ w es tb p w' := by
  have hp : 0 < es.length := by have := hok.pos; simpa using this
  refine (build_as w A c es h hF ht (good_iff.2 hok) hp hok.nd (fun tb p W => BQ w es tb p W) fun eb kb nb tb g cap p v W hS hP => ?_).mono (fun e w' hq => hq)
  obtain ⟨hTS, _⟩ := sorted_ts hS hok
  have hpl : p.length = es.length := by simpa using hS.perm.length_eq
  have hmem : ∀ q ∈ p, q < es.length := fun q hq => by simpa using hS.perm.mem_iff.1 hq
  have hpar : ∀ j : Nat, ∃ q : Nat, 0 < j → j < es.length → (keysOf es p).getD j [] ≠ [] ∧ q < es.length ∧ (keysOf es p).getD q [] = ((keysOf es p).getD j []).dropLast := fun j => by
    by_cases hj : 0 < j ∧ j < es.length
    · obtain ⟨h1, q, hq, e⟩ := hTS.par j hj.1 (by rw [keyS_len, hpl]; exact hj.2)
      rw [keyS_len, hpl] at hq
      rw [keyS_at] at h1
      rw [keyS_at, keyS_at, ← kl_dropLast] at e
      exact ⟨q, fun _ _ => ⟨fun e2 => h1 (by rw [e2]; rfl), hq, DitEv.kl_inj e⟩⟩
    · exact ⟨0, fun h1 h2 => absurd ⟨h1, h2⟩ hj⟩
  obtain ⟨PI, hPI⟩ := Classical.skolem.1 hpar
  refine (link_as hP hp hpl hF.len hF hmem (keysOf_nodup hS hok) hTS ht PI hPI).mono ?_
  rintro e W' ⟨rfl, hLA, hT⟩
  have hord := hP.ord
  exact ⟨rfl, hok, hS, hLA.under hP.below (by omega) (by omega), by omega, PI, hT, fun j h0 hj => kid_of hpl hPI h0 hj⟩
end Go.Proofs.YtnogmaljcocfjaaDoor.DitBuild

/- By hand: posting.AtLeast at numbers. For every list of lists and world. -/
import Derived.Test.YtnflokhffmfifaaAtLeastAT
import Derived.Shelf.Abstract
import Derived.Shelf.RegionOpen
import Derived.OwnWalkIn
import Derived.TacticsInMore
import Derived.LoopNIn
import Derived.LoopIn
import Derived.Maps.AppendAt
set_option linter.unusedVariables false
set_option linter.unusedSimpArgs false
namespace Go.Proofs.Ytnflokhffmfifaa.CountWT
open Go.RowKit Go.Shelf Go.Proofs.Ytnflokhffmfifaa.Blk Go.Proofs.Ytnflokhffmfifaa.Ris Go.Proofs.Ytnflokhffmfifaa.OfT Go.Proofs.Ytnflokhffmfifaa.Keys Go.Proofs.Ytnflokhffmfifaa.XV Go.Proofs.Ytnflokhffmfifaa.HeapPure Go.Proofs.Ytnflokhffmfifaa.HeapWT Go.Proofs.Ytnflokhffmfifaa.CountPure Go.Proofs.Ytnflokhffmfifaa.RFun Go.Proofs.YtnflokhffmfifaaW.PrintWords Go.Proofs.YtnflokhffmfifaaW.PrintLast Go.Proofs.YtnflokhffmfifaaW.PrintMore
attribute [local go_sem] Oper.semAt_some
theorem counted_as (w : World) (A : Option Addr) (m c : Nat) : Calls Try.prog 62 #[.slice A m c] w fun e w' => e = .returned (.func (.func 76) #[] #[.pointer (some ⟨w.heap.size, 0, none⟩)]) ∧ w' = w.alloc (.cells #[.slice A m c] 58) := by
  go_enter Try.func62, Try.ntmps62
  go_wp2
  go_ret
  exact ⟨rfl, rfl⟩
theorem own_priv {n₀ base : Nat} {A B : World} {v : Value} {m : Nat} {xs : List Value} (h : A.ownsRow base 9 1 v m xs) (k : Priv n₀ A B) : B.ownsRow base 9 1 v m xs := by
  obtain ⟨h1, h2 | ⟨g, cap, cur, e, h3, h4, h5⟩⟩ := h
  · exact ⟨h1, .inl h2⟩
  · exact ⟨h1, .inr ⟨g, cap, cur, e, h3, k.block _ _ h4 (.inr (.inr ⟨_, _, rfl⟩)), h5⟩⟩
theorem boxed_priv {n₀ b : Nat} {A B : World} {t : TypeId} {v : Value} (h : Boxed A b t v) (hb : b < n₀) (k : Priv n₀ A B) : Boxed B b t v := k.block _ _ h (.inl hb)
theorem below_priv {n₀ : Nat} {w A B : World} (h : Below w.heap.size w A) (hn : w.heap.size ≤ n₀) (k : Priv n₀ A B) : Below w.heap.size w B := by
  refine ⟨k.os.trans h.os, k.tape.trans h.tape, k.output.trans h.output, Nat.le_trans h.size k.size, fun j hj => ?_⟩
  have hj2 : j < A.heap.size := Nat.lt_of_lt_of_le hj h.size
  have e := Array.getElem?_eq_getElem hj2
  rw [k.block j _ e (.inl (Nat.lt_of_lt_of_le hj hn)), ← e]
  exact h.block j hj
theorem row_of_own {base : Nat} {W : World} {v : Value} {r : List ByteArray} (h : W.ownsRow base 9 1 v r.length (r.map (Value.string))) : ∃ g B cc, v = .slice B r.length cc ∧ Row W g B cc r ∧ (0 < r.length → base ≤ g ∧ g < W.heap.size) := by
  obtain ⟨h1, ⟨e, h2⟩ | ⟨g, cap, cur, e, h3, h4, h5, h6, h7, h8⟩⟩ := h
  · refine ⟨0, none, 0, by rw [e, h2], ⟨by omega, fun hp => by omega⟩, fun hp => by omega⟩
  · refine ⟨g, some ⟨g, 0, none⟩, cap, e, ⟨h5, fun hp => ⟨0, rfl, fun i hi => ?_⟩⟩, fun hp => ⟨h3, (Array.getElem?_eq_some_iff.1 h4).1⟩⟩
    rw [Nat.zero_add, Blk.At.cell (cs := cur.toList) (show Blk.At W g cur.toList 9 from h4) i]
    have h9 : (cur.toList.take (r.length * 1))[i]? = some (.string (r.getD i E)) := by
      rw [h8, List.getElem?_map, List.getElem?_eq_getElem hi]
      simp [List.getD_eq_getElem?_getD, List.getElem?_eq_getElem hi]
    rwa [List.getElem?_take_of_lt (by omega)] at h9
/-- An append to the list that box b holds: its row alone, and the box, have turned. -/
theorem app_keep {W w1 : World} {n₀ b m : Nat} {v v' : Value} {xs ys : List Value} {tmp : Obj} (hv : Boxed W b 59 v) (hrow : W.ownsRow n₀ 9 1 v m xs) (hown : w1.ownsRow n₀ 9 1 v' (m + 1) ys) (hg : (W.alloc tmp).grownBy w1 v.ownBlock) :
    Boxed w1 b 59 v ∧ Boxed (w1.setCell ⟨b, 0, none⟩ v') b 59 v' ∧ (w1.setCell ⟨b, 0, none⟩ v').ownsRow n₀ 9 1 v' (m + 1) ys ∧ KeepsOthers W (w1.setCell ⟨b, 0, none⟩ v') ∧ Keep n₀ b W (w1.setCell ⟨b, 0, none⟩ v') ∧ W.heap.size ≤ (w1.setCell ⟨b, 0, none⟩ v').heap.size ∧
    (∀ j, j < W.heap.size → j < n₀ → j ≠ b → (w1.setCell ⟨b, 0, none⟩ v').heap[j]? = W.heap[j]?) ∧ w1.os = W.os ∧ w1.tape = W.tape ∧ w1.output = W.output := by
  have hv1 : Boxed w1 b 59 v := (hv.alloc tmp).kept hg (hv.not_row (by decide) hrow)
  have hz : (W.alloc tmp).heap.size = W.heap.size + 1 := World.size_alloc _ _
  have hzs : (w1.setCell ⟨b, 0, none⟩ v').heap.size = w1.heap.size := by simp [World.setCell]
  have hs := hg.size
  have hrowb : ∀ j, some j = v.ownBlock → n₀ ≤ j ∧ ∃ cs, W.heap[j]? = some (.cells cs 9 (0, 0)) := fun j e => by
    rcases hrow.2 with ⟨rfl, _⟩ | ⟨g, cap, cur, rfl, h3, h4, _⟩
    · simp [Value.ownBlock] at e
    · obtain rfl : j = g := by simpa [Value.ownBlock] using e
      exact ⟨h3, _, h4⟩
  have k1 : ∀ j, j < W.heap.size → j ≠ b → some j ≠ v.ownBlock → (w1.setCell ⟨b, 0, none⟩ v').heap[j]? = W.heap[j]? := fun j h1 h2 h3 => by
    rw [Below.heap_setCell _ _ _ _ h2, hg.block j (by omega) h3]
    exact Below.heap_alloc _ _ _ h1
  refine ⟨hv1, hv1.set v', hown.kept (grownBy_setCell' w1 b v') (.inr (hv1.not_row (by decide) hown).symm), ⟨by omega, fun j o hj ho => ?_⟩, ⟨by omega, fun j cs t f hj h2 h3 => ?_⟩, by omega, fun j h1 h2 h3 => k1 j h1 h3 (fun e => by have := (hrowb j e).1; omega), hg.os, hg.tape, hg.output⟩
  · have hlt := (Array.getElem?_eq_some_iff.1 hj).1
    refine (k1 j hlt (fun e => ?_) (fun e => ?_)).trans hj
    · subst e; rw [show W.heap[j]? = _ from hv] at hj; cases hj; cases ho
    · obtain ⟨_, cs, h4⟩ := hrowb j e
      rw [h4] at hj; cases hj; cases ho
  · have hlt := (Array.getElem?_eq_some_iff.1 hj).1
    refine (k1 j hlt h2 (fun e => ?_)).trans hj
    obtain ⟨h4, cs', h5⟩ := hrowb j e
    rw [h5] at hj; cases hj
    rcases h3 with h3 | h3
    · omega
    · exact h3 rfl
/-- Between two rounds of AtLeast's loop. -/
def AI (w : World) (n₀ : Nat) (k : Int) (pre : List (ByteArray × Nat)) (W : World) : Prop :=
  (∃ v, Boxed W (w.heap.size + 1) 59 v ∧ W.ownsRow n₀ 9 1 v (pick k pre).length ((pick k pre).map (Value.string))) ∧ Boxed W w.heap.size 3 (.int .i64 k) ∧ n₀ ≤ W.heap.size ∧ Below w.heap.size w W
theorem AI.app {w W w1 : World} {n₀ : Nat} {k : Int} {x : ByteArray} {q : Nat} {pre : List (ByteArray × Nat)} {v v' : Value} {tmp : Obj} (hn : w.heap.size + 2 ≤ n₀) (hv : Boxed W (w.heap.size + 1) 59 v) (hrow : W.ownsRow n₀ 9 1 v (pick k pre).length ((pick k pre).map (Value.string))) (hkb : Boxed W w.heap.size 3 (.int .i64 k)) (hz : n₀ ≤ W.heap.size) (hB : Below w.heap.size w W) (hk : k ≤ (q : Int))
    (hown : w1.ownsRow n₀ 9 1 v' ((pick k pre).length + 1) ((pick k pre).map (Value.string) ++ [.string x])) (hg : (W.alloc tmp).grownBy w1 v.ownBlock) : KeepsFrom n₀ W (w1.setCell ⟨w.heap.size + 1, 0, none⟩ v') ∧ Keep n₀ (w.heap.size + 1) W (w1.setCell ⟨w.heap.size + 1, 0, none⟩ v') ∧ AI w n₀ k (pre ++ [(x, q)]) (w1.setCell ⟨w.heap.size + 1, 0, none⟩ v') := by
  obtain ⟨a1, a2, a3, a4, a5, a6, a7, a8, a9, a10⟩ := app_keep hv hrow hown hg
  refine ⟨a4.from _, a5, ⟨v', a2, ?_⟩, (a7 _ (by have := hB.size; omega) (by omega) (by omega)).trans hkb, Nat.le_trans hz a6, ?_⟩
  · rw [pick_hit pre (x := (x, q)) hk, List.length_append, List.map_append]
    exact a3
  · exact ⟨a8.trans hB.os, a9.trans hB.tape, a10.trans hB.output, Nat.le_trans hB.size a6, fun j hj => (a7 j (Nat.lt_of_lt_of_le hj hB.size) (by omega) (by omega)).trans (hB.block j hj)⟩
theorem AI.own (w : World) (n₀ : Nat) (k : Int) (hn : w.heap.size + 2 ≤ n₀) : OwnFrom n₀ (AI w n₀ k) := by
  intro s A B row hs hg hr
  obtain ⟨hv, hk, hz, hb⟩ := hs
  have hr' : ∀ r, row = some r → ∃ o : Obj, A.heap[r]? = some o ∧ o.isCells = false := fun r e => (hr r e).2
  refine ⟨?_, hk.kept hg (fun e => ?_), Nat.le_trans hz hg.size, hb.grown hg hb.size (fun j e => by have := (hr j e).1; omega)⟩
  · have := holdsRow_own n₀ (w.heap.size + 1) 59 9 1 (fun pre => (pick k pre).length) (fun pre => (pick k pre).map (Value.string)) (fun _ _ => True) s A B row (by obtain ⟨v, h1, h2⟩ := hv; exact ⟨v, h1, h2, trivial⟩) hg hr'
    obtain ⟨v, h1, h2, _⟩ := this
    exact ⟨v, h1, h2⟩
  · have := (hr _ e.symm).1; omega
theorem AI.priv (w : World) (n₀ : Nat) (k : Int) (hn : w.heap.size + 2 ≤ n₀) : Clos (Priv n₀) (AI w n₀ k) := by
  rintro s A B ⟨⟨v, h1, h2⟩, hk, hz, hb⟩ hp
  exact ⟨⟨v, boxed_priv h1 (by omega) hp, own_priv h2 hp⟩, boxed_priv hk (by omega) hp, Nat.le_trans hz hp.size, below_priv hb (by omega) hp⟩
set_option maxRecDepth 100000 in
set_option maxHeartbeats 2000000 in
theorem atleast_in (n : Nat) (hn : 6 ≤ n) (w : World) (k : Int) (c : Nat) (L : Option Addr) (Es : List Hd) (h : Heads w L Es) (hm : bulk Es ≤ 16777216) (hl : ∀ d ∈ Es, d.l.length ≤ 1048576) (hlen : Es.length ≤ 1048576) :
    CallsIn Fence.wide n Try.prog 48 #[.int .i64 k, .slice L Es.length c] w (GotM w (atLeast ltS k (Es.map Hd.l))) := by
  have h1 : 1 ≤ n := by omega
  obtain ⟨i0, hi, hz0, hz1, hz2⟩ := info_parts info9
  have hb0 : Below w.heap.size w ((w.alloc (.cells #[.int .i64 k] 3)).alloc (.cells #[.slice none 0 0] 59)) := ((Below.refl _ w).alloc (Nat.le_refl _) _).alloc (by rw [World.size_alloc]; omega) _
  have hh0 : Heads ((w.alloc (.cells #[.int .i64 k] 3)).alloc (.cells #[.slice none 0 0] 59)) L Es := ⟨fun j hj => by
    obtain ⟨r, o, e, hc⟩ := h.head j hj
    exact ⟨r, o, e, (hb0.cell (p := ⟨r, o + j, none⟩) (World.block_lt_of_cell? w _ hc)).trans hc⟩, fun d hd => (h.row d hd).on (fun hp => hb0.block _ (Row.lt (h.row d hd) hp))⟩
  have hlow : ∀ d ∈ Es, 0 < d.l.length → d.g ≠ w.heap.size + 1 := fun d hd hp => by have := Row.lt (h.row d hd) hp; omega
  have hlens := hl
  have S0 := sets_as ((w.alloc (.cells #[.int .i64 k] 3)).alloc (.cells #[.slice none 0 0] 59)) (w.heap.size + 1) c L Es hh0 hlen hlens (by rw [World.size_alloc, World.size_alloc]; omega) hlow
  have HS := Lib.hid S0
  have HB0 := Lib.hid hb0
  clear S0 hb0 hh0 hlow hlens h hl
  refine callsIn_of_wp_marks Try.func48 rfl trivial ?_ rfl
  simp only [Try.ntmps48, List.size_toArray, List.length_cons, List.length_nil, Nat.reduceAdd, Nat.reduceSub, Array.replicate_succ, Array.replicate_zero, List.push_toArray, List.append_toArray, List.nil_append, List.cons_append]
  gi_wp2_with (first
    | (refine ⟨trivial, ?_⟩; gi_at_call 63; refine (callsIn_wide.2 HS.out).mono ?_; rintro e W2 ⟨L2, c2, Ds, rfl, q1, q2, q3, q4⟩; have HQ := Lib.hid (And.intro q1 (And.intro q2 (And.intro q3 q4))); clear q1 q2 q3 q4)
    | (refine ⟨trivial, ?_⟩; gi_at_call 62; refine (callsIn_wide.2 (counted_as _ _ _ _)).mono ?_; rintro e W3 ⟨rfl, hW3⟩; subst hW3))
  obtain ⟨W3, hW3⟩ : ∃ W3, W2.alloc (.cells #[.slice L2 Ds.length c2] 58) = W3 := ⟨_, rfl⟩
  rw [hW3]
  have hz1' : ((w.alloc (.cells #[.int .i64 k] 3)).alloc (.cells #[.slice none 0 0] 59)).heap.size = w.heap.size + 2 := by rw [World.size_alloc, World.size_alloc]
  have hz3 : W3.heap.size = W2.heap.size + 1 := by rw [← hW3, World.size_alloc]
  have hz2' : w.heap.size + 2 ≤ W2.heap.size := by have := HQ.out.2.2.2.size; omega
  have hx3 : W3.cell? ⟨W2.heap.size, 0, none⟩ = some (.slice L2 Ds.length c2) := by
    rw [← hW3]
    exact (Boxed.new W2 58 (.slice L2 Ds.length c2)).cell
  have hb23 : Below W2.heap.size W2 W3 := by rw [← hW3]; exact (Below.refl _ W2).alloc (Nat.le_refl _) _
  have hb13 : Below (w.heap.size + 2) ((w.alloc (.cells #[.int .i64 k] 3)).alloc (.cells #[.slice none 0 0] 59)) W3 := by
    have := HQ.out.2.2.2
    rw [hz1'] at this
    exact this.trans (hb23.mono hz2')
  have hh3 : Heads W3 L2 Ds := ⟨fun j hj => by
    obtain ⟨r, o, e, hc⟩ := HQ.out.1.head j hj
    exact ⟨r, o, e, (hb23.cell (p := ⟨r, o + j, none⟩) (World.block_lt_of_cell? W2 _ hc)).trans hc⟩, fun d hd => (HQ.out.1.row d hd).on (fun hp => hb23.block _ (Row.lt (HQ.out.1.row d hd) hp))⟩
  have hmap := HQ.out.2.2.1
  have hdl : Ds.length = Es.length := by have := congrArg List.length hmap; simpa using this
  have hris : ∀ d ∈ Ds, Ris ltS d.l := fun d hd => by
    have : d.l ∈ Es.map fun d => setL ltS d.l := by rw [← hmap]; exact List.mem_map.2 ⟨d, hd, rfl⟩
    obtain ⟨e, _, he⟩ := List.mem_map.1 this
    rw [← he]
    exact ris_setL totS _
  have hN : (counts ltS (Ds.map Hd.l)).length ≤ 16777216 := Nat.le_trans (counts_len totS _) (by rw [flat_len]; exact Nat.le_trans (sets_bulk hmap) hm)
  have hbw3 : Below w.heap.size w W3 := HB0.out.trans (hb13.mono (by omega))
  have hI0 : AI w W3.heap.size k [] W3 := by
    refine ⟨⟨.slice none 0 0, ?_, World.ownsRow_nil _ _ _ _⟩, ?_, Nat.le_refl _, hbw3⟩
    · have b0 := Boxed.new (w.alloc (.cells #[.int .i64 k] 3)) 59 (.slice none 0 0)
      rw [World.size_alloc] at b0
      exact (hb13.block _ (by omega)).trans b0
    · exact (hb13.block _ (by omega)).trans ((Boxed.new w 3 (.int .i64 k)).alloc _)
  have hpk := pick_all k hmap
  have hDs : Ds.length ≤ 1048576 := by omega
  have HD := Lib.hid hdl
  have hw5 : w.heap.size + 2 ≤ W3.heap.size := by omega
  clear hdl hz3
  refine rf_law (F := Fence.wide) rfl h1 (gf := 76) (lb := #[.pointer (some ⟨W2.heap.size, 0, none⟩)]) rfl trivial (enters_of Try.func76 (by kernel_rfl) rfl)
    (counted_seq (n - 1) (by omega) W3 W2.heap.size (w.heap.size + 1) c2 L2 Ds hDs hx3 hh3 HQ.out.2.1 hris (by omega))
    (fun A B j o hr _ h2 h3 => hr.block j o h2 (.inr (.inl h3))) Keep.trans (fun W l o o' _ h2 h3 => Keep.putObj W l o o' h2 h3) (fun _ => rfl)
    (AI w W3.heap.size k) (fun _ _ _ => False) (AI.own w _ k (by omega)) (AI.priv w _ k (by omega)) (fun _ _ _ _ _ hs _ _ => hs) (fun _ _ _ _ hs _ => hs) hI0
    (fun x => { tmps := #[.int .i64 k, .slice L Es.length c, .pointer (some ⟨w.heap.size, 0, none⟩), undef, .slice none 0 0, .pointer (some ⟨w.heap.size + 1, 0, none⟩), .string x.1, .int .i64 (x.2 : Int), .slice L Es.length c, .slice L2 Ds.length c2, .func (.func 76) #[] #[.pointer (some ⟨W2.heap.size, 0, none⟩)], .string x.1, .int .i64 (x.2 : Int), undef, undef, undef, undef, undef, undef, undef, undef], defers := [] }) ?assign ?body ?done ?stop
  case assign =>
    intro l x W K hK
    gi_wp2
    exact hK
  case body =>
    rintro l pre x W ⟨⟨v, hv, hrow⟩, hkb, hzW, hB⟩ hlt
    have hc := hv.cell
    have hck := hkb.cell
    have hpl : (pick k pre).length ≤ pre.length := pick_len k pre
    have hml : (pick k pre).length + 1 ≤ maxLen := by simp only [maxLen]; omega
    by_cases hkx : k ≤ (x.2 : Int)
    · have HKX := Lib.hid hkx
      gi_wp2_with (gi_at_builtin; (refine wpListIn_append_own _ rfl _ _ 59 rfl W3.heap.size 9 i0 (.string ⟨#[]⟩) 1 16 Try.underlying59 hi hz0 hz1 hz2 rfl (by decide) _ _ _ rfl (hrow.alloc _) ⟨W.heap.size, 0, none⟩ 1 1 [.string x.1] rfl rfl (cell_one_new _ _ _) (by simp [Value.oneCell']) (by omega) (by omega) (by simp; omega) ?_; intro v' w1 hown' hgrow _; obtain ⟨g', cap', rfl⟩ := ownsRow_succ hown'; have hap := AI.app (x := x.1) (q := x.2) hw5 hv hrow hkb hzW hB HKX.out hown' hgrow; have hv1 := (app_keep hv hrow hown' hgrow).1; have hc1 := hv1.cell; have hf1 := hv1.frozen))
      exact hap
    · have HKX := Lib.hid hkx
      gi_wp2
      refine ⟨KeepsFrom.refl _ _, ⟨Nat.le_refl _, fun _ _ _ _ h _ _ => h⟩, ⟨v, hv, ?_⟩, hkb, hzW, hB⟩
      rw [pick_miss pre (by have := HKX.out; omega)]
      exact hrow
  case done =>
    rintro D ys W hD rfl ⟨⟨v, hv, hrow⟩, hkb, hzW, hB⟩ hK
    have hc := hv.cell
    gi_wp2
    refine ⟨by simp, .inl ⟨_, _, rfl, run_takeDeferred hK, ?_⟩⟩
    rw [hpk] at hrow
    obtain ⟨g, B, cc, e, h2⟩ := mine_of_own (ownsRow_putObj hrow (.deferred none) hK rfl)
    refine ⟨_, results_tmp rfl _ _ _, g, B, cc, by rw [← e]; rfl, h2.low (by omega), hB.trans (belowK_b (w := w) (Nat.le_refl _) W D _ _ (by omega) hK rfl rfl)⟩
  case stop =>
    rintro D c pre W _ _ h _
    exact h.elim
/-- posting.AtLeast, in a block of its own. -/
theorem atleast_m (w : World) (k : Int) (c : Nat) (L : Option Addr) (Es : List Hd) (h : Heads w L Es) (hm : bulk Es ≤ 16777216) (hl : ∀ d ∈ Es, d.l.length ≤ 1048576) (hlen : Es.length ≤ 1048576) :
    Calls Try.prog 48 #[.int .i64 k, .slice L Es.length c] w (GotM w (atLeast ltS k (Es.map Hd.l))) :=
  callsIn_wide.1 (atleast_in 6 (Nat.le_refl _) w k c L Es h hm hl hlen)
/-- posting.AtLeast: what stands in k of the lists or more. -/
theorem atleast_as (w : World) (k : Int) (c : Nat) (L : Option Addr) (Es : List Hd) (h : Heads w L Es) (hm : bulk Es ≤ 16777216) (hl : ∀ d ∈ Es, d.l.length ≤ 1048576) (hlen : Es.length ≤ 1048576) :
    Calls Try.prog 48 #[.int .i64 k, .slice L Es.length c] w fun e w' => ∃ g B cc, e = .returned (.slice B (atLeast ltS k (Es.map Hd.l)).length cc) ∧ Row w' g B cc (atLeast ltS k (Es.map Hd.l)) ∧ (0 < (atLeast ltS k (Es.map Hd.l)).length → w.heap.size ≤ g ∧ g < w'.heap.size) ∧ Below w.heap.size w w' :=
  (atleast_m w k c L Es h hm hl hlen).mono fun _ _ h => by
    obtain ⟨g, B, cc, e, h1, h2⟩ := h
    exact ⟨g, B, cc, e, h1.row, h1.new, h2⟩
end Go.Proofs.Ytnflokhffmfifaa.CountWT

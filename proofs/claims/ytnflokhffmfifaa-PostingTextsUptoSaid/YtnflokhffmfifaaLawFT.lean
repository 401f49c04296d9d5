/- The law at texts: SpareT, FreshT, LawT, TextsL joined. -/
import Derived.Test.YtnflokhffmfifaaRefT
import Derived.Deep.DeepCutAuto
set_option linter.unusedVariables false
set_option linter.unusedSimpArgs false
namespace Go.Proofs.Ytnflokhffmfifaa.CountWT
open Go.RowKit Go.Proofs.Ytnflokhffmfifaa.InEvT Go.Proofs.Ytnflokhffmfifaa.Blk Go.Proofs.Ytnflokhffmfifaa.Ris Go.Proofs.Ytnflokhffmfifaa.OfT Go.Proofs.Ytnflokhffmfifaa.Keys Go.Proofs.Ytnflokhffmfifaa.XV Go.Proofs.Ytnflokhffmfifaa.HeapPure Go.Proofs.Ytnflokhffmfifaa.HeapWT Go.Proofs.Ytnflokhffmfifaa.PostAlg Go.Proofs.YtnflokhffmfifaaW.PrintWords Go.Proofs.YtnflokhffmfifaaW.PrintLast Go.Proofs.YtnflokhffmfifaaW.PrintMore
abbrev SP : ByteArray := ⟨#[115, 112, 97, 114, 101]⟩
/-- A list with the spare text in its spare room, in a block of its own from B0 on. -/
structure Spare (B0 : Nat) (w : World) (d : Hd) : Prop where
  row : Row w d.g d.A d.c d.l
  at_ : d.A = some ⟨d.g, 0, none⟩
  cap : d.l.length + 1 ≤ d.c
  cell : w.cell? ⟨d.g, d.l.length, none⟩ = some (.string SP)
  low : B0 ≤ d.g
  kind : ∃ cs, w.heap[d.g]? = some (.cells cs 9 (0, 0))
theorem Spare.lt {B0 : Nat} {w : World} {d : Hd} (h : Spare B0 w d) : d.g < w.heap.size := by
  obtain ⟨cs, hc⟩ := h.kind
  exact (Array.getElem?_eq_some_iff.1 hc).1
theorem Spare.on {B0 : Nat} {w w1 : World} {d : Hd} (h : Spare B0 w d) (k : w1.heap[d.g]? = w.heap[d.g]?) : Spare B0 w1 d :=
  ⟨h.row.on (fun _ => k), h.at_, h.cap, (World.cell?_of_block (a := ⟨d.g, d.l.length, none⟩) k).trans h.cell, h.low, by obtain ⟨cs, hc⟩ := h.kind; exact ⟨cs, k.trans hc⟩⟩
structure PA (W : World) (Es : List Hd) (i : Nat) (ds : List Hd) (v : Value) (wr : World) : Prop where
  own : wr.ownsRow W.heap.size 59 1 v i (ds.map Hd.v)
  row : ∀ d ∈ ds, Spare W.heap.size wr d
  maps : ds.map Hd.l = (Es.take i).map Hd.l
  below : Below W.heap.size W wr
theorem PA.next {W wr w2 w3 : World} {Es : List Hd} {i : Nat} {ds : List Hd} {v v' : Value} {d : Hd} {o : Obj} (h : PA W Es i ds v wr) (hi : i < Es.length) (hb : Below wr.heap.size wr w2) (hd : Spare wr.heap.size w2 d) (he : d.l = (Es.getD i default).l)
    (hg : (w2.alloc o).grownBy w3 v.ownBlock) (own : w3.ownsRow W.heap.size 59 1 v' (i + 1) (ds.map Hd.v ++ [d.v])) : PA W Es (i + 1) (ds ++ [d]) v' w3 := by
  have hz : (w2.alloc o).heap.size = w2.heap.size + 1 := World.size_alloc _ _
  have hbs := h.below.size
  have hb2 := hb.size
  have ho2 := own_below h.own hb
  have keep : ∀ e : Hd, ∀ B0, Spare B0 w2 e → Spare B0 w3 e := fun e B0 he => he.on (by
    obtain ⟨cs, hc⟩ := he.kind
    exact (hg.block _ (by have := he.lt; omega) (ne_kind ho2 hc)).trans (Below.heap_alloc _ _ _ he.lt))
  refine ⟨by rw [List.map_append]; exact own, fun e he' => ?_, by rw [take_snoc Es hi, List.map_append, List.map_append, h.maps, List.map_cons, List.map_nil, he]; rfl, ?_⟩
  · rcases List.mem_append.1 he' with he' | he'
    · exact keep e _ ((h.row e he').on (hb.block _ (h.row e he').lt))
    · rw [List.mem_singleton] at he'
      subst he'
      have := keep e _ hd
      exact ⟨this.row, this.at_, this.cap, this.cell, Nat.le_trans hbs hd.low, this.kind⟩
  · exact ((h.below.trans (hb.mono hbs)).alloc (by omega) o).grown hg (by omega) (fun j e => (h.own.lt _ e).1)
theorem cut22 (A : Option Addr) (n c k : Nat) (hk : k ≤ n) (hc : n ≤ c) (W : World) : (Instr.slice 59 (.slice A n c) none (some (.int .i64 (k : Int))) none).run Try.prog W = .ok (.slice A k c) W := by
  obtain ⟨i0, hi0, _, hsz, _⟩ := info_parts info9
  have := cut_to (P := Try.prog) 59 9 .i64 Try.underlying59 hi0 A n c (k : Int) (by omega) (by omega) hc W
  rw [Int.toNat_natCast] at this
  exact this
/-- A list and the spare text behind it, cut to the list. -/
theorem spare_of {W : World} {B0 g cap : Nat} {cur : List Value} {l : List ByteArray} (hat : Blk.At W g cur 9) (hle : B0 ≤ g) (h1 : (l ++ [SP]).length ≤ cap) (h2 : cur.length = cap) (h3 : cur.take (l ++ [SP]).length = (l ++ [SP]).map (Value.string)) : Spare B0 W ⟨some ⟨g, 0, none⟩, cap, g, l⟩ := by
  have hl : (l ++ [SP]).length = l.length + 1 := by simp
  have hcell : ∀ i : Nat, i < l.length + 1 → W.cell? ⟨g, i, none⟩ = some (.string ((l ++ [SP]).getD i E)) := fun i hi => by
    rw [hat.cell i]
    have h4 : (cur.take (l ++ [SP]).length)[i]? = some (.string ((l ++ [SP]).getD i E)) := by
      rw [h3, List.getElem?_map, List.getElem?_eq_getElem (by omega)]
      simp [List.getD_eq_getElem?_getD, List.getElem?_eq_getElem (show i < (l ++ [SP]).length by omega)]
    rwa [List.getElem?_take_of_lt (by omega)] at h4
  refine ⟨⟨by show l.length ≤ cap; omega, fun hp => ⟨0, rfl, fun i hi => ?_⟩⟩, rfl, by show l.length + 1 ≤ cap; omega, ?_, hle, ⟨_, hat⟩⟩
  · have hi : i < l.length := hi
    rw [Nat.zero_add, hcell i (by omega)]
    simp [List.getD_eq_getElem?_getD, List.getElem?_append_left (show i < l.length from hi)]
  · rw [hcell l.length (by omega)]
    simp [List.getD_eq_getElem?_getD]
theorem lit_row (W : World) (x : ByteArray) : Row (W.alloc (.cells #[.string x] 9)) W.heap.size (some ⟨W.heap.size, 0, none⟩) 1 [x] := by
  refine ⟨Nat.le_refl _, fun hp => ⟨0, rfl, fun i hi => ?_⟩⟩
  rw [Nat.zero_add, (Blk.At.fresh W [.string x] 9).cell i]
  obtain rfl : i = 0 := by simpa using hi
  rfl
/-- A row of headers of one's own is a list of lists. -/
theorem heads_own {w : World} {base n : Nat} {v : Value} {ds : List Hd} (own : w.ownsRow base 59 1 v n (ds.map Hd.v)) (hr : ∀ d ∈ ds, Row w d.g d.A d.c d.l) : ∃ L c, v = .slice L ds.length c ∧ n = ds.length ∧ Heads w L ds := by
  have hle : n = ds.length := by have := own.1; simpa using this.symm
  subst hle
  rcases own.2 with ⟨rfl, h0⟩ | ⟨g, cap, cur, rfl, _, h4, h5, h6, h7, h8⟩
  · exact ⟨none, 0, by rw [h0], rfl, ⟨fun k hk => by omega, hr⟩⟩
  · refine ⟨some ⟨g, 0, none⟩, cap, rfl, rfl, ⟨fun k hk => ⟨g, 0, rfl, ?_⟩, hr⟩⟩
    rw [Nat.zero_add, Blk.At.cell (cs := cur.toList) (show Blk.At w g cur.toList 59 from h4) k]
    have h9 : (cur.toList.take (ds.length * 1))[k]? = some (ds.getD k default).v := by
      rw [h8, List.getElem?_map, List.getElem?_eq_getElem hk]
      simp [List.getD_eq_getElem?_getD, List.getElem?_eq_getElem hk]
    rwa [List.getElem?_take_of_lt (by omega)] at h9
theorem Heads.below {w w' : World} {L : Option Addr} {Es : List Hd} (h : Heads w L Es) (hb : Below w.heap.size w w') : Heads w' L Es := by
  refine ⟨fun k hk => ?_, fun d hd => (h.row d hd).on (fun hp => hb.block _ (Row.lt (h.row d hd) hp))⟩
  obtain ⟨r, o, e, hc⟩ := h.head k hk
  exact ⟨r, o, e, (hb.cell (p := ⟨r, o + k, none⟩) (World.block_lt_of_cell? w _ hc)).trans hc⟩
theorem cutup22 (A : Addr) (n c k : Nat) (hk : k ≤ c) (W : World) : (Instr.slice 59 (.slice (some A) n c) none (some (.int .i64 (k : Int))) none).run Try.prog W = .ok (.slice (some A) k c) W := by
  obtain ⟨i0, hi0, _, hsz, _⟩ := info_parts info9
  rw [run_slice_h W 59 (some A) n c (P := Try.prog) (by have h := Try.underlying59; rwa [show Try.prog.elem 59 = 9 by simp [Program.elem, Try.underlying59]]) .i64 _ (by omega) (by omega)]
  rw [show Try.prog.elem 59 = 9 by simp [Program.elem, Try.underlying59]]
  simp [sizeOf, typeInfo, hi0, sliced, Result.andThen, Addr.add]
theorem row_none (W : World) (g : Nat) (A : Option Addr) (c : Nat) : Row W g A c [] := ⟨Nat.zero_le _, fun hp => absurd hp (by simp)⟩
theorem heads_get {W : World} {L : Option Addr} {Es : List Hd} (h : Heads W L Es) (i : Nat) : Row W (Es.getD i default).g (Es.getD i default).A (Es.getD i default).c (Es.getD i default).l := by
  by_cases hi : i < Es.length
  · refine h.row _ ?_
    rw [← getElem_getD _ _ hi]
    exact List.getElem_mem hi
  · rw [List.getD_eq_getElem?_getD, List.getElem?_eq_none (by omega)]
    exact row_none _ _ _ _
theorem bulk_get (Es : List Hd) (i : Nat) : (Es.getD i default).l.length ≤ bulk Es := by
  by_cases hi : i < Es.length
  · refine bulk_mem _ ?_
    rw [← getElem_getD _ _ hi]
    exact List.getElem_mem hi
  · rw [List.getD_eq_getElem?_getD, List.getElem?_eq_none (by omega)]
    exact Nat.zero_le _
theorem maps_get {Ds Es : List Hd} (h : Ds.map Hd.l = Es.map Hd.l) (i : Nat) : (Ds.getD i default).l = (Es.getD i default).l := by
  have hlen : Ds.length = Es.length := by simpa using congrArg List.length h
  by_cases hi : i < Es.length
  · have := congrArg (fun z : List (List ByteArray) => z.getD i []) h
    simpa [List.getD_eq_getElem?_getD, List.getElem?_eq_getElem hi, List.getElem?_eq_getElem (show i < Ds.length by omega)] using this
  · rw [List.getD_eq_getElem?_getD, List.getD_eq_getElem?_getD, List.getElem?_eq_none (by omega), List.getElem?_eq_none (by omega)]
theorem bulk_maps {Ds Es : List Hd} (h : Ds.map Hd.l = Es.map Hd.l) : bulk Ds = bulk Es := by
  have e : ∀ es : List Hd, bulk es = ((es.map Hd.l).map List.length).sum := fun es => by rw [List.map_map]; rfl
  rw [e, e, h]
theorem al_len (k : Int) (Es : List Hd) : (atLeast ltS k (Es.map Hd.l)).length ≤ bulk Es := by
  unfold atLeast
  refine Nat.le_trans (List.length_filter_le _ _) (Nat.le_trans (setL_len totS _) ?_)
  rw [← flat_len]
  exact Nat.le_refl _
theorem meet_len (Es : List Hd) : (meet ltS (Es.map Hd.l)).length ≤ bulk Es := by
  unfold meet
  split
  · exact Nat.zero_le _
  · exact al_len _ _
theorem minus_len (a b : List ByteArray) : (minus ltS a b).length ≤ a.length := Nat.le_trans (List.length_filter_le _ _) (setL_len totS _)
theorem undrewN {B : Nat} {W W' : World} {n : Nat} (h : Below B (W.drewN n) W') : Below B W W' := ⟨h.os, h.tape, h.output, h.size, h.block⟩
theorem undrew1 {B : Nat} {W W' : World} (h : Below B W.drew W') : Below B W W' := ⟨h.os, h.tape, h.output, h.size, h.block⟩
/-- What the law's walk knows of a world behind the lists were laid. -/
structure SK (w : World) (B0 : Nat) (L L1 L2 : Option Addr) (Es Ds : List Hd) (Aa Ab Ac Ad : Option Addr) (ca cb cc cd ga gb gc gd : Nat) (la lb : List ByteArray) (W : World) : Prop where
  hE : Heads W L Es
  h1 : Heads W L1 Ds
  h2 : Heads W L2 Ds
  sp : ∀ d ∈ Ds, Spare B0 W d
  ra : Row W ga Aa ca la
  rb : Row W gb Ab cb lb
  rc : Row W gc Ac cc la
  rd : Row W gd Ad cd lb
  below : Below w.heap.size w W
theorem _root_.Go.Proofs.Ytnflokhffmfifaa.OfT.Row.below {W W' : World} {g c : Nat} {A : Option Addr} {l : List ByteArray} (h : Row W g A c l) (hb : Below W.heap.size W W') : Row W' g A c l := h.on (fun hp => hb.block _ (Row.lt h hp))
theorem SK.on {w W W' : World} {B0 : Nat} {L L1 L2 : Option Addr} {Es Ds : List Hd} {Aa Ab Ac Ad : Option Addr} {ca cb cc cd ga gb gc gd : Nat} {la lb : List ByteArray} (h : SK w B0 L L1 L2 Es Ds Aa Ab Ac Ad ca cb cc cd ga gb gc gd la lb W) (hb : Below W.heap.size W W') : SK w B0 L L1 L2 Es Ds Aa Ab Ac Ad ca cb cc cd ga gb gc gd la lb W' :=
  ⟨h.hE.below hb, h.h1.below hb, h.h2.below hb, fun d hd => (h.sp d hd).on (hb.block _ (h.sp d hd).lt), h.ra.below hb, h.rb.below hb, h.rc.below hb, h.rd.below hb, h.below.trans (hb.mono h.below.size)⟩
theorem of_got (w : World) (g : Nat) (A : Option Addr) (c : Nat) (l : List ByteArray) (h : Row w g A c l) (hn : l.length ≤ 1048576) : Calls Try.prog 40 #[.slice A l.length c] w (Got w (setL ltS l)) := of_as A c l w (Row.nums h hn) hn
theorem rsorted_got (w : World) (g : Nat) (A : Option Addr) (c : Nat) (l : List ByteArray) (h : Row w g A c l) (hn : l.length ≤ 1048576) : Calls Try.prog 41 #[.slice A l.length c] w (Got w (setL ltS l)) := by
  refine (rsorted_as w g A c l h hn).mono ?_
  rintro e w' ⟨g', B, cc, rfl, h1, h2, h3⟩
  refine ⟨g', B, cc, rfl, h1, fun hp => ⟨(h2 hp).1, ?_⟩, h3⟩
  obtain ⟨_, cs, hcs⟩ := h2 hp
  exact (Array.getElem?_eq_some_iff.1 hcs).1
theorem rising_is (w : World) (g : Nat) (A : Option Addr) (c : Nat) (l : List ByteArray) (bv : Bool) (e : risB ltS l = bv) (h : Row w g A c l) (hn : l.length ≤ 1048576) : Calls Try.prog 42 #[.slice A l.length c] w fun e w' => e = .returned (.bool bv) ∧ Drawn0 w w' := by
  have := rising_as w g A c l h hn
  rwa [e] at this
theorem rrising_is (w : World) (g : Nat) (A : Option Addr) (c : Nat) (l : List ByteArray) (bv : Bool) (e : risB ltS l = bv) (h : Row w g A c l) (hn : l.length ≤ 1048576) : Calls Try.prog 43 #[.slice A l.length c] w fun e w' => e = .returned (.bool bv) ∧ Below w.heap.size w w' := by
  have := rrising_as w g A c l h hn
  rwa [e] at this
section
variable (w : World) (c : Nat) (L : Option Addr) (Ds Es : List Hd) (hq : Ds.map Hd.l = Es.map Hd.l) (h : Heads w L Ds) (hb : bulk Es ≤ 1048576) (hm : Es.length ≤ 1048576)
include hq h hb hm
theorem atleast_is (k : Int) : Calls Try.prog 48 #[.int .i64 k, .slice L Ds.length c] w (Got w (atLeast ltS k (Es.map Hd.l))) := by
  have hb' : bulk Ds ≤ 1048576 := by rw [bulk_maps hq]; exact hb
  have hm' : Ds.length ≤ 1048576 := by have := congrArg List.length hq; simp at this; omega
  have := atleast_as w k c L Ds h (by omega) (fun d hd => Nat.le_trans (bulk_mem d hd) hb') hm'
  rw [hq] at this
  exact this
theorem union_is : Calls Try.prog 44 #[.slice L Ds.length c] w (Got w (union ltS (Es.map Hd.l))) := by
  have hb' : bulk Ds ≤ 1048576 := by rw [bulk_maps hq]; exact hb
  have hm' : Ds.length ≤ 1048576 := by have := congrArg List.length hq; simp at this; omega
  have := union_as w c L Ds h (by omega) (fun d hd => Nat.le_trans (bulk_mem d hd) hb') hm'
  rwa [hq] at this
theorem meet_is : Calls Try.prog 46 #[.slice L Ds.length c] w (Got w (meet ltS (Es.map Hd.l))) := by
  have hb' : bulk Ds ≤ 1048576 := by rw [bulk_maps hq]; exact hb
  have hm' : Ds.length ≤ 1048576 := by have := congrArg List.length hq; simp at this; omega
  have := meet_as w c L Ds h (by omega) (fun d hd => Nat.le_trans (bulk_mem d hd) hb') hm'
  rwa [hq] at this
end
theorem runion_as (w : World) (c : Nat) (L : Option Addr) (Es : List Hd) (h : Heads w L Es) (hb : bulk Es ≤ 1048576) (hm : Es.length ≤ 1048576) : Calls Try.prog 45 #[.int .i64 1, .slice L Es.length c] w (Got w (union ltS (Es.map Hd.l))) := ratleast_as w 1 c L Es h hb hm
end Go.Proofs.Ytnflokhffmfifaa.CountWT
namespace Go.Proofs.Ytnflokhffmfifaa.CountWT
open Go.RowKit Go.Proofs.Ytnflokhffmfifaa.InEvT Go.Proofs.Ytnflokhffmfifaa.Blk Go.Proofs.Ytnflokhffmfifaa.Ris Go.Proofs.Ytnflokhffmfifaa.OfT Go.Proofs.Ytnflokhffmfifaa.Keys Go.Proofs.Ytnflokhffmfifaa.XV Go.Proofs.Ytnflokhffmfifaa.HeapPure Go.Proofs.Ytnflokhffmfifaa.HeapWT Go.Proofs.Ytnflokhffmfifaa.CountPure Go.Proofs.Ytnflokhffmfifaa.PostAlg Go.Proofs.YtnflokhffmfifaaW.PrintWords Go.Proofs.YtnflokhffmfifaaW.PrintLast Go.Proofs.YtnflokhffmfifaaW.PrintMore
theorem un_one (l : List ByteArray) : union ltS [l] = setL ltS l := setL_eq totS (ris_union totS _) (fun x => by rw [mem_union totS]; simp)
/-- Union of one list, written as it stands. -/
theorem un_lit (W : World) (b : Nat) (hb : b = W.heap.size) (g c : Nat) (A : Option Addr) (l : List ByteArray) (hr : Row W g A c l) (hl : l.length ≤ 1048576) : Calls Try.prog 44 #[.slice (some ⟨b, 0, none⟩) 1 1] (W.alloc (.cells #[.slice A l.length c] 59)) (GotM (W.alloc (.cells #[.slice A l.length c] 59)) (setL ltS l)) := by
  subst hb
  have hh : Heads (W.alloc (.cells #[.slice A l.length c] 59)) (some ⟨W.heap.size, 0, none⟩) [⟨A, c, g, l⟩] := by
    refine ⟨fun k hk => ⟨W.heap.size, 0, rfl, ?_⟩, fun d hd => ?_⟩
    · rw [Nat.zero_add, (Blk.At.fresh W [.slice A l.length c] 59).cell k]
      obtain rfl : k = 0 := by simpa using hk
      rfl
    · obtain rfl := List.mem_singleton.1 hd
      exact hr.on (fun hp => Below.heap_alloc _ _ _ (Row.lt hr hp))
  have := union_m _ 1 _ [⟨A, c, g, l⟩] hh (by simp [bulk]; omega) (fun d hd => by rw [List.mem_singleton.1 hd]; exact hl) (by simp)
  rw [show ([⟨A, c, g, l⟩] : List Hd).map Hd.l = [l] from rfl, un_one] at this
  exact this
theorem mine_below {W W' : World} {b g c : Nat} {A : Option Addr} {l : List ByteArray} (h : OfT.Mine W b g A c l) (hb : Below W.heap.size W W') : OfT.Mine W' b g A c l := by
  rcases h with h | ⟨rfl, h0, cs, h1, h2⟩
  · exact .inl h
  · exact .inr ⟨rfl, h0, cs, (hb.block g h1.lt).trans h1, h2⟩
/-- A row of texts that may be written, and what else is known of the world. -/
structure WK (W : World) (Bw : Option Addr) (gw n : Nat) (Rs : World → Prop) : Prop where
  wr : n = 0 ∨ (Bw = some ⟨gw, 0, none⟩ ∧ ∃ cs, At W gw cs 9 ∧ n ≤ cs.length)
  rs : Rs W
theorem WK.store {W : World} {Bw : Option Addr} {gw n i : Nat} {Rs : World → Prop} (h : WK W Bw gw n Rs) (hi : i < n) (hRs : ∀ W W', Rs W → W.grownBy W' (some gw) → Rs W') (m : ByteArray) :
    ∃ old, Bw = some ⟨gw, 0, none⟩ ∧ W.cell? ⟨gw, i, none⟩ = some old ∧ W.frozen? ⟨gw, i, none⟩ = false ∧ WK (W.setCell ⟨gw, i, none⟩ (.string m)) Bw gw n Rs := by
  rcases h.wr with h0 | ⟨e, cs, ha, hl⟩
  · omega
  · exact ⟨_, e, ha.get i _ (List.getElem?_eq_getElem (by omega)), ha.free i, .inr ⟨e, _, ha.set i _, by rw [List.length_set]; exact hl⟩, hRs _ _ h.rs (grown_set (grown_refl W (some gw)) i _)⟩
theorem mine_wr {W : World} {b g c : Nat} {A : Option Addr} {l : List ByteArray} (h : OfT.Mine W b g A c l) : l.length = 0 ∨ (A = some ⟨g, 0, none⟩ ∧ ∃ cs, At W g cs 9 ∧ l.length ≤ cs.length) := by
  rcases h with ⟨_, _, e⟩ | ⟨e, _, cs, h1, h2, h3, _⟩
  · left; rw [e]; rfl
  · right; exact ⟨e, cs, h1, by omega⟩
theorem _root_.Go.Proofs.Ytnflokhffmfifaa.OfT.Row.grown {W W' : World} {g c q : Nat} {A : Option Addr} {l : List ByteArray} (h : Row W g A c l) (hg : W.grownBy W' (some q)) (hne : 0 < l.length → g ≠ q) : Row W' g A c l :=
  h.on (fun hp => hg.block _ (Row.lt h hp) (fun e => hne hp (Option.some.inj e)))
structure FR1 (w : World) (b3 g : Nat) (A : Option Addr) (c : Nat) (l : List ByteArray) (g1 : Nat) (B1 : Option Addr) (c1 g3 : Nat) (B3 : Option Addr) (c3 g4 : Nat) (B4 : Option Addr) (c4 : Nat) (S : List ByteArray) (W : World) : Prop where
  ra : Row W g A c l
  r1 : Row W g1 B1 c1 S
  r3 : OfT.Mine W b3 g3 B3 c3 S
  r4 : Row W g4 B4 c4 S
  bw : Below w.heap.size w W
theorem FR1.keep {w : World} {b3 g : Nat} {A : Option Addr} {c : Nat} {l : List ByteArray} {g1 : Nat} {B1 : Option Addr} {c1 g2 g3 : Nat} {B3 : Option Addr} {c3 g4 : Nat} {B4 : Option Addr} {c4 : Nat} {S : List ByteArray} (h : (0 < l.length → g < g1) ∧ g1 < g2 ∧ g2 < g3 ∧ g3 < g4 ∧ w.heap.size ≤ g1) :
    ∀ W W', FR1 w b3 g A c l g1 B1 c1 g3 B3 c3 g4 B4 c4 S W → W.grownBy W' (some g2) → FR1 w b3 g A c l g1 B1 c1 g3 B3 c3 g4 B4 c4 S W' := fun W W' k hg =>
  ⟨k.ra.grown hg (fun hp => by have := h.1 hp; omega), k.r1.grown hg (fun _ => by omega), by
    rcases k.r3 with h0 | ⟨e, h0, cs, h1, h2⟩
    · exact .inl h0
    · exact .inr ⟨e, h0, cs, h1.grown hg (fun e => by have := Option.some.inj e; omega), h2⟩, k.r4.grown hg (fun _ => by omega), k.bw.grown hg k.bw.size (fun j e => by have := Option.some.inj e; omega)⟩
theorem FR1.below {w : World} {b3 g : Nat} {A : Option Addr} {c : Nat} {l : List ByteArray} {g1 : Nat} {B1 : Option Addr} {c1 g3 : Nat} {B3 : Option Addr} {c3 g4 : Nat} {B4 : Option Addr} {c4 : Nat} {S : List ByteArray} {W W' : World} (h : FR1 w b3 g A c l g1 B1 c1 g3 B3 c3 g4 B4 c4 S W) (hb : Below W.heap.size W W') : FR1 w b3 g A c l g1 B1 c1 g3 B3 c3 g4 B4 c4 S W' :=
  ⟨h.ra.below hb, h.r1.below hb, mine_below h.r3 hb, h.r4.below hb, h.bw.trans (hb.mono h.bw.size)⟩
structure FR2 (w : World) (g : Nat) (A : Option Addr) (c : Nat) (l : List ByteArray) (g1 : Nat) (B1 : Option Addr) (c1 g4 : Nat) (B4 : Option Addr) (c4 : Nat) (S : List ByteArray) (W : World) : Prop where
  ra : Row W g A c l
  r1 : Row W g1 B1 c1 S
  r4 : Row W g4 B4 c4 S
  bw : Below w.heap.size w W
theorem FR2.keep {w : World} {g : Nat} {A : Option Addr} {c : Nat} {l : List ByteArray} {g1 : Nat} {B1 : Option Addr} {c1 g2 g3 : Nat} {g4 : Nat} {B4 : Option Addr} {c4 : Nat} {S : List ByteArray} (h : (0 < l.length → g < g1) ∧ g1 < g2 ∧ g2 < g3 ∧ g3 < g4 ∧ w.heap.size ≤ g1) :
    ∀ W W', FR2 w g A c l g1 B1 c1 g4 B4 c4 S W → W.grownBy W' (some g3) → FR2 w g A c l g1 B1 c1 g4 B4 c4 S W' := fun W W' k hg =>
  ⟨k.ra.grown hg (fun hp => by have := h.1 hp; omega), k.r1.grown hg (fun _ => by omega), k.r4.grown hg (fun _ => by omega), k.bw.grown hg k.bw.size (fun j e => by have := Option.some.inj e; omega)⟩
theorem fresh_len (l : List ByteArray) (hn : l.length ≤ 1048576) : (setL ltS l).length ≤ 16777216 := by have := setL_len totS l; omega
set_option maxHeartbeats 2000000 in
set_option maxRecDepth 100000 in
theorem fresh_as (w : World) (g c : Nat) (A : Option Addr) (l : List ByteArray) (h : Row w g A c l) (hn : l.length ≤ 1048576) : Calls Try.prog 51 #[.slice A l.length c] w fun e w' => e = .returned (.bool true) ∧ Below w.heap.size w w' := by
  have HA := Lib.hid h
  have hS := fresh_len l hn
  have H1 := Lib.hid (fun W (hr : Row W g A c l) => rsorted_got W g A c l hr hn)
  have H2 := Lib.hid (fun W (hr : Row W g A c l) => of_m A c l W (Row.nums hr hn) hn)
  have H3 := Lib.hid (fun W b hb (hr : Row W g A c l) => un_lit W b hb g c A l hr hn)
  generalize setL ltS l = S at hS H1 H2 H3
  clear h
  go_enter Try.func51, Try.ntmps51
  go_wp2_with (first
    | (go_at_call 41; ((with_reducible refine (H1.out _ ?hx).mono ?_); (case hx => exact HA.out); rintro e W1 ⟨g1, B1, c1, rfl, q1, q2, q3⟩; have HK1 := Lib.hid (And.intro (Row.below HA.out q3) (And.intro q1 (And.intro q2 q3))); clear q1 q2 q3))
    | (go_at_call 44; ((with_reducible refine (H3.out _ _ rfl ?hx).mono ?_); (case hx => exact HK2.out.1); rintro e W3 ⟨g3, B3, c3, rfl, q1, q3⟩; have hb3 : Below W2.heap.size W2 W3 := (below_alloc (Below.refl _ _) _).trans (q3.mono (by rw [World.size_alloc]; omega)); have HK3 := Lib.hid (And.intro (Row.below HK2.out.1 hb3) (And.intro (Row.below HK2.out.2.1 hb3) (And.intro (mine_below HK2.out.2.2.1 hb3) (And.intro (q1.low (b' := W2.heap.size) (by rw [World.size_alloc]; omega)) hb3)))); clear q1 q3 hb3))
    | (go_at_call 40; (first
        | ((with_reducible refine (H2.out _ ?hx).mono ?_); (case hx => exact HK3.out.1); rintro e W4 ⟨g4, B4, c4, rfl, q1, q3⟩; have HK4 := Lib.hid (And.intro (Row.below HK3.out.1 q3) (And.intro (Row.below HK3.out.2.1 q3) (And.intro (mine_below HK3.out.2.2.1 q3) (And.intro (mine_below HK3.out.2.2.2.1 q3) (And.intro q1 q3))))); clear q1 q3)
        | ((with_reducible refine (H2.out _ ?hx).mono ?_); (case hx => exact HK1.out.1); rintro e W2 ⟨g2, B2, c2, rfl, q1, q3⟩; have HK2 := Lib.hid (And.intro (Row.below HK1.out.1 q3) (And.intro (Row.below HK1.out.2.1 q3) (And.intro q1 q3))); clear q1 q3)))
    | go_in)
  have hord : 0 < S.length → (0 < l.length → g < g1) ∧ g1 < g2 ∧ g2 < g3 ∧ g3 < g4 ∧ w.heap.size ≤ g1 := fun hp => by
    have a1 := HK1.out.2.2.1 hp
    have a2 := HK2.out.2.2.1.new hp
    have a3 := HK3.out.2.2.2.1.new hp
    have a4 := HK4.out.2.2.2.2.1.new hp
    exact ⟨fun hl => by have := Row.lt HA.out hl; omega, by omega, by omega, by omega, by omega⟩
  have HB : Hid (Below w.heap.size w W4) := Lib.hid (by
    have b1 := HK1.out.2.2.2
    have b2 := b1.trans (HK2.out.2.2.2.mono b1.size)
    have b3 := b2.trans (HK3.out.2.2.2.2.mono b2.size)
    exact b3.trans (HK4.out.2.2.2.2.2.mono b3.size))
  have HX : Hid (WK W4 B2 g2 S.length (FR1 w W2.heap.size g A c l g1 B1 c1 g3 B3 c3 g4 B4 c4 S)) := Lib.hid ⟨mine_wr HK4.out.2.2.1, ⟨HK4.out.1, HK4.out.2.1, HK4.out.2.2.2.1, HK4.out.2.2.2.2.1.row, HB.out⟩⟩
  have HO := Lib.hid hord
  clear hord HB HK1 HK2 HK3 HK4 H1 H3
  go_loopw [7] (fun v wr => ∃ i : Nat, i ≤ S.length ∧ v = .int .i64 (i : Nat) ∧ Hid (WK wr B2 g2 S.length (FR1 w W2.heap.size g A c l g1 B1 c1 g3 B3 c3 g4 B4 c4 S))) (fun v _ => S.length - (intOf v).toNat)
  case atStart => exact ⟨0, Nat.zero_le _, rfl, HX⟩
  case round =>
    clear HX
    obtain ⟨i, hi, rfl, HW⟩ := hrel
    by_cases hin : i < S.length
    · have hlt : (i : Int) < (S.length : Int) := by omega
      have hwi : IntKind.i64.wrap ((i : Int) + 1) = ((i + 1 : Nat) : Int) := by rw [IntWalk.i64_in _ (by omega)]; rfl
      obtain ⟨old, rfl, cO, fO, hn2⟩ := HW.out.store hin (FR1.keep (HO.out (by omega))) ⟨#[119, 114, 105, 116, 116, 101, 110, 32, 111, 118, 101, 114]⟩
      have HN := Lib.hid hn2
      clear hn2
      go_wp2
      go_roundw
      case rel => exact ⟨i + 1, by omega, by go_num, HN⟩
      case measure => simp [intOf]; omega
    · have hlt : ¬ ((i : Int) < (S.length : Int)) := by omega
      go_wp2_with (first
        | (go_at_call 39; (first
          | ((with_reducible refine (same_as _ g4 g1 c4 c1 B4 B1 _ ?hx ?hy hS).mono ?_); (case hx => exact HZ1.out.r4); (case hy => exact HZ1.out.r1); rintro e _ ⟨rfl, ⟨n4, rfl⟩⟩; have HZ2 : Hid (FR1 w W2.heap.size g A c l g1 B1 c1 g3 B3 c3 g4 B4 c4 S ((wr.drewN n3).drewN n4)) := Lib.hid (HZ1.out.below (pw_below_drewN (Below.refl _ _) _)))
          | ((with_reducible refine (same_as _ g3 g1 c3 c1 B3 B1 _ ?hx ?hy hS).mono ?_); (case hx => exact HW.out.rs.r3.row); (case hy => exact HW.out.rs.r1); rintro e _ ⟨rfl, ⟨n3, rfl⟩⟩; have HZ1 : Hid (FR1 w W2.heap.size g A c l g1 B1 c1 g3 B3 c3 g4 B4 c4 S (wr.drewN n3)) := Lib.hid (HW.out.rs.below (pw_below_drewN (Below.refl _ _) _)))))
        | go_in)
      have HX2 : Hid (WK (wr.drewN (n3 + n4)) B3 g3 S.length (FR2 w g A c l g1 B1 c1 g4 B4 c4 S)) := Lib.hid (by have HZ := HW.out.rs.below (pw_below_drewN (Below.refl _ wr) (n3 + n4)); exact ⟨mine_wr HZ.r3, ⟨HZ.ra, HZ.r1, HZ.r4, HZ.bw⟩⟩)
      clear HZ1 HZ2 HW hlt hin hi
      go_loopw [8] (fun v wr => ∃ i : Nat, i ≤ S.length ∧ v = .int .i64 (i : Nat) ∧ Hid (WK wr B3 g3 S.length (FR2 w g A c l g1 B1 c1 g4 B4 c4 S))) (fun v _ => S.length - (intOf v).toNat)
      case atStart => exact ⟨0, Nat.zero_le _, rfl, HX2⟩
      case round =>
        clear HX2
        obtain ⟨i2, hi2, rfl, HW⟩ := hrel
        by_cases hin2 : i2 < S.length
        · have hlt2 : (i2 : Int) < (S.length : Int) := by omega
          have hwi : IntKind.i64.wrap ((i2 : Int) + 1) = ((i2 + 1 : Nat) : Int) := by rw [IntWalk.i64_in _ (by omega)]; rfl
          obtain ⟨old, rfl, cO, fO, hn2⟩ := HW.out.store hin2 (FR2.keep (HO.out (by omega))) ⟨#[111, 110, 99, 101, 32, 109, 111, 114, 101]⟩
          have HN := Lib.hid hn2
          clear hn2
          go_wp2
          go_roundw
          case rel => exact ⟨i2 + 1, by omega, by go_num, HN⟩
          case measure => simp [intOf]; omega
        · have hlt2 : ¬ ((i2 : Int) < (S.length : Int)) := by omega
          rename_i wq
          go_wp2_with (first
            | (go_at_call 39; (first
              | ((with_reducible refine (same_as _ g5 g1 c5 c1 B5 B1 _ ?hx ?hy hS).mono ?_); (case hx => exact HV5.out.2.1.row); (case hy => exact HV5.out.1); rintro e _ ⟨rfl, ⟨n6, rfl⟩⟩)
              | ((with_reducible refine (same_as _ g4 g1 c4 c1 B4 B1 _ ?hx ?hy hS).mono ?_); (case hx => exact HW.out.rs.r4); (case hy => exact HW.out.rs.r1); rintro e _ ⟨rfl, ⟨n5, rfl⟩⟩)))
            | (go_at_call 40; ((with_reducible refine (H2.out _ ?hx).mono ?_); (case hx => exact HW.out.rs.ra.on (fun _ => rfl)); rintro e W5 ⟨g5, B5, c5, rfl, q1, q3⟩; have HV5 := Lib.hid (And.intro (Row.below (show Row (wr.drewN n5) g1 B1 c1 S from HW.out.rs.r1.on (fun _ => rfl)) q3) (And.intro q1 ((pw_below_drewN HW.out.rs.bw n5).trans (q3.mono (pw_below_drewN HW.out.rs.bw n5).size)))); clear q1 q3))
            | go_in)
          go_ret
          exact ⟨rfl, by repeat (first | exact HV5.out.2.2 | apply pw_below_drewN | apply below_drew1)⟩
end Go.Proofs.Ytnflokhffmfifaa.CountWT
namespace Go.Proofs.Ytnflokhffmfifaa.CountWT
open Go.RowKit Go.Proofs.Ytnflokhffmfifaa.InEvT Go.Proofs.Ytnflokhffmfifaa.Blk Go.Proofs.Ytnflokhffmfifaa.Ris Go.Proofs.Ytnflokhffmfifaa.OfT Go.Proofs.Ytnflokhffmfifaa.Keys Go.Proofs.Ytnflokhffmfifaa.XV Go.Proofs.Ytnflokhffmfifaa.HeapPure Go.Proofs.Ytnflokhffmfifaa.HeapWT Go.Proofs.Ytnflokhffmfifaa.PostAlg Go.Proofs.YtnflokhffmfifaaW.PrintWords Go.Proofs.YtnflokhffmfifaaW.PrintLast Go.Proofs.YtnflokhffmfifaaW.PrintMore
def kH : Kd Hd := Kd.scalar Hd.v (fun _ => rfl)
theorem heads_C {W : World} {L : Option Addr} {Es : List Hd} (h : Heads W L Es) (hn : Es.length ≤ 1048576) : Kd.C kH W L Es.length Es := by
  refine ⟨rfl, by omega, fun hp => ?_⟩
  obtain ⟨r, o, rfl, _⟩ := h.head 0 hp
  refine ⟨_, rfl, fun j p hj => ⟨[p.v], rfl, rfl, fun i u hu => ?_⟩⟩
  have hjn : j < Es.length := (List.getElem?_eq_some_iff.1 hj).1
  have hi : i = 0 := by
    have := (List.getElem?_eq_some_iff.1 hu).1
    simpa using this
  subst hi
  obtain ⟨r', o', e, hc⟩ := h.head j hjn
  cases e
  rw [add_off]
  show W.cell? ⟨r, o + (j * 1 + 0), none⟩ = _
  rw [Nat.mul_one, Nat.add_zero, hc]
  have e2 : Es.getD j default = p := by simp [List.getD_eq_getElem?_getD, hj]
  rw [e2]
  simpa using hu
theorem heads_of_R {W : World} {b : Nat} {ok : Nat → Prop} {v : Value} {Ds : List Hd} (h : Kd.R kH 59 W b ok v ([] ++ Ds)) (hr : ∀ d ∈ Ds, Row W d.g d.A d.c d.l) : ∃ L c, v = .slice L Ds.length c ∧ Heads W L Ds := by
  have h0 := Kd.own_of_R h
  obtain ⟨L, c, e, _, hh⟩ := heads_own (ds := Ds) (by simpa [encs, kH, Kd.scalar] using h0) hr
  exact ⟨L, c, e, hh⟩
theorem getD_far {Es : List Hd} {i : Nat} (h : Es.length ≤ i) : (Es.getD i default).v = .slice none 0 0 := by
  rw [List.getD_eq_getElem?_getD, List.getElem?_eq_none h]
  rfl
set_option maxHeartbeats 16000000 in
set_option maxRecDepth 100000 in
theorem texts_walk (w : World) (c0 : Nat) (k : Int) (L : Option Addr) (Es : List Hd) (h : Heads w L Es) (hb : bulk Es ≤ 1048576) (hm : Es.length ≤ 1048576) :
    Calls Try.prog 8 #[.slice L Es.length c0, .int .i64 k] w fun e w' => e = .returned (.bool true) ∧ Below w.heap.size w w' := by
  obtain ⟨i0, hi, hz0, hz1, hz2⟩ := info_parts info22
  obtain ⟨⟨Aa, ca, ga, la⟩, ha⟩ : ∃ a, Es.getD 0 default = a := ⟨_, rfl⟩
  obtain ⟨⟨Ab, cb, gb, lb⟩, hbb⟩ : ∃ b, Es.getD 1 default = b := ⟨_, rfl⟩
  have hra := heads_get h 0
  have hrb := heads_get h 1
  have hla := bulk_get Es 0
  have hlb := bulk_get Es 1
  rw [ha] at hra hla
  rw [hbb] at hrb hlb
  simp only at hla hlb
  have hla' : la.length ≤ 1048576 := by omega
  have hlb' : lb.length ≤ 1048576 := by omega
  have hq1 : (setL ltS la).length ≤ 16777216 := by have := setL_len totS la; omega
  have hq2 : (union ltS (Es.map Hd.l)).length ≤ 16777216 := by have := al_len 1 Es; unfold union; omega
  have hq3 : (meet ltS (Es.map Hd.l)).length ≤ 16777216 := by have := meet_len Es; omega
  have hq4 : (atLeast ltS k (Es.map Hd.l)).length ≤ 16777216 := by have := al_len k Es; omega
  have hq5 : (minus ltS la lb).length ≤ 16777216 := by have := minus_len la lb; omega
  have hdl : ∀ d ∈ Es, d.l.length ≤ 1048576 := fun d hd => Nat.le_trans (bulk_mem d hd) hb
  have HP0 : Hid (PA w Es 0 [] (.slice none 0 0) w) := Lib.hid ⟨World.ownsRow_nil _ _ _ _, fun d hd => by simp at hd, rfl, Below.refl _ _⟩
  have HA := Lib.hid ha
  have HBB := Lib.hid hbb
  have HE := Lib.hid h
  have HRA := Lib.hid hra
  have HRB := Lib.hid hrb
  have HDL := Lib.hid hdl
  have HBK := Lib.hid hb
  generalize hrs : risB ltS la = ba
  have HRS := Lib.hid hrs
  have hbn : (ba != ba) = false := bne_self_eq_false ba
  clear h ha hbb hra hrb hla hlb hdl hb hrs
  go_enter Try.func8, Try.ntmps8
  go_wp2
  go_loopw [5, 6] (fun v5 v6 wr => ∃ (i : Nat) (ds : List Hd), i ≤ Es.length ∧ v6 = .int .i64 (i : Nat) ∧ Hid (PA w Es i ds v5 wr)) (fun _ v _ => Es.length - (intOf v).toNat)
  case atStart => exact ⟨0, [], Nat.zero_le _, rfl, HP0⟩
  case round =>
    clear HP0
    obtain ⟨i, ds, hi', rfl, HW⟩ := hrel
    by_cases hin : i < Es.length
    · have hlt : (i : Int) < (Es.length : Int) := by omega
      obtain ⟨lr, lo, rfl, hc⟩ := HE.out.head i hin
      have hbl := World.block_lt_of_cell? w _ hc
      have hcw := (HW.out.below.cell (p := ⟨lr, lo + i, none⟩) hbl).trans hc
      have hmem : Es.getD i default ∈ Es := by rw [← getElem_getD _ _ hin]; exact List.getElem_mem hin
      have hrow : Row wr (Es.getD i default).g (Es.getD i default).A (Es.getD i default).c (Es.getD i default).l := (HE.out.row _ hmem).on (fun hp => HW.out.below.block _ (Row.lt (HE.out.row _ hmem) hp))
      have hlen := HDL.out _ hmem
      obtain ⟨e, he⟩ : ∃ e, Es.getD i default = e := ⟨_, rfl⟩
      rw [he] at hcw hrow hlen hc
      unfold Hd.v at hcw hc
      have HEE := Lib.hid he
      have HR := Lib.hid hrow
      have HC := Lib.hid hc
      have hsz := HW.out.below.size
      have hown := HW.out.own
      have hml : i + 1 ≤ maxLen := by simp only [maxLen]; omega
      have ha1 : (0 + e.l.length) * 16 ≤ 140737488355328 := by omega
      have ha2 : ([] ++ e.l ++ [SP]).length * 16 ≤ 140737488355328 := by simp only [List.length_append, List.length_cons, List.length_nil]; omega
      clear hc hmem hrow he
      go_wp2_with (first
        | ((with_reducible refine gate_builtin (b := .append) (xs := #[.tmp 22, .tmp 26]) rfl ?_); at_builtin; refine Kd.R_append_rows Kd.string (w0 := wr) wr.heap.size rfl (.tmp 22) (.tmp 26) 59 9 (.string ⟨#[]⟩) 16 rfl Try.underlying59 info9 rfl (by decide) (by omega) (.slice none 0 0) ([] : List ByteArray) e.l _ _ _ (fun _ => True) (fun _ => False) rfl rfl ?aO ?aR (fun _ _ h => h) (fun _ h => h.elim) ?aF ?aB ?aS ?aL ?_; (case aR => exact Row.nums HR.out hlen); (case aB => exact Below.refl _ _); (case aF => exact (fun _ _ => trivial)); (case aO => exact Kd.R_nil _ _ _ _ _); (case aS => exact Nat.le_refl _); (case aL => first | exact ha1 | (simp only [List.length_nil]; omega)); intro v1 w1 ho hb hg hat; have HA1 := Lib.hid ho; have HB1 := Lib.hid hb; clear ho hb hg hat)
        | ((with_reducible refine gate_builtin (b := .append) (xs := #[.tmp 28, .tmp 29]) rfl ?_); at_builtin; refine Kd.R_append_rows Kd.string (w0 := wr) wr.heap.size rfl (.tmp 28) (.tmp 29) 59 9 (.string ⟨#[]⟩) 16 rfl Try.underlying59 info9 rfl (by decide) (by omega) v1 ([] ++ e.l) [SP] _ _ _ (fun _ => True) (fun _ => False) rfl rfl ?aO ?aR (fun _ _ h => h) (fun _ h => h.elim) ?aF ?aB ?aS ?aL ?_; (case aR => exact Row.nums (lit_row _ _) (by simp)); (case aB => exact HB1.out.alloc HB1.out.size _); (case aF => exact (fun _ _ => trivial)); (case aO => exact Kd.R_alloc HA1.out _); (case aS => rw [World.size_alloc]; have := HB1.out.size; omega); (case aL => first | exact ha2 | (simp only [List.length_append, List.length_cons, List.length_nil]; omega)); intro v2 w2 ho hb hg hat; obtain ⟨g, cap, cur, rfl, a1, a2, a3, a4, a5, a6⟩ := own_block (l := [] ++ e.l ++ [SP]) ho (by simp); simp only [List.nil_append] at a3 a6; have HB2 := Lib.hid hb; have hll : (e.l ++ [SP]).length = e.l.length + 1 := (by simp); have hcut := cut22 (some ⟨g, 0, none⟩) (e.l.length + 1) cap e.l.length (by omega) (by simpa using a3); have c2 := ((HW.out.below.trans (hb.mono hsz)).cell (p := ⟨lr, lo + i, none⟩) hbl).trans HC.out; have HSP := Lib.hid (spare_of (l := e.l) a2 a1 a3 a5 a6); have hsz2 := hb.size; have own2 := own_below hown hb; clear ho hb hg hat a1 a2 a3 a4 a5 a6 hll)
        | (at_builtin; refine wpList_append_own _ rfl (.tmp 31) (.tmp 39) 58 rfl w.heap.size 59 i0 (.slice none 0 0) 1 24 Try.underlying58 hi hz0 hz1 hz2 rfl (by decide) _ _ _ rfl (own2.alloc _) ⟨w2.heap.size, 0, none⟩ 1 1 [.slice (some ⟨g, 0, none⟩) e.l.length cap] rfl rfl (cell_one_new _ _ _) (by simp [Value.oneCell']) hml (by omega) (by rw [World.size_alloc]; omega) ?_; intro v3 w3 own3 grow3 _; have HQ := Lib.hid (PA.next (d := ⟨some ⟨g, 0, none⟩, cap, g, e.l⟩) HW.out hin HB2.out HSP.out (by rw [HEE.out]) grow3 own3); clear own3 grow3)
        | go_in)
      go_roundw
      case rel => exact ⟨i + 1, _, by omega, by go_num, HQ⟩
      case measure => simp [intOf]; omega
    · have hlt : ¬ ((i : Int) < (Es.length : Int)) := by omega
      obtain rfl : i = Es.length := by omega
      rename World => W1
      obtain ⟨L1, c1, rfl, hdl, q1⟩ := heads_own HW.out.own (fun d hd => (HW.out.row d hd).row)
      rename List Hd => Ds
      have q2 := HW.out.row
      have q3 := HW.out.maps
      have hB1 := HW.out.below
      rw [List.take_of_length_le (Nat.le_refl _)] at q3
      have hbk := Nat.le_trans (Nat.le_of_eq (bulk_maps q3)) HBK.out
      have HDN : Hid (Ds.length = Es.length) := Lib.hid (by simpa using congrArg List.length q3)
      obtain ⟨⟨Ac, cc, gc, lc⟩, hc⟩ : ∃ c, Ds.getD 0 default = c := ⟨_, rfl⟩
      obtain ⟨⟨Ad, cd, gd, ld⟩, hd⟩ : ∃ d, Ds.getD 1 default = d := ⟨_, rfl⟩
      have m0 := (maps_get q3 0).symm
      have m1 := (maps_get q3 1).symm
      have rc := heads_get q1 0
      have rd := heads_get q1 1
      rw [hc] at m0 rc
      rw [hd] at m1 rd
      rw [HA.out] at m0
      rw [HBB.out] at m1
      simp only at m0 m1 rc rd
      subst m0
      subst m1
      have HC := Lib.hid hc
      have HD := Lib.hid hd
      have HM := Lib.hid q3
      have HK1 := Lib.hid (And.intro q1 (And.intro q2 (And.intro rc (And.intro rd hB1))))
      have HBD := Lib.hid hbk
      have haL : (0 + Ds.length) * 24 ≤ 140737488355328 := by have := HDN.out; omega
      have hcD := heads_C q1 (by rw [HDN.out]; exact hm)
      clear q1 q2 q3 hc hd rc rd hB1 hbk HW hdl hlt hin hi'
      go_upto_if 46 with (first
        | ((with_reducible refine gate_builtin (b := .append) (xs := #[.tmp 41, .tmp 42]) rfl ?_); at_builtin; refine Kd.R_append_rows kH (w0 := W1) W1.heap.size rfl (.tmp 41) (.tmp 42) 58 59 (.slice none 0 0) 24 rfl Try.underlying58 info22 rfl (by decide) (by omega) (.slice none 0 0) ([] : List Hd) Ds _ _ _ (fun _ => True) (fun _ => False) rfl rfl ?aO ?aR (fun _ _ h => h) (fun _ h => h.elim) ?aF ?aB ?aS ?aL ?_; (case aR => exact hcD); (case aB => exact Below.refl _ _); (case aF => exact (fun _ _ => trivial)); (case aO => exact Kd.R_nil _ _ _ _ _); (case aS => exact Nat.le_refl _); (case aL => exact haL); intro v1 W2 ho hb _ _; obtain ⟨L2, c2, rfl, q1⟩ := heads_of_R ho (fun d hd => (HK1.out.1.row d hd).below hb); have HK2 : Hid (SK w w.heap.size L L1 L2 Es Ds Aa Ab Ac Ad ca cb cc cd ga gb gc gd la lb W2) := Lib.hid ⟨HE.out.below (HK1.out.2.2.2.2.trans (hb.mono HK1.out.2.2.2.2.size)), HK1.out.1.below hb, q1, fun d hd => (HK1.out.2.1 d hd).on (hb.block _ (HK1.out.2.1 d hd).lt), HRA.out.below (HK1.out.2.2.2.2.trans (hb.mono HK1.out.2.2.2.2.size)), HRB.out.below (HK1.out.2.2.2.2.trans (hb.mono HK1.out.2.2.2.2.size)), HK1.out.2.2.1.below hb, HK1.out.2.2.2.1.below hb, HK1.out.2.2.2.2.trans (hb.mono HK1.out.2.2.2.2.size)⟩; clear ho hb q1)
        | go_in)
      go_cut [9, 11] (fun v9 v11 wc => v9 = (Es.getD 0 default).v ∧ v11 = (Ds.getD 0 default).v ∧ Hid (SK w w.heap.size L L1 L2 Es Ds Aa Ab Ac Ad ca cb cc cd ga gb gc gd la lb wc))
      case first =>
        by_cases hp : 0 < Es.length
        · have hp2 : 0 < Ds.length := by rw [HDN.out]; exact hp
          have hgt : ((0 : Nat) : Int) < (Es.length : Int) := by omega
          have hgt2 : ((0 : Nat) : Int) < (Ds.length : Int) := by omega
          have hgt3 : (0 : Int) < (Es.length : Int) := by omega
          have hgt4 : (0 : Int) < (Ds.length : Int) := by omega
          obtain ⟨r8, o8, rfl, hd8⟩ := HK2.out.hE.head 0 hp
          obtain ⟨r9, o9, rfl, hd9⟩ := HK2.out.h1.head 0 hp2
          have hc8 : W2.cell? ⟨r8, o8, none⟩ = some (Es.getD 0 default).v := hd8
          have hc9 : W2.cell? ⟨r9, o9, none⟩ = some (Ds.getD 0 default).v := hd9
          obtain ⟨e8, h8⟩ : ∃ e, e = (Es.getD 0 default).v := ⟨_, rfl⟩
          obtain ⟨e9, h9⟩ : ∃ e, e = (Ds.getD 0 default).v := ⟨_, rfl⟩
          rw [← h8] at hc8
          rw [← h9] at hc9
          have H8 := Lib.hid h8
          have H9 := Lib.hid h9
          clear hp hp2 h8 h9 hd8 hd9
          go_wp2
          go_meet
          case rel => exact ⟨H8.out, H9.out, Lib.hid (HK2.out.on (by repeat (first | exact Below.refl _ _ | apply pw_below_drewN | apply below_drew1)))⟩
        · have hgt : ¬ ((0 : Nat) : Int) < (Es.length : Int) := by omega
          have hgt3 : ¬ (0 : Int) < (Es.length : Int) := by omega
          have hz8 : (Es.getD 0 default).v = .slice none 0 0 := getD_far (by omega)
          have hz9 : (Ds.getD 0 default).v = .slice none 0 0 := getD_far (by rw [HDN.out]; omega)
          have H8 := Lib.hid hz8
          have H9 := Lib.hid hz9
          clear hp hz8 hz9
          go_wp2
          go_meet
          case rel => exact ⟨H8.out.symm, H9.out.symm, Lib.hid (HK2.out.on (by repeat (first | exact Below.refl _ _ | apply pw_below_drewN | apply below_drew1)))⟩
      case rest =>
      rename World => W9
      obtain ⟨rfl, rfl, HK9⟩ := hcut
      clear HK2 HK1 hcD haL
      go_upto_if 55 with (fail)
      go_cut [10, 12] (fun v9 v11 wc => v9 = (Es.getD 1 default).v ∧ v11 = (Ds.getD 1 default).v ∧ Hid (SK w w.heap.size L L1 L2 Es Ds Aa Ab Ac Ad ca cb cc cd ga gb gc gd la lb wc))
      case first =>
        by_cases hp : 1 < Es.length
        · have hp2 : 1 < Ds.length := by rw [HDN.out]; exact hp
          have hgt : ((1 : Nat) : Int) < (Es.length : Int) := by omega
          have hgt2 : ((1 : Nat) : Int) < (Ds.length : Int) := by omega
          have hgt3 : (1 : Int) < (Es.length : Int) := by omega
          have hgt4 : (1 : Int) < (Ds.length : Int) := by omega
          obtain ⟨r8, o8, rfl, hd8⟩ := HK9.out.hE.head 1 hp
          obtain ⟨r9, o9, rfl, hd9⟩ := HK9.out.h1.head 1 hp2
          have hc8 : W9.cell? ⟨r8, o8 + 1, none⟩ = some (Es.getD 1 default).v := hd8
          have hc9 : W9.cell? ⟨r9, o9 + 1, none⟩ = some (Ds.getD 1 default).v := hd9
          obtain ⟨e8, h8⟩ : ∃ e, e = (Es.getD 1 default).v := ⟨_, rfl⟩
          obtain ⟨e9, h9⟩ : ∃ e, e = (Ds.getD 1 default).v := ⟨_, rfl⟩
          rw [← h8] at hc8
          rw [← h9] at hc9
          have H8 := Lib.hid h8
          have H9 := Lib.hid h9
          clear hp hp2 h8 h9 hd8 hd9
          go_wp2
          go_meet
          case rel => exact ⟨H8.out, H9.out, Lib.hid (HK9.out.on (by repeat (first | exact Below.refl _ _ | apply pw_below_drewN | apply below_drew1)))⟩
        · have hgt : ¬ ((1 : Nat) : Int) < (Es.length : Int) := by omega
          have hgt3 : ¬ (1 : Int) < (Es.length : Int) := by omega
          have hz8 : (Es.getD 1 default).v = .slice none 0 0 := getD_far (by omega)
          have hz9 : (Ds.getD 1 default).v = .slice none 0 0 := getD_far (by rw [HDN.out]; omega)
          have H8 := Lib.hid hz8
          have H9 := Lib.hid hz9
          clear hp hz8 hz9
          go_wp2
          go_meet
          case rel => exact ⟨H8.out.symm, H9.out.symm, Lib.hid (HK9.out.on (by repeat (first | exact Below.refl _ _ | apply pw_below_drewN | apply below_drew1)))⟩
      case rest =>
      clear HK9
      rename World => W2
      obtain ⟨rfl, rfl, HK2⟩ := hcut
      rw [HA.out, HC.out, HBB.out, HD.out]
      unfold Hd.v
      go_wp2_with (first
        | (go_at_call 40; ((with_reducible refine (of_got _ gc Ac cc la ?hx hla').mono ?_); (case hx => exact HK2.out.rc.below (by repeat (first | exact Below.refl _ _ | apply pw_below_drewN | apply below_drew1))); rintro e W3 ⟨g3, B3, b3, rfl, q1, _, hb⟩; have hb1 : Below W2.heap.size W2 W3 := (by repeat (first | exact hb | apply undrewN | apply undrew1)); have HK3 := Lib.hid (HK2.out.on hb1); have HQ3 := Lib.hid q1; clear q1 hb hb1))
        | (go_at_call 41; ((with_reducible refine (rsorted_got _ ga Aa ca la ?hx hla').mono ?_); (case hx => exact HK3.out.ra.below (by repeat (first | exact Below.refl _ _ | apply pw_below_drewN | apply below_drew1))); rintro e W4 ⟨g4, B4, b4, rfl, q1, _, hb⟩; have hb1 : Below W3.heap.size W3 W4 := (by repeat (first | exact hb | apply undrewN | apply undrew1)); have HK4 := Lib.hid (HK3.out.on hb1); have HR4 := Lib.hid (And.intro (Row.below HQ3.out hb1) q1); clear q1 hb hb1))
        | (go_at_call 42; ((with_reducible refine (rising_is _ gc Ac cc la ba HRS.out ?hx hla').mono ?_); (case hx => exact HK4.out.rc.below (by repeat (first | exact Below.refl _ _ | apply pw_below_drewN | apply below_drew1))); rintro e _ ⟨rfl, ⟨n3, rfl⟩⟩))
        | (go_at_call 43; ((with_reducible refine (rrising_is _ ga Aa ca la ba HRS.out ?hx hla').mono ?_); (case hx => exact HK4.out.ra.below (by repeat (first | exact Below.refl _ _ | apply pw_below_drewN | apply below_drew1))); rintro e W5 ⟨rfl, hb⟩; have HK5 := Lib.hid (HK4.out.on (show Below W4.heap.size W4 W5 from (by repeat (first | exact hb | apply undrewN | apply undrew1)))); clear hb))
        | (go_at_call 44; ((with_reducible refine (union_is _ c1 L1 Ds Es HM.out ?hx HBK.out hm).mono ?_); (case hx => exact HK5.out.h1.below (by repeat (first | exact Below.refl _ _ | apply pw_below_drewN | apply below_drew1))); rintro e W6 ⟨g6, B6, b6, rfl, q1, _, hb⟩; have hb1 : Below W5.heap.size W5 W6 := (by repeat (first | exact hb | apply undrewN | apply undrew1)); have HK6 := Lib.hid (HK5.out.on hb1); have HQ6 := Lib.hid q1; clear q1 hb hb1))
        | (go_at_call 46; ((with_reducible refine (meet_is _ c1 L1 Ds Es HM.out ?hx HBK.out hm).mono ?_); (case hx => exact HK7.out.h1.below (by repeat (first | exact Below.refl _ _ | apply pw_below_drewN | apply below_drew1))); rintro e W8 ⟨g8, B8, b8, rfl, q1, _, hb⟩; have hb1 : Below W7.heap.size W7 W8 := (by repeat (first | exact hb | apply undrewN | apply undrew1)); have HK8 := Lib.hid (HK7.out.on hb1); have HQ8 := Lib.hid q1; clear q1 hb hb1))
        | (go_at_call 47; ((with_reducible refine (rmeet_as _ c0 L Es ?hx HBK.out hm).mono ?_); (case hx => exact HK8.out.hE.below (by repeat (first | exact Below.refl _ _ | apply pw_below_drewN | apply below_drew1))); rintro e W9 ⟨g9, B9, b9, rfl, q1, _, hb⟩; have hb1 : Below W8.heap.size W8 W9 := (by repeat (first | exact hb | apply undrewN | apply undrew1)); have HK9 := Lib.hid (HK8.out.on hb1); have HR9 := Lib.hid (And.intro (Row.below HQ8.out hb1) q1); clear q1 hb hb1))
        | (go_at_call 45; (first
            | ((with_reducible refine (ratleast_as _ k c0 L Es ?hx HBK.out hm).mono ?_); (case hx => exact HK10.out.hE.below (by repeat (first | exact Below.refl _ _ | apply pw_below_drewN | apply below_drew1))); rintro e W11 ⟨g11, B11, b11, rfl, q1, _, hb⟩; have hb1 : Below W10.heap.size W10 W11 := (by repeat (first | exact hb | apply undrewN | apply undrew1)); have HK11 := Lib.hid (HK10.out.on hb1); have HR11 := Lib.hid (And.intro (Row.below HQ10.out hb1) q1); clear q1 hb hb1)
            | ((with_reducible refine (runion_as _ c0 L Es ?hx HBK.out hm).mono ?_); (case hx => exact HK6.out.hE.below (by repeat (first | exact Below.refl _ _ | apply pw_below_drewN | apply below_drew1))); rintro e W7 ⟨g7, B7, b7, rfl, q1, _, hb⟩; have hb1 : Below W6.heap.size W6 W7 := (by repeat (first | exact hb | apply undrewN | apply undrew1)); have HK7 := Lib.hid (HK6.out.on hb1); have HR7 := Lib.hid (And.intro (Row.below HQ6.out hb1) q1); clear q1 hb hb1)
            ))
        | (go_at_call 48; ((with_reducible refine (atleast_is _ c1 L1 Ds Es HM.out ?hx HBK.out hm k).mono ?_); (case hx => exact HK9.out.h1.below (by repeat (first | exact Below.refl _ _ | apply pw_below_drewN | apply below_drew1))); rintro e W10 ⟨g10, B10, b10, rfl, q1, _, hb⟩; have hb1 : Below W9.heap.size W9 W10 := (by repeat (first | exact hb | apply undrewN | apply undrew1)); have HK10 := Lib.hid (HK9.out.on hb1); have HQ10 := Lib.hid q1; clear q1 hb hb1))
        | (go_at_call 49; ((with_reducible refine (minus_as _ gc gd cc cd Ac Ad la lb ?hx ?hy hla' hlb').mono ?_); (case hx => exact HK11.out.rc.below (by repeat (first | exact Below.refl _ _ | apply pw_below_drewN | apply below_drew1))); (case hy => exact HK11.out.rd.below (by repeat (first | exact Below.refl _ _ | apply pw_below_drewN | apply below_drew1))); rintro e W12 ⟨g12, B12, b12, rfl, q1, _, hb⟩; have hb1 : Below W11.heap.size W11 W12 := (by repeat (first | exact hb | apply undrewN | apply undrew1)); have HK12 := Lib.hid (HK11.out.on hb1); have HQ12 := Lib.hid q1; clear q1 hb hb1))
        | (go_at_call 50; ((with_reducible refine (rminus_as _ ga gb ca cb Aa Ab la lb ?hx ?hy hla' hlb').mono ?_); (case hx => exact HK12.out.ra.below (by repeat (first | exact Below.refl _ _ | apply pw_below_drewN | apply below_drew1))); (case hy => exact HK12.out.rb.below (by repeat (first | exact Below.refl _ _ | apply pw_below_drewN | apply below_drew1))); rintro e W13 ⟨g13, B13, b13, rfl, q1, _, hb⟩; have hb1 : Below W12.heap.size W12 W13 := (by repeat (first | exact hb | apply undrewN | apply undrew1)); have HK13 := Lib.hid (HK12.out.on hb1); have HR13 := Lib.hid (And.intro (Row.below HQ12.out hb1) q1); clear q1 hb hb1))
        | (go_at_call 39; (first
            | ((with_reducible refine (same_as _ g3 g4 b3 b4 B3 B4 _ ?hx ?hy hq1).mono ?_); (case hx => exact Row.below HR4.out.1 (by repeat (first | exact Below.refl _ _ | apply pw_below_drewN | apply below_drew1))); (case hy => exact Row.below HR4.out.2 (by repeat (first | exact Below.refl _ _ | apply pw_below_drewN | apply below_drew1))); rintro e _ ⟨rfl, ⟨m4, rfl⟩⟩)
            | ((with_reducible refine (same_as _ g6 g7 b6 b7 B6 B7 _ ?hx ?hy hq2).mono ?_); (case hx => exact Row.below HR7.out.1 (by repeat (first | exact Below.refl _ _ | apply pw_below_drewN | apply below_drew1))); (case hy => exact Row.below HR7.out.2 (by repeat (first | exact Below.refl _ _ | apply pw_below_drewN | apply below_drew1))); rintro e _ ⟨rfl, ⟨m7, rfl⟩⟩)
            | ((with_reducible refine (same_as _ g8 g9 b8 b9 B8 B9 _ ?hx ?hy hq3).mono ?_); (case hx => exact Row.below HR9.out.1 (by repeat (first | exact Below.refl _ _ | apply pw_below_drewN | apply below_drew1))); (case hy => exact Row.below HR9.out.2 (by repeat (first | exact Below.refl _ _ | apply pw_below_drewN | apply below_drew1))); rintro e _ ⟨rfl, ⟨m9, rfl⟩⟩)
            | ((with_reducible refine (same_as _ g10 g11 b10 b11 B10 B11 _ ?hx ?hy hq4).mono ?_); (case hx => exact Row.below HR11.out.1 (by repeat (first | exact Below.refl _ _ | apply pw_below_drewN | apply below_drew1))); (case hy => exact Row.below HR11.out.2 (by repeat (first | exact Below.refl _ _ | apply pw_below_drewN | apply below_drew1))); rintro e _ ⟨rfl, ⟨m11, rfl⟩⟩)
            | ((with_reducible refine (same_as _ g12 g13 b12 b13 B12 B13 _ ?hx ?hy hq5).mono ?_); (case hx => exact Row.below HR13.out.1 (by repeat (first | exact Below.refl _ _ | apply pw_below_drewN | apply below_drew1))); (case hy => exact Row.below HR13.out.2 (by repeat (first | exact Below.refl _ _ | apply pw_below_drewN | apply below_drew1))); rintro e _ ⟨rfl, ⟨m13, rfl⟩⟩)
            ))
        | go_in)
      go_loopw [13] (fun v wr => ∃ i : Nat, i ≤ Es.length ∧ v = .int .i64 (i : Nat) ∧ Hid (SK w w.heap.size L L1 L2 Es Ds Aa Ab Ac Ad ca cb cc cd ga gb gc gd la lb wr)) (fun v _ => Es.length - (intOf v).toNat)
      case atStart => exact ⟨0, Nat.zero_le _, rfl, Lib.hid (HK13.out.on (by repeat (first | exact Below.refl _ _ | apply pw_below_drewN | apply below_drew1)))⟩
      case round =>
        clear HK2 HK3 HK4 HK5 HK6 HK7 HK8 HK10 HK11 HK12 HK13 HQ3 HQ6 HQ8 HQ10 HQ12 HR4 HR7 HR9 HR11 HR13
        obtain ⟨i, hi, rfl, HW⟩ := hrel
        by_cases hin : i < Es.length
        · have hlt : (i : Int) < (Es.length : Int) := by omega
          have hin1 : i < Ds.length := by rw [HDN.out]; exact hin
          have hltd : (i : Int) < (Ds.length : Int) := by omega
          obtain ⟨ro, oo, rfl, co⟩ := HW.out.h1.head i hin1
          obtain ⟨rh, oh, rfl, ch⟩ := HW.out.h2.head i hin1
          obtain ⟨ri, oi, rfl, ci⟩ := HW.out.hE.head i hin
          have md : Ds.getD i default ∈ Ds := by rw [← getElem_getD _ _ hin1]; exact List.getElem_mem hin1
          have me : Es.getD i default ∈ Es := by rw [← getElem_getD _ _ hin]; exact List.getElem_mem hin
          have sp := HW.out.sp _ md
          have re := HW.out.hE.row _ me
          have le := HDL.out _ me
          have hll := maps_get HM.out i
          generalize Ds.getD i default = d at co ch sp hll
          generalize Es.getD i default = e at ci re le hll
          obtain ⟨eA, ec, eg, l⟩ := e
          obtain ⟨dA, dc, g, l'⟩ := d
          simp only at hll le re
          subst hll
          obtain ⟨rd, hA, hcap, cs, _, _⟩ := sp
          simp only at rd hA hcap cs
          subst hA
          unfold Hd.v at co ch ci
          simp only at co ch ci
          have HR := Lib.hid (And.intro rd re)
          have hw1 : IntKind.i64.wrap ((l'.length : Int) + 1) = ((l'.length + 1 : Nat) : Int) := (i64_w _).trans (by unfold wrap64; omega)
          have hup := cutup22 ⟨g, 0, none⟩ l'.length dc (l'.length + 1) hcap
          have hdn := cut22 (some ⟨g, 0, none⟩) (l'.length + 1) dc l'.length (by omega) hcap
          have hlt2 : (l'.length : Int) < ((l'.length + 1 : Nat) : Int) := by omega
          have hlt3 : (l'.length : Int) < (l'.length : Int) + 1 := by omega
          have hge : (0 : Int) ≤ (l'.length : Int) := by omega
          clear rd re
          go_wp2
          refine start_ (n := 28) (S := fun w' => w'.cell? ⟨ro, oo + i, none⟩ = some (.slice (some ⟨g, 0, none⟩) l'.length dc) ∧ w'.cell? ⟨ri, oi + i, none⟩ = some (.slice eA l'.length ec) ∧ w'.cell? ⟨g, l'.length, none⟩ = some (.string ⟨#[115, 112, 97, 114, 101]⟩)) (ds := []) #[false, false, false, false, false, false, false, false, false, false, false, false, false, false, false, false, false, false, false, false, false, false, false, false, false, false, false, false] (by kernel_rfl) rfl rfl ⟨co, ci, cs⟩ (fun hHeld => ?_)
          refine pure_ (i := 0) (N := some 125) (v := ?_) (a' := ?_) #[true, false, false, false, false, false, false, false, false, false, false, false, false, false, false, false, false, false, false, false, false, false, false, false, false, false, false, false] rfl rfl (by kernel_rfl) (fun _ _ _ h => h) (Or.inl ⟨by rfl, ?_⟩) ?_ ?_
          rotate_left
          · intro w'
            go_simp
            with_reducible rfl
          rotate_left
          · simp only [Act.put, List.setIfInBounds_toArray, List.set_cons_zero, List.set_cons_succ, i64_w, i32_w]
            rfl
          refine pure_ (i := 1) (N := some 126) (v := ?_) (a' := ?_) #[true, true, false, false, false, false, false, false, false, false, false, false, false, false, false, false, false, false, false, false, false, false, false, false, false, false, false, false] rfl rfl (by kernel_rfl) (fun _ _ _ h => h) (Or.inl ⟨by rfl, ?_⟩) ?_ ?_
          rotate_left
          · intro w'
            go_simp
            with_reducible rfl
          rotate_left
          · simp only [Act.put, List.setIfInBounds_toArray, List.set_cons_zero, List.set_cons_succ, i64_w, i32_w]
            rfl
          refine pure_ (i := 2) (N := some 127) (v := ?_) (a' := ?_) #[true, true, true, false, false, false, false, false, false, false, false, false, false, false, false, false, false, false, false, false, false, false, false, false, false, false, false, false] rfl rfl (by kernel_rfl) (fun _ _ _ h => h) (Or.inl ⟨by rfl, ?_⟩) ?_ ?_
          rotate_left
          · intro w'
            go_simp
            with_reducible rfl
          rotate_left
          · simp only [Act.put, List.setIfInBounds_toArray, List.set_cons_zero, List.set_cons_succ, i64_w, i32_w]
            rfl
          refine pure_ (i := 4) (N := some 129) (v := ?_) (a' := ?_) #[true, true, true, false, true, false, false, false, false, false, false, false, false, false, false, false, false, false, false, false, false, false, false, false, false, false, false, false] rfl rfl (by kernel_rfl) (fun _ _ _ h => h) (Or.inl ⟨by rfl, ?_⟩) ?_ ?_
          rotate_left
          · intro w'
            go_simp
            with_reducible rfl
          rotate_left
          · simp only [Act.put, List.setIfInBounds_toArray, List.set_cons_zero, List.set_cons_succ, i64_w, i32_w]
            rfl
          refine pure_ (i := 5) (N := some 130) (v := ?_) (a' := ?_) #[true, true, true, false, true, true, false, false, false, false, false, false, false, false, false, false, false, false, false, false, false, false, false, false, false, false, false, false] rfl rfl (by kernel_rfl) (fun _ _ _ h => h) (Or.inl ⟨by rfl, ?_⟩) ?_ ?_
          rotate_left
          · intro w'
            go_simp
            with_reducible rfl
          rotate_left
          · simp only [Act.put, List.setIfInBounds_toArray, List.set_cons_zero, List.set_cons_succ, i64_w, i32_w]
            rfl
          refine pure_ (i := 6) (N := some 131) (v := ?_) (a' := ?_) #[true, true, true, false, true, true, true, false, false, false, false, false, false, false, false, false, false, false, false, false, false, false, false, false, false, false, false, false] rfl rfl (by kernel_rfl) (fun _ _ _ h => h) (Or.inl ⟨by rfl, ?_⟩) ?_ ?_
          rotate_left
          · intro w'
            go_simp
            with_reducible rfl
          rotate_left
          · simp only [Act.put, List.setIfInBounds_toArray, List.set_cons_zero, List.set_cons_succ, i64_w, i32_w]
            rfl
          refine take_ (i := 3) (N := some 128) (v := ?_) (a' := ?_) #[true, true, true, true, true, true, true, false, false, false, false, false, false, false, false, false, false, false, false, false, false, false, false, false, false, false, false, false] rfl rfl (by kernel_rfl) (fun _ _ _ h => h) (Or.inl ⟨by rfl, ?_⟩) hHeld ?_ ?_
          rotate_left
          · rintro w' ⟨s0, s1, s2⟩
            go_simp
            with_reducible rfl
          rotate_left
          · simp only [Act.put, List.setIfInBounds_toArray, List.set_cons_zero, List.set_cons_succ, i64_w, i32_w]
            rfl
          refine take_ (i := 7) (N := some 132) (v := ?_) (a' := ?_) #[true, true, true, true, true, true, true, true, false, false, false, false, false, false, false, false, false, false, false, false, false, false, false, false, false, false, false, false] rfl rfl (by kernel_rfl) (fun _ _ _ h => h) (Or.inl ⟨by rfl, ?_⟩) hHeld ?_ ?_
          rotate_left
          · rintro w' ⟨s0, s1, s2⟩
            go_simp
            with_reducible rfl
          rotate_left
          · simp only [Act.put, List.setIfInBounds_toArray, List.set_cons_zero, List.set_cons_succ, i64_w, i32_w]
            rfl
          refine one_ (i := 8) (N := some 133) #[true, true, true, true, true, true, true, true, true, false, false, false, false, false, false, false, false, false, false, false, false, false, false, false, false, false, false, false] rfl rfl (by kernel_rfl) (by decide) (fun K hK => ?_)
          refine goes_ Try.func39 (by kernel_rfl) rfl #[.slice (some ⟨g, 0, none⟩) l'.length dc, .slice eA l'.length ec] (by rfl) rfl rfl (by simp only [List.map_toArray, List.map_cons, List.map_nil]; rfl) ?_
          with_reducible refine (same_as _ g eg dc ec (some ⟨g, 0, none⟩) eA l' (by exact HR.out.1.on (fun _ => rfl)) (by exact HR.out.2.on (fun _ => rfl)) (by omega)).mono ?_
          rintro e _ ⟨rfl, ⟨n1, rfl⟩⟩
          refine ⟨_, rfl, ?_⟩
          refine hK.out _ _ ⟨hHeld.1, hHeld.2.1, hHeld.2.2⟩ (fun hHeld => ?_)
          clear hK K
          refine norm_ (a' := ?_) ?_ ?_
          rotate_left
          · show Act.put _ (some 133) _ = _
            simp only [Act.put, List.setIfInBounds_toArray, List.set_cons_zero, List.set_cons_succ, i64_w, i32_w]
            rfl
          refine pure_ (i := 9) (N := some 134) (v := ?_) (a' := ?_) #[true, true, true, true, true, true, true, true, true, true, false, false, false, false, false, false, false, false, false, false, false, false, false, false, false, false, false, false] rfl rfl (by kernel_rfl) (fun _ _ _ h => h) (Or.inl ⟨by rfl, ?_⟩) ?_ ?_
          rotate_left
          · intro w'
            go_simp
            with_reducible rfl
          rotate_left
          · simp only [Act.put, List.setIfInBounds_toArray, List.set_cons_zero, List.set_cons_succ, i64_w, i32_w]
            rfl
          refine pure_ (i := 10) (N := some 135) (v := ?_) (a' := ?_) #[true, true, true, true, true, true, true, true, true, true, true, false, false, false, false, false, false, false, false, false, false, false, false, false, false, false, false, false] rfl rfl (by kernel_rfl) (fun _ _ _ h => h) (Or.inl ⟨by rfl, ?_⟩) ?_ ?_
          rotate_left
          · intro w'
            go_simp
            with_reducible rfl
          rotate_left
          · simp only [Act.put, List.setIfInBounds_toArray, List.set_cons_zero, List.set_cons_succ, i64_w, i32_w]
            rfl
          refine pure_ (i := 11) (N := some 136) (v := ?_) (a' := ?_) #[true, true, true, true, true, true, true, true, true, true, true, true, false, false, false, false, false, false, false, false, false, false, false, false, false, false, false, false] rfl rfl (by kernel_rfl) (fun _ _ _ h => h) (Or.inl ⟨by rfl, ?_⟩) ?_ ?_
          rotate_left
          · intro w'
            go_simp
            with_reducible rfl
          rotate_left
          · simp only [Act.put, List.setIfInBounds_toArray, List.set_cons_zero, List.set_cons_succ, i64_w, i32_w]
            rfl
          refine pure_ (i := 12) (N := some 137) (v := ?_) (a' := ?_) #[true, true, true, true, true, true, true, true, true, true, true, true, true, false, false, false, false, false, false, false, false, false, false, false, false, false, false, false] rfl rfl (by kernel_rfl) (fun _ _ _ h => h) (Or.inl ⟨by rfl, ?_⟩) ?_ ?_
          rotate_left
          · intro w'
            go_simp
            with_reducible rfl
          rotate_left
          · simp only [Act.put, List.setIfInBounds_toArray, List.set_cons_zero, List.set_cons_succ, i64_w, i32_w]
            rfl
          refine pure_ (i := 13) (N := some 138) (v := ?_) (a' := ?_) #[true, true, true, true, true, true, true, true, true, true, true, true, true, true, false, false, false, false, false, false, false, false, false, false, false, false, false, false] rfl rfl (by kernel_rfl) (fun _ _ _ h => h) (Or.inl ⟨by rfl, ?_⟩) ?_ ?_
          rotate_left
          · intro w'
            go_simp
            with_reducible rfl
          rotate_left
          · simp only [Act.put, List.setIfInBounds_toArray, List.set_cons_zero, List.set_cons_succ, i64_w, i32_w]
            rfl
          refine pure_ (i := 14) (N := some 139) (v := ?_) (a' := ?_) #[true, true, true, true, true, true, true, true, true, true, true, true, true, true, true, false, false, false, false, false, false, false, false, false, false, false, false, false] rfl rfl (by kernel_rfl) (fun _ _ _ h => h) (Or.inl ⟨by rfl, ?_⟩) ?_ ?_
          rotate_left
          · intro w'
            go_simp
            with_reducible rfl
          rotate_left
          · simp only [Act.put, List.setIfInBounds_toArray, List.set_cons_zero, List.set_cons_succ, i64_w, i32_w]
            rfl
          refine pure_ (i := 15) (N := some 140) (v := ?_) (a' := ?_) #[true, true, true, true, true, true, true, true, true, true, true, true, true, true, true, true, false, false, false, false, false, false, false, false, false, false, false, false] rfl rfl (by kernel_rfl) (fun _ _ _ h => h) (Or.inl ⟨by rfl, ?_⟩) ?_ ?_
          rotate_left
          · intro w'
            go_simp
            with_reducible rfl
          rotate_left
          · simp only [Act.put, List.setIfInBounds_toArray, List.set_cons_zero, List.set_cons_succ, i64_w, i32_w]
            rfl
          refine pure_ (i := 16) (N := some 141) (v := ?_) (a' := ?_) #[true, true, true, true, true, true, true, true, true, true, true, true, true, true, true, true, true, false, false, false, false, false, false, false, false, false, false, false] rfl rfl (by kernel_rfl) (fun _ _ _ h => h) (Or.inl ⟨by rfl, ?_⟩) ?_ ?_
          rotate_left
          · intro w'
            go_simp
            with_reducible rfl
          rotate_left
          · simp only [Act.put, List.setIfInBounds_toArray, List.set_cons_zero, List.set_cons_succ, i64_w, i32_w]
            rfl
          refine take_ (i := 17) (N := some 142) (v := ?_) (a' := ?_) #[true, true, true, true, true, true, true, true, true, true, true, true, true, true, true, true, true, true, false, false, false, false, false, false, false, false, false, false] rfl rfl (by kernel_rfl) (fun _ _ _ h => h) (Or.inl ⟨by rfl, ?_⟩) hHeld ?_ ?_
          rotate_left
          · rintro w' ⟨s0, s1, s2⟩
            go_simp
            with_reducible rfl
          rotate_left
          · simp only [Act.put, List.setIfInBounds_toArray, List.set_cons_zero, List.set_cons_succ, i64_w, i32_w]
            rfl
          refine one_ (i := 18) (N := some 143) #[true, true, true, true, true, true, true, true, true, true, true, true, true, true, true, true, true, true, true, false, false, false, false, false, false, false, false, false] rfl rfl (by kernel_rfl) (by decide) (fun K hK => ?_)
          refine goes_ Try.func39 (by kernel_rfl) rfl #[.slice (some ⟨g, 0, none⟩) l'.length dc, .slice eA l'.length ec] (by rfl) rfl rfl (by simp only [List.map_toArray, List.map_cons, List.map_nil]; rfl) ?_
          with_reducible refine (same_as _ g eg dc ec (some ⟨g, 0, none⟩) eA l' (by exact HR.out.1.on (fun _ => rfl)) (by exact HR.out.2.on (fun _ => rfl)) (by omega)).mono ?_
          rintro e _ ⟨rfl, ⟨n2, rfl⟩⟩
          refine ⟨_, rfl, ?_⟩
          refine hK.out _ _ ⟨hHeld.1, hHeld.2.1, hHeld.2.2⟩ (fun hHeld => ?_)
          clear hK K
          refine norm_ (a' := ?_) ?_ ?_
          rotate_left
          · show Act.put _ (some 143) _ = _
            simp only [Act.put, List.setIfInBounds_toArray, List.set_cons_zero, List.set_cons_succ, i64_w, i32_w]
            rfl
          refine pure_ (i := 19) (N := some 144) (v := ?_) (a' := ?_) #[true, true, true, true, true, true, true, true, true, true, true, true, true, true, true, true, true, true, true, true, false, false, false, false, false, false, false, false] rfl rfl (by kernel_rfl) (fun _ _ _ h => h) (Or.inl ⟨by rfl, ?_⟩) ?_ ?_
          rotate_left
          · intro w'
            go_simp
            with_reducible rfl
          rotate_left
          · simp only [Act.put, List.setIfInBounds_toArray, List.set_cons_zero, List.set_cons_succ, i64_w, i32_w]
            rfl
          refine pure_ (i := 20) (N := some 145) (v := ?_) (a' := ?_) #[true, true, true, true, true, true, true, true, true, true, true, true, true, true, true, true, true, true, true, true, true, false, false, false, false, false, false, false] rfl rfl (by kernel_rfl) (fun _ _ _ h => h) (Or.inl ⟨by rfl, ?_⟩) ?_ ?_
          rotate_left
          · intro w'
            go_simp
            with_reducible rfl
          rotate_left
          · simp only [Act.put, List.setIfInBounds_toArray, List.set_cons_zero, List.set_cons_succ, i64_w, i32_w]
            rfl
          refine pure_ (i := 21) (N := some 146) (v := ?_) (a' := ?_) #[true, true, true, true, true, true, true, true, true, true, true, true, true, true, true, true, true, true, true, true, true, true, false, false, false, false, false, false] rfl rfl (by kernel_rfl) (fun _ _ _ h => h) (Or.inl ⟨by rfl, ?_⟩) ?_ ?_
          rotate_left
          · intro w'
            go_simp
            with_reducible rfl
          rotate_left
          · simp only [Act.put, List.setIfInBounds_toArray, List.set_cons_zero, List.set_cons_succ, i64_w, i32_w]
            rfl
          refine pure_ (i := 22) (N := some 147) (v := ?_) (a' := ?_) #[true, true, true, true, true, true, true, true, true, true, true, true, true, true, true, true, true, true, true, true, true, true, true, false, false, false, false, false] rfl rfl (by kernel_rfl) (fun _ _ _ h => h) (Or.inl ⟨by rfl, ?_⟩) ?_ ?_
          rotate_left
          · intro w'
            go_simp
            with_reducible rfl
          rotate_left
          · simp only [Act.put, List.setIfInBounds_toArray, List.set_cons_zero, List.set_cons_succ, i64_w, i32_w]
            rfl
          refine pure_ (i := 23) (N := some 148) (v := ?_) (a' := ?_) #[true, true, true, true, true, true, true, true, true, true, true, true, true, true, true, true, true, true, true, true, true, true, true, true, false, false, false, false] rfl rfl (by kernel_rfl) (fun _ _ _ h => h) (Or.inl ⟨by rfl, ?_⟩) ?_ ?_
          rotate_left
          · intro w'
            go_simp
            with_reducible rfl
          rotate_left
          · simp only [Act.put, List.setIfInBounds_toArray, List.set_cons_zero, List.set_cons_succ, i64_w, i32_w]
            rfl
          refine pure_ (i := 24) (N := some 149) (v := ?_) (a' := ?_) #[true, true, true, true, true, true, true, true, true, true, true, true, true, true, true, true, true, true, true, true, true, true, true, true, true, false, false, false] rfl rfl (by kernel_rfl) (fun _ _ _ h => h) (Or.inl ⟨by rfl, ?_⟩) ?_ ?_
          rotate_left
          · intro w'
            go_simp
            with_reducible rfl
          rotate_left
          · simp only [Act.put, List.setIfInBounds_toArray, List.set_cons_zero, List.set_cons_succ, i64_w, i32_w]
            rfl
          refine take_ (i := 25) (N := some 150) (v := ?_) (a' := ?_) #[true, true, true, true, true, true, true, true, true, true, true, true, true, true, true, true, true, true, true, true, true, true, true, true, true, true, false, false] rfl rfl (by kernel_rfl) (fun _ _ _ h => h) (Or.inl ⟨by rfl, ?_⟩) hHeld ?_ ?_
          rotate_left
          · rintro w' ⟨s0, s1, s2⟩
            go_simp
            with_reducible rfl
          rotate_left
          · simp only [Act.put, List.setIfInBounds_toArray, List.set_cons_zero, List.set_cons_succ, i64_w, i32_w]
            rfl
          refine pure_ (i := 26) (N := some 151) (v := ?_) (a' := ?_) #[true, true, true, true, true, true, true, true, true, true, true, true, true, true, true, true, true, true, true, true, true, true, true, true, true, true, true, false] rfl rfl (by kernel_rfl) (fun _ _ _ h => h) (Or.inl ⟨by rfl, ?_⟩) ?_ ?_
          rotate_left
          · intro w'
            go_simp
            with_reducible rfl
          rotate_left
          · simp only [Act.put, List.setIfInBounds_toArray, List.set_cons_zero, List.set_cons_succ, i64_w, i32_w]
            rfl
          refine pure_ (i := 27) (N := some 152) (v := ?_) (a' := ?_) #[true, true, true, true, true, true, true, true, true, true, true, true, true, true, true, true, true, true, true, true, true, true, true, true, true, true, true, true] rfl rfl (by kernel_rfl) (fun _ _ _ h => h) (Or.inl ⟨by rfl, ?_⟩) ?_ ?_
          rotate_left
          · intro w'
            go_simp
            with_reducible rfl
          rotate_left
          · simp only [Act.put, List.setIfInBounds_toArray, List.set_cons_zero, List.set_cons_succ, i64_w, i32_w]
            rfl
          refine done_ (by kernel_rfl) ?_
          go_wp2
          go_roundw
          case rel => exact ⟨i + 1, by omega, by go_num, Lib.hid (HW.out.on (by repeat (first | exact Below.refl _ _ | apply pw_below_drewN | apply below_drew1)))⟩
          case measure => simp [intOf]; omega
        · have hlt : ¬ ((i : Int) < (Es.length : Int)) := by omega
          go_wp2_with (first | (go_at_call 51; ((with_reducible refine (fresh_as _ ga ca Aa la ?hx hla').mono ?_); (case hx => exact HW.out.ra); rintro e W14 ⟨rfl, hb⟩; have HB14 := Lib.hid (HW.out.below.trans (hb.mono HW.out.below.size)); clear hb)) | go_in)
          go_ret
          exact ⟨rfl, by repeat (first | exact HB14.out | apply pw_below_drewN | apply below_drew1)⟩
end Go.Proofs.Ytnflokhffmfifaa.CountWT
namespace Go.Proofs.Ytnflokhffmfifaa.CountWT
open Go.RowKit Go.Proofs.Ytnflokhffmfifaa.Blk Go.Proofs.Ytnflokhffmfifaa.Ris Go.Proofs.Ytnflokhffmfifaa.OfT Go.Proofs.Ytnflokhffmfifaa.Keys Go.Proofs.Ytnflokhffmfifaa.XV Go.Proofs.Ytnflokhffmfifaa.HeapPure Go.Proofs.Ytnflokhffmfifaa.HeapWT Go.Proofs.Ytnflokhffmfifaa.PostAlg Go.Proofs.YtnflokhffmfifaaW.PrintWords Go.Proofs.YtnflokhffmfifaaW.PrintLast Go.Proofs.YtnflokhffmfifaaW.PrintMore
theorem row_of_C {w : World} {A : Option Addr} {c : Nat} {l : List ByteArray} (h : Kd.C Kd.string w A l.length l) (hc : l.length ≤ c) : ∃ g, Row w g A c l := by
  by_cases hp : 0 < l.length
  · have key : ∀ i : Nat, i < l.length → ∃ ad, A = some ad ∧ w.cell? (ad.add i) = some (.string (l.getD i E)) := fun i hi => by
      obtain ⟨ad, cs, e, _, hK, hc0⟩ := Kd.C_get h E (i : Int) (by omega) (by omega)
      obtain rfl := hK
      have := hc0 0 _ rfl
      rw [show Kd.string.sz = 1 from rfl, Int.toNat_natCast, Nat.mul_one, Nat.add_zero] at this
      exact ⟨ad, e, this⟩
    obtain ⟨⟨g, o, sp⟩, rfl, h0⟩ := key 0 hp
    have hsp : sp = none := by
      cases sp with
      | none => rfl
      | some k =>
        simp [Addr.add, World.cell?] at h0
        split at h0 <;> simp at h0
    subst hsp
    refine ⟨g, hc, fun _ => ⟨o, rfl, fun i hi => ?_⟩⟩
    obtain ⟨ad, e, h1⟩ := key i hi
    obtain rfl := Option.some.inj e
    rwa [add_off] at h1
  · exact ⟨0, hc, fun h => absurd h hp⟩
theorem heads_of_C {w : World} {A : Option Addr} {l : List (List ByteArray)} (h : Kd.C (Kd.slice 9 Kd.string) w A l.length l) : ∃ Es, Heads w A Es ∧ Es.map Hd.l = l := by
  have key : ∀ k : Nat, ∃ d : Hd, k < l.length → d.l = l.getD k [] ∧ Row w d.g d.A d.c d.l ∧ ∃ r o, A = some ⟨r, o, none⟩ ∧ w.cell? ⟨r, o + k, none⟩ = some d.v := fun k => by
    by_cases hk : k < l.length
    · obtain ⟨ad, cs, e, _, hK, hc0⟩ := Kd.C_get h [] (k : Int) (by omega) (by omega)
      rw [Int.toNat_natCast] at hK hc0
      obtain ⟨A', c, rfl, hle, hC⟩ := hK
      obtain ⟨g, hr⟩ := row_of_C hC hle
      have h1 := hc0 0 _ rfl
      rw [show (Kd.slice 9 Kd.string).sz = 1 from rfl, Nat.mul_one, Nat.add_zero] at h1
      refine ⟨⟨A', c, g, l.getD k []⟩, fun _ => ⟨rfl, hr, ?_⟩⟩
      obtain ⟨r, o, sp⟩ := ad
      have hsp : sp = none := by
        cases sp with
        | none => rfl
        | some q =>
          obtain ⟨ad, cs, e2, _, hK, hc0⟩ := Kd.C_get h [] 0 (by omega) (by omega)
          obtain rfl := Option.some.inj (e.symm.trans e2)
          obtain ⟨A', c, rfl, hle, hC⟩ := hK
          have h2 := hc0 0 _ rfl
          simp [Addr.add, World.cell?] at h2
          split at h2 <;> simp at h2
      subst hsp
      rw [add_off] at h1
      exact ⟨r, o, e, h1⟩
    · exact ⟨default, fun h => absurd h hk⟩
  refine ⟨(List.range l.length).map fun k => Classical.choose (key k), ⟨fun k hk => ?_, fun d hd => ?_⟩, ?_⟩
  · simp only [List.length_map, List.length_range] at hk
    obtain ⟨_, _, r, o, e, hc⟩ := Classical.choose_spec (key k) hk
    refine ⟨r, o, e, ?_⟩
    rw [hc]
    simp [List.getD_eq_getElem?_getD, hk]
  · obtain ⟨k, hk, rfl⟩ := List.mem_map.1 hd
    exact (Classical.choose_spec (key k) (List.mem_range.1 hk)).2.1
  · rw [List.map_map]
    apply List.ext_getElem (by simp)
    intro k h1 h2
    simp only [List.getElem_map, List.getElem_range, Function.comp]
    rw [(Classical.choose_spec (key k) h2).1]
    simp [List.getD_eq_getElem?_getD, List.getElem?_eq_getElem h2]
end Go.Proofs.Ytnflokhffmfifaa.CountWT
namespace Go.Proofs.Ytnflokhffmfifaa.XT
open Go.RowKit Go.Proofs.Ytnflokhffmfifaa.CountWT Go.Proofs.Ytnflokhffmfifaa.HeapWT Go.Proofs.YtnflokhffmfifaaW.PrintWords Go.Proofs.YtnflokhffmfifaaW.PrintLast Go.Proofs.YtnflokhffmfifaaW.PrintMore
def rosterlaw10_PostingTexts.f (x0 : List (List ByteArray)) (x1 : Int) : Option Bool := if x0.flatten.length ≤ 1048576 ∧ x0.length ≤ 1048576 then some true else none
theorem rosterlaw10_PostingTexts.calls (A0 : Option Addr) (c0 : Nat) (l0 : List (List ByteArray)) (x1 : Int) (r : Bool) (w : World) (hr0 : Kd.C (Kd.slice 9 Kd.string) w A0 l0.length l0) (hc0 : l0.length ≤ c0) (h : rosterlaw10_PostingTexts.f l0 x1 = some r) :
    Calls Try.prog 8 #[.slice A0 l0.length c0, .int .i64 x1] w fun e w' => e = .returned (.bool r) ∧ Below w.heap.size w w' := by
  unfold rosterlaw10_PostingTexts.f at h
  split at h
  case isFalse => cases h
  case isTrue hs =>
  obtain rfl := Option.some.inj h
  obtain ⟨Es, hh, rfl⟩ := heads_of_C hr0
  rw [flat_len] at hs
  rw [List.length_map] at hs hc0 ⊢
  exact texts_walk w c0 x1 A0 Es hh hs.1 hs.2
end Go.Proofs.Ytnflokhffmfifaa.XT

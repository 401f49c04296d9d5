/- For posting.AtLeast: what the iterator's contract says of the lists' sets; what is picked. -/
import Derived.Test.YtnflokhffmfifaaCountedWT
import Derived.Test.YtnflokhffmfifaaSetsWT
set_option linter.unusedVariables false
set_option linter.unusedSimpArgs false
namespace Go.Proofs.Ytnflokhffmfifaa.CountWT
open Go.RowKit Go.Proofs.Ytnflokhffmfifaa.Blk Go.Proofs.Ytnflokhffmfifaa.Ris Go.Proofs.Ytnflokhffmfifaa.OfT Go.Proofs.Ytnflokhffmfifaa.Keys Go.Proofs.Ytnflokhffmfifaa.XV Go.Proofs.Ytnflokhffmfifaa.HeapPure Go.Proofs.Ytnflokhffmfifaa.HeapWT Go.Proofs.Ytnflokhffmfifaa.CountPure Go.Proofs.Ytnflokhffmfifaa.RFun Go.Proofs.YtnflokhffmfifaaW.PrintWords Go.Proofs.YtnflokhffmfifaaW.PrintLast Go.Proofs.YtnflokhffmfifaaW.PrintMore
theorem cnt_sets (ls : List (List ByteArray)) (x : ByteArray) : cnt (ls.map fun l => setL ltS l) x = cnt ls x := by
  induction ls with
  | nil => rfl
  | cons l t ih =>
    rw [List.map_cons, cnt_cons, cnt_cons, ih]
    congr 1
    by_cases h : x ∈ l
    · rw [if_pos h, if_pos ((mem_setL totS x l).2 h)]
    · rw [if_neg h, if_neg (fun h' => h ((mem_setL totS x l).1 h'))]
/-- What stands so often. -/
def pick (k : Int) (pre : List (ByteArray × Nat)) : List ByteArray := (pre.filter fun x => decide (k ≤ (x.2 : Int))).map Prod.fst
theorem pick_hit {k : Int} (pre : List (ByteArray × Nat)) {x : ByteArray × Nat} (h : k ≤ (x.2 : Int)) : pick k (pre ++ [x]) = pick k pre ++ [x.1] := by
  unfold pick
  rw [List.filter_append, List.map_append, List.filter_cons_of_pos (by simpa using h)]
  rfl
theorem pick_miss {k : Int} (pre : List (ByteArray × Nat)) {x : ByteArray × Nat} (h : ¬ k ≤ (x.2 : Int)) : pick k (pre ++ [x]) = pick k pre := by
  unfold pick
  rw [List.filter_append, List.filter_cons_of_neg (by simpa using h), List.filter_nil, List.append_nil]
theorem pick_len (k : Int) (pre : List (ByteArray × Nat)) : (pick k pre).length ≤ pre.length := by
  unfold pick
  rw [List.length_map]
  exact List.length_filter_le _ _
theorem pick_counts (k : Int) (ls : List (List ByteArray)) : pick k (counts ltS ls) = atLeast ltS k ls := by
  unfold pick counts atLeast
  rw [List.filter_map, List.map_map]
  have : (Prod.fst ∘ fun x : ByteArray => (x, cnt ls x)) = id := rfl
  rw [this, List.map_id]
  rfl
theorem pick_all (k : Int) {Es Ds : List Hd} (h : Ds.map Hd.l = Es.map fun d => setL ltS d.l) : pick k (counts ltS (Ds.map Hd.l)) = atLeast ltS k (Es.map Hd.l) := by
  rw [← pick_counts]
  congr 1
  refine counts_same totS (fun x => ?_)
  rw [h, ← cnt_sets (Es.map Hd.l) x, List.map_map]
  rfl
theorem flat_len (Ds : List Hd) : (Ds.map Hd.l).flatten.length = bulk Ds := by
  unfold bulk
  rw [List.length_flatten, List.map_map]
  rfl
theorem sets_bulk {Es Ds : List Hd} (h : Ds.map Hd.l = Es.map fun d => setL ltS d.l) : bulk Ds ≤ bulk Es := by
  have e : bulk Ds = ((Ds.map Hd.l).map List.length).sum := by unfold bulk; rw [List.map_map]; rfl
  rw [e, h, List.map_map]
  unfold bulk
  clear h e
  induction Es with
  | nil => exact Nat.le_refl _
  | cons d t ih =>
    have := setL_len totS d.l
    simp only [List.map_cons, List.sum_cons, Function.comp] at ih ⊢
    omega
theorem bulk_mem {Es : List Hd} : ∀ d ∈ Es, d.l.length ≤ bulk Es := by
  induction Es with
  | nil => intro d hd; cases hd
  | cons e t ih =>
    intro d hd
    rw [bulk_cons]
    rcases List.mem_cons.1 hd with rfl | hd
    · omega
    · have := ih d hd; omega
theorem counted_seq (n : Nat) (hn : 3 ≤ n) (w : World) (lx lb c : Nat) (L : Option Addr) (Ds : List Hd) (hm : Ds.length ≤ 1048576) (hx : w.cell? ⟨lx, 0, none⟩ = some (.slice L Ds.length c)) (hh : Heads w L Ds) (hl : ∀ d ∈ Ds, 0 < d.l.length → d.g ≠ lb) (hr : ∀ d ∈ Ds, Ris ltS d.l) (hlb : lb < w.heap.size) :
    SeqR Fence.wide n Try.prog 76 #[.pointer (some ⟨lx, 0, none⟩)] (fun x : ByteArray × Nat => #[.string x.1, .int .i64 (x.2 : Int)]) (Keep w.heap.size lb) (Priv w.heap.size) (fun xs => xs = counts ltS (Ds.map Hd.l)) (fun pre => pre <+: counts ltS (Ds.map Hd.l)) (counts ltS (Ds.map Hd.l)).length w := by
  intro l J Jx W hz hb hJ hJx hY h0
  have hx' : W.cell? ⟨lx, 0, none⟩ = some (.slice L Ds.length c) := (hb.cell (p := ⟨lx, 0, none⟩) (World.block_lt_of_cell? w _ hx)).trans hx
  refine counted1_in n w.heap.size hn l lx lb c L Ds J Jx W hm hx' ⟨fun k hk => ?_, fun d hd => ⟨(hh.row d hd).on (fun hp => hb.block _ (Row.lt (hh.row d hd) hp)), fun hp => ⟨Row.lt (hh.row d hd) hp, hl d hd hp⟩⟩⟩ hr hlb hb.size hJ hJx hY h0
  obtain ⟨r, o, e, hc⟩ := hh.head k hk
  exact ⟨r, o, e, (hb.cell (p := ⟨r, o + k, none⟩) (World.block_lt_of_cell? w _ hc)).trans hc⟩
end Go.Proofs.Ytnflokhffmfifaa.CountWT

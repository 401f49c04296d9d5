/- For the iterator that counts: how its heap goes on. -/
import Derived.Test.YtnflokhffmfifaaCountedAT
set_option linter.unusedVariables false
set_option linter.unusedSimpArgs false
namespace Go.Proofs.Ytnflokhffmfifaa.CountWT
open Go.RowKit Go.Proofs.Ytnflokhffmfifaa.Blk Go.Proofs.Ytnflokhffmfifaa.Ris Go.Proofs.Ytnflokhffmfifaa.OfT Go.Proofs.Ytnflokhffmfifaa.Keys Go.Proofs.Ytnflokhffmfifaa.XV Go.Proofs.Ytnflokhffmfifaa.HeapPure Go.Proofs.Ytnflokhffmfifaa.HeapWT Go.Proofs.Ytnflokhffmfifaa.CountPure Go.Proofs.Ytnflokhffmfifaa.RFun Go.Proofs.YtnflokhffmfifaaW.PrintWords Go.Proofs.YtnflokhffmfifaaW.PrintLast Go.Proofs.YtnflokhffmfifaaW.PrintMore
/-- A header without its first. -/
def tl (d : Hd) : Hd := ⟨from_ d.A d.c 1, d.c - 1, d.g, d.l.drop 1⟩
theorem HB.put {w : World} {hb r cap : Nat} {d : Hd} {t : List Hd} (h : HB w hb r cap (d :: t)) (hp : 0 < d.l.length) : HB (w.setCell ⟨r, 0, none⟩ (tl d).v) hb r cap (tl d :: t) := by
  refine ⟨?_, ?_, h.cap, h.ne, fun e he => ?_⟩
  · exact h.box.other ⟨r, 0, none⟩ _ h.ne
  · obtain ⟨rest, hr⟩ := h.row
    exact ⟨rest, hr.set 0 (tl d).v⟩
  · rcases List.mem_cons.1 he with rfl | he
    · have hg := h.good d (by simp)
      exact ⟨(hg.row.drop 1 (by omega)).on (fun _ => Below.heap_setCell _ _ _ _ hg.ne2), hg.ne1, hg.ne2⟩
    · have hg := h.good e (by simp [he])
      exact hg.on (Below.heap_setCell _ _ _ _ hg.ne2)
theorem HB.rowBlk {w : World} {hb r cap : Nat} {es : List Hd} (h : HB w hb r cap es) : ∃ cs, w.heap[r]? = some (.cells cs 59 (0, 0)) := by
  obtain ⟨rest, hr⟩ := h.row
  exact ⟨_, hr⟩
theorem HB.priv {n₀ : Nat} {w w' : World} {hb r cap : Nat} {es : List Hd} (h : HB w hb r cap es) (hg : w.grownBy w' (some r)) (hr : n₀ ≤ r) : Priv n₀ w w' := by
  obtain ⟨cs, hc⟩ := HB.rowBlk h
  exact Priv.grown hg hr hc (by decide)
theorem HB.priv2 {n₀ : Nat} {w w' : World} {hb r cap : Nat} {es : List Hd} (h : HB w hb r cap es) (hg : Two w w' hb r) (hb' : n₀ ≤ hb) (hr : n₀ ≤ r) : Priv n₀ w w' := by
  obtain ⟨cs, hc⟩ := HB.rowBlk h
  exact Priv.two hg hb' hr h.box (by decide) hc (by decide)
/-- A round of the caller's leaves the heap. -/
theorem HB.keep {n₀ lb : Nat} {w w' : World} {hb r cap : Nat} {es : List Hd} (h : HB w hb r cap es) (hf : Full es) (hl : ∀ d ∈ es, d.g < n₀ ∧ d.g ≠ lb) (hn : n₀ ≤ hb ∧ n₀ ≤ r) (hlb : lb < n₀) (k : Keep n₀ lb w w') : HB w' hb r cap es := by
  refine ⟨k.block _ _ _ _ h.box (by omega) (.inr (by decide)), ?_, h.cap, h.ne, fun d hd => ?_⟩
  · obtain ⟨rest, hr⟩ := h.row
    exact ⟨rest, k.block _ _ _ _ hr (by omega) (.inr (by decide))⟩
  · have hg := h.good d hd
    obtain ⟨o, _, hc⟩ := hg.head (hf d hd)
    obtain ⟨ob, h1, h2⟩ := cells_of_cell hc
    cases ob with
    | cells cs t f => exact hg.on ((k.block _ _ _ _ h1 (hl d hd).2 (.inl (hl d hd).1)).trans h1.symm)
    | _ => cases h2
variable {n₀ lb hb r cap : Nat} {J : List (ByteArray × Nat) → World → Prop} {pre : List (ByteArray × Nat)} {ds : List (List ByteArray)} {x : ByteArray} {m : Nat} {es t : List Hd} {d : Hd} {wr w2 w3 : World}
theorem ris_tl {d : Hd} (h : Ris ltS d.l) : Ris ltS (tl d).l := List.Pairwise.sublist (List.drop_sublist _ _) h
theorem IR2.heap1 (h : IR2 n₀ lb hb r cap J pre ds x m (d :: t) wr) : HeapFrom ltS key 1 (t.length + 1) (tl d :: t) := by
  have h1 : HeapFrom ltS key 1 (t.length + 1) (d :: t) := fun c a b e => h.top c a b (by omega)
  exact heap_like key h1 (fun c a b => by
    obtain ⟨k, rfl⟩ : ∃ k, c = k + 1 := ⟨c - 1, by omega⟩
    rfl)
theorem IR2.inn1 (h : IR2 n₀ lb hb r cap J pre ds x m (d :: t) wr) (hx : key d = x) : Inn ltS ds x (m + 1) ((tl d).l :: t.map Hd.l) := by
  obtain ⟨tt, e⟩ := key_cons (h.full d (by simp))
  have h1 := h.inn
  rw [List.map_cons, e, hx] at h1
  have h2 := h.ris d (by simp)
  rw [e, hx] at h2
  have e2 : (tl d).l = tt := by show d.l.drop 1 = tt; rw [e]; rfl
  rw [e2]
  exact h1.step totS h2
theorem IR2.start {ls : List (List ByteArray)} {es : List Hd} (h : OR n₀ lb hb r cap ls J pre es wr) : IR2 n₀ lb hb r cap J pre (es.map Hd.l) (key (es.getD 0 default)) 0 es wr :=
  ⟨h.heap, h.full, h.ris, h.top, Inn.start totS (top_le h.full h.ris h.top), h.inv, h.low, h.n, h.len, by rw [List.length_map]; exact h.len⟩
theorem IR2.bound (h : IR2 n₀ lb hb r cap J pre ds x m es wr) : m ≤ 1048576 := by
  have h1 := h.inn.here
  have h2 := cnt_le ds x
  have h3 := h.m
  omega
/-- All that began with x has gone on. -/
theorem IR2.out {ls : List (List ByteArray)} {ks : List Hd} {w0 : World} (h0 : OR n₀ lb hb r cap ls J pre ks w0) (hk : ks ≠ []) (h' : IR2 n₀ lb hb r cap J pre (ks.map Hd.l) x m es wr) (hkx : key (ks.getD 0 default) = x) (hx : es = [] ∨ key (es.getD 0 default) ≠ key (ks.getD 0 default)) :
    counts ltS (ks.map Hd.l) = (x, m) :: counts ltS (es.map Hd.l) := by
  subst hkx
  have h := h'
  refine h.inn.done totS (top_lt h.full h.ris h.top ?_) ?_
  · rcases hx with rfl | hx
    · exact .inl rfl
    · by_cases he : es = []
      · exact .inl he
      · refine .inr ?_
        have hpos : 0 < es.length := List.length_pos_iff.2 he
        have h1 := h.inn.ge (key (es.getD 0 default)) ((cnt_pos _ _).2 ⟨(es.getD 0 default).l, List.mem_map.2 ⟨_, by rw [← getElem_getD es 0 hpos]; exact List.getElem_mem hpos, rfl⟩, by
          obtain ⟨t, e⟩ := key_cons (h.full.at_ 0 hpos)
          rw [e]; simp⟩)
        cases hc : ltS (key (ks.getD 0 default)) (key (es.getD 0 default)) with
        | true => rfl
        | false => exact absurd (totS.tot _ _ h1 hc) hx
  · have hpos : 0 < ks.length := List.length_pos_iff.2 hk
    refine (cnt_pos _ _).2 ⟨(ks.getD 0 default).l, List.mem_map.2 ⟨_, by rw [← getElem_getD ks 0 hpos]; exact List.getElem_mem hpos, rfl⟩, ?_⟩
    obtain ⟨t, e⟩ := key_cons (h0.full.at_ 0 hpos)
    rw [e]; simp
/-- Behind the caller's round. -/
theorem IR2.next {ls : List (List ByteArray)} {ks : List Hd} {w0 : World} (h0 : OR n₀ lb hb r cap ls J pre ks w0) (h : IR2 n₀ lb hb r cap J pre ds x m es wr) (hc : counts ltS (ks.map Hd.l) = (x, m) :: counts ltS (es.map Hd.l)) (hlb : lb < n₀) (hJ : J (pre ++ [(x, m)]) w2) (hk : Keep n₀ lb wr w2) : OR n₀ lb hb r cap ls J (pre ++ [(x, m)]) es w2 :=
  ⟨HB.keep h.heap h.full h.low h.n hlb hk, h.full, h.ris, h.top, by rw [List.append_assoc, List.singleton_append, ← hc]; exact h0.here, hJ, h.low, h.n, h.len⟩
/-- The top has gone on and has come to its end. -/
theorem IR2.pop (h : IR2 n₀ lb hb r cap J pre ds x m (d :: t) wr) (hx : key d = x) (hJ : Clos (Priv n₀) J) (h0 : (tl d).l.length = 0) {fs : List Hd} (p1 : HB w2 hb r cap fs) (p2 : fs.Perm t) (p3 : HeapFrom ltS key 0 fs.length fs) (p4 : Two (wr.setCell ⟨r, 0, none⟩ (tl d).v) w2 hb r) : IR2 n₀ lb hb r cap J pre ds x (m + 1) fs w2 := by
  have hp : 0 < d.l.length := h.full d (by simp)
  have hl := h.len
  simp only [List.length_cons] at hl
  refine ⟨p1, fun e he => h.full e (by simp [p2.mem_iff.1 he]), fun e he => h.ris e (by simp [p2.mem_iff.1 he]), p3, ?_, ?_, fun e he => h.low e (by simp [p2.mem_iff.1 he]), h.n, by rw [p2.length_eq]; omega, h.m⟩
  · have h1 := h.inn1 hx
    rw [List.length_eq_zero_iff.1 h0] at h1
    exact h1.like (fun y => by rw [cnt_perm (p2.map _), cnt_drop_nil])
  · exact hJ _ _ _ (hJ _ _ _ h.inv (HB.priv h.heap (grown_set (grown_refl _ _) 0 _) h.n.2)) (HB.priv2 (HB.put h.heap hp) p4 h.n.1 h.n.2)
/-- The top has gone on. -/
theorem IR2.fix (h : IR2 n₀ lb hb r cap J pre ds x m (d :: t) wr) (hx : key d = x) (hJ : Clos (Priv n₀) J) (h0 : 0 < (tl d).l.length) {fs : List Hd} (p1 : HB w2 hb r cap fs) (p2 : fs.Perm (tl d :: t)) (p3 : HeapFrom ltS key 0 fs.length fs) (p4 : (wr.setCell ⟨r, 0, none⟩ (tl d).v).grownBy w2 (some r)) : IR2 n₀ lb hb r cap J pre ds x (m + 1) fs w2 := by
  have hp : 0 < d.l.length := h.full d (by simp)
  have hl := h.len
  simp only [List.length_cons] at hl
  have hlen : fs.length = t.length + 1 := p2.length_eq
  refine ⟨p1, fun e he => ?_, fun e he => ?_, p3, (h.inn1 hx).like (fun y => by rw [cnt_perm (p2.map _)]; rfl), ?_, fun e he => ?_, h.n, by omega, h.m⟩
  · rcases List.mem_cons.1 (p2.mem_iff.1 he) with rfl | he
    · exact h0
    · exact h.full e (by simp [he])
  · rcases List.mem_cons.1 (p2.mem_iff.1 he) with rfl | he
    · exact ris_tl (h.ris d (by simp))
    · exact h.ris e (by simp [he])
  · exact hJ _ _ _ (hJ _ _ _ h.inv (HB.priv h.heap (grown_set (grown_refl _ _) 0 _) h.n.2)) (HB.priv (HB.put h.heap hp) p4 h.n.2)
  · rcases List.mem_cons.1 (p2.mem_iff.1 he) with rfl | he
    · exact h.low d (by simp)
    · exact h.low e (by simp [he])
end Go.Proofs.Ytnflokhffmfifaa.CountWT

/- By hand: container/heap's Pop at the heap of headers. For every list and world. -/
import Derived.Test.YtnflokhffmfifaaHeapE
set_option linter.unusedVariables false
set_option linter.unusedSimpArgs false
namespace Go.Proofs.Ytnflokhffmfifaa.HeapW
open Go.RowKit Go.Proofs.Ytnflokhffmfifaa.Blk Go.Proofs.Ytnflokhffmfifaa.Ris Go.Proofs.Ytnflokhffmfifaa.Cur Go.Proofs.Ytnflokhffmfifaa.OfW Go.Proofs.Ytnflokhffmfifaa.HeapPure Go.Proofs.YtnflokhffmfifaaW.PrintWords Go.Proofs.YtnflokhffmfifaaW.PrintLast Go.Proofs.YtnflokhffmfifaaW.PrintMore
theorem info22 : (Try.prog.info? 22).map (fun i => (i.zero, i.size, i.bytes)) = some (some (.slice none 0 0), 1, 24) := by kernel_rfl
theorem cut98 (A : Option Addr) (n c k : Nat) (hk : k ≤ n) (hc : n ≤ c) (W : World) : (Instr.slice 98 (.slice A n c) none (some (.int .i64 (k : Int))) none).run Try.prog W = .ok (.slice A k c) W := by
  obtain ⟨i0, hi0, _, hsz, _⟩ := info_parts info22
  have := cut_to (P := Try.prog) 98 22 .i64 Try.underlying98 hi0 A n c (k : Int) (by omega) (by omega) hc W
  rw [Int.toNat_natCast] at this
  exact this
theorem HB.drop_last {w : World} {hb r cap : Nat} {ds : List Hd} {d : Hd} (h : HB w hb r cap (ds ++ [d])) : HB (w.setCell ⟨hb, 0, none⟩ (.slice (some ⟨r, 0, none⟩) ds.length cap)) hb r cap ds := by
  refine ⟨?_, ?_, ?_, h.ne, fun e he => ?_⟩
  · exact h.box.set 0 (.slice (some ⟨r, 0, none⟩) ds.length cap)
  · obtain ⟨rest, hr⟩ := h.row
    refine ⟨d.v :: rest, ?_⟩
    have := hr.other ⟨hb, 0, none⟩ (.slice (some ⟨r, 0, none⟩) ds.length cap) (Ne.symm h.ne)
    simpa using this
  · have := h.cap; simp at this; omega
  · have hg := h.good e (by simp [he])
    exact hg.on (Below.heap_setCell _ _ _ _ hg.ne1)
set_option maxRecDepth 100000 in
theorem pop_as (w : World) (hb r cap : Nat) (ds : List Hd) (d : Hd) (h : HB w hb r cap (ds ++ [d])) (hm : ds.length ≤ 1048576) :
    Calls Try.prog 131 #[.pointer (some ⟨hb, 0, none⟩)] w fun e w' => e = .returned (.iface 22 d.v) ∧ HB w' hb r cap ds ∧ w.grownBy w' (some hb) := by
  have HD := Lib.hid h.drop_last
  have c0 := h.box.get 0 _ rfl
  have f0 := h.box.free 0
  have c1 := h.cellv (i := ds.length) (by simp)
  have hcut := cut98 (some ⟨r, 0, none⟩) (ds.length + 1) cap ds.length (by omega) (by have := h.cap; simp at this; omega)
  rw [show (ds ++ [d]).getD ds.length default = d by simp [List.getD_eq_getElem?_getD]] at c1
  rw [show (ds ++ [d]).length = ds.length + 1 by simp] at c0
  have hs : IntKind.i64.wrap (((ds.length + 1 : Nat) : Int) - 1) = (ds.length : Int) := by rw [i64_w]; unfold wrap64; omega
  have hl : (ds.length : Int) < ((ds.length + 1 : Nat) : Int) := by omega
  obtain ⟨Ai, ni, xi, ei⟩ : ∃ A n c, d.v = .slice A n c := ⟨_, _, _, rfl⟩
  rw [ei] at c1 ⊢
  clear ei h
  generalize hmm : ds.length + 1 = m at *
  have hp : (0 : Int) ≤ (ds.length : Int) := by omega
  clear hmm
  generalize ds.length = k at *
  go_enter Try.func131, Try.ntmps131
  go_wp2
  go_ret
  exact ⟨rfl, HD.out, grown_set (grown_refl _ _) _ _⟩
/-- All but two blocks as it was. -/
structure Two (w w' : World) (a b : Nat) : Prop where
  os : w'.os = w.os
  tape : w'.tape = w.tape
  output : w'.output = w.output
  size : w.heap.size ≤ w'.heap.size
  block : ∀ j, j < w.heap.size → j ≠ a → j ≠ b → w'.heap[j]? = w.heap[j]?
theorem Two.refl (w : World) (a b : Nat) : Two w w a b := ⟨rfl, rfl, rfl, Nat.le_refl _, fun _ _ _ _ => rfl⟩
theorem Two.trans {w w1 w2 : World} {a b : Nat} (h : Two w w1 a b) (k : Two w1 w2 a b) : Two w w2 a b := ⟨k.os.trans h.os, k.tape.trans h.tape, k.output.trans h.output, Nat.le_trans h.size k.size, fun j hj h1 h2 => (k.block j (Nat.lt_of_lt_of_le hj h.size) h1 h2).trans (h.block j hj h1 h2)⟩
theorem Two.left {w w' : World} {a : Nat} (h : w.grownBy w' (some a)) (b : Nat) : Two w w' a b := ⟨h.os, h.tape, h.output, h.size, fun j hj h1 _ => h.block j hj (fun e => h1 (Option.some.inj e))⟩
theorem Two.right {w w' : World} {b : Nat} (h : w.grownBy w' (some b)) (a : Nat) : Two w w' a b := ⟨h.os, h.tape, h.output, h.size, fun j hj _ h2 => h.block j hj (fun e => h2 (Option.some.inj e))⟩
theorem Two.draw {w w' : World} {a b : Nat} (h : Two w w' a b) (n : Nat) : Two w (w'.drewN n) a b := ⟨h.os, h.tape, h.output, h.size, h.block⟩
/-- The last place holds d. -/
theorem last_is {fs : List Hd} {d : Hd} {n : Nat} (hl : fs.length = n + 1) (h : fs.getD n default = d) : fs = fs.take n ++ [d] := by
  have h1 : fs.drop n = [d] := by
    rw [← h]
    apply List.ext_getElem
    · rw [List.length_drop, hl]; simp
    · intro i h1 h2
      simp only [List.length_cons, List.length_nil] at h2
      obtain rfl : i = 0 := by omega
      simp [List.getD_eq_getElem?_getD, List.getElem?_eq_getElem (show n < fs.length by omega)]
  rw [← h1, List.take_append_drop]
theorem cons_pos {t : List Hd} {d : Hd} (hf : Full t) (c : Nat) (h1 : 1 ≤ c) (hc : c < (d :: t).length) : 0 < ((d :: t).getD c default).l.length := by
  obtain ⟨m, rfl⟩ : ∃ m, c = m + 1 := ⟨c - 1, by omega⟩
  simpa using hf.at_ m (by simpa using hc)
set_option maxHeartbeats 2000000 in
set_option maxRecDepth 100000 in
theorem hpop_as (w : World) (hb r cap : Nat) (t : List Hd) (d : Hd) (h : HB w hb r cap (d :: t)) (hf : Full t) (hs : HeapFrom ltI key 1 (t.length + 1) (d :: t)) (hm : t.length < 1048576) :
    Calls Try.prog 72 #[.iface 97 (.pointer (some ⟨hb, 0, none⟩))] w fun e w' => ∃ es, e = .returned (.iface 22 d.v) ∧ HB w' hb r cap es ∧ es.Perm t ∧ HeapFrom ltI key 0 es.length es ∧ Two w w' hb r := by
  have c0 := h.box.get 0 _ rfl
  have mL := mLen w hb _ c0
  have eL : ∀ args w, (callFunc 71 args).run Try.prog w = .ok (.enter 71 args) w := enters_of Try.func71 (by kernel_rfl) rfl
  have mS := mSwap w hb _ c0
  have eS : ∀ args w, (callFunc 132 args).run Try.prog w = .ok (.enter 132 args) w := enters_of Try.func132 (by kernel_rfl) rfl
  have mP := fun W => mPop W (.pointer (some ⟨hb, 0, none⟩))
  have eP : ∀ args w, (callFunc 131 args).run Try.prog w = .ok (.enter 131 args) w := enters_of Try.func131 (by kernel_rfl) rfl
  have hl : (d :: t).length = t.length + 1 := rfl
  have hw : IntKind.i64.wrap (((t.length + 1 : Nat) : Int) - 1) = (t.length : Int) := by rw [i64_w]; unfold wrap64; omega
  have S := swap_as w hb r cap (d :: t) 0 t.length h (by omega) (by omega)
  have hat := swp_at (d :: t) (i := 0) (j := t.length) (by omega) (by omega)
  have hpm := swp_perm (d :: t) (i := 0) (j := t.length) (by omega) (by omega)
  have hsi : Sift ltI key 0 t.length 0 (swp (d :: t) 0 t.length) := sift_start key (heap_like key (heap_cut key hs (Nat.le_succ _)) (fun c h1 h2 => by rw [hat, if_neg (by omega), if_neg (by omega)]))
  have hpo : ∀ c, c < t.length → 0 < ((swp (d :: t) 0 t.length).getD c default).l.length := fun c hc => by
    rw [hat, if_neg (by omega)]
    split
    · exact cons_pos hf _ (by omega) (by omega)
    · exact cons_pos hf _ (by omega) (by omega)
  have hlast : (swp (d :: t) 0 t.length).getD t.length default = d := by rw [hat, if_pos rfl]; rfl
  have D := fun W (hW : HB W hb r cap (swp (d :: t) 0 t.length)) => down_as W hb r cap 0 t.length 0 _ hW (by rw [hpm.length_eq, hl]; omega) hsi (Nat.le_refl _) hpo (by omega) (by rw [hpm.length_eq, hl]; omega)
  rw [show ((0 : Nat) : Int) = 0 from rfl] at D S
  rw [hl] at S c0 mL mS
  clear hat hsi hpo h hs
  have HX := Lib.hid (And.intro hpm hlast)
  clear hpm hlast hl
  generalize swp (d :: t) 0 t.length = s0 at S D HX
  have H1 := Lib.hid S
  have H2 := Lib.hid D
  clear S D
  go_enter Try.func72, Try.ntmps72
  go_wp2_with (first
    | (go_at_fn 71; ((with_reducible refine (len_as _ _ _ _).mono ?_); rintro e wl ⟨rfl, hwl⟩; obtain rfl := hwl.symm))
    | (go_at_fn 132; ((with_reducible refine H1.out.mono ?_); rintro e W2 ⟨rfl, q1, q2⟩; have HQ := Lib.hid (And.intro q1 q2); clear q1 q2))
    | (go_at_call 89; ((with_reducible refine (H2.out _ HQ.out.1).mono ?_); rintro e W3 ⟨b, fs, rfl, q1, q2, q3, q4, q5, q6⟩; have hfs : fs = fs.take t.length ++ [d] := last_is (by rw [q2.length_eq, HX.out.1.length_eq]; rfl) ((q4 _ (Nat.le_refl _)).trans HX.out.2); have hlt : (fs.take t.length).length = t.length := (by rw [List.length_take, q2.length_eq, HX.out.1.length_eq]; exact Nat.min_eq_left (Nat.le_succ _)); have P3 := Lib.hid (pop_as W3 hb r cap (fs.take t.length) d (by rw [← hfs]; exact q1) (by omega)); have HR := Lib.hid (And.intro q2 (And.intro q3 (And.intro q6 (And.intro hfs hlt)))); clear q1 q2 q3 q4 q5 q6 hfs hlt))
    | (go_at_fn 131; ((with_reducible refine P3.out.mono ?_); rintro e W4 ⟨rfl, q1, q2⟩; have HT := Lib.hid (And.intro q1 q2); clear q1 q2))
    | go_in)
  go_ret
  refine ⟨fs.take t.length, rfl, HT.out.1, ?_, ?_, ((Two.right HQ.out.2 hb).trans (Two.right HR.out.2.2.1 hb)).trans (Two.left HT.out.2 r)⟩
  · have h1 := HR.out.1.trans HX.out.1
    rw [HR.out.2.2.2.1] at h1
    exact (List.perm_append_comm.trans h1).cons_inv
  · rw [HR.out.2.2.2.2]
    exact heap_like key HR.out.2.1 (fun c h1 h2 => by
      have h3 := HR.out.2.2.2.2
      have := HR.out.2.2.2.1
      generalize fs.take t.length = gs at this h3 ⊢
      rw [this, List.getD_eq_getElem?_getD, List.getD_eq_getElem?_getD, List.getElem?_append_left (by omega)])
end Go.Proofs.Ytnflokhffmfifaa.HeapW

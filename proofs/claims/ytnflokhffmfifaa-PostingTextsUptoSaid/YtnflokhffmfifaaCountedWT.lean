/- By hand: the iterator that counts. For every list of lists and world. -/
import Derived.Test.YtnflokhffmfifaaCountedBT
import Derived.Shelf.Abstract
import Derived.Shelf.RegionOpen
import Derived.OwnWalkIn
import Derived.TacticsInMore
import Derived.LoopNIn
import Derived.LoopIn
import Derived.Sort.LoopGhostIn
import Derived.Maps.AppendAt
set_option linter.unusedVariables false
set_option linter.unusedSimpArgs false
namespace Go.Proofs.Ytnflokhffmfifaa.CountWT
open Go.RowKit Go.Shelf Go.Proofs.Ytnflokhffmfifaa.Blk Go.Proofs.Ytnflokhffmfifaa.Ris Go.Proofs.Ytnflokhffmfifaa.OfT Go.Proofs.Ytnflokhffmfifaa.Keys Go.Proofs.Ytnflokhffmfifaa.XV Go.Proofs.Ytnflokhffmfifaa.HeapPure Go.Proofs.Ytnflokhffmfifaa.HeapWT Go.Proofs.Ytnflokhffmfifaa.CountPure Go.Proofs.Ytnflokhffmfifaa.RFun Go.Proofs.YtnflokhffmfifaaW.PrintWords Go.Proofs.YtnflokhffmfifaaW.PrintLast Go.Proofs.YtnflokhffmfifaaW.PrintMore
attribute [local go_sem] Oper.semAt_some
structure GR (W : World) (Ds : List Hd) (k g cap : Nat) (wr : World) : Prop where
  box : Boxed wr (W.heap.size + 1) 106 (.slice (some ⟨g, 0, none⟩) (full (Ds.take k)).length cap)
  row : wr.ownsRow W.heap.size 59 1 (.slice (some ⟨g, 0, none⟩) (full (Ds.take k)).length cap) (full (Ds.take k)).length ((full (Ds.take k)).map Hd.v)
  below : Below W.heap.size W wr
theorem GR.next {W wr w2 : World} {Ds : List Hd} {k g cap g' cap' : Nat} {v : Value} (h : GR W Ds k g cap wr) (hk : k < Ds.length) (hp : 0 < (Ds.getD k default).l.length) (hv : Boxed w2 (W.heap.size + 1) 106 (.slice (some ⟨g', 0, none⟩) ((full (Ds.take k)).length + 1) cap')) (e : (Ds.getD k default).v = v)
    (hr : w2.ownsRow W.heap.size 59 1 (.slice (some ⟨g', 0, none⟩) ((full (Ds.take k)).length + 1) cap') ((full (Ds.take k)).length + 1) ((full (Ds.take k)).map Hd.v ++ [v])) (hb : Below W.heap.size wr w2) : GR W Ds (k + 1) g' cap' w2 := by
  have e2 := full_snoc Ds k hk
  rw [if_pos hp] at e2
  refine ⟨?_, ?_, h.below.trans hb⟩
  · rw [e2]; simpa using hv
  · rw [e2]; subst e; simpa using hr
theorem GR.skip {W wr : World} {Ds : List Hd} {k g cap : Nat} (h : GR W Ds k g cap wr) (hk : k < Ds.length) (hp : ¬ 0 < (Ds.getD k default).l.length) : GR W Ds (k + 1) g cap wr := by
  have e2 := full_snoc Ds k hk
  rw [if_neg hp, List.append_nil] at e2
  refine ⟨?_, ?_, h.below⟩
  · rw [e2]; exact h.box
  · rw [e2]; exact h.row
theorem GR.heap {W wr : World} {Ds : List Hd} {nk lb g cap : Nat} {L : Option Addr} (h : GR W Ds Ds.length g cap wr) (hl : Lists W nk lb L Ds) (hk : nk ≤ W.heap.size) : HB wr (W.heap.size + 1) g cap (full Ds) ∧ W.heap.size ≤ g := by
  have hb := h.box
  have hr := h.row
  rw [List.take_of_length_le (Nat.le_refl _)] at hb hr
  refine heap_of_row hb hr (fun d hd => ?_) (by omega)
  obtain ⟨hm, hp⟩ := List.mem_filter.1 hd
  have hp' : 0 < d.l.length := by simpa using hp
  obtain ⟨h1, h2⟩ := hl.row d hm
  exact ⟨h1.on (fun _ => h.below.block _ (Nat.lt_of_lt_of_le (h2 hp').1 hk)), Nat.lt_of_lt_of_le (h2 hp').1 hk⟩
set_option maxRecDepth 100000 in
set_option maxHeartbeats 4000000 in
theorem counted1_in (n nk : Nat) (hn : 3 ≤ n) (l lx lb c : Nat) (L : Option Addr) (Ds : List Hd) (J Jx : List (ByteArray × Nat) → World → Prop) (W : World) (hm : Ds.length ≤ 1048576)
    (hx : W.cell? ⟨lx, 0, none⟩ = some (.slice L Ds.length c)) (hl : Lists W nk lb L Ds) (hr : ∀ d ∈ Ds, Ris ltS d.l) (hlb : lb < nk) (hnk : nk ≤ W.heap.size) (hJ : Clos (Priv nk) J) (hJx : Clos (Priv nk) Jx)
    (hY : ∀ pre x W1, J pre W1 → pre.length < (counts ltS (Ds.map Hd.l)).length → YieldAt Fence.wide (n - 1) Try.prog l #[.string x.1, .int .i64 (x.2 : Int)] W1 fun e W' => (e = .returned (.bool true) ∧ J (pre ++ [x]) W' ∧ Keep nk lb W1 W') ∨ (e = .returned (.bool false) ∧ Jx (pre ++ [x]) W')) (h0 : J [] W) :
    CallsIn Fence.wide n Try.prog 76 #[.func (.yield l) #[] #[], .pointer (some ⟨lx, 0, none⟩)] W fun e W' => (∃ v, e = .returned v) ∧ ((∃ xs, xs = counts ltS (Ds.map Hd.l) ∧ J xs W') ∨ (∃ pre, pre <+: counts ltS (Ds.map Hd.l) ∧ Jx pre W')) := by
  obtain ⟨i0, hi, hz0, hz1, hz2⟩ := info_parts info22
  have HL := Lib.hid hl
  have HRis := Lib.hid hr
  have hx2 : ((W.alloc (.cells #[] 59)).alloc (.cells #[.slice (some ⟨W.heap.size, 0, none⟩) 0 0] 106)).cell? ⟨lx, 0, none⟩ = some (.slice L Ds.length c) := ((((Below.refl _ W).alloc (Nat.le_refl _) _).alloc (by rw [World.size_alloc]; omega) _).cell (p := ⟨lx, 0, none⟩) (World.block_lt_of_cell? W _ hx)).trans hx
  have HG : Hid (GR W Ds 0 W.heap.size 0 ((W.alloc (.cells #[] 59)).alloc (.cells #[.slice (some ⟨W.heap.size, 0, none⟩) 0 0] 106))) := Lib.hid (by
    have hz : (W.alloc (.cells #[] 59)).heap.size = W.heap.size + 1 := World.size_alloc _ _
    refine ⟨?_, ⟨rfl, .inr ⟨W.heap.size, 0, #[], rfl, Nat.le_refl _, ?_, Nat.le_refl _, Nat.zero_le _, rfl, rfl⟩⟩, ((Below.refl _ W).alloc (Nat.le_refl _) _).alloc (by rw [hz]; omega) _⟩
    · have := Boxed.new (W.alloc (.cells #[] 59)) 106 (.slice (some ⟨W.heap.size, 0, none⟩) 0 0)
      rwa [hz] at this
    · exact (Below.heap_alloc _ _ _ (by rw [hz]; omega)).trans (World.alloc_heap_new W _))
  have HJ := Lib.hid (And.intro hJ h0)
  have HB0 := Lib.hid hlb
  clear hlb
  have HY := Lib.hid hY
  clear hl hr hx hJ h0 hY
  refine callsIn_of_wp Try.func76 rfl trivial ?_ rfl
  simp only [Try.ntmps76, List.size_toArray, List.length_cons, List.length_nil, Nat.reduceAdd, Nat.reduceSub, Array.replicate_succ, Array.replicate_zero, List.push_toArray, List.append_toArray, List.nil_append, List.cons_append]
  gi_wp2
  clear hx2
  gi_loopw [12] (fun v wr => ∃ k g cap, k ≤ Ds.length ∧ v = .int .i64 (k : Nat) ∧ Hid (GR W Ds k g cap wr)) (fun v _ => Ds.length - (intOf v).toNat)
  case atStart => exact ⟨0, _, _, Nat.zero_le _, rfl, HG⟩
  case round =>
    obtain ⟨k, g, cap, hk, rfl, HW⟩ := hrel
    by_cases hin : k < Ds.length
    · have hlt : (k : Int) < (Ds.length : Int) := by omega
      obtain ⟨lr, lo, rfl, hc⟩ := HL.out.head k hin
      have hcw := (HW.out.below.cell (p := ⟨lr, lo + k, none⟩) (World.block_lt_of_cell? W _ hc)).trans hc
      clear hc
      obtain ⟨Ai, ni, xi, ei, en⟩ : ∃ A n c, (Ds.getD k default).v = .slice A n c ∧ n = (Ds.getD k default).l.length := ⟨_, _, _, rfl, rfl⟩
      have HE := Lib.hid (And.intro ei en)
      rw [ei] at hcw
      clear ei en
      by_cases hp : 0 < ni
      · have hp' : (0 : Int) < (ni : Int) := by omega
        have hv := HW.out.box
        have hrow := HW.out.row
        have hB := HW.out.below
        have hc0 := hv.cell
        have hfl := full_len Ds k
        have hml : (full (Ds.take k)).length + 1 ≤ maxLen := by simp only [maxLen]; omega
        gi_wp2_with (gi_at_builtin; refine wpListIn_append_own _ rfl _ _ 106 rfl W.heap.size 59 i0 (.slice none 0 0) 1 24 Try.underlying106 hi hz0 hz1 hz2 rfl (by decide) _ _ _ rfl (hrow.alloc _) ⟨wr.heap.size, 0, none⟩ 1 1 [.slice Ai ni xi] rfl rfl (cell_one_new _ _ _) (by simp [Value.oneCell']) (by omega) (by omega) (by have := hB.size; simp; omega) ?_; intro v' w1 hown' hgrow _; obtain ⟨g', cap', rfl⟩ := ownsRow_succ hown'; obtain ⟨hv1, hv2, hr2, hk2, hb2⟩ := hv.appended (by decide) hrow hB.size (by omega) hown' hgrow; have hc1 := hv1.cell; have hf1 := hv1.frozen)
        exact ⟨⟨k + 1, g', cap', by omega, by go_num, Lib.hid (HW.out.next hin (by rw [← HE.out.2]; exact hp) hv2 HE.out.1 hr2 hb2)⟩, by simp [intOf]; omega⟩
      · have hp' : ¬ ((0 : Int) < (ni : Int)) := by omega
        gi_wp2
        exact ⟨⟨k + 1, g, cap, by omega, by go_num, Lib.hid (HW.out.skip hin (by rw [← HE.out.2]; exact hp))⟩, by simp [intOf]; omega⟩
    · have hlt : ¬ ((k : Int) < (Ds.length : Int)) := by omega
      obtain rfl : k = Ds.length := by omega
      obtain ⟨hH, hg⟩ := GR.heap HW.out HL.out hnk
      have hlen : (full Ds).length ≤ 1048576 := Nat.le_trans (List.length_filter_le _ _) hm
      have hIn := init_as wr (W.heap.size + 1) g cap (full Ds) hH (full_full Ds) hlen
      have HI := Lib.hid hIn
      have HH := Lib.hid hH
      clear hIn hH
      have hn1 : 1 ≤ n := by omega
      gi_wp2_with (refine ⟨trivial, ?_⟩; gi_at_call 70; refine (callsIn_wide.2 HI.out).mono ?_; rintro e W2 ⟨es, rfl, q1, q2, q3, q4⟩; have HO : Hid (OR nk lb (W.heap.size + 1) g cap (Ds.map Hd.l) J [] es W2) := Lib.hid ⟨q1, (full_full Ds).perm q2, fun d hd => HRis.out d (List.mem_filter.1 (q2.mem_iff.1 hd)).1, q3, by rw [List.nil_append]; exact (counts_perm totS (q2.map _)).trans (counts_same totS (cnt_full Ds)), HJ.out.1 _ _ _ (HJ.out.1 _ _ _ HJ.out.2 (Priv.below HW.out.below)) (HB.priv HH.out q4 (Nat.le_trans hnk hg)), fun d hd => (HL.out.row d (List.mem_filter.1 (q2.mem_iff.1 hd)).1).2 ((full_full Ds).perm q2 d hd), ⟨by omega, Nat.le_trans hnk hg⟩, by rw [q2.length_eq]; exact hlen⟩; clear q1 q2 q3 q4)
      clear HI HH HW
      refine wpIn_wide.2 ?_
      have eT : ∀ (pre : List (ByteArray × Nat)) (es : List Hd) (wr : World), (OR nk lb (W.heap.size + 1) g cap (Ds.map Hd.l) J pre es wr) → pre.length + (counts ltS (es.map Hd.l)).length = (counts ltS (Ds.map Hd.l)).length := fun pre es wr h => by rw [← h.here, List.length_append]
      have ET := Lib.hid eT
      clear eT
      go_loopg [6] (counts ltS (Ds.map Hd.l)).length (fun gk v wr => ∃ (pre : List (ByteArray × Nat)) (es : List Hd), (counts ltS (es.map Hd.l)).length ≤ gk ∧ Hid (OR nk lb (W.heap.size + 1) g cap (Ds.map Hd.l) J pre es wr))
      case atStart => exact ⟨[], es, by have := ET.out _ _ _ HO.out; omega, HO⟩
      case round =>
        clear HO
        obtain ⟨pre, es, hgk, HO⟩ := hrel
        have ct := HO.out.heap.box.get 0 _ rfl
        cases es with
        | nil =>
          rw [List.length_nil] at ct
          go_wp2_with (first | (go_at_call 77; ((with_reducible refine (len_as _ _ _ _).mono ?_); rintro e wl ⟨rfl, hwl⟩; obtain rfl := hwl.symm)) | go_in)
          go_end0
          exact ⟨⟨_, rfl⟩, .inl ⟨pre, by have := HO.out.here; simpa [counts_nil] using this, HO.out.inv⟩⟩
        | cons d t =>
          obtain ⟨o, ea, eh⟩ := (HO.out.heap.good d (by simp)).head (HO.out.full d (by simp))
          have cr : wr.cell? ⟨g, 0, none⟩ = some d.v := HO.out.heap.cellv (i := 0) (by simp)
          have HIs := Lib.hid (IR2.start HO.out)
          rw [show (d :: t).getD 0 default = d from rfl] at HIs
          obtain ⟨n1, k1, ev, en⟩ : ∃ n c, d.v = .slice (some ⟨d.g, o, none⟩) n c ∧ n = d.l.length := ⟨_, _, by unfold Hd.v; rw [ea], rfl⟩
          have hn0 : (0 : Int) < (n1 : Int) := by have := HO.out.full d (by simp); omega
          rw [ev] at cr
          rw [List.length_cons] at ct
          have h0t : (0 : Int) < ((t.length + 1 : Nat) : Int) := by omega
          obtain ⟨x, hx⟩ : ∃ x, key d = x := ⟨_, rfl⟩
          rw [hx] at eh HIs
          have HE := Lib.hid (And.intro hx (And.intro ea ev))
          clear ea ev en hx
          go_wp2_with (first | (go_at_call 77; ((with_reducible refine (len_as _ _ _ _).mono ?_); rintro e wl ⟨rfl, hwl⟩; obtain rfl := hwl.symm)) | go_in)
          clear cr ct eh hn0 h0t
          go_loopg [7] (bulk (d :: t)) (fun gk2 v wr2 => ∃ (m : Nat) (es2 : List Hd), v = .int .i64 m ∧ bulk es2 ≤ gk2 ∧ Hid (IR2 nk lb (W.heap.size + 1) g cap J pre ((d :: t).map Hd.l) x m es2 wr2))
          case atStart => exact ⟨0, d :: t, rfl, Nat.le_refl _, HIs⟩
          case round =>
            clear HIs
            obtain ⟨m, es2, rfl, hgk2, HI⟩ := hrel
            have ct := HI.out.heap.box.get 0 _ rfl
            have hmb := HI.out.bound
            cases es2 with
            | nil =>
              rw [List.length_nil] at ct
              have hxx : ([] : List Hd) = [] ∨ key (([] : List Hd).getD 0 default) ≠ key ((d :: t).getD 0 default) := .inl rfl
              have hcn := IR2.out HO.out (by simp) HI.out HE.out.1 hxx
              have hpre : pre.length < (counts ltS (Ds.map Hd.l)).length := by
                have h1 := ET.out _ _ _ HO.out
                rw [hcn, List.length_cons] at h1
                omega
              obtain ⟨fn, tmps, assign, body, hy, hR⟩ := HY.out pre (x, m) wr HI.out.inv hpre
              dsimp only at hy
              have HR := Lib.hid hR
              have HC := Lib.hid hcn
              clear hR hcn hpre hxx
              go_upto_region 16 with (first | (go_at_call 77; ((with_reducible refine (len_as _ _ _ _).mono ?_); rintro e wl ⟨rfl, hwl⟩; obtain rfl := hwl.symm)) | go_in)
              refine (wpIn_wide (n := n)).1 ?_
              gi_wp2
              refine HR.out.mono ?_
              rintro e W3 (⟨rfl, hJ3, hk3⟩ | ⟨rfl, hJx3⟩)
              · have HN := Lib.hid (IR2.next HO.out HI.out HC.out HB0.out hJ3 hk3)
                clear hJ3 hk3
                gi_wp2
                go_wp2
                go_roundg ((counts ltS (([] : List Hd).map Hd.l)).length)
                case measure =>
                  have h1 := HC.out
                  rw [h1, List.length_cons] at hgk
                  omega
                case rel => exact ⟨pre ++ [(x, m)], ([] : List Hd), Nat.le_refl _, HN⟩
              · gi_wp2
                go_wp2
                refine bodyPost_ret (results_none rfl _ _ _) rfl ?_
                exact ⟨⟨_, rfl⟩, .inr ⟨pre ++ [(x, m)], by
                  have h1 := HO.out.here
                  rw [HC.out] at h1
                  exact ⟨counts ltS (([] : List Hd).map Hd.l), by rw [← h1]; simp⟩, hJx3⟩⟩
            | cons d2 t2 =>
              obtain ⟨o2, ea2, eh2⟩ := (HI.out.heap.good d2 (by simp)).head (HI.out.full d2 (by simp))
              have cr : wr.cell? ⟨g, 0, none⟩ = some d2.v := HI.out.heap.cellv (i := 0) (by simp)
              obtain ⟨n2, k2, ev2, en2⟩ : ∃ n c, d2.v = .slice (some ⟨d2.g, o2, none⟩) n c ∧ n = d2.l.length := ⟨_, _, by unfold Hd.v; rw [ea2], rfl⟩
              have hn2 : (0 : Int) < (n2 : Int) := by have := HI.out.full d2 (by simp); omega
              rw [ev2] at cr
              rw [List.length_cons] at ct
              have h0t : (0 : Int) < ((t2.length + 1 : Nat) : Int) := by omega
              obtain ⟨x2, hx2⟩ : ∃ x, key d2 = x := ⟨_, rfl⟩
              rw [hx2] at eh2
              by_cases hxe : x2 = x
              · subst hxe
                obtain ⟨A3, n3, k3, e3, en3⟩ : ∃ A n c, (tl d2).v = .slice A n c ∧ n = (tl d2).l.length := ⟨_, _, _, rfl, rfl⟩
                have hcut : ∀ W, (Instr.slice 59 (.slice (some ⟨d2.g, o2, none⟩) n2 k2) (some (.int .i64 1)) none none).run Try.prog W = .ok (.slice A3 n3 k3) W := by
                  have h1 := ev2
                  unfold Hd.v at h1
                  rw [Value.slice.injEq] at h1
                  have h2 := e3
                  unfold Hd.v tl at h2
                  rw [Value.slice.injEq] at h2
                  rw [← h2.1, ← h2.2.1, ← h2.2.2, ← h1.1, ← h1.2.1, ← h1.2.2]
                  have := cut_run d2.A d2.l.length d2.c 1 1 rfl (HI.out.full d2 (by simp))
                  simpa [List.length_drop] using this
                have hput := HB.put HI.out.heap (HI.out.full d2 (by simp))
                rw [e3] at hput
                have cp := hput.box.get 0 _ rfl
                have cq := hput.cellv (i := 0) (by simp)
                rw [show (tl d2 :: t2).getD 0 default = tl d2 from rfl, e3] at cq
                rw [List.length_cons] at cp
                have f0 := HI.out.heap.free 0
                have hl2 : t2.length + 1 ≤ 1048576 := HI.out.len
                have hbk := bulk_cons d2 t2
                have hlt2 : (tl d2).l.length + 1 = d2.l.length := by
                  have := HI.out.full d2 (by simp)
                  show (d2.l.drop 1).length + 1 = _
                  rw [List.length_drop]; omega
                have HX2 := Lib.hid (And.intro hx2 (And.intro hbk (And.intro hlt2 (And.intro e3 en3))))
                have HP := Lib.hid hput
                clear ea2 ev2 en2 hx2 hbk hlt2 e3 hput
                by_cases hz : n3 = 0
                · have PC := fun W5 (hW : HB W5 (W.heap.size + 1) g cap (tl d2 :: t2)) => hpop_as W5 (W.heap.size + 1) g cap t2 (tl d2) hW (fun e he => HI.out.full e (by simp [he])) HI.out.heap1 (by omega)
                  have H1 := Lib.hid PC
                  have hzz : ((n3 : Int) == 0) = true := by subst hz; rfl
                  have H0 := Lib.hid (show (tl d2).l.length = 0 from en3 ▸ hz)
                  clear PC hz en3
                  go_wp2_with (first | (go_at_call 77; ((with_reducible refine (len_as _ _ _ _).mono ?_); rintro e wl ⟨rfl, hwl⟩; obtain rfl := hwl.symm)) | go_in)
                  refine start_ (n := 11) (S := fun w' => w'.cell? ⟨W.heap.size + 1, 0, none⟩ = some (.slice (some ⟨g, 0, none⟩) (t2.length + 1) cap) ∧ w'.cell? ⟨g, 0, none⟩ = some (.slice (some ⟨d2.g, o2, none⟩) n2 k2)) (ds := [10]) #[false, false, false, false, false, false, false, false, false, false, false] (by kernel_rfl) rfl rfl ⟨ct, cr⟩ (fun hHeld => ?_)
                  refine pure_ (i := 0) (N := some 61) (v := ?_) (a' := ?_) #[true, false, false, false, false, false, false, false, false, false, false] rfl rfl (by kernel_rfl) (fun _ _ _ h => h) (Or.inl ⟨by rfl, ?_⟩) ?_ ?_
                  rotate_left
                  · intro w'
                    go_simp
                    with_reducible rfl
                  rotate_left
                  · simp only [Act.put, List.setIfInBounds_toArray, List.set_cons_zero, List.set_cons_succ, i64_w, i32_w]
                    rfl
                  refine pure_ (i := 1) (N := some 62) (v := ?_) (a' := ?_) #[true, true, false, false, false, false, false, false, false, false, false] rfl rfl (by kernel_rfl) (fun _ _ _ h => h) (Or.inl ⟨by rfl, ?_⟩) ?_ ?_
                  rotate_left
                  · intro w'
                    go_simp
                    with_reducible rfl
                  rotate_left
                  · simp only [Act.put, List.setIfInBounds_toArray, List.set_cons_zero, List.set_cons_succ, i64_w, i32_w]
                    rfl
                  refine pure_ (i := 3) (N := some 64) (v := ?_) (a' := ?_) #[true, true, false, true, false, false, false, false, false, false, false] rfl rfl (by kernel_rfl) (fun _ _ _ h => h) (Or.inl ⟨by rfl, ?_⟩) ?_ ?_
                  rotate_left
                  · intro w'
                    go_simp
                    with_reducible rfl
                  rotate_left
                  · simp only [Act.put, List.setIfInBounds_toArray, List.set_cons_zero, List.set_cons_succ, i64_w, i32_w]
                    rfl
                  refine pure_ (i := 4) (N := some 65) (v := ?_) (a' := ?_) #[true, true, false, true, true, false, false, false, false, false, false] rfl rfl (by kernel_rfl) (fun _ _ _ h => h) (Or.inl ⟨by rfl, ?_⟩) ?_ ?_
                  rotate_left
                  · intro w'
                    go_simp
                    with_reducible rfl
                  rotate_left
                  · simp only [Act.put, List.setIfInBounds_toArray, List.set_cons_zero, List.set_cons_succ, i64_w, i32_w]
                    rfl
                  refine take_ (i := 2) (N := some 63) (v := ?_) (a' := ?_) #[true, true, true, true, true, false, false, false, false, false, false] rfl rfl (by kernel_rfl) (fun _ _ _ h => h) (Or.inl ⟨by rfl, ?_⟩) hHeld ?_ ?_
                  rotate_left
                  · rintro w' ⟨s0, s1⟩
                    go_simp
                    with_reducible rfl
                  rotate_left
                  · simp only [Act.put, List.setIfInBounds_toArray, List.set_cons_zero, List.set_cons_succ, i64_w, i32_w]
                    rfl
                  refine take_ (i := 5) (N := some 66) (v := ?_) (a' := ?_) #[true, true, true, true, true, true, false, false, false, false, false] rfl rfl (by kernel_rfl) (fun _ _ _ h => h) (Or.inl ⟨by rfl, ?_⟩) hHeld ?_ ?_
                  rotate_left
                  · rintro w' ⟨s0, s1⟩
                    go_simp
                    with_reducible rfl
                  rotate_left
                  · simp only [Act.put, List.setIfInBounds_toArray, List.set_cons_zero, List.set_cons_succ, i64_w, i32_w]
                    rfl
                  refine pure_ (i := 6) (N := some 67) (v := ?_) (a' := ?_) #[true, true, true, true, true, true, true, false, false, false, false] rfl rfl (by kernel_rfl) (fun _ _ _ h => h) (Or.inl ⟨by rfl, ?_⟩) ?_ ?_
                  rotate_left
                  · intro w'
                    go_simp
                    with_reducible rfl
                  rotate_left
                  · simp only [Act.put, List.setIfInBounds_toArray, List.set_cons_zero, List.set_cons_succ, i64_w, i32_w]
                    rfl
                  refine take_ (i := 7) (N := some 68) (v := ?_) (a' := ?_) #[true, true, true, true, true, true, true, true, false, false, false] rfl rfl (by kernel_rfl) (fun _ _ _ h => h) (Or.inl ⟨by rfl, ?_⟩) hHeld ?_ ?_
                  rotate_left
                  · rintro w' ⟨s0, s1⟩
                    go_simp
                    with_reducible rfl
                  rotate_left
                  · simp only [Act.put, List.setIfInBounds_toArray, List.set_cons_zero, List.set_cons_succ, i64_w, i32_w]
                    rfl
                  refine pure_ (i := 8) (N := some 69) (v := ?_) (a' := ?_) #[true, true, true, true, true, true, true, true, true, false, false] rfl rfl (by kernel_rfl) (fun _ _ _ h => h) (Or.inl ⟨by rfl, ?_⟩) ?_ ?_
                  rotate_left
                  · intro w'
                    go_simp
                    with_reducible rfl
                  rotate_left
                  · simp only [Act.put, List.setIfInBounds_toArray, List.set_cons_zero, List.set_cons_succ, i64_w, i32_w]
                    rfl
                  refine pure_ (i := 9) (N := some 70) (v := ?_) (a' := ?_) #[true, true, true, true, true, true, true, true, true, true, false] rfl rfl (by kernel_rfl) (fun _ _ _ h => h) (Or.inl ⟨by rfl, ?_⟩) ?_ ?_
                  rotate_left
                  · intro w'
                    go_simp
                    with_reducible rfl
                  rotate_left
                  · simp only [Act.put, List.setIfInBounds_toArray, List.set_cons_zero, List.set_cons_succ, i64_w, i32_w]
                    rfl
                  refine last_ (i := 10) (N := none) #[true, true, true, true, true, true, true, true, true, true, true] rfl rfl (by kernel_rfl) (by decide) (fun K hK => ?_)
                  refine skip_ (w1 := ?_) (by rfl) rfl ?_ ?_
                  rotate_left
                  · go_simp
                    rfl
                  refine hK.out _ _ ?_
                  clear hK K
                  refine done_ (by kernel_rfl) ?_
                  go_wp2_with (first | (go_at_call 72; ((with_reducible refine (H1.out _ ?hx).mono ?_); (case hx => first | exact HP.out.draw 1 | exact HP.out); rintro e W6 ⟨fs, rfl, p1, p2, p3, p4⟩; have HQ := Lib.hid (And.intro p2 (IR2.pop HI.out (HX2.out.1) HJ.out.1 H0.out p1 p2 p3 (by rw [HX2.out.2.2.2.1]; exact ⟨p4.os, p4.tape, p4.output, p4.size, p4.block⟩))); clear p1 p2 p3 p4)) | go_in)
                  go_roundg (bulk fs)
                  case measure =>
                    have h1 := bulk_perm HQ.out.1
                    have h2 := HX2.out.2.1
                    have h3 := HX2.out.2.2.1
                    omega
                  case rel => exact ⟨m + 1, fs, by go_num, Nat.le_refl _, HQ.out.2⟩
                · have PC := fun W5 (hW : HB W5 (W.heap.size + 1) g cap (tl d2 :: t2)) => fix_as W5 (W.heap.size + 1) g cap (tl d2 :: t2) hW (fun e he => by
                    rcases List.mem_cons.1 he with rfl | he
                    · rw [← en3]; omega
                    · exact HI.out.full e (by simp [he])) HI.out.heap1 hl2
                  have H1 := Lib.hid PC
                  have hzz : ((n3 : Int) == 0) = false := beq_eq_false_iff_ne.mpr (by omega)
                  have H0 := Lib.hid (show 0 < (tl d2).l.length by rw [← en3]; omega)
                  clear PC hz en3
                  go_wp2_with (first | (go_at_call 77; ((with_reducible refine (len_as _ _ _ _).mono ?_); rintro e wl ⟨rfl, hwl⟩; obtain rfl := hwl.symm)) | go_in)
                  refine start_ (n := 11) (S := fun w' => w'.cell? ⟨W.heap.size + 1, 0, none⟩ = some (.slice (some ⟨g, 0, none⟩) (t2.length + 1) cap) ∧ w'.cell? ⟨g, 0, none⟩ = some (.slice (some ⟨d2.g, o2, none⟩) n2 k2)) (ds := [10]) #[false, false, false, false, false, false, false, false, false, false, false] (by kernel_rfl) rfl rfl ⟨ct, cr⟩ (fun hHeld => ?_)
                  refine pure_ (i := 0) (N := some 61) (v := ?_) (a' := ?_) #[true, false, false, false, false, false, false, false, false, false, false] rfl rfl (by kernel_rfl) (fun _ _ _ h => h) (Or.inl ⟨by rfl, ?_⟩) ?_ ?_
                  rotate_left
                  · intro w'
                    go_simp
                    with_reducible rfl
                  rotate_left
                  · simp only [Act.put, List.setIfInBounds_toArray, List.set_cons_zero, List.set_cons_succ, i64_w, i32_w]
                    rfl
                  refine pure_ (i := 1) (N := some 62) (v := ?_) (a' := ?_) #[true, true, false, false, false, false, false, false, false, false, false] rfl rfl (by kernel_rfl) (fun _ _ _ h => h) (Or.inl ⟨by rfl, ?_⟩) ?_ ?_
                  rotate_left
                  · intro w'
                    go_simp
                    with_reducible rfl
                  rotate_left
                  · simp only [Act.put, List.setIfInBounds_toArray, List.set_cons_zero, List.set_cons_succ, i64_w, i32_w]
                    rfl
                  refine pure_ (i := 3) (N := some 64) (v := ?_) (a' := ?_) #[true, true, false, true, false, false, false, false, false, false, false] rfl rfl (by kernel_rfl) (fun _ _ _ h => h) (Or.inl ⟨by rfl, ?_⟩) ?_ ?_
                  rotate_left
                  · intro w'
                    go_simp
                    with_reducible rfl
                  rotate_left
                  · simp only [Act.put, List.setIfInBounds_toArray, List.set_cons_zero, List.set_cons_succ, i64_w, i32_w]
                    rfl
                  refine pure_ (i := 4) (N := some 65) (v := ?_) (a' := ?_) #[true, true, false, true, true, false, false, false, false, false, false] rfl rfl (by kernel_rfl) (fun _ _ _ h => h) (Or.inl ⟨by rfl, ?_⟩) ?_ ?_
                  rotate_left
                  · intro w'
                    go_simp
                    with_reducible rfl
                  rotate_left
                  · simp only [Act.put, List.setIfInBounds_toArray, List.set_cons_zero, List.set_cons_succ, i64_w, i32_w]
                    rfl
                  refine take_ (i := 2) (N := some 63) (v := ?_) (a' := ?_) #[true, true, true, true, true, false, false, false, false, false, false] rfl rfl (by kernel_rfl) (fun _ _ _ h => h) (Or.inl ⟨by rfl, ?_⟩) hHeld ?_ ?_
                  rotate_left
                  · rintro w' ⟨s0, s1⟩
                    go_simp
                    with_reducible rfl
                  rotate_left
                  · simp only [Act.put, List.setIfInBounds_toArray, List.set_cons_zero, List.set_cons_succ, i64_w, i32_w]
                    rfl
                  refine take_ (i := 5) (N := some 66) (v := ?_) (a' := ?_) #[true, true, true, true, true, true, false, false, false, false, false] rfl rfl (by kernel_rfl) (fun _ _ _ h => h) (Or.inl ⟨by rfl, ?_⟩) hHeld ?_ ?_
                  rotate_left
                  · rintro w' ⟨s0, s1⟩
                    go_simp
                    with_reducible rfl
                  rotate_left
                  · simp only [Act.put, List.setIfInBounds_toArray, List.set_cons_zero, List.set_cons_succ, i64_w, i32_w]
                    rfl
                  refine pure_ (i := 6) (N := some 67) (v := ?_) (a' := ?_) #[true, true, true, true, true, true, true, false, false, false, false] rfl rfl (by kernel_rfl) (fun _ _ _ h => h) (Or.inl ⟨by rfl, ?_⟩) ?_ ?_
                  rotate_left
                  · intro w'
                    go_simp
                    with_reducible rfl
                  rotate_left
                  · simp only [Act.put, List.setIfInBounds_toArray, List.set_cons_zero, List.set_cons_succ, i64_w, i32_w]
                    rfl
                  refine take_ (i := 7) (N := some 68) (v := ?_) (a' := ?_) #[true, true, true, true, true, true, true, true, false, false, false] rfl rfl (by kernel_rfl) (fun _ _ _ h => h) (Or.inl ⟨by rfl, ?_⟩) hHeld ?_ ?_
                  rotate_left
                  · rintro w' ⟨s0, s1⟩
                    go_simp
                    with_reducible rfl
                  rotate_left
                  · simp only [Act.put, List.setIfInBounds_toArray, List.set_cons_zero, List.set_cons_succ, i64_w, i32_w]
                    rfl
                  refine pure_ (i := 8) (N := some 69) (v := ?_) (a' := ?_) #[true, true, true, true, true, true, true, true, true, false, false] rfl rfl (by kernel_rfl) (fun _ _ _ h => h) (Or.inl ⟨by rfl, ?_⟩) ?_ ?_
                  rotate_left
                  · intro w'
                    go_simp
                    with_reducible rfl
                  rotate_left
                  · simp only [Act.put, List.setIfInBounds_toArray, List.set_cons_zero, List.set_cons_succ, i64_w, i32_w]
                    rfl
                  refine pure_ (i := 9) (N := some 70) (v := ?_) (a' := ?_) #[true, true, true, true, true, true, true, true, true, true, false] rfl rfl (by kernel_rfl) (fun _ _ _ h => h) (Or.inl ⟨by rfl, ?_⟩) ?_ ?_
                  rotate_left
                  · intro w'
                    go_simp
                    with_reducible rfl
                  rotate_left
                  · simp only [Act.put, List.setIfInBounds_toArray, List.set_cons_zero, List.set_cons_succ, i64_w, i32_w]
                    rfl
                  refine last_ (i := 10) (N := none) #[true, true, true, true, true, true, true, true, true, true, true] rfl rfl (by kernel_rfl) (by decide) (fun K hK => ?_)
                  refine skip_ (w1 := ?_) (by rfl) rfl ?_ ?_
                  rotate_left
                  · go_simp
                    rfl
                  refine hK.out _ _ ?_
                  clear hK K
                  refine done_ (by kernel_rfl) ?_
                  go_wp2_with (first | (go_at_call 73; ((with_reducible refine (H1.out _ ?hx).mono ?_); (case hx => first | exact HP.out.draw 1 | exact HP.out); rintro e W6 ⟨fs, rfl, p1, p2, p3, p4⟩; have HQ := Lib.hid (And.intro p2 (IR2.fix HI.out (HX2.out.1) HJ.out.1 H0.out p1 p2 p3 (by rw [HX2.out.2.2.2.1]; exact ⟨p4.os, p4.tape, p4.output, p4.size, p4.block⟩))); clear p1 p2 p3 p4)) | go_in)
                  go_roundg (bulk fs)
                  case measure =>
                    have h1 := bulk_perm HQ.out.1
                    have h2 := HX2.out.2.1
                    have h3 := HX2.out.2.2.1
                    rw [bulk_cons] at h1
                    omega
                  case rel => exact ⟨m + 1, fs, by go_num, Nat.le_refl _, HQ.out.2⟩
              · have e1 : (x2.toList == x.toList) = false := beq_eq_false_iff_ne.mpr (fun e => hxe (OfT.toList_inj e))
                have hxx : (d2 :: t2) = [] ∨ key ((d2 :: t2).getD 0 default) ≠ key ((d :: t).getD 0 default) := .inr (by rw [show (d2 :: t2).getD 0 default = d2 from rfl, show (d :: t).getD 0 default = d from rfl, hx2, HE.out.1]; exact hxe)
                clear ea2 ev2 en2 hx2 hxe
                have hcn := IR2.out HO.out (by simp) HI.out HE.out.1 hxx
                have hpre : pre.length < (counts ltS (Ds.map Hd.l)).length := by
                  have h1 := ET.out _ _ _ HO.out
                  rw [hcn, List.length_cons] at h1
                  omega
                obtain ⟨fn, tmps, assign, body, hy, hR⟩ := HY.out pre (x, m) wr HI.out.inv hpre
                dsimp only at hy
                have HR := Lib.hid hR
                have HC := Lib.hid hcn
                clear hR hcn hpre hxx
                go_upto_region 16 with (first | (go_at_call 77; ((with_reducible refine (len_as _ _ _ _).mono ?_); rintro e wl ⟨rfl, hwl⟩; obtain rfl := hwl.symm)) | go_in)
                refine (wpIn_wide (n := n)).1 ?_
                gi_wp2
                refine HR.out.mono ?_
                rintro e W3 (⟨rfl, hJ3, hk3⟩ | ⟨rfl, hJx3⟩)
                · have HN := Lib.hid (IR2.next HO.out HI.out HC.out HB0.out hJ3 hk3)
                  clear hJ3 hk3
                  gi_wp2
                  go_wp2
                  go_roundg ((counts ltS ((d2 :: t2).map Hd.l)).length)
                  case measure =>
                    have h1 := HC.out
                    rw [h1, List.length_cons] at hgk
                    omega
                  case rel => exact ⟨pre ++ [(x, m)], (d2 :: t2), Nat.le_refl _, HN⟩
                · gi_wp2
                  go_wp2
                  refine bodyPost_ret (results_none rfl _ _ _) rfl ?_
                  exact ⟨⟨_, rfl⟩, .inr ⟨pre ++ [(x, m)], by
                    have h1 := HO.out.here
                    rw [HC.out] at h1
                    exact ⟨counts ltS ((d2 :: t2).map Hd.l), by rw [← h1]; simp⟩, hJx3⟩⟩
end Go.Proofs.Ytnflokhffmfifaa.CountWT

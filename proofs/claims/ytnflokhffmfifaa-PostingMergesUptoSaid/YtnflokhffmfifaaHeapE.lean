/- By hand: container/heap at the heap of headers: Init, Fix of the top, Pop. For every list and world. -/
import Derived.Test.YtnflokhffmfifaaHeapD
set_option linter.unusedVariables false
set_option linter.unusedSimpArgs false
namespace Go.Proofs.Ytnflokhffmfifaa.HeapW
open Go.RowKit Go.Proofs.Ytnflokhffmfifaa.Blk Go.Proofs.Ytnflokhffmfifaa.Ris Go.Proofs.Ytnflokhffmfifaa.Cur Go.Proofs.Ytnflokhffmfifaa.OfW Go.Proofs.Ytnflokhffmfifaa.HeapPure Go.Proofs.YtnflokhffmfifaaW.PrintWords Go.Proofs.YtnflokhffmfifaaW.PrintLast Go.Proofs.YtnflokhffmfifaaW.PrintMore
/-- Each header's row is not empty. -/
def Full (ds : List Hd) : Prop := ∀ d ∈ ds, 0 < d.l.length
theorem Full.at_ {ds : List Hd} (h : Full ds) (c : Nat) (hc : c < ds.length) : 0 < (ds.getD c default).l.length := by
  rw [← getElem_getD _ _ hc]
  exact h _ (List.getElem_mem hc)
theorem Full.perm {ds es : List Hd} (h : Full ds) (p : es.Perm ds) : Full es := fun d hd => h d (p.mem_iff.1 hd)
structure IR (w : World) (hb r cap k : Nat) (ds es : List Hd) (wr : World) : Prop where
  hb_ : HB wr hb r cap es
  perm : es.Perm ds
  heap : HeapFrom ltI key k es.length es
  grown : w.grownBy wr (some r)
set_option maxHeartbeats 2000000 in
set_option maxRecDepth 100000 in
theorem init_as (w : World) (hb r cap : Nat) (ds : List Hd) (h : HB w hb r cap ds) (hf : Full ds) (hm : ds.length ≤ 1048576) :
    Calls Try.prog 70 #[.iface 97 (.pointer (some ⟨hb, 0, none⟩))] w fun e w' => ∃ es, e = .returned (.tuple #[]) ∧ HB w' hb r cap es ∧ es.Perm ds ∧ HeapFrom ltI key 0 es.length es ∧ w.grownBy w' (some r) := by
  have c0 := h.box.get 0 _ rfl
  have mL := mLen w hb _ c0
  have eL : ∀ args w, (callFunc 71 args).run Try.prog w = .ok (.enter 71 args) w := enters_of Try.func71 (by kernel_rfl) rfl
  have hd : (ds.length : Int).tdiv 2 = ((ds.length / 2 : Nat) : Int) := by rw [Int.tdiv_eq_ediv_of_nonneg (by omega)]; omega
  have hs : IntKind.i64.wrap (((ds.length / 2 : Nat) : Int) - 1) = ((ds.length / 2 : Nat) : Int) - 1 := by rw [i64_w]; unfold wrap64; omega
  have HD := Lib.hid (show IR w hb r cap (ds.length / 2) ds ds w from ⟨h, .refl _, heap_big key (by omega), grown_refl _ _⟩)
  have HF := Lib.hid hf
  have hq : ds.length / 2 ≤ 524288 := by omega
  clear h hf
  generalize ds.length / 2 = q at hd hs HD hq
  go_enter Try.func70, Try.ntmps70
  go_wp2_with (first | (go_at_fn 71; ((with_reducible refine (len_as _ _ _ _).mono ?_); rintro e wl ⟨rfl, hwl⟩; obtain rfl := hwl.symm)) | go_in)
  go_loopw [3] (fun v wr => ∃ (k : Nat) (z : Int) (es : List Hd), k ≤ 524288 ∧ z + 1 = k ∧ v = .int .i64 z ∧ Hid (IR w hb r cap k ds es wr)) (fun v _ => (intOf v + 1).toNat)
  case atStart => exact ⟨q, (q : Int) - 1, ds, hq, by omega, rfl, HD⟩
  case round =>
    obtain ⟨k, z, es, hk, hz, rfl, HW⟩ := hrel
    by_cases hk0 : 0 < k
    · obtain ⟨m, rfl⟩ : ∃ m, k = m + 1 := ⟨k - 1, by omega⟩
      obtain rfl : z = (m : Int) := by omega
      have t1 : (0 : Int) ≤ (m : Int) := by omega
      have hl : es.length = ds.length := HW.out.perm.length_eq
      have D := down_as wr hb r cap m es.length m es HW.out.hb_ (Nat.le_refl _) (sift_start key HW.out.heap) (Nat.le_refl _) (fun c hc => (HF.out.perm HW.out.perm).at_ c hc) (by omega) (by omega)
      rw [hl] at D
      have H1 := Lib.hid D
      have HL := Lib.hid hl
      clear D hl
      go_wp2_with (first | (go_at_call 89; ((with_reducible refine H1.out.mono ?_); rintro e W2 ⟨b, fs, rfl, q1, q2, q3, q4, q5, q6⟩; have HQ := Lib.hid (show IR w hb r cap m ds fs W2 from ⟨q1, q2.trans HW.out.perm, by rw [q2.length_eq, HL.out]; exact q3, grown_trans HW.out.grown q6⟩); clear q1 q2 q3 q4 q5 q6)) | go_in)
      go_roundw
      case rel => exact ⟨m, (m : Int) - 1, fs, by omega, by omega, by go_num, HQ⟩
      case measure => simp [intOf] <;> omega
    · obtain rfl : k = 0 := by omega
      obtain rfl : z = -1 := by omega
      go_wp2
      go_end0
      exact ⟨es, rfl, HW.out.hb_, HW.out.perm, HW.out.heap, HW.out.grown⟩
set_option maxRecDepth 100000 in
theorem up_as (w : World) (v : Value) : Calls Try.prog 90 #[v, .int .i64 0] w fun e w' => e = .returned (.tuple #[]) ∧ Drawn0 w w' := by
  go_enter Try.func90, Try.ntmps90
  have hd : IntKind.i64.wrap (Int.tdiv (IntKind.i64.wrap (0 - 1)) 2) = 0 := by rw [i64_w, i64_w]; unfold wrap64; decide
  go_wp2_with fail
  go_loopw [1] (fun v wr => v = .int .i64 0 ∧ Drawn0 w wr) (fun v _ => 0)
  case atStart => exact ⟨rfl, Drawn0.refl _⟩
  case round =>
    obtain ⟨rfl, HW⟩ := hrel
    go_wp2
    go_end0
    exact ⟨rfl, by first | exact HW | (repeat (first | exact HW | apply Drawn0.step))⟩
set_option maxHeartbeats 2000000 in
set_option maxRecDepth 100000 in
theorem fix_as (w : World) (hb r cap : Nat) (ds : List Hd) (h : HB w hb r cap ds) (hf : Full ds) (hs : HeapFrom ltI key 1 ds.length ds) (hm : ds.length ≤ 1048576) :
    Calls Try.prog 73 #[.iface 97 (.pointer (some ⟨hb, 0, none⟩)), .int .i64 0] w fun e w' => ∃ es, e = .returned (.tuple #[]) ∧ HB w' hb r cap es ∧ es.Perm ds ∧ HeapFrom ltI key 0 es.length es ∧ w.grownBy w' (some r) := by
  have c0 := h.box.get 0 _ rfl
  have mL := mLen w hb _ c0
  have eL : ∀ args w, (callFunc 71 args).run Try.prog w = .ok (.enter 71 args) w := enters_of Try.func71 (by kernel_rfl) rfl
  have D := down_as w hb r cap 0 ds.length 0 ds h (Nat.le_refl _) (sift_start key hs) (Nat.le_refl _) (fun c hc => hf.at_ c hc) (by omega) hm
  rw [show ((0 : Nat) : Int) = 0 from rfl] at D
  have H1 := Lib.hid D
  clear D h hf hs
  go_enter Try.func73, Try.ntmps73
  go_wp2_with (first
    | (go_at_fn 71; ((with_reducible refine (len_as _ _ _ _).mono ?_); rintro e wl ⟨rfl, hwl⟩; obtain rfl := hwl.symm))
    | (go_at_call 89; ((with_reducible refine H1.out.mono ?_); rintro e W2 ⟨b, fs, rfl, q1, q2, q3, q4, q5, q6⟩; have HQ := Lib.hid (And.intro q1 (And.intro q2 (And.intro (show HeapFrom ltI key 0 fs.length fs by rw [q2.length_eq]; exact q3) q6))); clear q1 q2 q3 q4 q5 q6))
    | (go_at_call 90; ((with_reducible refine (up_as _ _).mono ?_); rintro e _ ⟨rfl, ⟨n2, rfl⟩⟩))
    | go_in)
  all_goals
    go_end0
    exact ⟨fs, rfl, (by first | exact HQ.out.1 | exact HQ.out.1.draw _), HQ.out.2.1, HQ.out.2.2.1, (by first | exact HQ.out.2.2.2 | exact grown_drewN HQ.out.2.2.2 _)⟩
end Go.Proofs.Ytnflokhffmfifaa.HeapW

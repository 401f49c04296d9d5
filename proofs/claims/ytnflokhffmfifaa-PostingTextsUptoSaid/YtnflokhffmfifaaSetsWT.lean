/- By hand: posting.sets at numbers: the lists of the sets. For every list of lists and world. -/
import Derived.Test.YtnflokhffmfifaaCountedAT
import Derived.Test.YtnflokhffmfifaaOfTX
set_option linter.unusedVariables false
set_option linter.unusedSimpArgs false
namespace Go.Proofs.Ytnflokhffmfifaa.CountWT
open Go.RowKit Go.Proofs.Ytnflokhffmfifaa.Blk Go.Proofs.Ytnflokhffmfifaa.Ris Go.Proofs.Ytnflokhffmfifaa.OfT Go.Proofs.Ytnflokhffmfifaa.Keys Go.Proofs.Ytnflokhffmfifaa.XV Go.Proofs.Ytnflokhffmfifaa.HeapPure Go.Proofs.Ytnflokhffmfifaa.HeapWT Go.Proofs.Ytnflokhffmfifaa.CountPure Go.Proofs.Ytnflokhffmfifaa.RFun Go.Proofs.YtnflokhffmfifaaW.PrintWords Go.Proofs.YtnflokhffmfifaaW.PrintLast Go.Proofs.YtnflokhffmfifaaW.PrintMore
theorem Row.nums {w : World} {g : Nat} {A : Option Addr} {c : Nat} {l : List ByteArray} (h : Row w g A c l) (hn : l.length ≤ 1048576) : Kd.C Kd.string w A l.length l := by
  refine Kd.C_of_reads (enc := Value.string) (d := E) (h1 := fun _ => rfl) ⟨rfl, by omega, fun hp => ?_⟩
  obtain ⟨o, rfl, hc⟩ := h.at_ hp
  exact ⟨_, rfl, fun i hi => by rw [add_off]; exact hc i hi⟩
theorem Row.lt {w : World} {g : Nat} {A : Option Addr} {c : Nat} {l : List ByteArray} (h : Row w g A c l) (hp : 0 < l.length) : g < w.heap.size := by
  obtain ⟨o, _, hc⟩ := h.at_ hp
  exact World.block_lt_of_cell? w _ (hc 0 hp)
/-- Headers in a row, and what they tell. -/
structure Heads (W : World) (L : Option Addr) (Es : List Hd) : Prop where
  head : ∀ k, k < Es.length → ∃ r o, L = some ⟨r, o, none⟩ ∧ W.cell? ⟨r, o + k, none⟩ = some (Es.getD k default).v
  row : ∀ d ∈ Es, Row W d.g d.A d.c d.l
structure SR (W : World) (lb : Nat) (Es : List Hd) (k : Nat) (ds : List Hd) (wr : World) : Prop where
  own : wr.ownsRow W.heap.size 59 1 (.slice (some ⟨W.heap.size, 0, none⟩) k Es.length) k (ds.map Hd.v)
  row : ∀ d ∈ ds, Row wr d.g d.A d.c d.l ∧ (0 < d.l.length → d.g ≠ lb ∧ d.g ≠ W.heap.size)
  maps : ds.map Hd.l = (Es.take k).map fun d => setL ltS d.l
  below : Below W.heap.size W wr
theorem take_snoc (Es : List Hd) {k : Nat} (hk : k < Es.length) : Es.take (k + 1) = Es.take k ++ [Es.getD k default] := by
  rw [List.take_add_one, List.getElem?_eq_getElem hk]
  simp [List.getD_eq_getElem?_getD, List.getElem?_eq_getElem hk]
theorem SR.next {W wr W2 w3 : World} {lb k : Nat} {Es ds : List Hd} {d : Hd} {o : Obj} (h : SR W lb Es k ds wr) (hk : k < Es.length) (hlb : Below wr.heap.size wr W2) (hd : Row W2 d.g d.A d.c d.l ∧ (0 < d.l.length → d.g ≠ lb ∧ d.g ≠ W.heap.size)) (he : d.l = setL ltS (Es.getD k default).l)
    (hg : (W2.alloc o).grownBy w3 (some W.heap.size)) (own : w3.ownsRow W.heap.size 59 1 (.slice (some ⟨W.heap.size, 0, none⟩) (k + 1) Es.length) (k + 1) (ds.map Hd.v ++ [d.v])) : SR W lb Es (k + 1) (ds ++ [d]) w3 := by
  have hz : W2.heap.size + 1 = (W2.alloc o).heap.size := (World.size_alloc _ _).symm
  have k2 : ∀ g, g < W2.heap.size → g ≠ W.heap.size → w3.heap[g]? = W2.heap[g]? := fun g h1 h2 => (hg.block g (by omega) (fun e => h2 (by cases e; rfl))).trans (Below.heap_alloc _ _ _ h1)
  refine ⟨by rw [List.map_append]; exact own, fun e he' => ?_, by rw [take_snoc Es hk, List.map_append, List.map_append, h.maps, List.map_cons, List.map_nil, he]; rfl, ?_⟩
  · rcases List.mem_append.1 he' with he' | he'
    · obtain ⟨r1, r2⟩ := h.row e he'
      exact ⟨r1.on (fun hp => (k2 _ (Nat.lt_of_lt_of_le (Row.lt r1 hp) hlb.size) (r2 hp).2).trans (hlb.block _ (Row.lt r1 hp))), r2⟩
    · rw [List.mem_singleton] at he'
      subst he'
      exact ⟨hd.1.on (fun hp => k2 _ (Row.lt hd.1 hp) (hd.2 hp).2), hd.2⟩
  · exact ((h.below.trans (hlb.mono h.below.size)).alloc (Nat.le_trans h.below.size hlb.size) o).grown hg (by have := h.below.size; have := hlb.size; omega) (fun j e => by cases e; exact Nat.le_refl _)
set_option maxHeartbeats 2000000 in
set_option maxRecDepth 100000 in
theorem sets_as (W : World) (lb c : Nat) (L : Option Addr) (Es : List Hd) (h : Heads W L Es) (hm : Es.length ≤ 1048576) (hn : ∀ d ∈ Es, d.l.length ≤ 1048576) (hlb : lb < W.heap.size) (hl : ∀ d ∈ Es, 0 < d.l.length → d.g ≠ lb) :
    Calls Try.prog 63 #[.slice L Es.length c] W fun e W' => ∃ L' c' Ds, e = .returned (.slice L' Ds.length c') ∧ Heads W' L' Ds ∧ (∀ d ∈ Ds, 0 < d.l.length → d.g ≠ lb) ∧ Ds.map Hd.l = (Es.map fun d => setL ltS d.l) ∧ Below W.heap.size W W' := by
  obtain ⟨i0, hi, hz0, hz1, hz2⟩ := info_parts info22
  have hmk : ∀ w : World, (Instr.makeSlice 58 (.int .i64 0) (.int .i64 (Es.length : Int))).run Try.prog w = .ok (.slice (some ⟨w.heap.size, 0, none⟩) 0 Es.length) (w.alloc (.cells (madeCells (Value.slice none 0 0).cells (Es.length * 1)) 59)) := fun w => by
    have := run_make (P := Try.prog) w 58 59 i0 (.slice none 0 0) Try.underlying58 hi hz0 .i64 .i64 0 (Es.length : Int) (Int.le_refl _) (by omega) (by rw [hz2]; omega) (by omega)
    rw [hz1] at this
    simpa using this
  have hS : SR W lb Es 0 [] (W.alloc (.cells (madeCells (Value.slice none 0 0).cells (Es.length * 1)) 59)) :=
    ⟨World.ownsRow_made W _ Es.length (Nat.le_refl _) (by simp only [maxLen]; omega) (size_madeCells _ _), fun d hd => by simp at hd, rfl, (Below.refl _ W).alloc (Nat.le_refl _) _⟩
  generalize madeCells (Value.slice none 0 0).cells (Es.length * 1) = mc at hmk hS
  have HS := Lib.hid hS
  have HH := Lib.hid h
  have HN := Lib.hid hn
  have HL := Lib.hid hl
  have HB0 := Lib.hid hlb
  clear hS h hn hl hlb
  go_enter Try.func63, Try.ntmps63
  go_wp2
  go_loopw [3, 11] (fun v3 v11 wr => ∃ (k : Nat) (ds : List Hd), k ≤ Es.length ∧ v3 = .slice (some ⟨W.heap.size, 0, none⟩) k Es.length ∧ v11 = .int .i64 (k : Nat) ∧ Hid (SR W lb Es k ds wr)) (fun _ v _ => Es.length - (intOf v).toNat)
  case atStart => exact ⟨0, [], Nat.zero_le _, rfl, rfl, HS⟩
  case round =>
    obtain ⟨k, ds, hk, rfl, rfl, HW⟩ := hrel
    by_cases hin : k < Es.length
    · have hlt : (k : Int) < (Es.length : Int) := by omega
      obtain ⟨lr, lo, rfl, hc⟩ := HH.out.head k hin
      have hcw := (HW.out.below.cell (p := ⟨lr, lo + k, none⟩) (World.block_lt_of_cell? W _ hc)).trans hc
      have hmem : Es.getD k default ∈ Es := by rw [← getElem_getD _ _ hin]; exact List.getElem_mem hin
      have hrow : Row wr (Es.getD k default).g (Es.getD k default).A (Es.getD k default).c (Es.getD k default).l := (HH.out.row _ hmem).on (fun hp => HW.out.below.block _ (Row.lt (HH.out.row _ hmem) hp))
      have hne : 0 < (Es.getD k default).l.length → (Es.getD k default).g ≠ lb ∧ (Es.getD k default).g ≠ W.heap.size := fun hp => ⟨HL.out _ hmem hp, by have := Row.lt (HH.out.row _ hmem) hp; omega⟩
      have hlen := HN.out _ hmem
      clear hc hmem
      have HX := Lib.hid (@SR.next W wr · · lb k Es ds · · HW.out hin)
      have hown := HW.out.own
      have hsz := HW.out.below.size
      have hltW := (HW.out.own.lt _ rfl).2
      generalize Es.getD k default = d at *
      have RS := rising_as wr d.g d.A d.c d.l hrow hlen
      have OF := fun W5 (hW : Row W5 d.g d.A d.c d.l) => of_as d.A d.c d.l W5 (Row.nums hW hlen) hlen
      unfold OfQ at OF
      unfold Hd.v at hcw
      generalize hb : risB ltS d.l = b at RS
      have H1 := Lib.hid RS
      have H2 := Lib.hid OF
      have HR := Lib.hid (And.intro hrow (And.intro hne hb))
      clear RS OF hrow hne hb
      cases b with
      | true =>
        go_wp2_with (first
          | (go_at_call 42; ((with_reducible refine H1.out.mono ?_); rintro e _ ⟨rfl, ⟨n1, rfl⟩⟩))
          | (at_builtin; refine wpList_append_fits _ rfl (.tmp 20) (.tmp 22) 58 rfl W.heap.size 59 i0 1 Try.underlying58 hi hz1 W.heap.size k Es.length (ds.map Hd.v) rfl ((show (wr.drewN n1).ownsRow W.heap.size 59 1 (.slice (some ⟨W.heap.size, 0, none⟩) k Es.length) k (ds.map Hd.v) from hown).alloc _) ⟨wr.heap.size, 0, none⟩ 1 1 [d.v] rfl rfl (cell_one_new _ _ _) (by simp [Value.oneCell', Hd.v]) (by omega) ?_; intro w3 own3 grow3; have HQ := Lib.hid (HX.out (wr.drewN n1) w3 d _ (pw_below_drewN (Below.refl _ _) n1) ⟨HR.out.1.on (fun _ => rfl), HR.out.2.1⟩ (setL_of_ris totS ((risB_iff totS _).1 HR.out.2.2)).symm grow3 own3); clear own3 grow3)
          | go_in)
        go_roundw
        case rel => exact ⟨k + 1, _, by omega, rfl, by go_num, HQ⟩
        case measure => simp [intOf]; omega
      | false =>
        go_wp2_with (first
          | (go_at_call 42; ((with_reducible refine H1.out.mono ?_); rintro e _ ⟨rfl, ⟨n1, rfl⟩⟩))
          | (go_at_call 40; ((with_reducible refine (H2.out _ ?hx).mono ?_); (case hx => exact HR.out.1.on (fun _ => rfl)); rintro e W2 ⟨g2, B2, c2, rfl, q1, q2, q3⟩; have hBw : Below wr.heap.size wr W2 := (pw_below_drewN (Below.refl _ _) n1).trans q3; have HB2 := Lib.hid hBw; have HO2 := Lib.hid (And.intro q1 q2); have hown2 := hown.kept (grown_below hBw none) (.inr (by simp [Value.ownBlock])); have hsz2 := hBw.size; clear q1 q2 q3 hBw))
          | (at_builtin; refine wpList_append_fits _ rfl (.tmp 20) (.tmp 22) 58 rfl W.heap.size 59 i0 1 Try.underlying58 hi hz1 W.heap.size k Es.length (ds.map Hd.v) rfl (hown2.alloc _) ⟨W2.heap.size, 0, none⟩ 1 1 [.slice B2 (setL ltS d.l).length c2] rfl rfl (cell_one_new _ _ _) (by simp [Value.oneCell']) (by omega) ?_; intro w3 own3 grow3; have HQ := Lib.hid (HX.out W2 w3 ⟨B2, c2, g2, setL ltS d.l⟩ _ HB2.out ⟨HO2.out.1, fun hp => by have h1 := HO2.out.2 hp; have h4 := hltW; have h2 : (wr.drewN n1).heap.size = wr.heap.size := rfl; have h3 := HB0.out; constructor <;> (show g2 ≠ _; omega)⟩ rfl grow3 own3); clear own3 grow3)
          | go_in)
        go_roundw
        case rel => exact ⟨k + 1, _, by omega, rfl, by go_num, HQ⟩
        case measure => simp [intOf]; omega
    · have hlt : ¬ ((k : Int) < (Es.length : Int)) := by omega
      obtain rfl : k = Es.length := by omega
      have hle : ds.length = Es.length := by have := HW.out.own.1; simpa using this
      go_wp2
      go_ret
      refine ⟨some ⟨W.heap.size, 0, none⟩, Es.length, ds, by rw [hle]; rfl, ⟨fun k hk => ⟨W.heap.size, 0, rfl, ?_⟩, fun d hd => (HW.out.row d hd).1⟩, fun d hd hp => ((HW.out.row d hd).2 hp).1, by have := HW.out.maps; rwa [List.take_of_length_le (Nat.le_refl _)] at this, HW.out.below⟩
      rcases HW.out.own.2 with ⟨e, _⟩ | ⟨g, cap, cur, e, _, h3, _, _, _, h7⟩
      · cases e
      · cases e
        have h8 := Blk.At.cell (cs := cur.toList) (show Blk.At wr W.heap.size cur.toList 59 from h3) k
        rw [Nat.zero_add, h8]
        have h9 : (cur.toList.take (Es.length * 1))[k]? = some (ds.getD k default).v := by
          rw [h7, List.getElem?_map, List.getElem?_eq_getElem hk]
          simp [List.getD_eq_getElem?_getD, List.getElem?_eq_getElem hk]
        rwa [List.getElem?_take_of_lt (by omega)] at h9
end Go.Proofs.Ytnflokhffmfifaa.CountWT

/- By hand: Of walked, at texts. For every list and world. -/
import Derived.Test.YtnflokhffmfifaaOfTZ
set_option linter.unusedVariables false
set_option linter.unusedSimpArgs false
namespace Go.Proofs.Ytnflokhffmfifaa.OfT
open Go.RowKit Go.Sort Go.Shelf Go.Proofs.Ytnflokhffmfifaa.Blk Go.Proofs.Ytnflokhffmfifaa.Ris Go.Proofs.Ytnflokhffmfifaa.Keys Go.Proofs.Ytnflokhffmfifaa.XV Go.Proofs.YtnflokhffmfifaaW.PrintWords Go.Proofs.YtnflokhffmfifaaW.PrintLast Go.Proofs.YtnflokhffmfifaaW.PrintMore
theorem sort_as (g cap : Nat) (l : List ByteArray) (W : World) (cur : List Value) (ha : Blk.At W g cur 9) (h3 : cur.length = cap) (h1 : l.length ≤ cap) (h4 : cur.take l.length = l.map Value.string) (hn : l.length ≤ 1048576) :
    Calls Try.prog 60 #[.slice (some ⟨g, 0, none⟩) l.length cap] W fun e w' => e = .returned (.tuple #[]) ∧ ∃ n os, w' = grow (putRow encStr (Sort.ahead W n) g 0 (soB l).toArray) os := by
  have hm : (l.map fun x => x.toList).map encStr = l.map Value.string := by
    rw [List.map_map]
    refine List.map_congr_left fun x _ => ?_
    show Value.string (ofB x.toList) = _
    rw [ofB_to]
  have hl : (l.map fun x => x.toList).length = l.length := List.length_map _
  have := Any.slices_Sort_string L190 g 0 cap (l.map fun x => x.toList) W (holds_of_block (cur := cur.toArray) ha (by rw [hl, hm]; simpa using h4)) ha.lt (by omega)
  rw [hl] at this
  exact this
set_option maxRecDepth 100000 in
theorem of_ris_m (A : Option Addr) (c : Nat) (l : List ByteArray) (w : World) (h : Kd.C Kd.string w A l.length l) (hn : l.length ≤ 1048576) (hr : risB ltS l = true) : Calls Try.prog 40 #[.slice A l.length c] w (GotM w (setL ltS l)) := by
  have HR0 := Aside0.mk h
  have HB := Aside0.mk (Below.refl w.heap.size w)
  have HT := Lib.hid hr
  clear h hr
  go_enter Try.func40, Try.ntmps40
  go_wp2_with (first | (((with_reducible refine gate_builtin (b := .append) (xs := #[.const (.slice none 0 0), .tmp 7]) rfl ?_); at_builtin; refine Kd.R_append_rows Kd.string (w0 := w) w.heap.size rfl (.const (.slice none 0 0)) (.tmp 7) 59 9 (.string ⟨#[]⟩) 16 rfl Try.underlying59 info9 rfl (by decide) (by omega) (.slice none 0 0) ([] : List ByteArray) l _ _ _ (fun _ => True) (fun _ => False) rfl rfl ?aO ?aR (fun _ _ h => h) (fun _ h => h.elim) ?aF ?aB ?aS ?aL ?_; (case aR => exact HR0.out); (case aB => exact (by repeat (first | (with_reducible first | exact HB.out | apply below_alloc | apply pw_below_drewN | apply below_drew1) | exact HB.out))); (case aF => exact (fun _ _ => trivial)); (case aO => exact Kd.R_nil _ _ _ _ _); (case aS => exact (below_size (by repeat (first | (with_reducible first | exact HB.out | apply below_alloc | apply pw_below_drewN | apply below_drew1) | exact HB.out)))); (case aL => simp only [List.length_nil]; omega); intro v105 w8 ho hb hg hat; have n0_ := Aside0.mk (hb); have n1_ := Aside0.mk (ho); clear HB; have HB := n0_; have HO106 := n1_; clear n0_ n1_; clear ho hb hg hat); obtain ⟨Ao, co, eo⟩ := Kd.R_slice HO106.out; subst eo; obtain ⟨g, hrow, hgb⟩ := row_of_R (A := Ao) (c := co) (l := l) (by have := HO106.out; rwa [List.nil_append] at this); have HMN := Lib.hid (mine_of_R (l := l) (by have := HO106.out; rwa [List.nil_append] at this)); have HRW := Lib.hid hrow; have HGB := Lib.hid hgb; clear hrow hgb; simp only [List.nil_append] at *) | (go_at_call 42; ((with_reducible refine (rising_as _ g Ao co l HRW.out hn).mono ?_); rintro e _ ⟨rfl, ⟨n1, rfl⟩⟩; simp only [HT.out])) | go_in)
  go_ret
  obtain ⟨gm, Bm, cm, em, hm⟩ := HMN.out
  cases em
  unfold GotM
  rw [setL_of_ris totS ((risB_iff totS l).1 HT.out)]
  exact ⟨gm, Ao, co, rfl, hm.on rfl, by repeat (first | exact HB.out | apply pw_below_drewN | apply below_drew1)⟩
set_option maxRecDepth 100000 in
theorem of_not_m (A : Option Addr) (c : Nat) (l : List ByteArray) (w : World) (h : Kd.C Kd.string w A l.length l) (hn : l.length ≤ 1048576) (hr : risB ltS l = false) : Calls Try.prog 40 #[.slice A l.length c] w (GotM w (setL ltS l)) := by
  have hp : 2 ≤ l.length := by
    by_cases h2 : 2 ≤ l.length
    · exact h2
    · rw [(risB_at l).2 (fun i hi => by omega)] at hr
      cases hr
  have HR0 := Aside0.mk h
  have HB := Aside0.mk (Below.refl w.heap.size w)
  have HT := Lib.hid hr
  clear h hr
  go_enter Try.func40, Try.ntmps40
  go_wp2_with (first | (((with_reducible refine gate_builtin (b := .append) (xs := #[.const (.slice none 0 0), .tmp 7]) rfl ?_); at_builtin; refine Kd.R_append_rows Kd.string (w0 := w) w.heap.size rfl (.const (.slice none 0 0)) (.tmp 7) 59 9 (.string ⟨#[]⟩) 16 rfl Try.underlying59 info9 rfl (by decide) (by omega) (.slice none 0 0) ([] : List ByteArray) l _ _ _ (fun _ => True) (fun _ => False) rfl rfl ?aO ?aR (fun _ _ h => h) (fun _ h => h.elim) ?aF ?aB ?aS ?aL ?_; (case aR => exact HR0.out); (case aB => exact (by repeat (first | (with_reducible first | exact HB.out | apply below_alloc | apply pw_below_drewN | apply below_drew1) | exact HB.out))); (case aF => exact (fun _ _ => trivial)); (case aO => exact Kd.R_nil _ _ _ _ _); (case aS => exact (below_size (by repeat (first | (with_reducible first | exact HB.out | apply below_alloc | apply pw_below_drewN | apply below_drew1) | exact HB.out)))); (case aL => simp only [List.length_nil]; omega); intro v105 w8 ho hb hg hat; have n0_ := Aside0.mk (hb); have n1_ := Aside0.mk (ho); clear HB; have HB := n0_; have HO106 := n1_; clear n0_ n1_; clear ho hb hg hat); (obtain ⟨g, cap, cur, rfl, hg0, ha, hc1, hc2, hc3, hc4⟩ := own_block (l := l) (by have := HO106.out; rwa [List.nil_append] at this) (by omega)); obtain ⟨g', hrow, hgb⟩ := row_of_R (A := some ⟨g, 0, none⟩) (c := cap) (l := l) (by have := HO106.out; rwa [List.nil_append] at this); have HRW := Lib.hid hrow; have HGB := Lib.hid (And.intro hg0 (And.intro ha (And.intro hc3 hc4))); clear hrow hgb hg0 ha hc3 hc4; simp only [List.nil_append] at *) | (go_at_call 42; ((with_reducible refine (rising_as _ g' _ _ l HRW.out hn).mono ?_); rintro e _ ⟨rfl, ⟨n1, rfl⟩⟩; simp only [HT.out])) | (go_at_call 60; ((with_reducible refine (sort_as g cap l _ cur (HGB.out.2.1.drewN n1) HGB.out.2.2.1 hc1 HGB.out.2.2.2 hn).mono ?_); rintro e W2 ⟨rfl, n2, os, hW2⟩; have HD := Lib.hid (sorted_start (w := w) (n := n2) (os := os) (pw_below_drewN HB.out n1) HGB.out.1 (HGB.out.2.1.drewN n1) hc1 HGB.out.2.2.1 (by omega)); rw [← hW2] at HD; clear hW2; have hq1 := cut_run (some ⟨g, 0, none⟩) l.length cap 1 1 rfl (by omega); have hq2 : from_ (some ⟨g, 0, none⟩) cap 1 = some ⟨g, 1, none⟩ := (by unfold from_; rw [if_neg (by omega), Option.map_some, add_off]); rw [hq2] at hq1; clear hq2)) | go_in)
  go_loopw [4, 17] (fun nn i wr => ∃ (k : Nat) (ds : List ByteArray), k + 1 ≤ l.length ∧ nn = .int .i64 (ds.length : Int) ∧ i = .int .i64 k ∧ Hid (DR w g cap l k ds wr)) (fun _ i _ => l.length - (intOf i).toNat)
  case atStart => exact ⟨0, [(so l).getD 0 E], by omega, rfl, rfl, HD.out⟩
  case round =>
    obtain ⟨k, ds, hk, rfl, rfl, HW⟩ := hrel
    obtain ⟨m, hm⟩ : ∃ m, ds.length = m + 1 := ⟨ds.length - 1, by have := HW.out.low; omega⟩
    have htop := HW.out.top
    by_cases hin : k + 1 < l.length
    · have hlt : (k : Int) < ((l.length - 1 : Nat) : Int) := by omega
      obtain ⟨cs, b1, b2, b3, b4⟩ := HW.out.blk
      have cx := b1.get (1 + k) _ (b4 (1 + k) (by omega) (by omega))
      have cl := b1.get m _ (b3 m (by omega))
      have fr := b1.free (m + 1)
      obtain ⟨v, hv⟩ : ∃ v, cs[ds.length]? = some v := ⟨_, List.getElem?_eq_getElem (by omega)⟩
      have cst := b1.get (m + 1) v (by rw [← hm]; exact hv)
      have hs : IntKind.i64.wrap (((m + 1 : Nat) : Int) - 1) = (m : Int) := (i64_w _).trans (by unfold wrap64; omega)
      have hs2 : IntKind.i64.wrap (((m + 1 : Nat) : Int) + 1) = ((m + 2 : Nat) : Int) := (i64_w _).trans (by unfold wrap64; omega)
      have hs3 : IntKind.i64.wrap ((k : Int) + 1) = ((k + 1 : Nat) : Int) := (i64_w _).trans (by unfold wrap64; omega)
      have q1 : (m : Int) < (l.length : Int) := by omega
      have q2 : ((m + 1 : Nat) : Int) < (l.length : Int) := by omega
      have hx : (so l).getD (1 + k) E = (so l).getD (k + 1) E := by rw [Nat.add_comm]
      rw [hx] at cx
      have hy : ds.getD (ds.length - 1) E = ds.getD m E := by rw [hm]; rfl
      have SM := Lib.hid (fun e => HW.out.same hin e)
      have MR := Lib.hid (fun e => HW.out.more HGB.out.1 hin hc1 e)
      rw [hy] at SM MR
      rw [hm] at MR
      generalize (so l).getD (k + 1) E = x at cx SM MR
      generalize ds.getD m E = y at cl SM MR
      clear b1 b2 b3 b4 hv hx hy
      by_cases t : x = y
      · have tn : (!(x.toList == y.toList)) = false := by rw [t]; simp
        go_wp2
        go_roundw
        case rel => exact ⟨k + 1, ds, by omega, rfl, by go_num, SM.out t⟩
        case measure => simp [intOf]; omega
      · have tn : (!(x.toList == y.toList)) = true := by rw [show (x.toList == y.toList) = false from beq_eq_false_iff_ne.mpr (fun e => t (toList_inj e))]; rfl
        go_wp2
        go_roundw
        case rel => exact ⟨k + 1, ds ++ [x], by omega, by rw [List.length_append, hm]; simp, by go_num, MR.out t⟩
        case measure => simp [intOf]; omega
    · have hlt : ¬ ((k : Int) < ((l.length - 1 : Nat) : Int)) := by omega
      have hq : (ds.length : Int) ≤ (l.length : Int) := by omega
      go_wp2
      go_ret
      unfold GotM
      have e := HW.out.done (by omega)
      obtain ⟨cs, b1, b2, b3, _⟩ := HW.out.blk
      rw [← hm]
      rw [← e]
      exact ⟨g, _, _, rfl, .inr ⟨rfl, HGB.out.1, cs, b1, by omega, Nat.le_refl _, b3⟩, HW.out.below⟩
/-- Of: a list in a block of its own. -/
theorem of_m (A : Option Addr) (c : Nat) (l : List ByteArray) (w : World) (h : Kd.C Kd.string w A l.length l) (hn : l.length ≤ 1048576) : Calls Try.prog 40 #[.slice A l.length c] w (GotM w (setL ltS l)) := by
  cases hr : risB ltS l with
  | true => exact of_ris_m A c l w h hn hr
  | false => exact of_not_m A c l w h hn hr
theorem GotM.ofQ {w : World} {l : List ByteArray} {e : Ending} {w' : World} (h : GotM w (setL ltS l) e w') : OfQ w l e w' := by
  obtain ⟨g, B, cc, e, h1, h2⟩ := h
  exact ⟨g, B, cc, e, h1.row, h1.new, h2⟩
theorem of_as (A : Option Addr) (c : Nat) (l : List ByteArray) (w : World) (h : Kd.C Kd.string w A l.length l) (hn : l.length ≤ 1048576) : Calls Try.prog 40 #[.slice A l.length c] w (OfQ w l) :=
  (of_m A c l w h hn).mono fun _ _ h => h.ofQ
end Go.Proofs.Ytnflokhffmfifaa.OfT

/- By hand: a name written over. For every name and world. -/
import Derived.Test.YtdkohenilbkmkaaUpG
set_option linter.unusedVariables false
set_option linter.unusedSimpArgs false
namespace Go.Proofs.Ytdkohenilbkmkaa.UpW
open Go.RowKit Go.Proofs.Ytdkohenilbkmkaa.XT Go.Proofs.Ytdkohenilbkmkaa.XV Go.Proofs.Ytdkohenilbkmkaa.RFun Go.Proofs.Ytdkohenilbkmkaa.RGen Go.Proofs.YtdkohenilbkmkaaW.PrintWords Go.Proofs.YtdkohenilbkmkaaW.PrintLast Go.Proofs.YtdkohenilbkmkaaW.PrintMore
theorem set5 (l : List Value) (h : l.length = 5) {a b c d e : Value} : ((((l.set 0 a).set 1 b).set 2 c).set 3 d).set 4 e = [a, b, c, d, e] := by
  match l, h with
  | [_, _, _, _, _], _ => rfl
set_option maxRecDepth 100000 in
set_option maxHeartbeats 8000000 in
theorem mark_as (w : World) (B0 B1 r c m : Nat) (D : DN) (ps : List PD) (tx : ByteArray) (h : MN B0 w r c m D ps) (hB : ∀ p ∈ ps, p.g < B1) (hr : r < B1) (hb1 : B1 ≤ w.heap.size) (hD : D.length ≤ 1048576) (hDl : ∀ r ∈ D, r.length ≤ 1048576) (htx : tx.size ≤ 1000) :
    Calls Try.prog 12 #[.slice (some ⟨r, 0, none⟩) D.length c, .string tx] w fun e w' => (∃ v, e = .returned v) ∧ OV B0 B1 w w' := by
  have H := Lib.hid h
  have hpl := h.len
  have HPL := Lib.hid hpl
  have hcap := h.cap
  clear h hpl
  go_enter Try.func12, Try.ntmps12
  go_wp2
  have hz1 : (w.alloc (.cells #[.slice none 0 0, .slice none 0 0, .slice none 0 0, .slice none 0 0, .string ⟨#[]⟩] 32)).heap.size = w.heap.size + 1 := World.size_alloc _ _
  have HM0 : Hid (MK B0 B1 r c w.heap.size (w.heap.size + 1) ps w (.slice none 0 0) 0 [.slice none 0 0, .slice (some ⟨r, 0, none⟩) D.length c, .slice none 0 0, .string tx] 0 ((w.alloc (.cells #[.slice none 0 0, .slice none 0 0, .slice none 0 0, .slice none 0 0, .string ⟨#[]⟩] 32)).alloc (.cells #[.slice none 0 0, .slice none 0 0, .slice (some ⟨r, 0, none⟩) D.length c, .slice none 0 0, .string tx] 32))) := Lib.hid (by
    have hbw : Below w.heap.size w ((w.alloc (.cells #[.slice none 0 0, .slice none 0 0, .slice none 0 0, .slice none 0 0, .string ⟨#[]⟩] 32)).alloc (.cells #[.slice none 0 0, .slice none 0 0, .slice (some ⟨r, 0, none⟩) D.length c, .slice none 0 0, .string tx] 32)) := ((Below.refl _ w).alloc (Nat.le_refl _) _).alloc (by rw [hz1]; omega) _
    refine ⟨(OV.refl B0 B1 w).below hbw, ?_, ⟨#[.slice none 0 0, .slice none 0 0, .slice none 0 0, .slice none 0 0, .string ⟨#[]⟩], ?_, rfl⟩, Kd.R_nil _ _ _ _ _, ?_, fun p hp => ?_, H.out.low, hr, hb1, by omega, Nat.le_refl _⟩
    · have := World.alloc_heap_new (w.alloc (.cells #[.slice none 0 0, .slice none 0 0, .slice none 0 0, .slice none 0 0, .string ⟨#[]⟩] 32)) (.cells #[.slice none 0 0, .slice none 0 0, .slice (some ⟨r, 0, none⟩) D.length c, .slice none 0 0, .string tx] 32)
      rwa [hz1] at this
    · exact (Below.heap_alloc _ _ _ (by rw [hz1]; omega)).trans (World.alloc_heap_new w _)
    · obtain ⟨hs, h1, h2, h3, _⟩ := H.out.row
      exact ⟨hs, (hbw.block _ (Array.getElem?_eq_some_iff.1 h1).1).trans h1, by omega, fun k _ hk => h3 k hk⟩
    · have hp2 := H.out.each p hp
      obtain ⟨cs, h1, h2⟩ := hp2.kind
      exact ⟨hp2.low, hB p hp, hp2.cap, cs, (hbw.block _ (Array.getElem?_eq_some_iff.1 h1).1).trans h1, h2⟩)
  clear hz1
  go_loopw [6, 7] (fun v6 v7 wr => ∃ (i : Nat) (rows : Value), i ≤ D.length ∧ v6 = .int .i64 (i : Nat) ∧ Hid (MK B0 B1 r c w.heap.size (w.heap.size + 1) ps w rows i [.slice none 0 0, .slice (some ⟨r, 0, none⟩) D.length c, .slice none 0 0, .string tx] 0 wr)) (fun v _ _ => D.length - (intOf v).toNat)
  case atStart => exact ⟨0, _, Nat.zero_le _, rfl, HM0⟩
  case round =>
    clear HM0
    obtain ⟨i, rows, hi, rfl, HM⟩ := hrel
    by_cases hin : i < D.length
    · have hlt : (i : Int) < (D.length : Int) := by omega
      have hwi : IntKind.i64.wrap ((i : Int) + 1) = ((i + 1 : Nat) : Int) := by rw [IntWalk.i64_in _ (by omega)]; rfl
      have hip : i < ps.length := by have := HPL.out; omega
      have hbse := HM.out.ov.size
      have cH : wr.cell? ⟨r, i, none⟩ = some (ps.getD i default).v := by
        obtain ⟨hs, h1, _, h3⟩ := HM.out.hdr
        rw [cell_of h1 i, h3 i (Nat.zero_le _) hip]
      have hsn : ps.take (i + 1) = ps.take i ++ [ps.getD i default] := by
        rw [List.take_add_one, List.getD_eq_getElem?_getD, List.getElem?_eq_getElem hip]; rfl
      have hmem : ps.getD i default ∈ ps := by rw [List.getD_eq_getElem?_getD, List.getElem?_eq_getElem hip]; exact List.getElem_mem hip
      have HSN := Lib.hid hsn
      obtain ⟨⟨g, cp, l⟩, hp⟩ : ∃ p, p = ps.getD i default := ⟨_, rfl⟩
      rw [← hp] at cH HSN hmem
      have HP := Lib.hid hp
      have HMEM := Lib.hid hmem
      change wr.cell? ⟨r, i, none⟩ = some (.slice (some ⟨g, 0, none⟩) l.length cp) at cH
      have hti : (ps.take i).length = i := by rw [List.length_take]; omega
      obtain ⟨Ar, cr, hrow⟩ := Kd.R_slice HM.out.row
      rw [hti] at hrow
      have cY : wr.cell? ⟨w.heap.size + 1, 0, none⟩ = some rows := by rw [cell_of HM.out.y 0]; rfl
      rw [hrow] at cY
      have hyl := (Array.getElem?_eq_some_iff.1 HM.out.y).1
      have hrl := World.block_lt_of_cell? wr _ cH
      clear hsn hmem hp
      go_wp2
      refine start_ (n := 10) (S := fun w' => w'.cell? ⟨w.heap.size + 1, 0, none⟩ = some (.slice Ar i cr) ∧ w'.cell? ⟨r, i, none⟩ = some (.slice (some ⟨g, 0, none⟩) l.length cp)) (ds := [7, 9]) #[false, false, false, false, false, false, false, false, false, false] (by kernel_rfl) rfl rfl ⟨cY, cH⟩ (fun hHeld => ?_)
      refine pure_ (i := 0) (N := some 20) (v := ?_) (a' := ?_) #[true, false, false, false, false, false, false, false, false, false] rfl rfl (by kernel_rfl) (fun _ _ _ h => h) (Or.inl ⟨by rfl, ?_⟩) ?_ ?_
      rotate_left
      · intro w'
        go_simp
        with_reducible rfl
      rotate_left
      · simp only [Act.put, List.setIfInBounds_toArray, List.set_cons_zero, List.set_cons_succ, i64_w, i32_w]
        rfl
      refine pure_ (i := 2) (N := some 22) (v := ?_) (a' := ?_) #[true, false, true, false, false, false, false, false, false, false] rfl rfl (by kernel_rfl) (fun _ _ _ h => h) (Or.inl ⟨by rfl, ?_⟩) ?_ ?_
      rotate_left
      · intro w'
        go_simp
        with_reducible rfl
      rotate_left
      · simp only [Act.put, List.setIfInBounds_toArray, List.set_cons_zero, List.set_cons_succ, i64_w, i32_w]
        rfl
      refine pure_ (i := 3) (N := some 23) (v := ?_) (a' := ?_) #[true, false, true, true, false, false, false, false, false, false] rfl rfl (by kernel_rfl) (fun _ _ _ h => h) (Or.inl ⟨by rfl, ?_⟩) ?_ ?_
      rotate_left
      · intro w'
        go_simp
        with_reducible rfl
      rotate_left
      · simp only [Act.put, List.setIfInBounds_toArray, List.set_cons_zero, List.set_cons_succ, i64_w, i32_w]
        rfl
      refine pure_ (i := 4) (N := some 24) (v := ?_) (a' := ?_) #[true, false, true, true, true, false, false, false, false, false] rfl rfl (by kernel_rfl) (fun _ _ _ h => h) (Or.inl ⟨by rfl, ?_⟩) ?_ ?_
      rotate_left
      · intro w'
        go_simp
        with_reducible rfl
      rotate_left
      · simp only [Act.put, List.setIfInBounds_toArray, List.set_cons_zero, List.set_cons_succ, i64_w, i32_w]
        rfl
      refine take_ (i := 1) (N := some 21) (v := ?_) (a' := ?_) #[true, true, true, true, true, false, false, false, false, false] rfl rfl (by kernel_rfl) (fun _ _ _ h => h) (Or.inl ⟨by rfl, ?_⟩) hHeld ?_ ?_
      rotate_left
      · rintro w' ⟨s0, s1⟩
        go_simp
        with_reducible rfl
      rotate_left
      · simp only [Act.put, List.setIfInBounds_toArray, List.set_cons_zero, List.set_cons_succ, i64_w, i32_w]
        rfl
      refine take_ (i := 5) (N := some 25) (v := ?_) (a' := ?_) #[true, true, true, true, true, true, false, false, false, false] rfl rfl (by kernel_rfl) (fun _ _ _ h => h) (Or.inl ⟨by rfl, ?_⟩) hHeld ?_ ?_
      rotate_left
      · rintro w' ⟨s0, s1⟩
        go_simp
        with_reducible rfl
      rotate_left
      · simp only [Act.put, List.setIfInBounds_toArray, List.set_cons_zero, List.set_cons_succ, i64_w, i32_w]
        rfl
      refine one_ (i := 6) (N := some 26) #[true, true, true, true, true, true, true, false, false, false] rfl rfl (by kernel_rfl) (by decide) (fun K hK => ?_)
      refine value_ (w1 := ?_) (v := ?_) (by rfl) rfl ?_ ?_
      rotate_left 2
      · go_simp
        constructor
        · rfl
        · rfl
      refine hK.out _ _ ⟨((Below.refl wr.heap.size wr).alloc (Nat.le_refl _) (.cells #[.slice (some ⟨g, 0, none⟩) l.length cp] 44)).cell (p := ⟨w.heap.size + 1, 0, none⟩) hyl |>.trans cY, ((Below.refl wr.heap.size wr).alloc (Nat.le_refl _) (.cells #[.slice (some ⟨g, 0, none⟩) l.length cp] 44)).cell (p := ⟨r, i, none⟩) hrl |>.trans cH⟩ (fun hHeld => ?_)
      clear hK K
      refine norm_ (a' := ?_) ?_ ?_
      rotate_left
      · show Act.put _ (some 26) _ = _
        simp only [Act.put, List.setIfInBounds_toArray, List.set_cons_zero, List.set_cons_succ, i64_w, i32_w]
        rfl
      refine last_ (i := 7) (N := some 27) #[true, true, true, true, true, true, true, true, false, false] rfl rfl (by kernel_rfl) (by decide) (fun K hK => ?_)
      refine Kd.R_append_step kH (w0 := wr) (W := wr.drew) w.heap.size (by rfl) (.tmp 21) (.tmp 26) 22 44 (.slice none 0 0) 24 rfl Try.underlying22 info44 rfl (by decide) (by omega) (.slice Ar i cr) (ps.take i) ⟨g, cp, l⟩ [.slice (some ⟨g, 0, none⟩) l.length cp] (fun _ => True) (fun _ => False) rfl rfl ?aP (fun _ hk => hk.elim) ?aF ?aO ?aB ?aS ?aL ?_
      case aP => exact rfl
      case aF => exact (fun _ _ => trivial)
      case aO => rw [← hrow]; exact HM.out.row
      case aB => exact below_drew1 (Below.refl _ _)
      case aS => exact hbse
      case aL => omega
      intro v1 w1 ho hb hg hat
      rw [← HSN.out] at ho
      rw [← hrow] at hg hat
      obtain ⟨A1, c1, hv1⟩ := Kd.R_slice ho
      rw [show (ps.take (i + 1)).length = i + 1 by rw [List.length_take]; omega] at hv1
      subst hv1
      have hg2 : wr.grownBy w1 rows.ownBlock := ⟨hg.os, hg.tape, hg.output, hg.size, hg.block⟩
      obtain ⟨hy1, hmk⟩ := HM.out.app hg2 (by omega) ho hat
      have HM2 := Lib.hid hmk
      have cB : w1.cell? ⟨w.heap.size + 1, 0, none⟩ = some rows := by rw [cell_of hy1 0]; rfl
      have fB : w1.frozen? ⟨w.heap.size + 1, 0, none⟩ = false := Blk.At.free (cs := rows :: _) hy1 0
      rw [hrow] at cB
      clear ho hb hg hg2 hat hy1 hmk
      refine hK.out _ _ ?_
      clear hK K
      refine norm_ (a' := ?_) ?_ ?_
      rotate_left
      · show Act.put _ (some 27) _ = _
        simp only [Act.put, List.setIfInBounds_toArray, List.set_cons_zero, List.set_cons_succ, i64_w, i32_w]
        rfl
      refine pure_ (i := 8) (N := some 28) (v := ?_) (a' := ?_) #[true, true, true, true, true, true, true, true, true, false] rfl rfl (by kernel_rfl) (fun _ _ _ h => h) (Or.inl ⟨by rfl, ?_⟩) ?_ ?_
      rotate_left
      · intro w'
        go_simp
        with_reducible rfl
      rotate_left
      · simp only [Act.put, List.setIfInBounds_toArray, List.set_cons_zero, List.set_cons_succ, i64_w, i32_w]
        rfl
      refine last_ (i := 9) (N := none) #[true, true, true, true, true, true, true, true, true, true] rfl rfl (by kernel_rfl) (by decide) (fun K hK => ?_)
      refine skip_ (w1 := ?_) (by rfl) rfl ?_ ?_
      rotate_left
      · go_simp
        rfl
      refine hK.out _ _ ?_
      clear hK K
      refine done_ (by kernel_rfl) ?_
      clear cB fB hHeld
      have hml : l.length ≤ 1048576 := by
        have h1 : l ∈ ps.map PD.l := List.mem_map.2 ⟨⟨g, cp, l⟩, HMEM.out, rfl⟩
        rw [H.out.maps] at h1
        exact hDl l h1
      go_wp2
      go_loopw [7] (fun v7 wr => ∃ j : Nat, j ≤ l.length ∧ v7 = .int .i64 (j : Nat) ∧ Hid (MK B0 B1 r c w.heap.size (w.heap.size + 1) ps w (.slice A1 (i + 1) c1) (i + 1) [.slice none 0 0, .slice (some ⟨r, 0, none⟩) D.length c, .slice none 0 0, .string tx] 0 wr)) (fun v _ => l.length - (intOf v).toNat)
      case atStart => exact ⟨0, Nat.zero_le _, rfl, HM2⟩
      case round =>
        clear HM2 HM cH cY
        obtain ⟨j, hj, rfl, HM2⟩ := hrel
        have cH : wr.cell? ⟨r, i, none⟩ = some (.slice (some ⟨g, 0, none⟩) l.length cp) := by
          obtain ⟨hs, h1, _, h3⟩ := HM2.out.hdr
          rw [cell_of h1 i, h3 i (Nat.zero_le _) hip, ← HP.out]
          rfl
        by_cases hjl : j < l.length
        · have hltj : (j : Int) < (l.length : Int) := by omega
          have hwj : IntKind.i64.wrap ((j : Int) + 1) = ((j + 1 : Nat) : Int) := by rw [IntWalk.i64_in _ (by omega)]; rfl
          go_wp2
          refine start_ (n := 12) (S := fun w' => w'.cell? ⟨r, i, none⟩ = some (.slice (some ⟨g, 0, none⟩) l.length cp)) (ds := [11]) #[false, false, false, false, false, false, false, false, false, false, false, false] (by kernel_rfl) rfl rfl (cH) (fun hHeld => ?_)
          refine pure_ (i := 0) (N := some 38) (v := ?_) (a' := ?_) #[true, false, false, false, false, false, false, false, false, false, false, false] rfl rfl (by kernel_rfl) (fun _ _ _ h => h) (Or.inl ⟨by rfl, ?_⟩) ?_ ?_
          rotate_left
          · intro w'
            go_simp
            with_reducible rfl
          rotate_left
          · simp only [Act.put, List.setIfInBounds_toArray, List.set_cons_zero, List.set_cons_succ, i64_w, i32_w]
            rfl
          refine pure_ (i := 1) (N := some 39) (v := ?_) (a' := ?_) #[true, true, false, false, false, false, false, false, false, false, false, false] rfl rfl (by kernel_rfl) (fun _ _ _ h => h) (Or.inl ⟨by rfl, ?_⟩) ?_ ?_
          rotate_left
          · intro w'
            go_simp
            with_reducible rfl
          rotate_left
          · simp only [Act.put, List.setIfInBounds_toArray, List.set_cons_zero, List.set_cons_succ, i64_w, i32_w]
            rfl
          refine pure_ (i := 2) (N := some 40) (v := ?_) (a' := ?_) #[true, true, true, false, false, false, false, false, false, false, false, false] rfl rfl (by kernel_rfl) (fun _ _ _ h => h) (Or.inl ⟨by rfl, ?_⟩) ?_ ?_
          rotate_left
          · intro w'
            go_simp
            with_reducible rfl
          rotate_left
          · simp only [Act.put, List.setIfInBounds_toArray, List.set_cons_zero, List.set_cons_succ, i64_w, i32_w]
            rfl
          refine pure_ (i := 4) (N := some 42) (v := ?_) (a' := ?_) #[true, true, true, false, true, false, false, false, false, false, false, false] rfl rfl (by kernel_rfl) (fun _ _ _ h => h) (Or.inl ⟨by rfl, ?_⟩) ?_ ?_
          rotate_left
          · intro w'
            go_simp
            with_reducible rfl
          rotate_left
          · simp only [Act.put, List.setIfInBounds_toArray, List.set_cons_zero, List.set_cons_succ, i64_w, i32_w]
            rfl
          refine pure_ (i := 5) (N := some 43) (v := ?_) (a' := ?_) #[true, true, true, false, true, true, false, false, false, false, false, false] rfl rfl (by kernel_rfl) (fun _ _ _ h => h) (Or.inl ⟨by rfl, ?_⟩) ?_ ?_
          rotate_left
          · intro w'
            go_simp
            with_reducible rfl
          rotate_left
          · simp only [Act.put, List.setIfInBounds_toArray, List.set_cons_zero, List.set_cons_succ, i64_w, i32_w]
            rfl
          refine pure_ (i := 6) (N := some 44) (v := ?_) (a' := ?_) #[true, true, true, false, true, true, true, false, false, false, false, false] rfl rfl (by kernel_rfl) (fun _ _ _ h => h) (Or.inl ⟨by rfl, ?_⟩) ?_ ?_
          rotate_left
          · intro w'
            go_simp
            with_reducible rfl
          rotate_left
          · simp only [Act.put, List.setIfInBounds_toArray, List.set_cons_zero, List.set_cons_succ, i64_w, i32_w]
            rfl
          refine pure_ (i := 8) (N := some 46) (v := ?_) (a' := ?_) #[true, true, true, false, true, true, true, false, true, false, false, false] rfl rfl (by kernel_rfl) (fun _ _ _ h => h) (Or.inl ⟨by rfl, ?_⟩) ?_ ?_
          rotate_left
          · intro w'
            go_simp
            with_reducible rfl
          rotate_left
          · simp only [Act.put, List.setIfInBounds_toArray, List.set_cons_zero, List.set_cons_succ, i64_w, i32_w]
            rfl
          refine take_ (i := 3) (N := some 41) (v := ?_) (a' := ?_) #[true, true, true, true, true, true, true, false, true, false, false, false] rfl rfl (by kernel_rfl) (fun _ _ _ h => h) (Or.inl ⟨by rfl, ?_⟩) hHeld ?_ ?_
          rotate_left
          · intro w' s0
            go_simp
            with_reducible rfl
          rotate_left
          · simp only [Act.put, List.setIfInBounds_toArray, List.set_cons_zero, List.set_cons_succ, i64_w, i32_w]
            rfl
          refine one_ (i := 7) (N := some 45) #[true, true, true, true, true, true, true, true, true, false, false, false] rfl rfl (by kernel_rfl) (by decide) (fun K hK => ?_)
          refine goes_ Try.func27 (by kernel_rfl) rfl #[.string tx, .int .i64 (i : Nat)] (by rfl) rfl rfl (by simp only [List.map_toArray, List.map_cons, List.map_nil]; rfl) ?_
          with_reducible refine (numbered_as tx (i : Int) wr.drew htx).mono ?_
          rintro e W2 ⟨s, rfl, hb0⟩
          have hb : Below wr.heap.size wr W2 := ⟨hb0.os, hb0.tape, hb0.output, hb0.size, hb0.block⟩
          have HMw := Lib.hid (HM2.out.on hb)
          have cH2 := (hb.cell (p := ⟨r, i, none⟩) (World.block_lt_of_cell? wr _ cH)).trans cH
          obtain ⟨⟨ua, cA⟩, fA, ⟨ub, cB⟩, fB⟩ := HMw.out.pcell HMEM.out (show j < cp by have := (HMw.out.part _ HMEM.out).2.2.1; have h9 : l.length + 1 ≤ cp := this; omega)
          have HN := Lib.hid ((HMw.out.pput HMEM.out (j * 2) (.string s)).pput HMEM.out (j * 2 + 1) (.string tx))
          clear hb hb0
          refine ⟨_, rfl, ?_⟩
          refine hK.out _ _ (cH2) (fun hHeld => ?_)
          clear hK K
          refine norm_ (a' := ?_) ?_ ?_
          rotate_left
          · show Act.put _ (some 45) _ = _
            simp only [Act.put, List.setIfInBounds_toArray, List.set_cons_zero, List.set_cons_succ, i64_w, i32_w]
            rfl
          refine pure_ (i := 9) (N := some 47) (v := ?_) (a' := ?_) #[true, true, true, true, true, true, true, true, true, true, false, false] rfl rfl (by kernel_rfl) (fun _ _ _ h => h) (Or.inl ⟨by rfl, ?_⟩) ?_ ?_
          rotate_left
          · intro w'
            go_simp
            with_reducible rfl
          rotate_left
          · simp only [Act.put, List.setIfInBounds_toArray, List.set_cons_zero, List.set_cons_succ, i64_w, i32_w]
            rfl
          refine pure_ (i := 10) (N := some 48) (v := ?_) (a' := ?_) #[true, true, true, true, true, true, true, true, true, true, true, false] rfl rfl (by kernel_rfl) (fun _ _ _ h => h) (Or.inl ⟨by rfl, ?_⟩) ?_ ?_
          rotate_left
          · intro w'
            go_simp
            with_reducible rfl
          rotate_left
          · simp only [Act.put, List.setIfInBounds_toArray, List.set_cons_zero, List.set_cons_succ, i64_w, i32_w]
            rfl
          refine last_ (i := 11) (N := none) #[true, true, true, true, true, true, true, true, true, true, true, true] rfl rfl (by kernel_rfl) (by decide) (fun K hK => ?_)
          refine skip_ (w1 := ?_) (by rfl) rfl ?_ ?_
          rotate_left
          · go_simp
            rfl
          refine hK.out _ _ ?_
          clear hK K
          refine done_ (by kernel_rfl) ?_
          go_wp2
          go_roundw
          case rel => exact ⟨j + 1, by omega, by go_num, HN⟩
          case measure => simp [intOf]; omega
        · have hltj : ¬ (j : Int) < (l.length : Int) := by omega
          go_wp2
          go_roundw
          case rel => exact ⟨i + 1, _, by omega, by go_num, HM2⟩
          case measure => simp [intOf]; omega
    · have hlt : ¬ (i : Int) < (D.length : Int) := by omega
      obtain rfl : i = D.length := by omega
      have hti : (ps.take D.length).length = D.length := by rw [List.length_take]; have := HPL.out; omega
      obtain ⟨A1, c1, hrow⟩ := Kd.R_slice HM.out.row
      rw [hti] at hrow
      have hrwb : ∀ k, rows.ownBlock = some k → k < wr.heap.size := fun k hk => (Kd.R_bound HM.out.row).1 k hk |>.2.2.1
      have HRB := Lib.hid hrwb
      have hbse := HM.out.ov.size
      obtain ⟨W1, hW1⟩ : ∃ W1, W1 = wr := ⟨_, rfl⟩
      have HM1 : Hid (MK B0 B1 r c w.heap.size (w.heap.size + 1) ps w rows D.length [.slice none 0 0, .slice (some ⟨r, 0, none⟩) D.length c, .slice none 0 0, .string tx] 0 wr ∧ wr.ownsRow W1.heap.size 44 1 (.slice none 0 0) 0 [] ∧ W1.heap.size ≤ wr.heap.size) := Lib.hid ⟨HM.out, World.ownsRow_nil _ _ _ _, by rw [hW1]; exact Nat.le_refl _⟩
      rw [← hW1] at HRB hbse
      obtain ⟨i0, hi0, hz0, hz1, hz2⟩ := info_parts info44
      clear hW1 HM hrwb
      go_wp2
      go_loopw [8, 9] (fun v8 v9 wr => ∃ (i : Nat) (longs : Value) (lv : List Value), i ≤ D.length ∧ v8 = .int .i64 (i : Nat) ∧ Hid (MK B0 B1 r c w.heap.size (w.heap.size + 1) ps w rows D.length [longs, .slice (some ⟨r, 0, none⟩) D.length c, .slice none 0 0, .string tx] 0 wr ∧ wr.ownsRow W1.heap.size 44 1 longs i lv ∧ W1.heap.size ≤ wr.heap.size)) (fun v _ _ => D.length - (intOf v).toNat)
      case atStart => exact ⟨0, _, _, Nat.zero_le _, rfl, HM1⟩
      case round =>
        clear HM1
        obtain ⟨i, longs, lv, hi, rfl, HM⟩ := hrel
        by_cases hin : i < D.length
        · have hlt : (i : Int) < (D.length : Int) := by omega
          have hwi : IntKind.i64.wrap ((i : Int) + 1) = ((i + 1 : Nat) : Int) := by rw [IntWalk.i64_in _ (by omega)]; rfl
          have hml2 : i + 1 ≤ maxLen := by simp only [maxLen]; omega
          have hip : i < ps.length := by have := HPL.out; omega
          have hmem : ps.getD i default ∈ ps := by rw [List.getD_eq_getElem?_getD, List.getElem?_eq_getElem hip]; exact List.getElem_mem hip
          have hR := HM.out.1.row
          rw [hrow, List.take_of_length_le (by have := HPL.out; omega)] at hR
          obtain ⟨gr, hA1, cR⟩ := row_cell hR hip
          obtain ⟨⟨g, cp, l⟩, hp⟩ : ∃ p, p = ps.getD i default := ⟨_, rfl⟩
          rw [← hp] at cR hmem
          have HMEM := Lib.hid hmem
          change wr.cell? ⟨gr, i, none⟩ = some (.slice (some ⟨g, 0, none⟩) l.length cp) at cR
          have hml : l.length ≤ 1048576 := by
            have h1 : l ∈ ps.map PD.l := List.mem_map.2 ⟨⟨g, cp, l⟩, hmem, rfl⟩
            rw [H.out.maps] at h1
            exact hDl l h1
          have cY : wr.cell? ⟨w.heap.size + 1, 0, none⟩ = some rows := by rw [cell_of HM.out.1.y 0]; rfl
          rw [hrow, hA1] at cY
          have hyl := (Array.getElem?_eq_some_iff.1 HM.out.1.y).1
          have hrl := World.block_lt_of_cell? wr _ cR
          clear hmem hp hR
          go_wp2
          refine start_ (n := 13) (S := fun w' => w'.cell? ⟨w.heap.size + 1, 0, none⟩ = some (.slice (some ⟨gr, 0, none⟩) D.length c1) ∧ w'.cell? ⟨gr, i, none⟩ = some (.slice (some ⟨g, 0, none⟩) l.length cp)) (ds := [11]) #[false, false, false, false, false, false, false, false, false, false, false, false, false] (by kernel_rfl) rfl rfl ⟨cY, cR⟩ (fun hHeld => ?_)
          refine pure_ (i := 0) (N := some 55) (v := ?_) (a' := ?_) #[true, false, false, false, false, false, false, false, false, false, false, false, false] rfl rfl (by kernel_rfl) (fun _ _ _ h => h) (Or.inl ⟨by rfl, ?_⟩) ?_ ?_
          rotate_left
          · intro w'
            go_simp
            with_reducible rfl
          rotate_left
          · simp only [Act.put, List.setIfInBounds_toArray, List.set_cons_zero, List.set_cons_succ, i64_w, i32_w]
            rfl
          refine pure_ (i := 2) (N := some 57) (v := ?_) (a' := ?_) #[true, false, true, false, false, false, false, false, false, false, false, false, false] rfl rfl (by kernel_rfl) (fun _ _ _ h => h) (Or.inl ⟨by rfl, ?_⟩) ?_ ?_
          rotate_left
          · intro w'
            go_simp
            with_reducible rfl
          rotate_left
          · simp only [Act.put, List.setIfInBounds_toArray, List.set_cons_zero, List.set_cons_succ, i64_w, i32_w]
            rfl
          refine pure_ (i := 5) (N := some 60) (v := ?_) (a' := ?_) #[true, false, true, false, false, true, false, false, false, false, false, false, false] rfl rfl (by kernel_rfl) (fun _ _ _ h => h) (Or.inl ⟨by rfl, ?_⟩) ?_ ?_
          rotate_left
          · intro w'
            go_simp
            with_reducible rfl
          rotate_left
          · simp only [Act.put, List.setIfInBounds_toArray, List.set_cons_zero, List.set_cons_succ, i64_w, i32_w]
            rfl
          refine pure_ (i := 6) (N := some 61) (v := ?_) (a' := ?_) #[true, false, true, false, false, true, true, false, false, false, false, false, false] rfl rfl (by kernel_rfl) (fun _ _ _ h => h) (Or.inl ⟨by rfl, ?_⟩) ?_ ?_
          rotate_left
          · intro w'
            go_simp
            with_reducible rfl
          rotate_left
          · simp only [Act.put, List.setIfInBounds_toArray, List.set_cons_zero, List.set_cons_succ, i64_w, i32_w]
            rfl
          refine pure_ (i := 8) (N := some 63) (v := ?_) (a' := ?_) #[true, false, true, false, false, true, true, false, true, false, false, false, false] rfl rfl (by kernel_rfl) (fun _ _ _ h => h) (Or.inl ⟨by rfl, ?_⟩) ?_ ?_
          rotate_left
          · intro w'
            go_simp
            with_reducible rfl
          rotate_left
          · simp only [Act.put, List.setIfInBounds_toArray, List.set_cons_zero, List.set_cons_succ, i64_w, i32_w]
            rfl
          refine take_ (i := 1) (N := some 56) (v := ?_) (a' := ?_) #[true, true, true, false, false, true, true, false, true, false, false, false, false] rfl rfl (by kernel_rfl) (fun _ _ _ h => h) (Or.inl ⟨by rfl, ?_⟩) hHeld ?_ ?_
          rotate_left
          · rintro w' ⟨s0, s1⟩
            go_simp
            with_reducible rfl
          rotate_left
          · simp only [Act.put, List.setIfInBounds_toArray, List.set_cons_zero, List.set_cons_succ, i64_w, i32_w]
            rfl
          refine pure_ (i := 3) (N := some 58) (v := ?_) (a' := ?_) #[true, true, true, true, false, true, true, false, true, false, false, false, false] rfl rfl (by kernel_rfl) (fun _ _ _ h => h) (Or.inl ⟨by rfl, ?_⟩) ?_ ?_
          rotate_left
          · intro w'
            go_simp
            with_reducible rfl
          rotate_left
          · simp only [Act.put, List.setIfInBounds_toArray, List.set_cons_zero, List.set_cons_succ, i64_w, i32_w]
            rfl
          refine take_ (i := 4) (N := some 59) (v := ?_) (a' := ?_) #[true, true, true, true, true, true, true, false, true, false, false, false, false] rfl rfl (by kernel_rfl) (fun _ _ _ h => h) (Or.inl ⟨by rfl, ?_⟩) hHeld ?_ ?_
          rotate_left
          · rintro w' ⟨s0, s1⟩
            go_simp
            with_reducible rfl
          rotate_left
          · simp only [Act.put, List.setIfInBounds_toArray, List.set_cons_zero, List.set_cons_succ, i64_w, i32_w]
            rfl
          refine one_ (i := 7) (N := some 62) #[true, true, true, true, true, true, true, true, true, false, false, false, false] rfl rfl (by kernel_rfl) (by decide) (fun K hK => ?_)
          refine goes_ Try.func27 (by kernel_rfl) rfl #[.string tx, .int .i64 (i : Nat)] (by rfl) rfl rfl (by simp only [List.map_toArray, List.map_cons, List.map_nil]; rfl) ?_
          with_reducible refine (numbered_as tx (i : Int) wr.drew htx).mono ?_
          rintro e W2 ⟨s, rfl, hb0⟩
          have hb : Below wr.heap.size wr W2 := ⟨hb0.os, hb0.tape, hb0.output, hb0.size, hb0.block⟩
          have HMw := Lib.hid (HM.out.1.on hb)
          have own2 := own_below HM.out.2.1 hb
          have cY2 := (hb.cell (p := ⟨w.heap.size + 1, 0, none⟩) hyl).trans cY
          have cR2 := (hb.cell (p := ⟨gr, i, none⟩) hrl).trans cR
          have hB3 : Below W2.heap.size W2 (W2.alloc (.cells #[.string s, .string tx] 46)) := (Below.refl W2.heap.size W2).alloc (Nat.le_refl _) _
          have cY3 := (hB3.cell (p := ⟨w.heap.size + 1, 0, none⟩) (World.block_lt_of_cell? W2 _ cY2)).trans cY2
          have cR3 := (hB3.cell (p := ⟨gr, i, none⟩) (World.block_lt_of_cell? W2 _ cR2)).trans cR2
          obtain ⟨W4, hr4, hm4, own4, hle4⟩ := mark_step HMw.out HMEM.out s tx hml own2 (by omega)
          have HR4 := Lib.hid hr4
          have HM4 := Lib.hid hm4
          have hsz4 := HM4.out.ov.size
          have hle1 := HM.out.2.2
          have hle2 := hb.size
          clear hb hb0 hB3 own2 hr4 hm4
          refine ⟨_, rfl, ?_⟩
          refine hK.out _ _ ⟨cY2, cR2⟩ (fun hHeld => ?_)
          clear hK K
          refine norm_ (a' := ?_) ?_ ?_
          rotate_left
          · show Act.put _ (some 62) _ = _
            simp only [Act.put, List.setIfInBounds_toArray, List.set_cons_zero, List.set_cons_succ, i64_w, i32_w]
            rfl
          refine pure_ (i := 9) (N := some 64) (v := ?_) (a' := ?_) #[true, true, true, true, true, true, true, true, true, true, false, false, false] rfl rfl (by kernel_rfl) (fun _ _ _ h => h) (Or.inl ⟨by rfl, ?_⟩) ?_ ?_
          rotate_left
          · intro w'
            go_simp
            with_reducible rfl
          rotate_left
          · simp only [Act.put, List.setIfInBounds_toArray, List.set_cons_zero, List.set_cons_succ, i64_w, i32_w]
            rfl
          refine one_ (i := 10) (N := some 65) #[true, true, true, true, true, true, true, true, true, true, true, false, false] rfl rfl (by kernel_rfl) (by decide) (fun K hK => ?_)
          refine value_ (w1 := ?_) (v := ?_) (by rfl) rfl ?_ ?_
          rotate_left 2
          · go_simp
            constructor
            · rfl
            · rfl
          refine hK.out _ _ ⟨cY3, cR3⟩ (fun hHeld => ?_)
          clear hK K
          refine norm_ (a' := ?_) ?_ ?_
          rotate_left
          · show Act.put _ (some 65) _ = _
            simp only [Act.put, List.setIfInBounds_toArray, List.set_cons_zero, List.set_cons_succ, i64_w, i32_w]
            rfl
          refine last_ (i := 11) (N := some 66) #[true, true, true, true, true, true, true, true, true, true, true, true, false] rfl rfl (by kernel_rfl) (by decide) (fun K hK => ?_)
          refine step_app (by rfl) (.tmp 59) (.tmp 65) 44 44 rfl _ _ _ rfl rfl HR4.out ?_
          refine hK.out _ _ ?_
          clear hK K
          refine norm_ (a' := ?_) ?_ ?_
          rotate_left
          · show Act.put _ (some 66) _ = _
            simp only [Act.put, List.setIfInBounds_toArray, List.set_cons_zero, List.set_cons_succ, i64_w, i32_w]
            rfl
          refine pure_ (i := 12) (N := some 9) (v := ?_) (a' := ?_) #[true, true, true, true, true, true, true, true, true, true, true, true, true] rfl rfl (by kernel_rfl) (fun _ _ _ h => h) (Or.inl ⟨by rfl, ?_⟩) ?_ ?_
          rotate_left
          · intro w'
            go_simp
            with_reducible rfl
          rotate_left
          · simp only [Act.put, List.setIfInBounds_toArray, List.set_cons_zero, List.set_cons_succ, i64_w, i32_w]
            rfl
          refine done_ (by kernel_rfl) ?_
          clear hHeld cY cR cY2 cR2 cY3 cR3
          have cY4 : W4.cell? ⟨w.heap.size + 1, 1, none⟩ = some longs := by rw [cell_of HM4.out.y 1]; rfl
          have hMa := HM4.out.on ((Below.refl W4.heap.size W4).alloc (Nat.le_refl _) (.cells #[.slice (some ⟨g, 0, none⟩) (l.length + 1) cp] 44))
          have HMa := Lib.hid hMa
          clear hMa
          go_wp2_with (first
            | (at_builtin; refine wpList_append_own _ rfl (.tmp 68) (.tmp 70) 22 rfl W1.heap.size 44 i0 (.slice none 0 0) 1 24 Try.underlying22 hi0 hz0 hz1 hz2 rfl (by decide) _ _ _ rfl (own4.alloc _) ⟨W4.heap.size, 0, none⟩ 1 1 [.slice (some ⟨g, 0, none⟩) (l.length + 1) cp] rfl rfl (cell_one_new _ _ _) (by simp [Value.oneCell']) hml2 (by omega) (by rw [World.size_alloc]; omega) ?_; intro v3 w3 own3 grow3 _; obtain ⟨g3, cap3, rfl⟩ := ownsRow_succ own3; obtain ⟨hy3, hm3⟩ := MK.app1 (v1 := .slice (some ⟨g3, 0, none⟩) (i + 1) cap3) HMa.out (own4.alloc _) grow3 (by omega) hbse HRB.out; have cB : w3.cell? ⟨w.heap.size + 1, 1, none⟩ = some longs := (by rw [cell_of hy3 1]; rfl); have fB : w3.frozen? ⟨w.heap.size + 1, 1, none⟩ = false := Blk.At.free (cs := rows :: longs :: _) hy3 1; have own5 := own_move (w1 := w3.setCell ⟨w.heap.size + 1, 1, none⟩ (.slice (some ⟨g3, 0, none⟩) (i + 1) cap3)) own3 (fun k hk => Below.heap_setCell _ _ _ _ (fun e => by obtain ⟨cells, hc⟩ := own_typed own3 k hk; rw [show k = w.heap.size + 1 from e, hy3] at hc; injection hc with hc; injection hc with _ hc; cases hc)); have HQ := Lib.hid (And.intro hm3 (And.intro own5 (show W1.heap.size ≤ (w3.setCell ⟨w.heap.size + 1, 1, none⟩ (.slice (some ⟨g3, 0, none⟩) (i + 1) cap3)).heap.size by rw [World.size_setCell]; have := grow3.size; rw [World.size_alloc] at this; omega))); clear hm3 own3 own5 grow3 hy3)
            | go_in)
          go_roundw
          case rel => exact ⟨i + 1, _, _, by omega, by go_num, HQ⟩
          case measure => simp [intOf]; omega
        · have hlt : ¬ (i : Int) < (D.length : Int) := by omega
          obtain rfl : i = D.length := by omega
          have HM2 := Lib.hid HM.out.1
          obtain ⟨Al, cl, hlg⟩ : ∃ Al cl, longs = .slice Al D.length cl := by
            rcases HM.out.2.1.2 with ⟨e, h0⟩ | ⟨g4, cap4, cur4, e, _⟩
            · exact ⟨none, 0, by rw [e, h0]⟩
            · exact ⟨_, _, e⟩
          clear HM
          have HM3 := Lib.hid HM2.out.weak
          clear HM2
          go_wp2
          go_loopw [10] (fun v10 wr => ∃ i : Nat, i ≤ D.length ∧ v10 = .int .i64 (i : Nat) ∧ Hid (MK B0 B1 r c w.heap.size (w.heap.size + 1) ps w rows D.length [longs, .slice (some ⟨r, 0, none⟩) D.length c, .slice none 0 0, .string tx] ps.length wr)) (fun v _ => D.length - (intOf v).toNat)
          case atStart => exact ⟨0, Nat.zero_le _, rfl, HM3⟩
          case round =>
            clear HM3
            obtain ⟨i, hi, rfl, HM⟩ := hrel
            by_cases hin : i < D.length
            · have hlt : (i : Int) < (D.length : Int) := by omega
              have hwi : IntKind.i64.wrap ((i : Int) + 1) = ((i + 1 : Nat) : Int) := by rw [IntWalk.i64_in _ (by omega)]; rfl
              have hMa := HM.out.on ((Below.refl wr.heap.size wr).alloc (Nat.le_refl _) (.cells #[.string tx, .string ⟨#[]⟩] 46))
              obtain ⟨⟨u, cO⟩, fO⟩ := hMa.hcell (k := i) (by omega)
              have HN := Lib.hid (hMa.hput i (.slice (some ⟨wr.heap.size, 0, none⟩) 1 1))
              clear hMa
              go_wp2
              go_roundw
              case rel => exact ⟨i + 1, by omega, by go_num, HN⟩
              case measure => simp [intOf]; omega
            · have hlt : ¬ (i : Int) < (D.length : Int) := by omega
              obtain rfl : i = D.length := by omega
              obtain ⟨W5, hr5, hm5⟩ := hdr_app HM.out hcap (.cells #[.string tx, .string ⟨#[]⟩] 46) (.slice (some ⟨wr.heap.size, 0, none⟩) 1 1) rfl
              have hy5 := hm5.y
              have cf : W5.cell? ⟨w.heap.size + 1, 3, none⟩ = some (.slice none 0 0) := by rw [cell_of hy5 3]; rfl
              have ff : W5.frozen? ⟨w.heap.size + 1, 3, none⟩ = false := Blk.At.free (cs := rows :: longs :: _) hy5 3
              have hx5 := hm5.x
              obtain ⟨cs5, hx5, hxs⟩ := hx5
              have hy6 : (W5.setCell ⟨w.heap.size + 1, 3, none⟩ (.slice (some ⟨r, 0, none⟩) (D.length + 1) c)).heap[w.heap.size + 1]? = some (.cells #[rows, longs, .slice (some ⟨r, 0, none⟩) D.length c, .slice (some ⟨r, 0, none⟩) (D.length + 1) c, .string tx] 32 (0, 0)) := Blk.At.set (cs := [rows, longs, .slice (some ⟨r, 0, none⟩) D.length c, .slice none 0 0, .string tx]) hy5 3 _
              have hx6 : (W5.setCell ⟨w.heap.size + 1, 3, none⟩ (.slice (some ⟨r, 0, none⟩) (D.length + 1) c)).heap[w.heap.size]? = some (.cells cs5 32 (0, 0)) := (Below.heap_setCell _ _ _ _ (by show w.heap.size ≠ w.heap.size + 1; omega)).trans hx5
              have HOV := Lib.hid (hm5.ov.own (show w.heap.size ≤ w.heap.size + 1 by omega) (.slice (some ⟨r, 0, none⟩) (D.length + 1) c) (a := ⟨w.heap.size + 1, 3, none⟩))
              have d0 := (cell_of hy6 0).trans (show _ = some (Value.slice A1 D.length c1) by rw [← hrow]; rfl)
              have d1 := (cell_of hy6 1).trans (show _ = some (Value.slice Al D.length cl) by rw [← hlg]; rfl)
              have d2 := (cell_of hy6 2).trans (show _ = some (Value.slice (some ⟨r, 0, none⟩) D.length c) from rfl)
              have d3 := (cell_of hy6 3).trans (show _ = some (Value.slice (some ⟨r, 0, none⟩) (D.length + 1) c) from rfl)
              have d4 := (cell_of hy6 4).trans (show _ = some (Value.string tx) from rfl)
              have e0 := (cell_of hx6 0).trans (Array.getElem?_eq_getElem (by omega))
              have e1 := (cell_of hx6 1).trans (Array.getElem?_eq_getElem (by omega))
              have e2 := (cell_of hx6 2).trans (Array.getElem?_eq_getElem (by omega))
              have e3 := (cell_of hx6 3).trans (Array.getElem?_eq_getElem (by omega))
              have e4 := (cell_of hx6 4).trans (Array.getElem?_eq_getElem (by omega))
              have hxat : Blk.At (W5.setCell ⟨w.heap.size + 1, 3, none⟩ (.slice (some ⟨r, 0, none⟩) (D.length + 1) c)) w.heap.size cs5.toList 32 := by unfold Blk.At; rw [Array.toArray_toList]; exact hx6
              have f0 := hxat.free 0
              have f1 := hxat.free 1
              have f2 := hxat.free 2
              have f3 := hxat.free 3
              have f4 := hxat.free 4
              have HXA := Lib.hid hxat
              have HR5 := Lib.hid hr5
              have HM5 := Lib.hid hm5
              clear hr5 hm5 hxat hy6 hx6 hx5
              go_wp2_with (first
                | ((with_reducible refine gate_builtin (b := .append) (xs := #[.tmp 85, .tmp 89]) rfl ?_); at_builtin; refine wp_app rfl (.tmp 85) (.tmp 89) 23 23 rfl _ _ _ rfl rfl HR5.out ?_)
                | go_in)
              have hat := ((((HXA.out.set 0 (.slice A1 D.length c1)).set 1 (.slice Al D.length cl)).set 2 (.slice (some ⟨r, 0, none⟩) D.length c)).set 3 (.slice (some ⟨r, 0, none⟩) (D.length + 1) c)).set 4 (.string tx)
              rw [set5 _ (by simpa using hxs)] at hat
              refine bodyPost_ret (results_cell_row rfl _ _ w.heap.size 32 #[.slice A1 D.length c1, .slice Al D.length cl, .slice (some ⟨r, 0, none⟩) D.length c, .slice (some ⟨r, 0, none⟩) (D.length + 1) c, .string tx] (0, 0) _ rfl hat Try.underlying32 rfl (by kernel_rfl)) rfl ?_
              exact ⟨⟨_, rfl⟩, ((((HOV.out.own (Nat.le_refl w.heap.size) _).own (Nat.le_refl w.heap.size) _).own (Nat.le_refl w.heap.size) _).own (Nat.le_refl w.heap.size) _).own (Nat.le_refl w.heap.size) _⟩
end Go.Proofs.Ytdkohenilbkmkaa.UpW

/- By hand: ldif.Lines. For every text of at most 1048576 bytes and every world. -/
import Derived.Test.YtfiomfcejmmbgaaLinesT
set_option linter.unusedVariables false
set_option linter.unusedSimpArgs false
namespace Go.Proofs.Ytfiomfcejmmbgaa.LinesW
open Go.RowKit Go.Proofs.Ytfiomfcejmmbgaa.Blk Go.Proofs.Ytfiomfcejmmbgaa.ByteM Go.Proofs.Ytfiomfcejmmbgaa.XL Go.Proofs.Ytfiomfcejmmbgaa.XV Go.Proofs.Ytfiomfcejmmbgaa.LinesP Go.Proofs.YtfiomfcejmmbgaaW.PrintWords Go.Proofs.YtfiomfcejmmbgaaW.PrintLast Go.Proofs.YtfiomfcejmmbgaaW.PrintMore
theorem ph_size (s : ByteArray) : ∀ (l : List Int) (lo pos : Nat), ∀ x ∈ ph s l lo pos, x.size ≤ s.size
  | [], lo, pos, x, hx => by
    have hx : x ∈ (if lo < s.size then [s.extract lo s.size] else []) := hx
    split at hx
    · rw [List.mem_singleton.1 hx, ByteArray.size_extract]; omega
    · cases hx
  | c :: t, lo, pos, x, hx => by
    have hx : x ∈ (if c = 10 then cutR s lo pos :: ph s t (pos + 1) (pos + 1) else ph s t lo (pos + 1)) := hx
    split at hx
    · rcases List.mem_cons.1 hx with rfl | hx
      · unfold cutR; split <;> rw [ByteArray.size_extract] <;> omega
      · exact ph_size s t _ _ x hx
    · exact ph_size s t _ _ x hx
theorem gl_size (p : List ByteArray) (M : Nat) (hp : ∀ i, (p.getD i ByteArray.empty).size ≤ M) : ∀ k, ∀ g ∈ gl p k, g.2.length ≤ k * M
  | 0, g, hg => by cases hg
  | k + 1, g, hg => by
    have ih := gl_size p M hp k
    have hM : (k + 1) * M = k * M + M := Nat.succ_mul k M
    have hx := hp k
    have hxl : ∀ y : ByteArray, y.data.toList.length = y.size := fun y => Array.length_toList
    have hadd : ∀ (gs : List (Int × List UInt8)) t, (∀ g ∈ gs, g.2.length ≤ k * M) → t.length ≤ M → ∀ g ∈ addTo gs t, g.2.length ≤ k * M + M := by
      intro gs t hgs ht
      induction gs with
      | nil => intro g hg; cases hg
      | cons a r ih2 =>
        cases r with
        | nil =>
          intro g hg
          rw [List.mem_singleton.1 (show g ∈ [(a.1, a.2 ++ t)] from hg), List.length_append]
          have := hgs a (by simp)
          omega
        | cons b r =>
          intro g hg
          rcases List.mem_cons.1 (show g ∈ a :: addTo (b :: r) t from hg) with rfl | hg
          · have := hgs g (by simp); omega
          · exact ih2 (fun g hg => hgs g (List.mem_cons_of_mem _ hg)) g hg
    have hg : g ∈ LinesP.stepG (gl p k) (p.getD k ByteArray.empty) k := hg
    unfold LinesP.stepG at hg
    rw [hM]
    split at hg
    · exact hadd _ _ ih (by rw [List.length_drop, hxl]; omega) g hg
    · rcases List.mem_append.1 hg with hg | hg
      · have := ih g hg; omega
      · rw [List.mem_singleton.1 hg]
        show (p.getD k ByteArray.empty).data.toList.length ≤ _
        rw [hxl]; omega
def full (p : List ByteArray) : List (Int × ByteArray) := (gl p p.length).map fun g => (g.1, (⟨g.2.toArray⟩ : ByteArray))
theorem lns_new (p : List ByteArray) (k : Nat) (h : goes (p.getD k ByteArray.empty) = false) : lns0 p (k + 1) = lns0 p k ++ [(((k + 1 : Nat) : Int), ⟨#[]⟩)] := by
  unfold lns0; rw [gl_new p k h, List.map_append]; rfl
theorem lns_on (p : List ByteArray) (k : Nat) (h : goes (p.getD k ByteArray.empty) = true) (gs : List (Int × List UInt8)) (n : Int) (b : List UInt8) (e : gl p k = gs ++ [(n, b)]) : lns0 p (k + 1) = lns0 p k := by
  unfold lns0; rw [gl_on p k h gs n b e, e, List.map_append, List.map_append]; rfl
/-- The lines of which the first k have their texts. -/
def mixL (gs : List (Int × List UInt8)) (k : Nat) : List (Int × ByteArray) := ((gs.take k).map fun g => (g.1, (⟨g.2.toArray⟩ : ByteArray))) ++ ((gs.drop k).map fun g => (g.1, ⟨#[]⟩))
theorem mix_len (gs : List (Int × List UInt8)) (k : Nat) : (mixL gs k).length = gs.length := by unfold mixL; simp; omega
theorem mix_step (gs : List (Int × List UInt8)) (k : Nat) (hk : k < gs.length) : (mixL gs k).set k (gs[k].1, (⟨gs[k].2.toArray⟩ : ByteArray)) = mixL gs (k + 1) ∧ (mixL gs k).getD k (0, ⟨#[]⟩) = (gs[k].1, ⟨#[]⟩) := by
  unfold mixL
  have hl : ((gs.take k).map fun g => (g.1, (⟨g.2.toArray⟩ : ByteArray))).length = k := by simp; omega
  have hd : gs.drop k = gs[k] :: gs.drop (k + 1) := List.drop_eq_getElem_cons hk
  have ht : gs.take (k + 1) = gs.take k ++ [gs[k]] := by rw [List.take_succ_eq_append_getElem hk]
  constructor
  · rw [List.set_append_right _ _ (by omega), hl, Nat.sub_self, hd, ht, List.map_append, List.map_cons, List.set_cons_zero, List.append_assoc]
    rfl
  · rw [List.getD_eq_getElem?_getD, List.getElem?_append_right (by omega), hl, Nat.sub_self, hd]
    rfl
theorem fault_at (p : List ByteArray) (k : Nat) (hk : k < p.length) (h : faultF p (p.length - k) k = fault p) : (hasR (p.getD k ByteArray.empty) = true → fault p = some (70, ((k + 1 : Nat) : Int))) ∧ (hasR (p.getD k ByteArray.empty) = false → badF p k = true → fault p = some (71, ((k + 1 : Nat) : Int))) ∧ (hasR (p.getD k ByteArray.empty) = false → badF p k = false → faultF p (p.length - (k + 1)) (k + 1) = fault p) := by
  rw [fault_step p (p.length - k) k (by omega) (by omega)] at h
  refine ⟨fun h1 => ?_, fun h1 h2 => ?_, fun h1 h2 => ?_⟩
  · rw [← h, if_pos h1]
  · rw [← h, if_neg (by rw [h1]; simp), if_pos h2]
  · rw [← h, if_neg (by rw [h1]; simp), if_neg (by rw [h2]; simp), show p.length - k - 1 = p.length - (k + 1) by omega]
def LinesQ (w : World) (p : List ByteArray) (e : Ending) (w' : World) : Prop := Below w.heap.size w w' ∧ (match fault p with
  | some (er, at_) => e = .returned (.tuple #[.slice none 0 0, .int .i64 er, .int .i64 at_])
  | none => ∃ v, e = .returned (.tuple #[v, .int .i64 0, .int .i64 0]) ∧ kL.R 28 w' w.heap.size (fun _ => True) v (full p))
theorem lines_fault {w w' : World} {p : List ByteArray} {e : Ending} {er at_ : Int} (h : fault p = some (er, at_)) (hb : Below w.heap.size w w') (he : e = .returned (.tuple #[.slice none 0 0, .int .i64 er, .int .i64 at_])) : LinesQ w p e w' := by
  refine ⟨hb, ?_⟩
  rw [h]
  exact he
structure FT (p : List ByteArray) (k : Nat) : Prop where
  ft : faultF p (p.length - k) k = fault p
  first : 0 < k → goes (p.getD 0 ByteArray.empty) = false
theorem FT.next {p : List ByteArray} {k : Nat} (h : FT p k) (hk : k < p.length) (h1 : hasR (p.getD k ByteArray.empty) = false) (h2 : badF p k = false) : FT p (k + 1) := by
  refine ⟨(fault_at p k hk h.ft).2.2 h1 h2, fun _ => ?_⟩
  rcases Nat.eq_zero_or_pos k with h0 | h0
  · subst h0
    unfold badF at h2
    simpa using h2
  · exact h.first h0
theorem slice_str (X : ByteArray) : (X.extract 1 X.size).data.toList = X.data.toList.drop 1 := by
  rw [ByteArray.data_extract, Array.toList_extract, List.extract_eq_take_drop]
  exact List.take_of_length_le (by rw [List.length_drop, Array.length_toList]; exact Nat.le_refl _)
theorem empty_eq (y : ByteArray) : (y.toList == (⟨#[]⟩ : ByteArray).toList) = (y.size == 0) := by
  rw [toList_data, toList_data, Bool.eq_iff_iff, beq_iff_eq, beq_iff_eq]
  have e : y.data.toList.length = y.size := Array.length_toList
  constructor
  · intro h; rw [← e, h]; rfl
  · intro h; exact List.length_eq_zero_iff.1 (e.trans h)
theorem mix_zero (gs : List (Int × List UInt8)) : mixL gs 0 = gs.map fun g => (g.1, ⟨#[]⟩) := by unfold mixL; simp
theorem mix_full (gs : List (Int × List UInt8)) : mixL gs gs.length = gs.map fun g => (g.1, (⟨g.2.toArray⟩ : ByteArray)) := by unfold mixL; simp
/-- The text of line i has been written. -/
theorem TR.d {w wr : World} {p : List ByteArray} {k : Nat} {ls : List (Int × ByteArray)} {av tv : Value} {hs : List Hd} {L n c : Nat} (h : TR w p k ls av tv (.slice (some ⟨L, 0, none⟩) n c) hs wr) (i : Nat) (hi : i < ls.length) (nn : Int) (y z : ByteArray) (hx : ls.getD i (0, ⟨#[]⟩) = (nn, y)) :
    wr.cell? ⟨L, i * 2 + 1, none⟩ = some (.string y) ∧ wr.frozen? ⟨L, i * 2 + 1, none⟩ = false ∧ TR w p k (ls.set i (nn, z)) av tv (.slice (some ⟨L, 0, none⟩) n c) hs (wr.setCell ⟨L, i * 2 + 1, none⟩ (.string z)) := by
  obtain ⟨hn, _, _⟩ := Kd.R_reads' h.ln
  obtain ⟨c0, hc1, hM, hcell, hfr⟩ := Kd.R_elem h.ln (0, ⟨#[]⟩) (i : Int) (by omega) (by omega)
  rw [Int.toNat_natCast, hx] at hM
  rw [Int.toNat_natCast] at hcell hfr
  obtain ⟨_, _, rfl, rfl, rfl⟩ := hM
  have hseg := Kd.R_seg (okp := fun _ => False) h.ln (i : Int) (by omega) (by omega) (c := [.int .i64 nn] ++ [.string y]) (seg := [.string z]) (j := 1) rfl (by rw [Int.toNat_natCast]; exact hcell) (Nat.le_refl 2) (x' := (nn, z)) ⟨[.int .i64 nn], [.string z], rfl, rfl, rfl⟩ (fun _ hk => hk.elim)
  rw [Int.toNat_natCast] at hseg
  obtain ⟨cells, hL⟩ := Kd.R_typed h.ln L (by simp [Value.ownBlock])
  refine ⟨hcell 1 _ rfl, hfr 1, ⟨Kd.R_set h.all hL (by decide) _ _, Kd.R_set h.tx hL (by decide) _ _, hseg.1, h.inn.on (fun q cells' fz hc => Below.heap_setCell _ _ _ _ ?_), h.below.setCell (Kd.R_base h.ln L (by simp [Value.ownBlock])) _⟩⟩
  intro e
  rw [e, hL] at hc
  injection hc with hc
  injection hc with _ hc
  cases hc
theorem lines_as (s : ByteArray) (w : World) (hs : s.size ≤ 1048576) : Calls Try.prog 6 #[.string s] w (LinesQ w (phys s)) := by
  have hpl : (phys s).length ≤ 1048577 := by have := ph_len s (bytesOf s) 0 0; rw [bytesOf_length] at this; unfold phys; omega
  have HPS : Hid (∀ i, ((phys s).getD i ByteArray.empty).size ≤ 1048576) := Lib.hid (fun i => by
    rw [List.getD_eq_getElem?_getD]
    cases he : (phys s)[i]? with
    | none => exact Nat.zero_le _
    | some x => exact Nat.le_trans (ph_size s _ _ _ x (List.mem_of_getElem? he)) hs)
  have HPC : Hid (∀ w, Calls Try.prog 16 #[.string s] w fun e w' => ∃ v, e = .returned v ∧ Kd.R Kd.string 9 w' w.heap.size (fun _ => True) v (phys s) ∧ Below w.heap.size w w') := Lib.hid (fun w => physical_as s w hs)
  generalize phys s = p at *
  go_enter Try.func6, Try.ntmps6
  go_wp2_with (first
    | (go_at_call 16; (with_reducible refine (HPC.out _).mono ?_); rintro e w1 ⟨av, rfl, hav, hb1⟩; (obtain ⟨A, ca, rfl⟩ := Kd.R_slice hav); have HAV := Lib.hid hav; have HB1 := Lib.hid hb1; clear hav hb1)
    | go_in)
  go_loopw [5, 6, 8, 9, 10, 16] (fun v5 v6 v8 v9 v10 v16 wr => ∃ (k : Nat) (hs : List Hd), k ≤ p.length ∧ v16 = .int .i64 (k : Nat) ∧ Hid (FT p k) ∧ Hid (TR w p k (lns0 p k) (.slice A p.length ca) v5 v6 hs wr)) (fun _ _ _ _ _ v16 _ => p.length - (intOf v16).toNat)
  case atStart => exact ⟨0, [], Nat.zero_le _, rfl, Lib.hid ⟨rfl, fun h => absurd h (Nat.lt_irrefl _)⟩, Lib.hid ⟨HAV.out, Kd.R_nil _ _ _ _ _, Kd.R_nil _ _ _ _ _, Inner.nil _ _, HB1.out⟩⟩
  case round =>
    clear HPC HB1 HAV
    obtain ⟨k, hs, hk, rfl, HF, HT⟩ := hrel
    have hsz := HT.out.below.size
    by_cases hin : k < p.length
    · obtain ⟨g, c', he, hgb, hgl, cells, hgc⟩ := Kd.R_form HT.out.all (by omega)
      injection he with he1 _ he2
      subst he1 he2
      have hlt : (k : Int) < (p.length : Int) := by omega
      have hx := HPS.out k
      have hll : (lns0 p k).length ≤ k := by unfold lns0; rw [List.length_map]; exact gl_len p k
      have hhl : hs.length ≤ k := by rw [HT.out.len]; exact gl_len p k
      have hc := cell_str HT.out.all k hin
      have hFA := fault_at p k hin HF.out.ft
      have hw1 : IntKind.i64.wrap ((k : Int) + 1) = ((k + 1 : Nat) : Int) := by rw [IntWalk.i64_in _ (by omega)]; rfl
      cases hR : hasR (p.getD k ByteArray.empty) with
      | true =>
        have HFL := Lib.hid (hFA.1 hR)
        clear hFA hgc
        obtain ⟨gb, hgo⟩ : ∃ gb, goes (p.getD k ByteArray.empty) = gb := ⟨_, rfl⟩
        generalize p.getD k ByteArray.empty = x at hc hx hR hgo
        go_wp2_with (first
          | (go_at_call 17; ((with_reducible refine (goes_as x gb _ hx hgo).mono ?_); rintro e _ ⟨rfl, ⟨n1, rfl⟩⟩))
          | (go_at_call 18; ((with_reducible refine (hasR_as x true _ hR).mono ?_); rintro e _ ⟨rfl, rfl⟩))
          | go_in)
        go_ret3
        exact lines_fault HFL.out (pw_below_drewN HT.out.below n1) (by rfl)
      | false =>
        cases hgo : goes (p.getD k ByteArray.empty) with
        | true =>
          rcases Nat.eq_zero_or_pos k with hk0 | hk0
          · subst hk0
            have hbad : badF p 0 = true := by unfold badF; rw [hgo]; rfl
            have HFL := Lib.hid (hFA.2.1 hR hbad)
            clear hFA hgc hbad
            generalize p.getD 0 ByteArray.empty = x at hc hx hR hgo
            go_wp2_with (first
              | (go_at_call 17; ((with_reducible refine (goes_as x true _ hx hgo).mono ?_); rintro e _ ⟨rfl, ⟨n1, rfl⟩⟩))
              | (go_at_call 18; ((with_reducible refine (hasR_as x false _ hR).mono ?_); rintro e _ ⟨rfl, rfl⟩))
              | go_in)
            go_ret3
            exact lines_fault HFL.out (pw_below_drewN HT.out.below n1) (by rfl)
          · have hbe : badF p k = ((p.getD (k - 1) ByteArray.empty).size == 0) := by unfold badF; rw [hgo, show (k == 0) = false from beq_eq_false_iff_ne.mpr (by omega)]; rfl
            have hcj := cell_str HT.out.all (k - 1) (by omega)
            obtain ⟨j, hj⟩ : ∃ j : Nat, j = k - 1 := ⟨_, rfl⟩
            rw [← hj] at hbe hcj
            have hwj : IntKind.i64.wrap ((k : Int) - 1) = (j : Int) := by rw [IntWalk.i64_in _ (by omega)]; omega
            have hjl : (j : Int) < (p.length : Int) := by omega
            have hk00 : ((k : Int) == 0) = false := beq_eq_false_iff_ne.mpr (by omega)
            generalize p.getD j ByteArray.empty = y at hbe hcj
            have hye : (y.toList == (⟨#[]⟩ : ByteArray).toList) = badF p k := by rw [empty_eq, hbe]
            have hye2 : (y.toList == ([] : List UInt8)) = badF p k := by rw [← hye, toList_data ⟨#[]⟩]
            by_cases hbad : badF p k = true
            · have HFL := Lib.hid (hFA.2.1 hR hbad)
              rw [hbad] at hye hye2
              clear hFA hgc hbad hbe hj
              generalize p.getD k ByteArray.empty = x at hc hx hR hgo
              go_wp2_with (first
                | (go_at_call 17; ((with_reducible refine (goes_as x true _ hx hgo).mono ?_); rintro e _ ⟨rfl, ⟨n1, rfl⟩⟩))
                | (go_at_call 18; ((with_reducible refine (hasR_as x false _ hR).mono ?_); rintro e _ ⟨rfl, rfl⟩))
                | go_in)
              go_ret3
              exact lines_fault HFL.out (pw_below_drewN HT.out.below n1) (by rfl)
            · have hbad := Bool.eq_false_iff.2 hbad
              have HFN := Lib.hid (HF.out.next hin hR hbad)
              rw [hbad] at hye hye2
              obtain ⟨gs, nn, b, hgl_⟩ := gl_some p k hk0 (HF.out.first hk0)
              have HGL := Lib.hid hgl_
              have hinn := HT.out.inn
              rw [hgl_, List.map_append] at hinn
              have hhs : hs ≠ [] := by
                intro e0
                have := hinn.len
                rw [e0] at this
                simp at this
              obtain ⟨hs', x', rfl⟩ : ∃ hs' x', hs = hs' ++ [x'] := ⟨_, _, (List.dropLast_concat_getLast hhs).symm⟩
              obtain ⟨f1, f2, f3⟩ := hinn.front
              obtain ⟨gx, nx, cx⟩ := x'
              obtain ⟨T, cT, rfl, hTb, hTl, cellsT, hTc⟩ := Kd.R_form HT.out.tx (by simp)
              obtain ⟨m, hm⟩ : ∃ m, m = hs'.length := ⟨_, rfl⟩
              have HM := Lib.hid hm
              obtain ⟨q, hq⟩ : ∃ q, q = (hs' ++ [(⟨gx, nx, cx⟩ : Hd)]).length := ⟨_, rfl⟩
              have hqm : q = m + 1 := by rw [hq, hm]; simp
              have hwq : IntKind.i64.wrap ((q : Int) - 1) = (m : Int) := by rw [IntWalk.i64_in _ (by omega)]; omega
              have hmq : (m : Int) < (q : Int) := by omega
              obtain rfl : nx = b.length := by
                obtain ⟨_, g0, c0, _, _, e0, _⟩ := f2
                simp only [Hd.v, Value.slice.injEq] at e0
                exact e0.2.1
              have hct := (cell_hd HT.out.tx m (by omega)).1
              have hgd : (hs' ++ [(⟨gx, b.length, cx⟩ : Hd)]).getD m default = ⟨gx, b.length, cx⟩ := by rw [hm, List.getD_eq_getElem?_getD]; simp
              rw [hgd] at hct
              change wr.cell? ⟨T, m, none⟩ = some (.slice (some ⟨gx, 0, none⟩) b.length cx) at hct
              have HB0 := fun n => (below_drew1 (pw_below_drewN (Below.refl wr.heap.size wr) n) : Below wr.heap.size wr ((wr.drewN n).drew))
              have HGO := Lib.hid hgo
              obtain ⟨X, hX⟩ : ∃ X, X = p.getD k ByteArray.empty := ⟨_, rfl⟩
              have HXE := Lib.hid hX
              have hXS := slice_str X
              have HXZ : (X.extract 1 X.size).size = (X.data.toList.drop 1).length := by rw [← hXS]; exact Array.length_toList.symm
              have HXR : Hid (∀ n, OwnsM ((wr.drewN n).drew) w.heap.size 5 (.slice (some ⟨gx, 0, none⟩) b.length cx) b.length (Lib.byteCells b)) := Lib.hid fun n => OwnsM_on f2 (fun k' hk' => (HB0 n).block k' (f2.lt k' hk').2)
              have HT' := HT.out
              rw [← hq] at HT'
              have HCC : Hid (∀ n v1 w3, OwnsM w3 w.heap.size 5 v1 (b.length + (X.extract 1 X.size).size) (Lib.byteCells b ++ Lib.byteCells (X.extract 1 X.size).data.toList) → ((wr.drewN n).drew).grownBy w3 (some gx) → (v1.ownBlock = some gx ∨ ∃ k', v1.ownBlock = some k' ∧ ((wr.drewN n).drew).heap.size ≤ k') →
                  ∃ nx gx2 cx2, v1 = .slice (some ⟨gx2, 0, none⟩) nx cx2 ∧ Hid (w3.cell? ⟨T, m, none⟩ = some (.slice (some ⟨gx, 0, none⟩) b.length cx) ∧ w3.frozen? ⟨T, m, none⟩ = false ∧ TR w p (k + 1) (lns0 p k) (.slice (some ⟨g, 0, none⟩) p.length ca) (.slice (some ⟨T, 0, none⟩) q cT) u6 (hs' ++ [⟨gx2, nx, cx2⟩]) (w3.setCell ⟨T, m, none⟩ (.slice (some ⟨gx2, 0, none⟩) nx cx2)))) := Lib.hid (by
                intro n v1 w3 q1 q2 q3
                have q1' := q1
                obtain ⟨_, g2, c2, cur2, fz2, rfl, hb2, _⟩ := q1
                refine ⟨_, g2, c2, rfl, Lib.hid ?_⟩
                have HTn := HT'.on (HB0 n)
                have hne : T ≠ gx := by
                  intro e0
                  obtain ⟨cc, fz, hcc⟩ := OwnsM_typed f2 gx rfl
                  rw [← e0, hTc] at hcc
                  injection hcc with hcc
                  injection hcc with _ hcc
                  cases hcc
                have hfar : w3.heap[T]? = wr.heap[T]? := (q2.block T (Nat.lt_of_lt_of_le hTl (HB0 n).size) (fun e0 => hne (Option.some.inj e0))).trans ((HB0 n).block T hTl)
                have hfr := (cell_hd HT.out.tx m (by omega)).2
                refine ⟨?_, ?_, ?_⟩
                · rw [← hct]; simp only [World.cell?, hfar]
                · rw [← hfr]; simp only [World.frozen?, hfar]
                · have hlen : b.length + (X.extract 1 X.size).size = (b ++ X.data.toList.drop 1).length := by rw [List.length_append, HXZ]
                  have := TR.c (x' := ⟨g2, b.length + (X.extract 1 X.size).size, c2⟩) HTn X hX (by rw [hX]; exact hgo) hgl_ (by
                    rw [← Lib.byteCells_append, hXS] at q1'
                    rw [← hlen]
                    exact q1') q2 (by
                    rcases q3 with q3 | ⟨k', q3, q4⟩
                    · left; simpa [Value.ownBlock] using q3
                    · right
                      have : g2 = k' := by simpa [Value.ownBlock] using q3
                      show _ ≤ g2
                      omega)
                  rw [← hm] at this
                  exact this)
              have hbs := gl_size p 1048576 HPS.out k (nn, b) (by rw [hgl_]; simp)
              have hXZ2 : (X.extract 1 X.size).size ≤ 1048576 := by rw [ByteArray.size_extract]; rw [hX]; omega
              have hbl : b.length + (X.extract 1 X.size).size ≤ 140737488355328 := by
                have : k * 1048576 ≤ 1048577 * 1048576 := Nat.mul_le_mul_right _ (by omega)
                simp only at hbs
                omega
              have hx1 : (1 : Int) ≤ (X.size : Int) := by
                have : goes X = true := by rw [hX]; exact hgo
                have hn0 : X.size ≠ 0 := by
                  intro e0
                  unfold goes at this
                  have eb : bytesOf X = [] := List.length_eq_zero_iff.1 (by rw [bytesOf_length]; exact e0)
                  rw [eb] at this
                  cases this
                omega
              have HTS := Lib.hid HT'
              clear HT'
              have HFN2 := HFN
              rw [← hX] at hc hx hR hgo
              rw [← hq]
              clear HT hFA hgc hgl_ hinn hhs f1 f2 f3 hTc hm hq hqm HM hhl hgd hX hXS HXZ hbs hbe hj HB0 hbad
              go_wp2_with (first
                | (go_at_call 17; ((with_reducible refine (goes_as X true _ hx hgo).mono ?_); rintro e _ ⟨rfl, ⟨n1, rfl⟩⟩))
                | (go_at_call 18; ((with_reducible refine (hasR_as X false _ hR).mono ?_); rintro e _ ⟨rfl, rfl⟩))
                | go_in)
              have hcx : ((wr.drewN n1).drew).cell? ⟨T, m, none⟩ = some (.slice (some ⟨gx, 0, none⟩) b.length cx) := hct
              refine start_ (n := 15) (S := fun w' => w'.cell? ⟨T, m, none⟩ = some (.slice (some ⟨gx, 0, none⟩) b.length cx)) (ds := [12, 14]) #[false, false, false, false, false, false, false, false, false, false, false, false, false, false, false] (by kernel_rfl) rfl rfl (hcx) (fun hHeld => ?_)
              refine pure_ (i := 0) (N := some 57) (v := ?_) (a' := ?_) #[true, false, false, false, false, false, false, false, false, false, false, false, false, false, false] rfl rfl (by kernel_rfl) (fun _ _ _ h => h) (Or.inl ⟨by rfl, ?_⟩) ?_ ?_
              rotate_left
              · intro w'
                go_simp
                with_reducible rfl
              rotate_left
              · simp only [Act.put, List.setIfInBounds_toArray, List.set_cons_zero, List.set_cons_succ, i64_w, i32_w]
                rfl
              refine pure_ (i := 1) (N := some 58) (v := ?_) (a' := ?_) #[true, true, false, false, false, false, false, false, false, false, false, false, false, false, false] rfl rfl (by kernel_rfl) (fun _ _ _ h => h) (Or.inl ⟨by rfl, ?_⟩) ?_ ?_
              rotate_left
              · intro w'
                go_simp
                with_reducible rfl
              rotate_left
              · simp only [Act.put, List.setIfInBounds_toArray, List.set_cons_zero, List.set_cons_succ, i64_w, i32_w]
                rfl
              refine pure_ (i := 2) (N := some 59) (v := ?_) (a' := ?_) #[true, true, true, false, false, false, false, false, false, false, false, false, false, false, false] rfl rfl (by kernel_rfl) (fun _ _ _ h => h) (Or.inl ⟨by rfl, ?_⟩) ?_ ?_
              rotate_left
              · intro w'
                go_simp
                with_reducible rfl
              rotate_left
              · simp only [Act.put, List.setIfInBounds_toArray, List.set_cons_zero, List.set_cons_succ, i64_w, i32_w]
                rfl
              refine pure_ (i := 3) (N := some 60) (v := ?_) (a' := ?_) #[true, true, true, true, false, false, false, false, false, false, false, false, false, false, false] rfl rfl (by kernel_rfl) (fun _ _ _ h => h) (Or.inl ⟨by rfl, ?_⟩) ?_ ?_
              rotate_left
              · intro w'
                go_simp
                with_reducible rfl
              rotate_left
              · simp only [Act.put, List.setIfInBounds_toArray, List.set_cons_zero, List.set_cons_succ, i64_w, i32_w]
                rfl
              refine pure_ (i := 4) (N := some 61) (v := ?_) (a' := ?_) #[true, true, true, true, true, false, false, false, false, false, false, false, false, false, false] rfl rfl (by kernel_rfl) (fun _ _ _ h => h) (Or.inl ⟨by rfl, ?_⟩) ?_ ?_
              rotate_left
              · intro w'
                go_simp
                with_reducible rfl
              rotate_left
              · simp only [Act.put, List.setIfInBounds_toArray, List.set_cons_zero, List.set_cons_succ, i64_w, i32_w]
                rfl
              refine pure_ (i := 5) (N := some 62) (v := ?_) (a' := ?_) #[true, true, true, true, true, true, false, false, false, false, false, false, false, false, false] rfl rfl (by kernel_rfl) (fun _ _ _ h => h) (Or.inl ⟨by rfl, ?_⟩) ?_ ?_
              rotate_left
              · intro w'
                go_simp
                with_reducible rfl
              rotate_left
              · simp only [Act.put, List.setIfInBounds_toArray, List.set_cons_zero, List.set_cons_succ, i64_w, i32_w]
                rfl
              refine pure_ (i := 6) (N := some 63) (v := ?_) (a' := ?_) #[true, true, true, true, true, true, true, false, false, false, false, false, false, false, false] rfl rfl (by kernel_rfl) (fun _ _ _ h => h) (Or.inl ⟨by rfl, ?_⟩) ?_ ?_
              rotate_left
              · intro w'
                go_simp
                with_reducible rfl
              rotate_left
              · simp only [Act.put, List.setIfInBounds_toArray, List.set_cons_zero, List.set_cons_succ, i64_w, i32_w]
                rfl
              refine pure_ (i := 7) (N := some 64) (v := ?_) (a' := ?_) #[true, true, true, true, true, true, true, true, false, false, false, false, false, false, false] rfl rfl (by kernel_rfl) (fun _ _ _ h => h) (Or.inl ⟨by rfl, ?_⟩) ?_ ?_
              rotate_left
              · intro w'
                go_simp
                with_reducible rfl
              rotate_left
              · simp only [Act.put, List.setIfInBounds_toArray, List.set_cons_zero, List.set_cons_succ, i64_w, i32_w]
                rfl
              refine pure_ (i := 8) (N := some 65) (v := ?_) (a' := ?_) #[true, true, true, true, true, true, true, true, true, false, false, false, false, false, false] rfl rfl (by kernel_rfl) (fun _ _ _ h => h) (Or.inl ⟨by rfl, ?_⟩) ?_ ?_
              rotate_left
              · intro w'
                go_simp
                with_reducible rfl
              rotate_left
              · simp only [Act.put, List.setIfInBounds_toArray, List.set_cons_zero, List.set_cons_succ, i64_w, i32_w]
                rfl
              refine pure_ (i := 10) (N := some 67) (v := ?_) (a' := ?_) #[true, true, true, true, true, true, true, true, true, false, true, false, false, false, false] rfl rfl (by kernel_rfl) (fun _ _ _ h => h) (Or.inl ⟨by rfl, ?_⟩) ?_ ?_
              rotate_left
              · intro w'
                go_simp
                with_reducible rfl
              rotate_left
              · simp only [Act.put, List.setIfInBounds_toArray, List.set_cons_zero, List.set_cons_succ, i64_w, i32_w]
                rfl
              refine pure_ (i := 11) (N := some 68) (v := ?_) (a' := ?_) #[true, true, true, true, true, true, true, true, true, false, true, true, false, false, false] rfl rfl (by kernel_rfl) (fun _ _ _ h => h) (Or.inl ⟨by rfl, ?_⟩) ?_ ?_
              rotate_left
              · intro w'
                go_simp
                with_reducible rfl
              rotate_left
              · simp only [Act.put, List.setIfInBounds_toArray, List.set_cons_zero, List.set_cons_succ, i64_w, i32_w]
                rfl
              refine take_ (i := 9) (N := some 66) (v := ?_) (a' := ?_) #[true, true, true, true, true, true, true, true, true, true, true, true, false, false, false] rfl rfl (by kernel_rfl) (fun _ _ _ h => h) (Or.inl ⟨by rfl, ?_⟩) hHeld ?_ ?_
              rotate_left
              · intro w' s0
                go_simp
                with_reducible rfl
              rotate_left
              · simp only [Act.put, List.setIfInBounds_toArray, List.set_cons_zero, List.set_cons_succ, i64_w, i32_w]
                rfl
              refine last_ (i := 12) (N := some 69) #[true, true, true, true, true, true, true, true, true, true, true, true, true, false, false] rfl rfl (by kernel_rfl) (by decide) (fun K hK => ?_)
              refine append_M_step _ (by rfl) (.tmp 66) (.tmp 68) 40 9 rfl w.heap.size 5 Try.underlying40 info5 _ b.length (Lib.byteCells b) rfl (HXR.out _) _ (X.extract 1 X.size).size _ rfl (Src.ofString _ Try.underlying9 (X.extract 1 X.size)) hbl (by show w.heap.size ≤ wr.heap.size; omega) ?_
              intro v1 w3 q1 q2 q3
              obtain ⟨nx, gx2, cx2, rfl, HC2⟩ := HCC.out _ v1 w3 q1 q2 q3
              have hcT := HC2.out.1
              have hfT := HC2.out.2.1
              have HST := Lib.hid HC2.out.2.2
              clear q1 q2 q3 HC2
              refine hK.out _ _ ?_
              clear hK K
              refine norm_ (a' := ?_) ?_ ?_
              rotate_left
              · show Act.put _ (some 69) _ = _
                simp only [Act.put, List.setIfInBounds_toArray, List.set_cons_zero, List.set_cons_succ, i64_w, i32_w]
                rfl
              refine pure_ (i := 13) (N := some 70) (v := ?_) (a' := ?_) #[true, true, true, true, true, true, true, true, true, true, true, true, true, true, false] rfl rfl (by kernel_rfl) (fun _ _ _ h => h) (Or.inl ⟨by rfl, ?_⟩) ?_ ?_
              rotate_left
              · intro w'
                go_simp
                with_reducible rfl
              rotate_left
              · simp only [Act.put, List.setIfInBounds_toArray, List.set_cons_zero, List.set_cons_succ, i64_w, i32_w]
                rfl
              refine last_ (i := 14) (N := none) #[true, true, true, true, true, true, true, true, true, true, true, true, true, true, true] rfl rfl (by kernel_rfl) (by decide) (fun K hK => ?_)
              refine skip_ (w1 := ?_) (by rfl) rfl ?_ ?_
              rotate_left
              · go_simp
                rfl
              refine hK.out _ _ ?_
              clear hK K
              refine done_ (by kernel_rfl) ?_
              go_wp2
              go_roundw
              case rel => exact ⟨k + 1, _, by omega, by go_num, HFN, Lib.hid (by rw [lns_on p k HGO.out gs nn b HGL.out]; exact HST.out)⟩
              case measure => simp [intOf]; omega
        | false =>
          have hbad : badF p k = false := by unfold badF; rw [hgo]; rfl
          have HFN := Lib.hid (HF.out.next hin hR hbad)
          have HGO := Lib.hid hgo
          obtain ⟨x, hx_⟩ : ∃ x, x = p.getD k ByteArray.empty := ⟨_, rfl⟩
          have HX := Lib.hid hx_
          rw [← hx_] at hc hx hR hgo
          clear hFA hgc hx_ hbad
          have kb := fun W => Lib.run_convert_string_bytes (P := Try.prog) W 9 40 5 x Try.underlying9 Try.underlying40 Try.underlying5
          go_wp2_with (first
            | (go_at_call 17; ((with_reducible refine (goes_as x false _ hx hgo).mono ?_); rintro e _ ⟨rfl, ⟨n1, rfl⟩⟩))
            | (go_at_call 18; ((with_reducible refine (hasR_as x false _ hR).mono ?_); rintro e _ ⟨rfl, rfl⟩))
            | ((with_reducible refine gate_builtin (b := .append) (xs := #[.tmp 23, .tmp 27]) rfl ?_); at_builtin; refine Kd.R_append kL (w0 := w) w.heap.size rfl (.tmp 23) (.tmp 27) 22 28 (.agg #[.int .i64 0, .string ⟨#[]⟩]) 24 rfl Try.underlying22 info28 rfl (by decide) (by omega) _ (lns0 p k) ((k : Int) + 1, ⟨#[]⟩) [.int .i64 ((k : Int) + 1), .string ⟨#[]⟩] (fun _ => True) (fun _ => False) rfl rfl ⟨_, _, rfl, rfl, rfl⟩ (fun _ h => h.elim) (fun _ _ => trivial) (Kd.R_drewN HT.out.ln n1) (pw_below_drewN HT.out.below n1) (by show w.heap.size ≤ wr.heap.size; omega) (by omega) ?_; intro lv1 w2 q1 q2 q3 q4; have HTA := Lib.hid (TR.a (HT.out.on (pw_below_drewN (Below.refl _ _) n1)) q1 q2 q3); clear q1 q2 q3 q4)
            | ((with_reducible refine gate_builtin (b := .append) (xs := #[.tmp 29, .tmp 32]) rfl ?_); at_builtin; refine Kd.R_append kH (w0 := w) w.heap.size rfl (.tmp 29) (.tmp 32) 43 40 (.slice none 0 0) 24 rfl Try.underlying43 info40 rfl (by decide) (by omega) _ hs ⟨w2.heap.size, x.size, grownCap w2 x.size 0 5⟩ [.slice (some ⟨w2.heap.size, 0, none⟩) x.size (grownCap w2 x.size 0 5)] (fun _ => True) (fun _ => False) rfl rfl rfl (fun _ h => h.elim) (fun _ _ => trivial) (HTA.out.on (below_conv w2 5 x (Nat.le_refl _))).tx (HTA.out.on (below_conv w2 5 x (Nat.le_refl _))).below (HTA.out.on (below_conv w2 5 x (Nat.le_refl _))).below.size (by omega) ?_; intro tv1 w3 q1 q2 q3 q4; have HTB := Lib.hid (HTA.out.b x HX.out hgo (by omega) q1 q2 q3); clear q1 q2 q3 q4)
            | go_in)
          go_roundw
          case rel => exact ⟨k + 1, _, by omega, by go_num, HFN, Lib.hid (by rw [lns_new p k HGO.out]; exact HTB.out)⟩
          case measure => simp [intOf]; omega
    · obtain rfl : k = p.length := by omega
      have hlt : ¬ (p.length : Int) < (p.length : Int) := by omega
      have HN : Hid (fault p = none) := Lib.hid (by
        have := HF.out.ft
        rw [Nat.sub_self] at this
        exact this.symm)
      obtain ⟨AL, cL, rfl⟩ := Kd.R_slice HT.out.ln
      obtain ⟨gs, hgs⟩ : ∃ gs, gs = gl p p.length := ⟨_, rfl⟩
      have hgl_ : (lns0 p p.length).length = gs.length := by unfold lns0; rw [List.length_map, hgs]
      rw [hgl_] at HT ⊢
      have HGS := Lib.hid hgs
      have HTM : Hid (TR w p p.length (mixL gs 0) (.slice A p.length ca) u5 (.slice AL gs.length cL) hs wr) := Lib.hid (by rw [mix_zero, hgs]; rw [hgs] at HT; exact HT.out)
      obtain ⟨AT, cT, rfl⟩ := Kd.R_slice HTM.out.tx
      have hhl : hs.length = gs.length := by rw [HTM.out.len, hgs]
      have hgsl : gs.length ≤ 1048577 := by have := gl_len p p.length; rw [hgs]; omega
      clear HT HF hsz hgs hgl_
      go_wp2
      go_loopw [11, 74] (fun v11 v74 wi => ∃ i : Nat, i ≤ gs.length ∧ v74 = .int .i64 (i : Nat) ∧ Hid (TR w p p.length (mixL gs i) (.slice A p.length ca) (.slice AT hs.length cT) (.slice AL gs.length cL) hs wi)) (fun _ v74 _ => gs.length - (intOf v74).toNat)
      case atStart => exact ⟨0, Nat.zero_le _, rfl, HTM⟩
      case round =>
        clear HTM
        obtain ⟨i, hi, rfl, HT⟩ := hrel
        by_cases hin2 : i < gs.length
        · have hlti : (i : Int) < (gs.length : Int) := by omega
          have hlth : (i : Int) < (hs.length : Int) := by omega
          have hw1 : IntKind.i64.wrap ((i : Int) + 1) = ((i + 1 : Nat) : Int) := by rw [IntWalk.i64_in _ (by omega)]; rfl
          obtain ⟨T, c', he, _⟩ := Kd.R_form HT.out.tx (by omega)
          injection he with he1 _ he2
          subst he1 he2
          obtain ⟨L, c', he, _⟩ := Kd.R_form HT.out.ln (by rw [mix_len]; omega)
          injection he with he1 _ he2
          subst he1 he2
          have hct := (cell_hd HT.out.tx i (by omega)).1
          have hrow := HT.out.inn.row i (hs.getD i default) (gs[i].2) (by rw [List.getD_eq_getElem?_getD, List.getElem?_eq_getElem (show i < hs.length by omega)]; rfl) (by rw [← HGS.out, List.getElem?_map, List.getElem?_eq_getElem hin2]; rfl)
          have hback : (convert 40 9 (hs.getD i default).v).run Try.prog wr = .ok (.string ⟨gs[i].2.toArray⟩) wr := run_back_M wr 40 5 9 Try.underlying40 Try.underlying5 Try.underlying9 w.heap.size _ _ _ rfl hrow
          obtain ⟨m1, m2⟩ := mix_step gs i hin2
          obtain ⟨e1, e2, e3⟩ := HT.out.d i (by rw [mix_len]; exact hin2) gs[i].1 ⟨#[]⟩ ⟨gs[i].2.toArray⟩ m2
          rw [m1] at e3
          have HE := Lib.hid e3
          clear hrow
          generalize hs.getD i default = h0 at hct hback
          obtain ⟨gx, nx, cx⟩ := h0
          change wr.cell? ⟨T, i, none⟩ = some (.slice (some ⟨gx, 0, none⟩) nx cx) at hct
          change (convert 40 9 (.slice (some ⟨gx, 0, none⟩) nx cx)).run Try.prog wr = _ at hback
          clear m1 m2 e3
          generalize gs[i].2.toArray = z at hback HE
          go_wp2
          go_roundw
          case rel => exact ⟨i + 1, by omega, by go_num, HE⟩
          case measure => simp [intOf]; omega
        · have hlti : ¬ (i : Int) < (gs.length : Int) := by omega
          obtain rfl : i = gs.length := by omega
          go_wp2
          go_ret3
          refine ⟨HT.out.below, ?_⟩
          rw [HN.out]
          refine ⟨_, rfl, ?_⟩
          have := HT.out.ln
          rw [mix_full] at this
          unfold full
          rw [← HGS.out]
          exact this
end Go.Proofs.Ytfiomfcejmmbgaa.LinesW

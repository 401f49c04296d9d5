/- By hand: the document's Lines (rosterref07). For every text of at most 1048576 bytes and every world. -/
import Derived.Test.YtfiomfcejmmbgaaLinesC
set_option linter.unusedVariables false
set_option linter.unusedSimpArgs false
namespace Go.Proofs.Ytfiomfcejmmbgaa.LinesW
open Go.RowKit Go.Proofs.Ytfiomfcejmmbgaa.Blk Go.Proofs.Ytfiomfcejmmbgaa.ByteM Go.Proofs.Ytfiomfcejmmbgaa.XL Go.Proofs.Ytfiomfcejmmbgaa.XV Go.Proofs.Ytfiomfcejmmbgaa.LinesP Go.Proofs.YtfiomfcejmmbgaaW.PrintWords Go.Proofs.YtfiomfcejmmbgaaW.PrintLast Go.Proofs.YtfiomfcejmmbgaaW.PrintMore
def fulls (gs : List (Int × List UInt8)) : List (Int × ByteArray) := gs.map fun g => (g.1, (⟨g.2.toArray⟩ : ByteArray))
structure RR (w : World) (p : List ByteArray) (ls : List (Int × ByteArray)) (av lv : Value) (wr : World) : Prop where
  all : Kd.R Kd.string 9 wr w.heap.size (fun _ => True) av p
  ln : kL.R 28 wr w.heap.size (fun _ => True) lv ls
  below : Below w.heap.size w wr
structure RI (w : World) (p : List ByteArray) (ls : List (Int × ByteArray)) (av lv bv : Value) (b : List UInt8) (wr : World) : Prop where
  base : RR w p ls av lv wr
  row : OwnsM wr w.heap.size 5 bv b.length (Lib.byteCells b)
theorem RR.on {w wr w1 : World} {p : List ByteArray} {ls : List (Int × ByteArray)} {av lv : Value} (h : RR w p ls av lv wr) (hb : Below wr.heap.size wr w1) : RR w p ls av lv w1 :=
  ⟨Kd.R_below h.all hb, Kd.R_below h.ln hb, h.below.trans (hb.mono h.below.size)⟩
theorem RI.on {w wr w1 : World} {p : List ByteArray} {ls : List (Int × ByteArray)} {av lv bv : Value} {b : List UInt8} (h : RI w p ls av lv bv b wr) (hb : Below wr.heap.size wr w1) : RI w p ls av lv bv b w1 :=
  ⟨h.base.on hb, OwnsM_on h.row (fun k hk => hb.block k (h.row.lt k hk).2)⟩
/-- []byte(s) -/
theorem RR.conv {w wr : World} {p : List ByteArray} {ls : List (Int × ByteArray)} {av lv : Value} (h : RR w p ls av lv wr) (s : ByteArray) (hs : s.size ≤ 140737488355328) : RI w p ls av lv (.slice (some ⟨wr.heap.size, 0, none⟩) s.size (grownCap wr s.size 0 5)) s.data.toList (Lib.bytesWorld wr 5 s) := by
  refine ⟨h.on (below_conv wr 5 s (Nat.le_refl _)), ?_⟩
  have e : (s.data.toList).length = s.size := Array.length_toList
  rw [e]
  exact ownsM_conv wr 5 s hs w.heap.size h.below.size
theorem RI.more {w wr w1 : World} {p : List ByteArray} {ls : List (Int × ByteArray)} {av lv bv bv1 : Value} {b t : List UInt8} (h : RI w p ls av lv bv b wr) (hx : OwnsM w1 w.heap.size 5 bv1 (b.length + t.length) (Lib.byteCells b ++ Lib.byteCells t)) (hg : wr.grownBy w1 bv.ownBlock) : RI w p ls av lv bv1 (b ++ t) w1 := by
  refine ⟨⟨R_overM h.base.all h.row (by decide) hg, R_overM h.base.ln h.row (by decide) hg, h.base.below.grown hg h.base.below.size (fun q hq => (h.row.lt q hq).1)⟩, ?_⟩
  rw [← Lib.byteCells_append] at hx
  rw [List.length_append]
  exact hx
theorem RR.line {w wr w1 : World} {p : List ByteArray} {ls : List (Int × ByteArray)} {av lv lv1 : Value} {x : Int × ByteArray} (h : RR w p ls av lv wr) (hl : kL.R 28 w1 w.heap.size (fun _ => True) lv1 (ls ++ [x])) (hb : Below w.heap.size w w1) (hg : wr.grownBy w1 lv.ownBlock) : RR w p (ls ++ [x]) av lv1 w1 :=
  ⟨Kd.R_over h.all h.ln (by decide) hg, hl, hb⟩
theorem goes_bt (x : ByteArray) : goes x = (decide (0 < (x.size : Int)) && (bt x 0 == 32)) := by
  unfold goes
  by_cases h : 0 < x.size
  · have := drop_cons x 0 h
    rw [List.drop_zero] at this
    rw [this, decide_eq_true (by omega), Bool.true_and]
    show (some _ == some _) = _
    rfl
  · have e : bytesOf x = [] := List.length_eq_zero_iff.1 (by rw [bytesOf_length]; omega)
    rw [e, decide_eq_false (by omega), Bool.false_and]
    rfl
structure Stop (P : Prop) : Prop where
  out : P
theorem rlines_as (s : ByteArray) (w : World) (hs : s.size ≤ 1048576) : Calls Try.prog 7 #[.string s] w (LinesQ w (phys s)) := by
  have hpl : (phys s).length ≤ 1048577 := by have := ph_len s (bytesOf s) 0 0; rw [bytesOf_length] at this; unfold phys; omega
  have HPS : Hid (∀ i, ((phys s).getD i ByteArray.empty).size ≤ 1048576) := Lib.hid (fun i => by
    rw [List.getD_eq_getElem?_getD]
    cases he : (phys s)[i]? with
    | none => exact Nat.zero_le _
    | some x => exact Nat.le_trans (ph_size s _ _ _ x (List.mem_of_getElem? he)) hs)
  have HPC : Hid (∀ w, Calls Try.prog 19 #[.string s] w fun e w' => ∃ v, e = .returned v ∧ Kd.R Kd.string 9 w' w.heap.size (fun _ => True) v (phys s) ∧ Below w.heap.size w w') := Lib.hid (fun w => rphys_as s w hs)
  generalize phys s = p at *
  go_enter Try.func7, Try.ntmps7
  go_wp2_with (first
    | (go_at_call 19; (with_reducible refine (HPC.out _).mono ?_); rintro e w1 ⟨av, rfl, hav, hb1⟩; (obtain ⟨A, ca, rfl⟩ := Kd.R_slice hav); have HAV := Lib.hid hav; have HB1 := Lib.hid hb1; clear hav hb1)
    | go_in)
  go_loopw [6, 7] (fun v6 v7 wr => ∃ (k : Nat), k ≤ p.length ∧ v6 = .int .i64 (k : Nat) ∧ Hid (FT p k) ∧ Hid (RR w p [] (.slice A p.length ca) (.slice none 0 0) wr)) (fun v6 _ _ => p.length - (intOf v6).toNat)
  case atStart => exact ⟨0, Nat.zero_le _, rfl, Lib.hid ⟨rfl, fun h => absurd h (Nat.lt_irrefl _)⟩, Lib.hid ⟨HAV.out, Kd.R_nil _ _ _ _ _, HB1.out⟩⟩
  case round =>
    clear HPC HB1 HAV
    obtain ⟨k, hk, rfl, HF, HT⟩ := hrel
    have hsz := HT.out.below.size
    by_cases hin : k < p.length
    · obtain ⟨g, c', he, hgb, hgl, cells, hgc⟩ := Kd.R_form HT.out.all (by omega)
      injection he with he1 _ he2
      subst he1 he2
      have hlt : (k : Int) < (p.length : Int) := by omega
      have hx := HPS.out k
      have hc := cell_str HT.out.all k hin
      have hFA := fault_at p k hin HF.out.ft
      have hw1 : IntKind.i64.wrap ((k : Int) + 1) = ((k + 1 : Nat) : Int) := by rw [IntWalk.i64_in _ (by omega)]; rfl
      cases hR : hasR (p.getD k ByteArray.empty) with
      | true =>
        have HFL := Lib.hid (hFA.1 hR)
        clear hFA hgc
        generalize p.getD k ByteArray.empty = x at hc hx hR
        go_wp2_with (first
          | (go_at_call 20; ((with_reducible refine (rhas_as x true _ hx hR).mono ?_); rintro e _ ⟨rfl, ⟨n1, rfl⟩⟩))
          | go_in)
        go_ret3
        exact lines_fault HFL.out (pw_below_drewN HT.out.below n1) (by rfl)
      | false =>
        have hgo := goes_bt (p.getD k ByteArray.empty)
        obtain ⟨x, hX⟩ : ∃ x, x = p.getD k ByteArray.empty := ⟨_, rfl⟩
        have HX := Lib.hid hX
        rw [← hX] at hgo hc hx hR
        by_cases hx0 : 0 < (x.size : Int)
        · by_cases h32 : bt x 0 = 32
          · have h32b : (bt x 0 == 32) = true := beq_iff_eq.mpr h32
            rw [decide_eq_true hx0, h32b] at hgo
            have hgo2 : goes (p.getD k ByteArray.empty) = true := by rw [← hX]; exact hgo
            have hx0n : 0 < x.size := by omega
            have hb0 := bt_nat x 0 hx0n
            rw [show (((0 : Nat) : Int)) = 0 from rfl, h32] at hb0
            have hb1 : ((x[0]'hx0n).toNat : Int) = 32 := hb0.symm
            have hb2 : (((x[0]'hx0n).toNat : Int) == 32) = true := beq_iff_eq.mpr hb1
            clear hb0
            rcases Nat.eq_zero_or_pos k with hk0 | hk0
            · subst hk0
              have hbad : badF p 0 = true := by unfold badF; rw [hgo2]; rfl
              have HFL := Lib.hid (hFA.2.1 (by rw [← hX]; exact hR) hbad)
              clear hFA hgc hbad hX hgo2
              go_wp2_with (first
                | (go_at_call 20; ((with_reducible refine (rhas_as x false _ hx hR).mono ?_); rintro e _ ⟨rfl, ⟨n1, rfl⟩⟩))
                | go_in)
              go_ret3
              exact lines_fault HFL.out (pw_below_drewN HT.out.below n1) (by rfl)
            · have hbe : badF p k = ((p.getD (k - 1) ByteArray.empty).size == 0) := by unfold badF; rw [hgo2, show (k == 0) = false from beq_eq_false_iff_ne.mpr (by omega)]; rfl
              have hcj := cell_str HT.out.all (k - 1) (by omega)
              obtain ⟨j, hj⟩ : ∃ j : Nat, j = k - 1 := ⟨_, rfl⟩
              rw [← hj] at hbe hcj
              have hwj : IntKind.i64.wrap ((k : Int) - 1) = (j : Int) := by rw [IntWalk.i64_in _ (by omega)]; omega
              have hjl : (j : Int) < (p.length : Int) := by omega
              have hk00 : ((k : Int) == 0) = false := beq_eq_false_iff_ne.mpr (by omega)
              generalize p.getD j ByteArray.empty = y at hbe hcj
              have hye : (y.toList == (⟨#[]⟩ : ByteArray).toList) = badF p k := by rw [empty_eq, hbe]
              have hye2 : (y.toList == ([] : List UInt8)) = badF p k := by rw [← hye, toList_data ⟨#[]⟩]
              by_cases hbad : badF p k = true
              · have HFL := Lib.hid (hFA.2.1 (by rw [← hX]; exact hR) hbad)
                rw [hbad] at hye hye2
                clear hFA hgc hbad hbe hj hX hgo2
                go_wp2_with (first
                  | (go_at_call 20; ((with_reducible refine (rhas_as x false _ hx hR).mono ?_); rintro e _ ⟨rfl, ⟨n1, rfl⟩⟩))
                  | go_in)
                go_ret3
                exact lines_fault HFL.out (pw_below_drewN HT.out.below n1) (by rfl)
              · have hbad := Bool.eq_false_iff.2 hbad
                have HFN := Lib.hid (HF.out.next hin (by rw [← hX]; exact hR) hbad)
                rw [hbad] at hye hye2
                clear hFA hgc hbad hbe hj hX hgo2
                go_wp2_with (first
                  | (go_at_call 20; ((with_reducible refine (rhas_as x false _ hx hR).mono ?_); rintro e _ ⟨rfl, ⟨n1, rfl⟩⟩))
                  | go_in)
                go_roundw
                case rel => exact ⟨k + 1, by omega, by go_num, HFN, Lib.hid (HT.out.on (pw_below_drewN (Below.refl _ _) n1))⟩
                case measure => simp [intOf]; omega
          · have h32b : (bt x 0 == 32) = false := beq_eq_false_iff_ne.mpr h32
            have hbad : badF p k = false := by unfold badF; rw [← hX, hgo, h32b, Bool.and_false]; rfl
            have HFN := Lib.hid (HF.out.next hin (by rw [← hX]; exact hR) hbad)
            have hx0n : 0 < x.size := by omega
            have hb0 := bt_nat x 0 hx0n
            have hb1 : ¬ ((x[0]'hx0n).toNat : Int) = 32 := fun e => h32 (hb0.trans e)
            have hb2 : (((x[0]'hx0n).toNat : Int) == 32) = false := beq_eq_false_iff_ne.mpr hb1
            clear hb0
            clear hFA hgc hbad hX hgo
            go_wp2_with (first
              | (go_at_call 20; ((with_reducible refine (rhas_as x false _ hx hR).mono ?_); rintro e _ ⟨rfl, ⟨n1, rfl⟩⟩))
              | go_in)
            go_roundw
            case rel => exact ⟨k + 1, by omega, by go_num, HFN, Lib.hid (HT.out.on (pw_below_drewN (Below.refl _ _) n1))⟩
            case measure => simp [intOf]; omega
        · have hbad : badF p k = false := by unfold badF; rw [← hX, hgo, decide_eq_false hx0, Bool.false_and]; rfl
          have HFN := Lib.hid (HF.out.next hin (by rw [← hX]; exact hR) hbad)
          clear hFA hgc hbad hX hgo
          go_wp2_with (first
            | (go_at_call 20; ((with_reducible refine (rhas_as x false _ hx hR).mono ?_); rintro e _ ⟨rfl, ⟨n1, rfl⟩⟩))
            | go_in)
          go_roundw
          case rel => exact ⟨k + 1, by omega, by go_num, HFN, Lib.hid (HT.out.on (pw_below_drewN (Below.refl _ _) n1))⟩
          case measure => simp [intOf]; omega
    · obtain rfl : k = p.length := by omega
      have HN : Hid (fault p = none) := Lib.hid (by
        have := HF.out.ft
        rw [Nat.sub_self] at this
        exact this.symm)
      have HF0 := Lib.hid HF.out.first
      clear HF hsz
      go_wp2
      go_loopw [8, 9, 10, 11] (fun v8 v9 v10 v11 wr => ∃ (i : Nat), i ≤ p.length ∧ v9 = .int .i64 (i : Nat) ∧ Hid (RR w p (fulls (gl p i)) (.slice A p.length ca) v8 wr) ∧ Hid (i < p.length → goes (p.getD i ByteArray.empty) = false)) (fun _ v9 _ _ _ => p.length - (intOf v9).toNat)
      case atStart =>
        exact ⟨0, Nat.zero_le _, rfl, HT, Lib.hid (fun h => HF0.out h)⟩
      case round =>
        clear HT HF0
        obtain ⟨i, hi, rfl, HT, HN0⟩ := hrel
        by_cases hin2 : i < p.length
        · obtain ⟨g, c', he, hgb, hgl, cells, hgc⟩ := Kd.R_form HT.out.all (by omega)
          injection he with he1 _ he2
          subst he1 he2
          have hlt : (i : Int) < (p.length : Int) := by omega
          have hw1 : IntKind.i64.wrap ((i : Int) + 1) = ((i + 1 : Nat) : Int) := by rw [IntWalk.i64_in _ (by omega)]; rfl
          have hx := HPS.out i
          have hc := cell_str HT.out.all i hin2
          have hfl : (fulls (gl p i)).length ≤ i := by unfold fulls; rw [List.length_map]; exact gl_len p i
          have HG0 := Lib.hid (gl_new p i (HN0.out hin2))
          have HC0 := Lib.hid (HT.out.conv (p.getD i ByteArray.empty) (by omega))
          generalize p.getD i ByteArray.empty = x0 at hc hx HG0 HC0
          have kb := fun W => Lib.run_convert_string_bytes (P := Try.prog) W 9 40 5 x0 Try.underlying9 Try.underlying40 Try.underlying5
          clear hgc
          go_wp2
          go_loopw [10, 11] (fun v10 v11 wi => ∃ (j : Nat) (b : List UInt8), i + 1 ≤ j ∧ j ≤ p.length ∧ v11 = .int .i64 (j : Nat) ∧ Hid (RI w p (fulls (gl p i)) (.slice (some ⟨g, 0, none⟩) p.length ca) u8 v10 b wi) ∧ Hid (gl p j = gl p i ++ [(((i + 1 : Nat) : Int), b)])) (fun _ v11 _ => p.length - (intOf v11).toNat)
          case atStart => exact ⟨i + 1, _, Nat.le_refl _, by omega, by go_num, HC0, HG0⟩
          case round =>
            clear HC0 HG0 hc hx kb HT HN0 hgb hgl
            obtain ⟨j, b, hij, hj, rfl, HI, HG⟩ := hrel
            by_cases hin3 : j < p.length
            · have hltj : (j : Int) < (p.length : Int) := by omega
              have hwj : IntKind.i64.wrap ((j : Int) + 1) = ((j + 1 : Nat) : Int) := by rw [IntWalk.i64_in _ (by omega)]; rfl
              have hx := HPS.out j
              have hc := cell_str HI.out.base.all j hin3
              have hgo := goes_bt (p.getD j ByteArray.empty)
              obtain ⟨x, hX⟩ : ∃ x, x = p.getD j ByteArray.empty := ⟨_, rfl⟩
              have HX := Lib.hid hX
              rw [← hX] at hgo hc hx
              by_cases hx0 : 0 < (x.size : Int)
              · have hx0n : 0 < x.size := by omega
                have hb0 := bt_nat x 0 hx0n
                by_cases h32 : bt x 0 = 32
                · have h32b : (bt x 0 == 32) = true := beq_iff_eq.mpr h32
                  rw [decide_eq_true hx0, h32b] at hgo
                  have hb1 : ((x[0]'hx0n).toNat : Int) = 32 := hb0.symm.trans h32
                  have hb2 : (((x[0]'hx0n).toNat : Int) == 32) = true := beq_iff_eq.mpr hb1
                  have HXL : Hid ((x.extract 1 x.size).size = (x.extract 1 x.size).data.toList.length) := Lib.hid Array.length_toList.symm
                  have HG3 : Hid (gl p (j + 1) = gl p i ++ [(((i + 1 : Nat) : Int), b ++ (x.extract 1 x.size).data.toList)]) := Lib.hid (by rw [slice_str, hX]; exact gl_on p j (by rw [← hX]; exact hgo) _ _ _ HG.out)
                  have hbs := gl_size p 1048576 HPS.out j (((i + 1 : Nat) : Int), b) (by rw [HG.out]; simp)
                  have hXZ2 : (x.extract 1 x.size).size ≤ 1048576 := by rw [ByteArray.size_extract]; omega
                  have hbl : b.length + (x.extract 1 x.size).size ≤ 140737488355328 := by
                    have : j * 1048576 ≤ 1048577 * 1048576 := Nat.mul_le_mul_right _ (by omega)
                    simp only at hbs
                    omega
                  have hx1 : (1 : Int) ≤ (x.size : Int) := by omega
                  clear hb0 hX hgo hbs
                  go_wp2_with (first
                    | ((with_reducible refine gate_builtin (b := .append) (xs := #[.tmp 87, .tmp 92]) rfl ?_); at_builtin; refine wpList_append_M_at _ rfl (.tmp 87) (.tmp 92) 40 9 rfl w.heap.size 5 Try.underlying40 info5 _ b.length (Lib.byteCells b) rfl HI.out.row _ (x.extract 1 x.size).size (Lib.byteCells (x.extract 1 x.size).data.toList) rfl (Src.ofString _ Try.underlying9 (x.extract 1 x.size)) hbl HI.out.base.below.size ?_; intro v1 w3 q1 q2 q3; have HI3 := Lib.hid (HI.out.more (by rw [HXL.out] at q1; exact q1) q2); clear q1 q2 q3)
                    | go_in)
                  go_roundw
                  case rel => exact ⟨j + 1, _, by omega, by omega, by go_num, HI3, HG3⟩
                  case measure => simp [intOf]; omega
                · have hb1 : ¬ ((x[0]'hx0n).toNat : Int) = 32 := fun e => h32 (hb0.trans e)
                  have hb2 : (((x[0]'hx0n).toNat : Int) == 32) = false := beq_eq_false_iff_ne.mpr hb1
                  have HNG : Hid (j < p.length → goes (p.getD j ByteArray.empty) = false) := Lib.hid (fun _ => by rw [← hX, hgo, beq_eq_false_iff_ne.mpr h32, Bool.and_false])
                  clear hb0 hX hgo
                  have hxt : Hid (gl p j = gl p i ++ [(((i + 1 : Nat) : Int), b)]) := HG
                  have hback : (convert 40 9 u10).run Try.prog wr = .ok (.string ⟨b.toArray⟩) wr := run_back_M wr 40 5 9 Try.underlying40 Try.underlying5 Try.underlying9 w.heap.size _ _ _ rfl HI.out.row
                  go_wp2_with (first
                    | ((with_reducible refine gate_builtin (b := .append) (xs := #[.tmp 96, .tmp 102]) rfl ?_); at_builtin; refine Kd.R_append kL (w0 := w) w.heap.size rfl (.tmp 96) (.tmp 102) 22 28 (.agg #[.int .i64 0, .string ⟨#[]⟩]) 24 rfl Try.underlying22 info28 rfl (by decide) (by omega) _ (fulls (gl p i)) ((i : Int) + 1, ⟨b.toArray⟩) [.int .i64 ((i : Int) + 1), .string ⟨b.toArray⟩] (fun _ => True) (fun _ => False) rfl rfl ⟨_, _, rfl, rfl, rfl⟩ (fun _ h => h.elim) (fun _ _ => trivial) HI.out.base.ln HI.out.base.below HI.out.base.below.size (by omega) ?_; intro lv1 w2 q1 q2 q3 q4; have HTA := Lib.hid (HI.out.base.line q1 q2 q3); clear q1 q2 q3 q4)
                    | go_in)
                  go_roundw
                  case rel => exact ⟨j, by omega, rfl, Lib.hid (by rw [hxt.out]; unfold fulls; rw [List.map_append]; exact HTA.out), HNG⟩
                  case measure => simp [intOf]; omega
              · have HNG : Hid (j < p.length → goes (p.getD j ByteArray.empty) = false) := Lib.hid (fun _ => by rw [← hX, hgo, decide_eq_false hx0, Bool.false_and])
                clear hX hgo
                have hxt : Hid (gl p j = gl p i ++ [(((i + 1 : Nat) : Int), b)]) := HG
                have hback : (convert 40 9 u10).run Try.prog wr = .ok (.string ⟨b.toArray⟩) wr := run_back_M wr 40 5 9 Try.underlying40 Try.underlying5 Try.underlying9 w.heap.size _ _ _ rfl HI.out.row
                go_wp2_with (first
                  | ((with_reducible refine gate_builtin (b := .append) (xs := #[.tmp 96, .tmp 102]) rfl ?_); at_builtin; refine Kd.R_append kL (w0 := w) w.heap.size rfl (.tmp 96) (.tmp 102) 22 28 (.agg #[.int .i64 0, .string ⟨#[]⟩]) 24 rfl Try.underlying22 info28 rfl (by decide) (by omega) _ (fulls (gl p i)) ((i : Int) + 1, ⟨b.toArray⟩) [.int .i64 ((i : Int) + 1), .string ⟨b.toArray⟩] (fun _ => True) (fun _ => False) rfl rfl ⟨_, _, rfl, rfl, rfl⟩ (fun _ h => h.elim) (fun _ _ => trivial) HI.out.base.ln HI.out.base.below HI.out.base.below.size (by omega) ?_; intro lv1 w2 q1 q2 q3 q4; have HTA := Lib.hid (HI.out.base.line q1 q2 q3); clear q1 q2 q3 q4)
                  | go_in)
                go_roundw
                case rel => exact ⟨j, by omega, rfl, Lib.hid (by rw [hxt.out]; unfold fulls; rw [List.map_append]; exact HTA.out), HNG⟩
                case measure => simp [intOf]; omega
            · have hltj : ¬ (j : Int) < (p.length : Int) := by omega
              have HNG : Hid (j < p.length → goes (p.getD j ByteArray.empty) = false) := Lib.hid (fun h => absurd h hin3)
              have hxt : Hid (gl p j = gl p i ++ [(((i + 1 : Nat) : Int), b)]) := HG
              have hback : (convert 40 9 u10).run Try.prog wr = .ok (.string ⟨b.toArray⟩) wr := run_back_M wr 40 5 9 Try.underlying40 Try.underlying5 Try.underlying9 w.heap.size _ _ _ rfl HI.out.row
              go_wp2_with (first
                | ((with_reducible refine gate_builtin (b := .append) (xs := #[.tmp 96, .tmp 102]) rfl ?_); at_builtin; refine Kd.R_append kL (w0 := w) w.heap.size rfl (.tmp 96) (.tmp 102) 22 28 (.agg #[.int .i64 0, .string ⟨#[]⟩]) 24 rfl Try.underlying22 info28 rfl (by decide) (by omega) _ (fulls (gl p i)) ((i : Int) + 1, ⟨b.toArray⟩) [.int .i64 ((i : Int) + 1), .string ⟨b.toArray⟩] (fun _ => True) (fun _ => False) rfl rfl ⟨_, _, rfl, rfl, rfl⟩ (fun _ h => h.elim) (fun _ _ => trivial) HI.out.base.ln HI.out.base.below HI.out.base.below.size (by omega) ?_; intro lv1 w2 q1 q2 q3 q4; have HTA := Lib.hid (HI.out.base.line q1 q2 q3); clear q1 q2 q3 q4)
                | go_in)
              go_roundw
              case rel => exact ⟨j, by omega, rfl, Lib.hid (by rw [hxt.out]; unfold fulls; rw [List.map_append]; exact HTA.out), HNG⟩
              case measure => simp [intOf]; omega
        · have hlti : ¬ (i : Int) < (p.length : Int) := by omega
          obtain rfl : i = p.length := by omega
          go_wp2
          go_ret3
          refine ⟨HT.out.below, ?_⟩
          rw [HN.out]
          exact ⟨_, rfl, HT.out.ln⟩
end Go.Proofs.Ytfiomfcejmmbgaa.LinesW

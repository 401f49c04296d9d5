/- DitAnyOrder: the law walked (printed). For every input and world. -/
import Derived.Test.YtnogmaljcocfjaaDoorDitAnyP
import Derived.OpenShut
set_option linter.unusedVariables false
set_option linter.unusedSimpArgs false
namespace Go.Proofs.YtnogmaljcocfjaaDoor.XK
open Go Go.Maps Go.RowKit Go.Proofs.YtnogmaljcocfjaaDoor.Blk Go.Proofs.YtnogmaljcocfjaaDoor.DitTab Go.Proofs.YtnogmaljcocfjaaDoor.DitRow Go.Proofs.YtnogmaljcocfjaaDoor.DitTerm Go.Proofs.YtnogmaljcocfjaaDoor.DitMap Go.Proofs.YtnogmaljcocfjaaDoor.DitCheck Go.Proofs.YtnogmaljcocfjaaDoor.DitCopy Go.Proofs.YtnogmaljcocfjaaDoor.DitPure Go.Proofs.YtnogmaljcocfjaaDoor.DitSort Go.Proofs.YtnogmaljcocfjaaDoor.DitBuild Go.Proofs.YtnogmaljcocfjaaDoor.DitMeth Go.Proofs.YtnogmaljcocfjaaDoor.DitGr Go.Proofs.YtnogmaljcocfjaaDoor.DitLaw Go.Proofs.YtnogmaljcocfjaaDoor.Keys Go.Proofs.YtnogmaljcocfjaaDoorW.PrintWords Go.Proofs.YtnogmaljcocfjaaDoorW.PrintLast Go.Proofs.YtnogmaljcocfjaaDoorW.PrintMore
/-- The list so far, in memory: entries of l. -/
structure AW (W1 : World) (l : List S45) (L : List Nat) (v : Value) (wr : World) : Prop where
  calm : DitMeth.Calm W1 wr
  own : OwnRow (k45.K W1) 45 4 wr W1.heap.size v (L.map (ent l))
theorem AW.len {W1 wr : World} {l : List S45} {L : List Nat} {v : Value} (h : AW W1 l L v wr) : ∃ A c, v = .slice A L.length c := by
  obtain ⟨A, c, e, _⟩ := h.own.reads
  rw [List.length_map] at e
  exact ⟨A, c, e⟩
theorem AW.reads {W1 wr : World} {l : List S45} {L : List Nat} {v : Value} (h : AW W1 l L v wr) : ∃ A c, v = .slice A L.length c ∧ L.length ≤ c ∧ Kd.C k45 wr A (L.map (ent l)).length (L.map (ent l)) := by
  obtain ⟨A, c, e, hl, hr⟩ := h.own.reads
  rw [List.length_map] at e hl
  exact ⟨A, c, e, hl, hr.imp_ (Below.refl _ _) (fun _ _ hp => k45.K_below h.calm hp)⟩
open Classical in
noncomputable def rosterlaw09_DitAnyOrder.f (l0 : List ByteArray) (l1 : List S86) : Option Bool := if InOK l0 l1 then some true else none
set_option maxHeartbeats 8000000 in
set_option maxRecDepth 100000 in
theorem rosterlaw09_DitAnyOrder.calls (A0 : Option Addr) (c0 : Nat) (l0 : List ByteArray) (A1 : Option Addr) (c1 : Nat) (l1 : List S86) (r : Bool) (w : World) (hG : Tabs w) (hr0 : Kd.C Kd.string w A0 l0.length l0) (hc0 : l0.length ≤ c0) (hr1 : Kd.C k86 w A1 l1.length l1) (hc1 : l1.length ≤ c1) (h : rosterlaw09_DitAnyOrder.f l0 l1 = some r) :
    Calls Tryd.prog 6 #[.slice A0 l0.length c0, .slice A1 l1.length c1] w fun e w' => e = .returned (.bool r) ∧ Below w.heap.size w w' := by
  unfold rosterlaw09_DitAnyOrder.f at h
  split at h
  case isFalse => cases h
  case isTrue hIN =>
  obtain rfl := Option.some.inj h
  have hI := hIN
  obtain ⟨l, hl⟩ : ∃ l, l = grownL l0 l1 := ⟨_, rfl⟩
  have hgn : GN l0 l1 l1.length l := by rw [hl]; exact grown_gn hI l1.length (Nat.le_refl _)
  have GA := grown_as w A0 A1 c0 c1 l0 l1 hr0 hr1 hI
  rw [← hl] at GA
  have HGA := Lib.hid GA
  have HGN := Lib.hid hgn
  have HF := Lib.hid (hgn.fit hI (Nat.le_refl _))
  have HG := Lib.hid hG
  have HIN := Lib.hid hI
  have hll := (hgn.fit hI (Nat.le_refl _)).len
  have hlp : 0 < l.length := by have := hgn.good.pos; simpa using this
  clear h GA hgn hG hI hl hr0 hr1 hIN
  have hdep := key_depth HGN.out.good
  have hr0l : kln l 0 = l0.length := by unfold kln; rw [HGN.out.base]
  rw [hr0l] at hdep
  have hlow : ∀ i, i < l.length → l0.length ≤ kln l i := fun i hi => (hdep i hi).1
  have hupp : ∀ i, i < l.length → kln l i ≤ l0.length + i := fun i hi => (hdep i hi).2
  have HLOW := Lib.hid hlow
  have HUPP := Lib.hid hupp
  have h0n := HIN.out.len
  have hz0 : mI l l0.length 0 = [] := rfl
  clear hdep hr0l hlow hupp
  go_enter Tryd.func6, Tryd.ntmps6
  go_wp2_with (first
    | (go_at_call 20; ((with_reducible refine HGA.out.mono ?_); rintro e W1 ⟨v1, rfl, ho, hb⟩; obtain ⟨A2, c2, hv1, hl2, hC2⟩ := Kd.R_reads ho; subst hv1; have HB1 : Hid (Below w.heap.size w W1) := Lib.hid hb; have HC2 := Lib.hid hC2; clear ho hb hC2))
    | go_in)
  obtain ⟨b, o, hA2, hbl, hEn⟩ := ents_at HC2.out hlp
  subst hA2
  have HE := Lib.hid hEn
  clear hEn
  have HA0 : Hid (AW W1 l (mI l l0.length 0) (.slice none 0 0) W1) := Lib.hid ⟨Below.refl _ _, OwnRow.none_ _ _ _ _ _⟩
  clear hz0
  go_loopw [6, 7, 8] (fun v6 v7 v8 wr => ∃ (N : Nat) (y : Int), Hid (y = ((l0.length + N : Nat) : Int)) ∧ N ≤ l.length + 1 ∧ v7 = .int .i64 y ∧ Hid (AW W1 l (mI l l0.length N) v6 wr)) (fun _ v _ _ => l0.length + l.length + 1 - (intOf v).toNat)
  case atStart => exact ⟨0, (l0.length : Int), Lib.hid (by simp), Nat.zero_le _, rfl, HA0⟩
  case round =>
    clear HA0
    obtain ⟨N, y, HY, hN, rfl, HW⟩ := hrel
    obtain ⟨A3, c3, hv3⟩ := HW.out.len
    subst hv3
    have hml := mI_len l l0.length HLOW.out N
    have hwl : IntKind.i64.wrap ((l0.length : Int) + (l.length : Int)) = (l0.length : Int) + (l.length : Int) := IntWalk.i64_in _ (by omega)
    by_cases hgo : (mI l l0.length N).length < l.length ∧ N ≤ l.length
    · obtain ⟨hg1, hg2⟩ := hgo
      have hd1 : ((mI l l0.length N).length : Int) < (l.length : Int) := by omega
      have hd2 : y ≤ (l0.length : Int) + (l.length : Int) := by have := HY.out; omega
      have hd1d : decide (((mI l l0.length N).length : Int) < (l.length : Int)) = true := decide_eq_true hd1
      have hd1n : decide ((mI l l0.length N).length < l.length) = true := decide_eq_true hg1
      have hwy : IntKind.i64.wrap (y + 1) = y + 1 := IntWalk.i64_in _ (by have := HY.out; omega)
      have hwm : IntKind.i64.wrap ((l.length : Int) - 1) = (l.length : Int) - 1 := IntWalk.i64_in _ (by omega)
      have HS := Lib.hid (mI_succ l l0.length N)
      have HE0 : Hid (mI l l0.length N ++ idxF l (l0.length + N) l.length = mI l l0.length N) := Lib.hid (by rw [idxF_end, List.append_nil])
      have hmm := mI_len l l0.length HLOW.out (N + 1)
      rw [HS.out] at hmm
      generalize mI l l0.length N = L0 at HW hml hg1 hd1 hd1d hd1n HS HE0 hmm ⊢
      have HB0 : Hid (AW W1 l (L0 ++ idxF l (l0.length + N) l.length) (.slice A3 L0.length c3) wr) := Lib.hid (by rw [HE0.out]; exact HW.out)
      go_wp2
      clear hd1 hd1d hd1n hd2 hwm
      go_loopw [6, 8] (fun v6 v8 wr => ∃ (i : Nat) (z : Int), Hid (z = (i : Int) - 1) ∧ i ≤ l.length ∧ v8 = .int .i64 z ∧ Hid (AW W1 l (L0 ++ idxF l (l0.length + N) i) v6 wr)) (fun _ v _ => ((intOf v) + 1).toNat)
      case atStart => exact ⟨l.length, (l.length : Int) - 1, Lib.hid rfl, Nat.le_refl _, rfl, HB0⟩
      case round =>
        clear HB0 HW
        obtain ⟨i, z, HZ, hi, rfl, HV⟩ := hrel
        obtain ⟨A4, c4, hv4⟩ := HV.out.len
        subst hv4
        by_cases hi0 : 0 < i
        · obtain ⟨q, rfl⟩ : ∃ q, i = q + 1 := ⟨i - 1, by omega⟩
          have hzq : z = (q : Int) := by have := HZ.out; omega
          subst hzq
          have hql : q < l.length := by omega
          have hqi : (q : Int) < (l.length : Int) := by omega
          have hq0 : (0 : Int) ≤ (q : Int) := by omega
          have hwq : IntKind.i64.wrap ((q : Int) - 1) = (q : Int) - 1 := IntWalk.i64_in _ (by omega)
          have hE2 := HE.out q hql
          obtain ⟨A5, d5, A6, d6, e2, e3, hec⟩ := EC.ent hE2
          have hfe := fit_ent HF.out q
          have HEC := Lib.hid (hec (by show (ent l q).f2.length ≤ _; omega))
          have e0 := hE2.c0
          have e1 := hE2.c1
          change W1.cell? ⟨b, o + q * 4 + 2, none⟩ = some (.slice A5 (ent l q).f2.length d5) at e2
          change W1.cell? ⟨b, o + q * 4 + 3, none⟩ = some (.slice A6 (ent l q).f3.length d6) at e3
          change W1.cell? ⟨b, o + q * 4, none⟩ = some (.int .i64 (ent l q).f0) at e0
          change W1.cell? ⟨b, o + q * 4 + 1, none⟩ = some (.string (ent l q).f1) at e1
          change Hid (EC W1 (ent l q) A5 d5 A6 d6) at HEC
          have hst := idxF_step l (l0.length + N) q hql
          have hkq : kln l q = (ent l q).f2.length := rfl
          rw [hkq] at hst
          have hup := HUPP.out q hql
          have HMK : Hid (k45.K W1 (ent l q) [.int .i64 (ent l q).f0, .string (ent l q).f1, .slice A5 (ent l q).f2.length d5, .slice A6 (ent l q).f3.length d6]) := Lib.hid (k45_mk W1 (ent l q) HEC.out.kc HEC.out.key HEC.out.ac HEC.out.att)
          have hlen4 : (L0 ++ idxF l (l0.length + N) (q + 1)).length ≤ 1048576 := by
            have h1 : (idxF l (l0.length + N) (q + 1)).length ≤ l.length := by
              unfold idxF
              rw [List.length_reverse]
              refine Nat.le_trans (List.length_filter_le _ _) ?_
              simp
            have h2 : (L0 ++ idxF l (l0.length + N) (q + 1)).length ≤ (L0 ++ idxF l (l0.length + N) 0).length := by
              rw [List.length_append, List.length_append]
              have h3 : (idxF l (l0.length + N) (q + 1)).length ≤ (idxF l (l0.length + N) 0).length := by
                unfold idxF
                rw [List.length_reverse, List.length_reverse]
                exact ((List.drop_sublist_drop_left (List.range l.length) (Nat.zero_le (q + 1))).filter _).length_le
              omega
            omega
          have k0 := (HV.out.calm.cell (p := ⟨b, o + q * 4, none⟩) hbl).trans e0
          have k1 := (HV.out.calm.cell (p := ⟨b, o + q * 4 + 1, none⟩) hbl).trans e1
          have k2 := (HV.out.calm.cell (p := ⟨b, o + q * 4 + 2, none⟩) hbl).trans e2
          have k3 := (HV.out.calm.cell (p := ⟨b, o + q * 4 + 3, none⟩) hbl).trans e3
          have HHX : Hid (ent l q = ent l q) := Lib.hid rfl
          generalize hx : ent l q = x at k0 k1 k2 k3 HMK hst hfe
          have HX := Lib.hid hx
          clear e0 e1 e2 e3 HEC hec hE2 hkq hup hx HHX
          by_cases hln : x.f2.length = l0.length + N
          · rw [if_pos hln] at hst
            have HST := Lib.hid hst
            have hl1 : (x.f2.length : Int) = y := by have := HY.out; omega
            have hl2 : ((x.f2.length : Int) == y) = true := by simpa using hl1
            have hsz := HV.out.calm.size
            clear hst hln hl1
            go_wp2_with (first
              | ((with_reducible refine gate_builtin (b := .append) (xs := #[.tmp 49, .tmp 54]) rfl ?_); at_builtin; (refine OwnRow.append (w0 := W1) W1.heap.size rfl (.tmp 49) (.tmp 54) 22 45 (.agg #[(.int .i64 0), (.string ⟨#[]⟩), (.slice none 0 0), (.slice none 0 0)]) 4 72 rfl Tryd.underlying22 info45 rfl (by decide) (by decide) (.slice A4 (L0 ++ idxF l (l0.length + N) (q + 1)).length c4) ((L0 ++ idxF l (l0.length + N) (q + 1)).map (ent l)) x [.int .i64 x.f0, .string x.f1, .slice A5 x.f2.length d5, .slice A6 x.f3.length d6] rfl rfl HMK.out rfl (by simp [Value.oneCell']) HV.out.own HV.out.calm hsz (by rw [List.length_map]; omega) ?_; intro v5 w5 ho5 hb5 _ _; have HN : Hid (AW W1 l (L0 ++ idxF l (l0.length + N) q) v5 w5) := Lib.hid ⟨hb5, by rw [HST.out, ← List.append_assoc, List.map_append, List.map_singleton, HX.out]; exact ho5⟩; clear ho5 hb5))
              | go_in)
            go_roundw
            case rel => exact ⟨q, (q : Int) - 1, Lib.hid rfl, by omega, rfl, HN⟩
            case measure => simp [intOf]
          · rw [if_neg hln] at hst
            have hl1 : ¬ (x.f2.length : Int) = y := by have := HY.out; omega
            have hl2 : ((x.f2.length : Int) == y) = false := by simpa using hl1
            have HN : Hid (AW W1 l (L0 ++ idxF l (l0.length + N) q) (.slice A4 (L0 ++ idxF l (l0.length + N) (q + 1)).length c4) wr) := Lib.hid (by rw [hst]; exact HV.out)
            clear hst
            clear hln hl1
            go_wp2
            go_roundw
            case rel => exact ⟨q, (q : Int) - 1, Lib.hid rfl, by omega, rfl, HN⟩
            case measure => simp [intOf]
        · obtain rfl : i = 0 := by omega
          have hz1 : ¬ (0 : Int) ≤ z := by have := HZ.out; omega
          have HN : Hid (AW W1 l (mI l l0.length (N + 1)) (.slice A4 (L0 ++ idxF l (l0.length + N) 0).length c4) wr) := Lib.hid (by rw [HS.out]; exact HV.out)
          have HYN : Hid (y + 1 = ((l0.length + (N + 1) : Nat) : Int)) := Lib.hid (by have := HY.out; omega)
          have HMS : Hid (l0.length + l.length + 1 - (y + 1).toNat < l0.length + l.length + 1 - y.toNat) := Lib.hid (by have := HY.out; omega)
          go_wp2
          go_roundw
          case rel => exact ⟨N + 1, y + 1, HYN, by omega, rfl, HN⟩
          case measure => exact HMS.out
    · have hall : (mI l l0.length N).length = l.length ∨ l.length < N := by
        by_cases h1 : (mI l l0.length N).length < l.length
        · exact .inr (by have : ¬ N ≤ l.length := fun h2 => hgo ⟨h1, h2⟩; omega)
        · exact .inl (by omega)
      have hperm := mI_all l l0.length HLOW.out HUPP.out hall
      have hris := mI_ris l l0.length N
      have hcase : (¬ (mI l l0.length N).length < l.length) ∨ ((mI l l0.length N).length < l.length ∧ ¬ y ≤ (l0.length : Int) + (l.length : Int)) := by
        by_cases h1 : (mI l l0.length N).length < l.length
        · exact .inr ⟨h1, fun h2 => hgo ⟨h1, by have := HY.out; omega⟩⟩
        · exact .inl h1
      have hpl : (mI l l0.length N).length = l.length := by simpa using hperm.length_eq
      generalize mI l l0.length N = L at HW hml hall hperm hris hcase hpl ⊢
      have hc2 : ¬ L.length < l.length := by omega
      have hc2i : ¬ (L.length : Int) < (l.length : Int) := by omega
      have hc2d : decide ((L.length : Int) < (l.length : Int)) = false := decide_eq_false hc2i
      have hc2n : decide (L.length < l.length) = false := decide_eq_false hc2
      have HPM := Lib.hid hperm
      have HGD := Lib.hid (laid_good HGN.out.good hperm hris)
      have HFT := Lib.hid (fit_laid HF.out hperm)
      obtain ⟨Am, cm, hvm, hcm, hCm⟩ := HW.out.reads
      obtain ⟨rfl, rfl⟩ : Am = A3 ∧ cm = c3 := by
        have := hvm
        simp only [Value.slice.injEq] at this
        exact ⟨this.1.symm, this.2.2.symm⟩
      have HCM := Lib.hid hCm
      have HCAL : Hid (DitMeth.Calm W1 wr) := Lib.hid HW.out.calm
      have HPLX := Lib.hid hpl
      have hmpl : (L.map (ent l)).length = L.length := List.length_map _
      have HTW : Hid (Tabs wr) := Lib.hid (Tabs_at HG.out (HB1.out.trans (HCAL.out.mono HB1.out.size)))
      have BL := built_law wr (some ⟨b, o, none⟩) c2 l (Kd.C_below HC2.out HCAL.out) hl2 HF.out HTW.out HGN.out.good
      have BM := fun (W : World) (hW : DitMeth.Calm wr W) => built_law W Am cm (L.map (ent l)) (Kd.C_below HCM.out hW) (by rw [hmpl]; exact hcm) HFT.out (Tabs_at HTW.out hW) HGD.out
      rw [hmpl] at BM
      have HBL := Lib.hid BL
      have HBM := Lib.hid BM
      clear BL BM hvm hperm hris hcase hall hpl hml hc2 hmpl
      go_wp2_with (first
        | (go_at_call 21; ((with_reducible refine HBL.out.mono ?_); rintro e3 W3 ⟨tb, p, PI, rfl, hP, hT, hb⟩; have HP := Lib.hid hP; have HL : Hid (LT l p PI tb (some ⟨b, o, none⟩) W3) := Lib.hid ⟨Kd.C_below HC2.out (HCAL.out.trans (hb.mono HCAL.out.size)), hT, Tabs_at HTW.out hb⟩; have HB3 : Hid (DitMeth.Calm wr W3) := Lib.hid hb; clear hP hT hb))
        | (go_at_call 21; ((with_reducible refine (HBM.out W3 HB3.out).mono ?_); rintro e4 W4 ⟨ub, p2, PI2, rfl, hP, hT, hb⟩; have HP2 := Lib.hid hP; have HT2 : Hid (TreeAt (L.map (ent l)) p2 (L.map (ent l)).length PI2 ub W4) := Lib.hid (by rw [List.length_map]; exact hT); have HB4 : Hid (DitMeth.Calm W3 W4) := Lib.hid hb; have HB34 : Hid (DitMeth.Calm wr W4) := Lib.hid (HB3.out.trans (hb.mono HB3.out.size)); clear hP hT hb))
        | go_in)
      have hmpl : (L.map (ent l)).length = l.length := by rw [List.length_map]; exact HPLX.out
      obtain ⟨gm, om, hAm, hgm, hEm⟩ := ents_at HCM.out (by rw [hmpl]; exact hlp)
      subst hAm
      have HEM := Lib.hid (fun j hj => (hEm j hj).below hgm HB34.out)
      have hgm4 : gm < W4.heap.size := Nat.lt_of_lt_of_le hgm HB34.out.size
      have HBW4 : Hid (Below w.heap.size w W4) := Lib.hid ((HB1.out.trans (HCAL.out.mono HB1.out.size)).trans (HB34.out.mono (HB1.out.trans (HCAL.out.mono HB1.out.size)).size))
      have hLi : L.length = l.length := HPLX.out
      rw [hLi]
      clear hEm hc2i hc2d hc2n hcm hLi
      go_loopw [11, 12] (fun v11 v12 wr => ∃ n : Nat, n ≤ l.length ∧ v11 = .int .i64 (n : Nat) ∧ Hid (DitMeth.Calm W4 wr)) (fun v _ _ => l.length - (intOf v).toNat)
      case atStart => exact ⟨0, Nat.zero_le _, rfl, Lib.hid (Below.refl _ _)⟩
      case round =>
        obtain ⟨n, hn, rfl, HV⟩ := hrel
        by_cases hin : n < l.length
        · have hlt : (n : Int) < (l.length : Int) := by omega
          have hwi : IntKind.i64.wrap ((n : Int) + 1) = ((n + 1 : Nat) : Int) := by rw [IntWalk.i64_in _ (by omega)]; rfl
          have hinm : n < (L.map (ent l)).length := by rw [hmpl]; exact hin
          have hse := same_entries HPM.out HP.out HP2.out hin
          have hqm := HP2.out.mem hinm
          have hE2 := HEM.out _ hqm
          have HE1 := Lib.hid (fun (w : World) (hT : TreeAt l p l.length PI tb w) => entryC HP.out hT hin)
          have HE3 := Lib.hid (fun (w : World) (hT : TreeAt (L.map (ent l)) p2 (L.map (ent l)).length PI2 ub w) => entryC HP2.out hT hinm)
          have HPL : Hid (∀ (w : World) (hT : TreeAt (L.map (ent l)) p2 (L.map (ent l)).length PI2 ub w), Calls Tryd.prog 25 #[TP ub, .int .i64 (n : Int)] w fun e w' => e = .returned (.int .i64 ((p2.getD n 0 : Nat) : Int)) ∧ w' = w) := Lib.hid (fun w hT => by have := place_as hT (n : Int); rw [HP2.out.place hinm] at this; exact this)
          obtain ⟨A5, d5, A6, d6, e2, e3, hec⟩ := EC.ent hE2
          have hfe := fit_ent HFT.out (p2.getD n 0)
          have HEC := Lib.hid (hec (by show (ent (L.map (ent l)) (p2.getD n 0)).f2.length ≤ _; omega))
          have e0 := hE2.c0
          have e1 := hE2.c1
          rw [hse] at HE1
          change W4.cell? ⟨gm, om + p2.getD n 0 * 4 + 2, none⟩ = some (.slice A5 (ent (L.map (ent l)) (p2.getD n 0)).f2.length d5) at e2
          change W4.cell? ⟨gm, om + p2.getD n 0 * 4 + 3, none⟩ = some (.slice A6 (ent (L.map (ent l)) (p2.getD n 0)).f3.length d6) at e3
          change W4.cell? ⟨gm, om + p2.getD n 0 * 4, none⟩ = some (.int .i64 (ent (L.map (ent l)) (p2.getD n 0)).f0) at e0
          change W4.cell? ⟨gm, om + p2.getD n 0 * 4 + 1, none⟩ = some (.string (ent (L.map (ent l)) (p2.getD n 0)).f1) at e1
          change Hid (EC W4 (ent (L.map (ent l)) (p2.getD n 0)) A5 d5 A6 d6) at HEC
          obtain ⟨ke, hke⟩ := Ev.rounds (DitEv.entry_true (ent (L.map (ent l)) (p2.getD n 0)).f0 (ent (L.map (ent l)) (p2.getD n 0)).f1 (ent (L.map (ent l)) (p2.getD n 0)).f2 (ent (L.map (ent l)) (p2.getD n 0)).f3 (by omega) hfe.2.1 hfe.2.2)
          generalize ent (L.map (ent l)) (p2.getD n 0) = x at e0 e1 e2 e3 HEC HE1 HE3 hke
          generalize p2.getD n 0 = q at hqm HPL e0 e1 e2 e3
          rw [hmpl] at hqm
          have hql : (q : Int) < (l.length : Int) := by omega
          have hq0 : ¬ ((q : Int) < 0) := by omega
          have hqd0 : decide ((q : Int) < 0) = false := decide_eq_false hq0
          have hqg : ¬ ((l.length : Int) ≤ (q : Int)) := by omega
          have hqd1 : decide ((l.length : Int) ≤ (q : Int)) = false := decide_eq_false hqg
          have hqd2 : decide (l.length ≤ q) = false := decide_eq_false (by omega)
          have HKE := Lib.hid hke
          clear hse hE2 hec hke hfe
          have HTL : Hid (∀ W, DitMeth.Calm W4 W → TreeAt l p l.length PI tb W) := Lib.hid (fun W hW => HL.out.tree.below (HB4.out.trans (hW.mono HB4.out.size)))
          have HTM : Hid (∀ W, DitMeth.Calm W4 W → TreeAt (L.map (ent l)) p2 (L.map (ent l)).length PI2 ub W) := Lib.hid (fun W hW => HT2.out.below hW)
          have k0 := (HV.out.cell (p := ⟨gm, om + q * 4, none⟩) hgm4).trans e0
          have k1 := (HV.out.cell (p := ⟨gm, om + q * 4 + 1, none⟩) hgm4).trans e1
          have k2 := (HV.out.cell (p := ⟨gm, om + q * 4 + 2, none⟩) hgm4).trans e2
          have k3 := (HV.out.cell (p := ⟨gm, om + q * 4 + 3, none⟩) hgm4).trans e3
          have hgr : gm < wr.heap.size := Nat.lt_of_lt_of_le hgm4 HV.out.size
          clear e0 e1 e2 e3
          go_wp2_with (first
            | (go_at_call 25; ((with_reducible refine (HPL.out wr (HTM.out _ HV.out)).mono ?_); rintro e W ⟨rfl, hq⟩; subst W))
            | go_in)
          refine start_ (n := 29) (S := fun w' => w'.cell? ⟨gm, om + q * 4, none⟩ = some (.int .i64 x.f0) ∧ w'.cell? ⟨gm, om + q * 4 + 1, none⟩ = some (.string x.f1) ∧ w'.cell? ⟨gm, om + q * 4 + 2, none⟩ = some (.slice A5 x.f2.length d5) ∧ w'.cell? ⟨gm, om + q * 4 + 3, none⟩ = some (.slice A6 x.f3.length d6)) (ds := []) #[false, false, false, false, false, false, false, false, false, false, false, false, false, false, false, false, false, false, false, false, false, false, false, false, false, false, false, false, false] (by kernel_rfl) rfl rfl ⟨k0, k1, k2, k3⟩ (fun hHeld => ?_)
          refine pure_ (i := 0) (N := some 75) (v := ?_) (a' := ?_) #[true, false, false, false, false, false, false, false, false, false, false, false, false, false, false, false, false, false, false, false, false, false, false, false, false, false, false, false, false] rfl rfl (by kernel_rfl) (fun _ _ _ h => h) (Or.inl ⟨by rfl, ?_⟩) ?_ ?_
          rotate_left
          · intro w'
            go_simp
            with_reducible rfl
          rotate_left
          · simp only [Act.put, List.setIfInBounds_toArray, List.set_cons_zero, List.set_cons_succ, i64_w, i32_w]
            rfl
          refine pure_ (i := 1) (N := some 76) (v := ?_) (a' := ?_) #[true, true, false, false, false, false, false, false, false, false, false, false, false, false, false, false, false, false, false, false, false, false, false, false, false, false, false, false, false] rfl rfl (by kernel_rfl) (fun _ _ _ h => h) (Or.inl ⟨by rfl, ?_⟩) ?_ ?_
          rotate_left
          · intro w'
            go_simp
            with_reducible rfl
          rotate_left
          · simp only [Act.put, List.setIfInBounds_toArray, List.set_cons_zero, List.set_cons_succ, i64_w, i32_w]
            rfl
          refine pure_ (i := 2) (N := some 77) (v := ?_) (a' := ?_) #[true, true, true, false, false, false, false, false, false, false, false, false, false, false, false, false, false, false, false, false, false, false, false, false, false, false, false, false, false] rfl rfl (by kernel_rfl) (fun _ _ _ h => h) (Or.inl ⟨by rfl, ?_⟩) ?_ ?_
          rotate_left
          · intro w'
            go_simp
            with_reducible rfl
          rotate_left
          · simp only [Act.put, List.setIfInBounds_toArray, List.set_cons_zero, List.set_cons_succ, i64_w, i32_w]
            rfl
          refine pure_ (i := 3) (N := some 78) (v := ?_) (a' := ?_) #[true, true, true, true, false, false, false, false, false, false, false, false, false, false, false, false, false, false, false, false, false, false, false, false, false, false, false, false, false] rfl rfl (by kernel_rfl) (fun _ _ _ h => h) (Or.inl ⟨by rfl, ?_⟩) ?_ ?_
          rotate_left
          · intro w'
            go_simp
            with_reducible rfl
          rotate_left
          · simp only [Act.put, List.setIfInBounds_toArray, List.set_cons_zero, List.set_cons_succ, i64_w, i32_w]
            rfl
          refine pure_ (i := 4) (N := some 79) (v := ?_) (a' := ?_) #[true, true, true, true, true, false, false, false, false, false, false, false, false, false, false, false, false, false, false, false, false, false, false, false, false, false, false, false, false] rfl rfl (by kernel_rfl) (fun _ _ _ h => h) (Or.inl ⟨by rfl, ?_⟩) ?_ ?_
          rotate_left
          · intro w'
            go_simp
            with_reducible rfl
          rotate_left
          · simp only [Act.put, List.setIfInBounds_toArray, List.set_cons_zero, List.set_cons_succ, i64_w, i32_w]
            rfl
          refine pure_ (i := 5) (N := some 80) (v := ?_) (a' := ?_) #[true, true, true, true, true, true, false, false, false, false, false, false, false, false, false, false, false, false, false, false, false, false, false, false, false, false, false, false, false] rfl rfl (by kernel_rfl) (fun _ _ _ h => h) (Or.inl ⟨by rfl, ?_⟩) ?_ ?_
          rotate_left
          · intro w'
            go_simp
            with_reducible rfl
          rotate_left
          · simp only [Act.put, List.setIfInBounds_toArray, List.set_cons_zero, List.set_cons_succ, i64_w, i32_w]
            rfl
          refine pure_ (i := 6) (N := some 81) (v := ?_) (a' := ?_) #[true, true, true, true, true, true, true, false, false, false, false, false, false, false, false, false, false, false, false, false, false, false, false, false, false, false, false, false, false] rfl rfl (by kernel_rfl) (fun _ _ _ h => h) (Or.inl ⟨by rfl, ?_⟩) ?_ ?_
          rotate_left
          · intro w'
            go_simp
            with_reducible rfl
          rotate_left
          · simp only [Act.put, List.setIfInBounds_toArray, List.set_cons_zero, List.set_cons_succ, i64_w, i32_w]
            rfl
          refine pure_ (i := 7) (N := some 82) (v := ?_) (a' := ?_) #[true, true, true, true, true, true, true, true, false, false, false, false, false, false, false, false, false, false, false, false, false, false, false, false, false, false, false, false, false] rfl rfl (by kernel_rfl) (fun _ _ _ h => h) (Or.inl ⟨by rfl, ?_⟩) ?_ ?_
          rotate_left
          · intro w'
            go_simp
            with_reducible rfl
          rotate_left
          · simp only [Act.put, List.setIfInBounds_toArray, List.set_cons_zero, List.set_cons_succ, i64_w, i32_w]
            rfl
          refine pure_ (i := 8) (N := some 83) (v := ?_) (a' := ?_) #[true, true, true, true, true, true, true, true, true, false, false, false, false, false, false, false, false, false, false, false, false, false, false, false, false, false, false, false, false] rfl rfl (by kernel_rfl) (fun _ _ _ h => h) (Or.inl ⟨by rfl, ?_⟩) ?_ ?_
          rotate_left
          · intro w'
            go_simp
            with_reducible rfl
          rotate_left
          · simp only [Act.put, List.setIfInBounds_toArray, List.set_cons_zero, List.set_cons_succ, i64_w, i32_w]
            rfl
          refine pure_ (i := 9) (N := some 84) (v := ?_) (a' := ?_) #[true, true, true, true, true, true, true, true, true, true, false, false, false, false, false, false, false, false, false, false, false, false, false, false, false, false, false, false, false] rfl rfl (by kernel_rfl) (fun _ _ _ h => h) (Or.inl ⟨by rfl, ?_⟩) ?_ ?_
          rotate_left
          · intro w'
            go_simp
            with_reducible rfl
          rotate_left
          · simp only [Act.put, List.setIfInBounds_toArray, List.set_cons_zero, List.set_cons_succ, i64_w, i32_w]
            rfl
          refine pure_ (i := 10) (N := some 85) (v := ?_) (a' := ?_) #[true, true, true, true, true, true, true, true, true, true, true, false, false, false, false, false, false, false, false, false, false, false, false, false, false, false, false, false, false] rfl rfl (by kernel_rfl) (fun _ _ _ h => h) (Or.inl ⟨by rfl, ?_⟩) ?_ ?_
          rotate_left
          · intro w'
            go_simp
            with_reducible rfl
          rotate_left
          · simp only [Act.put, List.setIfInBounds_toArray, List.set_cons_zero, List.set_cons_succ, i64_w, i32_w]
            rfl
          refine pure_ (i := 12) (N := some 87) (v := ?_) (a' := ?_) #[true, true, true, true, true, true, true, true, true, true, true, false, true, false, false, false, false, false, false, false, false, false, false, false, false, false, false, false, false] rfl rfl (by kernel_rfl) (fun _ _ _ h => h) (Or.inl ⟨by rfl, ?_⟩) ?_ ?_
          rotate_left
          · intro w'
            go_simp
            with_reducible rfl
          rotate_left
          · simp only [Act.put, List.setIfInBounds_toArray, List.set_cons_zero, List.set_cons_succ, i64_w, i32_w]
            rfl
          refine pure_ (i := 13) (N := some 88) (v := ?_) (a' := ?_) #[true, true, true, true, true, true, true, true, true, true, true, false, true, true, false, false, false, false, false, false, false, false, false, false, false, false, false, false, false] rfl rfl (by kernel_rfl) (fun _ _ _ h => h) (Or.inl ⟨by rfl, ?_⟩) ?_ ?_
          rotate_left
          · intro w'
            go_simp
            with_reducible rfl
          rotate_left
          · simp only [Act.put, List.setIfInBounds_toArray, List.set_cons_zero, List.set_cons_succ, i64_w, i32_w]
            rfl
          refine one_ (i := 11) (N := some 86) #[true, true, true, true, true, true, true, true, true, true, true, true, true, true, false, false, false, false, false, false, false, false, false, false, false, false, false, false, false] rfl rfl (by kernel_rfl) (by decide) (fun K hK => ?_)
          refine goes_ Tryd.func27 (by kernel_rfl) rfl #[TP tb, .int .i64 (n : Int)] (by rfl) rfl rfl (by simp only [List.map_toArray, List.map_cons, List.map_nil]; rfl) ?_
          with_reducible refine (HE1.out _ (HTL.out _ (HV.out.trans (((by repeat (first | exact Below.refl _ _ | apply below_alloc | apply pw_below_drewN | apply below_drew1)) : Below wr.heap.size wr _).mono HV.out.size)))).mono ?_
          rintro e W5 ⟨B2, b2, B3, b3, rfl, hec, hb⟩
          have HB5 : Hid (DitMeth.Calm wr W5) := Lib.hid (by repeat (first | exact hb | apply undrewN | apply undrew1))
          have HEC5 : Hid (EC W5 x B2 b2 B3 b3) := Lib.hid hec
          clear hec hb
          refine ⟨_, rfl, ?_⟩
          refine hK.out _ _ ⟨(HB5.out.cell (p := ⟨gm, om + q * 4, none⟩) hgr).trans k0, (HB5.out.cell (p := ⟨gm, om + q * 4 + 1, none⟩) hgr).trans k1, (HB5.out.cell (p := ⟨gm, om + q * 4 + 2, none⟩) hgr).trans k2, (HB5.out.cell (p := ⟨gm, om + q * 4 + 3, none⟩) hgr).trans k3⟩ (fun hHeld => ?_)
          clear hK K
          refine norm_ (a' := ?_) ?_ ?_
          rotate_left
          · show Act.put _ (some 86) _ = _
            simp only [Act.put, List.setIfInBounds_toArray, List.set_cons_zero, List.set_cons_succ, i64_w, i32_w]
            rfl
          refine one_ (i := 14) (N := some 89) #[true, true, true, true, true, true, true, true, true, true, true, true, true, true, true, false, false, false, false, false, false, false, false, false, false, false, false, false, false] rfl rfl (by kernel_rfl) (by decide) (fun K hK => ?_)
          refine goes_ Tryd.func27 (by kernel_rfl) rfl #[TP ub, .int .i64 (n : Int)] (by rfl) rfl rfl (by simp only [List.map_toArray, List.map_cons, List.map_nil]; rfl) ?_
          with_reducible refine (HE3.out _ (HTM.out _ (HV.out.trans (((HB5.out.trans (((by repeat (first | exact Below.refl _ _ | apply below_alloc | apply pw_below_drewN | apply below_drew1)) : Below W5.heap.size W5 _).mono HB5.out.size)) : Below wr.heap.size wr _).mono HV.out.size)))).mono ?_
          rintro e W6 ⟨C2, g2, C3, g3, rfl, hec, hb⟩
          have HB6 : Hid (DitMeth.Calm W5 W6) := Lib.hid (by repeat (first | exact hb | apply undrewN | apply undrew1))
          have HEC6 : Hid (EC W6 x C2 g2 C3 g3) := Lib.hid hec
          clear hec hb
          refine ⟨_, rfl, ?_⟩
          refine hK.out _ _ ⟨((HB5.out.trans ((HB6.out : Below W5.heap.size W5 _).mono HB5.out.size)).cell (p := ⟨gm, om + q * 4, none⟩) hgr).trans k0, ((HB5.out.trans ((HB6.out : Below W5.heap.size W5 _).mono HB5.out.size)).cell (p := ⟨gm, om + q * 4 + 1, none⟩) hgr).trans k1, ((HB5.out.trans ((HB6.out : Below W5.heap.size W5 _).mono HB5.out.size)).cell (p := ⟨gm, om + q * 4 + 2, none⟩) hgr).trans k2, ((HB5.out.trans ((HB6.out : Below W5.heap.size W5 _).mono HB5.out.size)).cell (p := ⟨gm, om + q * 4 + 3, none⟩) hgr).trans k3⟩ (fun hHeld => ?_)
          clear hK K
          refine norm_ (a' := ?_) ?_ ?_
          rotate_left
          · show Act.put _ (some 89) _ = _
            simp only [Act.put, List.setIfInBounds_toArray, List.set_cons_zero, List.set_cons_succ, i64_w, i32_w]
            rfl
          refine one_ (i := 15) (N := some 90) #[true, true, true, true, true, true, true, true, true, true, true, true, true, true, true, true, false, false, false, false, false, false, false, false, false, false, false, false, false] rfl rfl (by kernel_rfl) (by decide) (fun K hK => ?_)
          refine goes_ Tryd.func26 (by kernel_rfl) rfl #[.agg #[.int .i64 x.f0, .string x.f1, .slice B2 x.f2.length b2, .slice B3 x.f3.length b3], .agg #[.int .i64 x.f0, .string x.f1, .slice C2 x.f2.length g2, .slice C3 x.f3.length g3]] (by rfl) rfl rfl (by simp only [List.map_toArray, List.map_cons, List.map_nil]; rfl) ?_
          with_reducible refine (rosterlaw09_sameEntry.calls ke x.f0 x.f1 B2 b2 x.f2 B3 b3 x.f3 x.f0 x.f1 C2 g2 x.f2 C3 g3 x.f3 true _ (by exact (HEC5.out.calm (HB6.out.trans (((by repeat (first | exact Below.refl _ _ | apply below_alloc | apply pw_below_drewN | apply below_drew1)) : Below W6.heap.size W6 _).mono HB6.out.size))).key) (HEC5.out).kc (by exact (HEC5.out.calm (HB6.out.trans (((by repeat (first | exact Below.refl _ _ | apply below_alloc | apply pw_below_drewN | apply below_drew1)) : Below W6.heap.size W6 _).mono HB6.out.size))).att) (HEC5.out).ac (by exact (HEC6.out.calm (by repeat (first | exact Below.refl _ _ | apply below_alloc | apply pw_below_drewN | apply below_drew1))).key) (HEC6.out).kc (by exact (HEC6.out.calm (by repeat (first | exact Below.refl _ _ | apply below_alloc | apply pw_below_drewN | apply below_drew1))).att) (HEC6.out).ac HKE.out).mono ?_
          rintro e W7 ⟨rfl, hb⟩
          have HB7 : Hid (DitMeth.Calm W6 W7) := Lib.hid (by repeat (first | exact hb | apply undrewN | apply undrew1))
          clear hb
          refine ⟨_, rfl, ?_⟩
          refine hK.out _ _ ⟨((HB5.out.trans (((HB6.out.trans ((HB7.out : Below W6.heap.size W6 _).mono HB6.out.size)) : Below W5.heap.size W5 _).mono HB5.out.size)).cell (p := ⟨gm, om + q * 4, none⟩) hgr).trans k0, ((HB5.out.trans (((HB6.out.trans ((HB7.out : Below W6.heap.size W6 _).mono HB6.out.size)) : Below W5.heap.size W5 _).mono HB5.out.size)).cell (p := ⟨gm, om + q * 4 + 1, none⟩) hgr).trans k1, ((HB5.out.trans (((HB6.out.trans ((HB7.out : Below W6.heap.size W6 _).mono HB6.out.size)) : Below W5.heap.size W5 _).mono HB5.out.size)).cell (p := ⟨gm, om + q * 4 + 2, none⟩) hgr).trans k2, ((HB5.out.trans (((HB6.out.trans ((HB7.out : Below W6.heap.size W6 _).mono HB6.out.size)) : Below W5.heap.size W5 _).mono HB5.out.size)).cell (p := ⟨gm, om + q * 4 + 3, none⟩) hgr).trans k3⟩ (fun hHeld => ?_)
          clear hK K
          refine norm_ (a' := ?_) ?_ ?_
          rotate_left
          · show Act.put _ (some 90) _ = _
            simp only [Act.put, List.setIfInBounds_toArray, List.set_cons_zero, List.set_cons_succ, i64_w, i32_w]
            rfl
          refine pure_ (i := 16) (N := some 91) (v := ?_) (a' := ?_) #[true, true, true, true, true, true, true, true, true, true, true, true, true, true, true, true, true, false, false, false, false, false, false, false, false, false, false, false, false] rfl rfl (by kernel_rfl) (fun _ _ _ h => h) (Or.inl ⟨by rfl, ?_⟩) ?_ ?_
          rotate_left
          · intro w'
            go_simp
            with_reducible rfl
          rotate_left
          · simp only [Act.put, List.setIfInBounds_toArray, List.set_cons_zero, List.set_cons_succ, i64_w, i32_w]
            rfl
          refine pure_ (i := 17) (N := some 92) (v := ?_) (a' := ?_) #[true, true, true, true, true, true, true, true, true, true, true, true, true, true, true, true, true, true, false, false, false, false, false, false, false, false, false, false, false] rfl rfl (by kernel_rfl) (fun _ _ _ h => h) (Or.inl ⟨by rfl, ?_⟩) ?_ ?_
          rotate_left
          · intro w'
            go_simp
            with_reducible rfl
          rotate_left
          · simp only [Act.put, List.setIfInBounds_toArray, List.set_cons_zero, List.set_cons_succ, i64_w, i32_w]
            rfl
          refine pure_ (i := 18) (N := some 93) (v := ?_) (a' := ?_) #[true, true, true, true, true, true, true, true, true, true, true, true, true, true, true, true, true, true, true, false, false, false, false, false, false, false, false, false, false] rfl rfl (by kernel_rfl) (fun _ _ _ h => h) (Or.inl ⟨by rfl, ?_⟩) ?_ ?_
          rotate_left
          · intro w'
            go_simp
            with_reducible rfl
          rotate_left
          · simp only [Act.put, List.setIfInBounds_toArray, List.set_cons_zero, List.set_cons_succ, i64_w, i32_w]
            rfl
          refine pure_ (i := 19) (N := some 94) (v := ?_) (a' := ?_) #[true, true, true, true, true, true, true, true, true, true, true, true, true, true, true, true, true, true, true, true, false, false, false, false, false, false, false, false, false] rfl rfl (by kernel_rfl) (fun _ _ _ h => h) (Or.inl ⟨by rfl, ?_⟩) ?_ ?_
          rotate_left
          · intro w'
            go_simp
            with_reducible rfl
          rotate_left
          · simp only [Act.put, List.setIfInBounds_toArray, List.set_cons_zero, List.set_cons_succ, i64_w, i32_w]
            rfl
          refine pure_ (i := 20) (N := some 95) (v := ?_) (a' := ?_) #[true, true, true, true, true, true, true, true, true, true, true, true, true, true, true, true, true, true, true, true, true, false, false, false, false, false, false, false, false] rfl rfl (by kernel_rfl) (fun _ _ _ h => h) (Or.inl ⟨by rfl, ?_⟩) ?_ ?_
          rotate_left
          · intro w'
            go_simp
            with_reducible rfl
          rotate_left
          · simp only [Act.put, List.setIfInBounds_toArray, List.set_cons_zero, List.set_cons_succ, i64_w, i32_w]
            rfl
          refine pure_ (i := 22) (N := some 97) (v := ?_) (a' := ?_) #[true, true, true, true, true, true, true, true, true, true, true, true, true, true, true, true, true, true, true, true, true, false, true, false, false, false, false, false, false] rfl rfl (by kernel_rfl) (fun _ _ _ h => h) (Or.inl ⟨by rfl, ?_⟩) ?_ ?_
          rotate_left
          · intro w'
            go_simp
            with_reducible rfl
          rotate_left
          · simp only [Act.put, List.setIfInBounds_toArray, List.set_cons_zero, List.set_cons_succ, i64_w, i32_w]
            rfl
          refine pure_ (i := 23) (N := some 98) (v := ?_) (a' := ?_) #[true, true, true, true, true, true, true, true, true, true, true, true, true, true, true, true, true, true, true, true, true, false, true, true, false, false, false, false, false] rfl rfl (by kernel_rfl) (fun _ _ _ h => h) (Or.inl ⟨by rfl, ?_⟩) ?_ ?_
          rotate_left
          · intro w'
            go_simp
            with_reducible rfl
          rotate_left
          · simp only [Act.put, List.setIfInBounds_toArray, List.set_cons_zero, List.set_cons_succ, i64_w, i32_w]
            rfl
          refine pure_ (i := 24) (N := some 99) (v := ?_) (a' := ?_) #[true, true, true, true, true, true, true, true, true, true, true, true, true, true, true, true, true, true, true, true, true, false, true, true, true, false, false, false, false] rfl rfl (by kernel_rfl) (fun _ _ _ h => h) (Or.inl ⟨by rfl, ?_⟩) ?_ ?_
          rotate_left
          · intro w'
            go_simp
            with_reducible rfl
          rotate_left
          · simp only [Act.put, List.setIfInBounds_toArray, List.set_cons_zero, List.set_cons_succ, i64_w, i32_w]
            rfl
          refine take_ (i := 25) (N := some 100) (v := ?_) (a' := ?_) #[true, true, true, true, true, true, true, true, true, true, true, true, true, true, true, true, true, true, true, true, true, false, true, true, true, true, false, false, false] rfl rfl (by kernel_rfl) (fun _ _ _ h => h) (Or.inl ⟨by rfl, ?_⟩) hHeld ?_ ?_
          rotate_left
          · rintro w' ⟨s0, s1, s2, s3⟩
            go_simp
            with_reducible rfl
          rotate_left
          · simp only [Act.put, List.setIfInBounds_toArray, List.set_cons_zero, List.set_cons_succ, i64_w, i32_w]
            rfl
          refine one_ (i := 21) (N := some 96) #[true, true, true, true, true, true, true, true, true, true, true, true, true, true, true, true, true, true, true, true, true, true, true, true, true, true, false, false, false] rfl rfl (by kernel_rfl) (by decide) (fun K hK => ?_)
          refine goes_ Tryd.func27 (by kernel_rfl) rfl #[TP ub, .int .i64 (n : Int)] (by rfl) rfl rfl (by simp only [List.map_toArray, List.map_cons, List.map_nil]; rfl) ?_
          with_reducible refine (HE3.out _ (HTM.out _ (HV.out.trans (((HB5.out.trans (((HB6.out.trans (((HB7.out.trans (((by repeat (first | exact Below.refl _ _ | apply below_alloc | apply pw_below_drewN | apply below_drew1)) : Below W7.heap.size W7 _).mono HB7.out.size)) : Below W6.heap.size W6 _).mono HB6.out.size)) : Below W5.heap.size W5 _).mono HB5.out.size)) : Below wr.heap.size wr _).mono HV.out.size)))).mono ?_
          rintro e W8 ⟨D2, j2, D3, j3, rfl, hec, hb⟩
          have HB8 : Hid (DitMeth.Calm W7 W8) := Lib.hid (by repeat (first | exact hb | apply undrewN | apply undrew1))
          have HEC8 : Hid (EC W8 x D2 j2 D3 j3) := Lib.hid hec
          clear hec hb
          refine ⟨_, rfl, ?_⟩
          refine hK.out _ _ ⟨((HB5.out.trans (((HB6.out.trans (((HB7.out.trans ((HB8.out : Below W7.heap.size W7 _).mono HB7.out.size)) : Below W6.heap.size W6 _).mono HB6.out.size)) : Below W5.heap.size W5 _).mono HB5.out.size)).cell (p := ⟨gm, om + q * 4, none⟩) hgr).trans k0, ((HB5.out.trans (((HB6.out.trans (((HB7.out.trans ((HB8.out : Below W7.heap.size W7 _).mono HB7.out.size)) : Below W6.heap.size W6 _).mono HB6.out.size)) : Below W5.heap.size W5 _).mono HB5.out.size)).cell (p := ⟨gm, om + q * 4 + 1, none⟩) hgr).trans k1, ((HB5.out.trans (((HB6.out.trans (((HB7.out.trans ((HB8.out : Below W7.heap.size W7 _).mono HB7.out.size)) : Below W6.heap.size W6 _).mono HB6.out.size)) : Below W5.heap.size W5 _).mono HB5.out.size)).cell (p := ⟨gm, om + q * 4 + 2, none⟩) hgr).trans k2, ((HB5.out.trans (((HB6.out.trans (((HB7.out.trans ((HB8.out : Below W7.heap.size W7 _).mono HB7.out.size)) : Below W6.heap.size W6 _).mono HB6.out.size)) : Below W5.heap.size W5 _).mono HB5.out.size)).cell (p := ⟨gm, om + q * 4 + 3, none⟩) hgr).trans k3⟩ (fun hHeld => ?_)
          clear hK K
          refine norm_ (a' := ?_) ?_ ?_
          rotate_left
          · show Act.put _ (some 96) _ = _
            simp only [Act.put, List.setIfInBounds_toArray, List.set_cons_zero, List.set_cons_succ, i64_w, i32_w]
            rfl
          refine one_ (i := 26) (N := some 101) #[true, true, true, true, true, true, true, true, true, true, true, true, true, true, true, true, true, true, true, true, true, true, true, true, true, true, true, false, false] rfl rfl (by kernel_rfl) (by decide) (fun K hK => ?_)
          refine goes_ Tryd.func26 (by kernel_rfl) rfl #[.agg #[.int .i64 x.f0, .string x.f1, .slice D2 x.f2.length j2, .slice D3 x.f3.length j3], .agg #[.int .i64 x.f0, .string x.f1, .slice A5 x.f2.length d5, .slice A6 x.f3.length d6]] (by rfl) rfl rfl (by simp only [List.map_toArray, List.map_cons, List.map_nil]; rfl) ?_
          with_reducible refine (rosterlaw09_sameEntry.calls ke x.f0 x.f1 D2 j2 x.f2 D3 j3 x.f3 x.f0 x.f1 A5 d5 x.f2 A6 d6 x.f3 true _ (by exact (HEC8.out.calm (by repeat (first | exact Below.refl _ _ | apply below_alloc | apply pw_below_drewN | apply below_drew1))).key) (HEC8.out).kc (by exact (HEC8.out.calm (by repeat (first | exact Below.refl _ _ | apply below_alloc | apply pw_below_drewN | apply below_drew1))).att) (HEC8.out).ac (by exact (HEC.out.calm (HV.out.trans (((HB5.out.trans (((HB6.out.trans (((HB7.out.trans (((HB8.out.trans (((by repeat (first | exact Below.refl _ _ | apply below_alloc | apply pw_below_drewN | apply below_drew1)) : Below W8.heap.size W8 _).mono HB8.out.size)) : Below W7.heap.size W7 _).mono HB7.out.size)) : Below W6.heap.size W6 _).mono HB6.out.size)) : Below W5.heap.size W5 _).mono HB5.out.size)) : Below wr.heap.size wr _).mono HV.out.size))).key) (HEC.out).kc (by exact (HEC.out.calm (HV.out.trans (((HB5.out.trans (((HB6.out.trans (((HB7.out.trans (((HB8.out.trans (((by repeat (first | exact Below.refl _ _ | apply below_alloc | apply pw_below_drewN | apply below_drew1)) : Below W8.heap.size W8 _).mono HB8.out.size)) : Below W7.heap.size W7 _).mono HB7.out.size)) : Below W6.heap.size W6 _).mono HB6.out.size)) : Below W5.heap.size W5 _).mono HB5.out.size)) : Below wr.heap.size wr _).mono HV.out.size))).att) (HEC.out).ac HKE.out).mono ?_
          rintro e W9 ⟨rfl, hb⟩
          have HB9 : Hid (DitMeth.Calm W8 W9) := Lib.hid (by repeat (first | exact hb | apply undrewN | apply undrew1))
          clear hb
          refine ⟨_, rfl, ?_⟩
          refine hK.out _ _ ⟨((HB5.out.trans (((HB6.out.trans (((HB7.out.trans (((HB8.out.trans ((HB9.out : Below W8.heap.size W8 _).mono HB8.out.size)) : Below W7.heap.size W7 _).mono HB7.out.size)) : Below W6.heap.size W6 _).mono HB6.out.size)) : Below W5.heap.size W5 _).mono HB5.out.size)).cell (p := ⟨gm, om + q * 4, none⟩) hgr).trans k0, ((HB5.out.trans (((HB6.out.trans (((HB7.out.trans (((HB8.out.trans ((HB9.out : Below W8.heap.size W8 _).mono HB8.out.size)) : Below W7.heap.size W7 _).mono HB7.out.size)) : Below W6.heap.size W6 _).mono HB6.out.size)) : Below W5.heap.size W5 _).mono HB5.out.size)).cell (p := ⟨gm, om + q * 4 + 1, none⟩) hgr).trans k1, ((HB5.out.trans (((HB6.out.trans (((HB7.out.trans (((HB8.out.trans ((HB9.out : Below W8.heap.size W8 _).mono HB8.out.size)) : Below W7.heap.size W7 _).mono HB7.out.size)) : Below W6.heap.size W6 _).mono HB6.out.size)) : Below W5.heap.size W5 _).mono HB5.out.size)).cell (p := ⟨gm, om + q * 4 + 2, none⟩) hgr).trans k2, ((HB5.out.trans (((HB6.out.trans (((HB7.out.trans (((HB8.out.trans ((HB9.out : Below W8.heap.size W8 _).mono HB8.out.size)) : Below W7.heap.size W7 _).mono HB7.out.size)) : Below W6.heap.size W6 _).mono HB6.out.size)) : Below W5.heap.size W5 _).mono HB5.out.size)).cell (p := ⟨gm, om + q * 4 + 3, none⟩) hgr).trans k3⟩ (fun hHeld => ?_)
          clear hK K
          refine norm_ (a' := ?_) ?_ ?_
          rotate_left
          · show Act.put _ (some 101) _ = _
            simp only [Act.put, List.setIfInBounds_toArray, List.set_cons_zero, List.set_cons_succ, i64_w, i32_w]
            rfl
          refine pure_ (i := 27) (N := some 102) (v := ?_) (a' := ?_) #[true, true, true, true, true, true, true, true, true, true, true, true, true, true, true, true, true, true, true, true, true, true, true, true, true, true, true, true, false] rfl rfl (by kernel_rfl) (fun _ _ _ h => h) (Or.inl ⟨by rfl, ?_⟩) ?_ ?_
          rotate_left
          · intro w'
            go_simp
            with_reducible rfl
          rotate_left
          · simp only [Act.put, List.setIfInBounds_toArray, List.set_cons_zero, List.set_cons_succ, i64_w, i32_w]
            rfl
          refine pure_ (i := 28) (N := some 103) (v := ?_) (a' := ?_) #[true, true, true, true, true, true, true, true, true, true, true, true, true, true, true, true, true, true, true, true, true, true, true, true, true, true, true, true, true] rfl rfl (by kernel_rfl) (fun _ _ _ h => h) (Or.inl ⟨by rfl, ?_⟩) ?_ ?_
          rotate_left
          · intro w'
            go_simp
            with_reducible rfl
          rotate_left
          · simp only [Act.put, List.setIfInBounds_toArray, List.set_cons_zero, List.set_cons_succ, i64_w, i32_w]
            rfl
          refine done_ (by kernel_rfl) ?_
          have HN : Hid (DitMeth.Calm W4 W9) := Lib.hid (HV.out.trans ((HB5.out.trans ((HB6.out.trans ((HB7.out.trans ((HB8.out.trans (HB9.out.mono HB8.out.size)).mono HB7.out.size)).mono HB6.out.size)).mono HB5.out.size)).mono HV.out.size))
          go_wp2
          go_roundw
          case rel => exact ⟨n + 1, by omega, by go_num, HN⟩
          case measure => simp [intOf]; omega
        · have hlt : ¬ (n : Int) < (l.length : Int) := by omega
          go_wp2
          go_ret
          exact ⟨rfl, HBW4.out.trans (HV.out.mono HBW4.out.size)⟩
end Go.Proofs.YtnogmaljcocfjaaDoor.XK

/- DitFinds: the law walked (printed). For every input and world. -/
import Derived.Test.YtnogmaljcocfjaaDoorDitFindP
import Derived.OpenShut
set_option linter.unusedVariables false
set_option linter.unusedSimpArgs false
namespace Go.Proofs.YtnogmaljcocfjaaDoor.XK
open Go Go.Maps Go.RowKit Go.Proofs.YtnogmaljcocfjaaDoor.Blk Go.Proofs.YtnogmaljcocfjaaDoor.DitTab Go.Proofs.YtnogmaljcocfjaaDoor.DitRow Go.Proofs.YtnogmaljcocfjaaDoor.DitTerm Go.Proofs.YtnogmaljcocfjaaDoor.DitMap Go.Proofs.YtnogmaljcocfjaaDoor.DitCheck Go.Proofs.YtnogmaljcocfjaaDoor.DitCopy Go.Proofs.YtnogmaljcocfjaaDoor.DitPure Go.Proofs.YtnogmaljcocfjaaDoor.DitSort Go.Proofs.YtnogmaljcocfjaaDoor.DitBuild Go.Proofs.YtnogmaljcocfjaaDoor.DitMeth Go.Proofs.YtnogmaljcocfjaaDoor.DitGr Go.Proofs.YtnogmaljcocfjaaDoor.DitLaw Go.Proofs.YtnogmaljcocfjaaDoor.Keys Go.Proofs.YtnogmaljcocfjaaDoorW.PrintWords Go.Proofs.YtnogmaljcocfjaaDoorW.PrintLast Go.Proofs.YtnogmaljcocfjaaDoorW.PrintMore
/-- Bounds on what comes in, with a further key. -/
structure InF (l0 : List ByteArray) (l1 : List S86) (lm : List ByteArray) : Prop where
  inn : InOK l0 l1
  len : l0.length + l1.length + lm.length ≤ 1048574
  bulk : bulkK l0 + (l1.map fun k => k.f1.size + 22).sum + bulkK lm ≤ 29360128
  part : ∀ q ∈ lm, q.size ≤ 1048576
theorem key_ok {l0 : List ByteArray} {l1 : List S86} {lm : List ByteArray} (h : InF l0 l1 lm) {l : List S45} (g : GN l0 l1 l1.length l) {e : S45} (he : e ∈ l) (i : Nat) : KeyOK (e.f2 ++ lm.take i) := by
  obtain ⟨a, b, c, _⟩ := g.key e he
  have := h.len
  have := h.bulk
  have := take_sum h.inn l1.length
  have hb := bulkK_take lm i
  have hl : (lm.take i).length ≤ lm.length := by rw [List.length_take]; omega
  refine ⟨by rw [List.length_append]; omega, by rw [bulkK_app]; omega, fun q hq => ?_⟩
  rcases List.mem_append.1 hq with hq | hq
  · exact c q hq
  · exact h.part q (List.mem_of_mem_take hq)
/-- The key so far, in memory. -/
def KV (W : World) (v : Value) (k : List ByteArray) : Prop := ∃ A c, v = .slice A k.length c ∧ k.length ≤ c ∧ Kd.C Kd.string W A k.length k
open Classical in
noncomputable def rosterlaw09_DitFinds.f (l0 : List ByteArray) (l1 : List S86) (lm : List ByteArray) : Option Bool := if InF l0 l1 lm then some true else none
set_option maxHeartbeats 8000000 in
set_option maxRecDepth 100000 in
theorem rosterlaw09_DitFinds.calls (A0 : Option Addr) (c0 : Nat) (l0 : List ByteArray) (A1 : Option Addr) (c1 : Nat) (l1 : List S86) (Am : Option Addr) (cm : Nat) (lm : List ByteArray) (r : Bool) (w : World) (hG : Tabs w) (hr0 : Kd.C Kd.string w A0 l0.length l0) (hc0 : l0.length ≤ c0) (hr1 : Kd.C k86 w A1 l1.length l1) (hc1 : l1.length ≤ c1) (hrm : Kd.C Kd.string w Am lm.length lm) (hcm : lm.length ≤ cm) (h : rosterlaw09_DitFinds.f l0 l1 lm = some r) :
    Calls Tryd.prog 8 #[.slice A0 l0.length c0, .slice A1 l1.length c1, .slice Am lm.length cm] w fun e w' => e = .returned (.bool r) ∧ Below w.heap.size w w' := by
  unfold rosterlaw09_DitFinds.f at h
  split at h
  case isFalse => cases h
  case isTrue hIN =>
  obtain rfl := Option.some.inj h
  have hI := hIN.inn
  obtain ⟨l, hl⟩ : ∃ l, l = grownL l0 l1 := ⟨_, rfl⟩
  have hgn : GN l0 l1 l1.length l := by rw [hl]; exact grown_gn hI l1.length (Nat.le_refl _)
  have GA := grown_as w A0 A1 c0 c1 l0 l1 hr0 hr1 hI
  rw [← hl] at GA
  have HGA := Lib.hid GA
  have HGN := Lib.hid hgn
  have HF := Lib.hid (hgn.fit hI (Nat.le_refl _))
  have HG := Lib.hid hG
  have HIN := Lib.hid hI
  have hll := (hgn.fit hI (Nat.le_refl _)).len
  have hlp : 0 < l.length := by have := hgn.good.pos; simpa using this
  clear h GA hgn hG hI hl hr0 hr1 
  obtain ⟨gm, hrowm⟩ := rowS_of_C hrm hcm
  have HRM := Lib.hid hrowm
  have hlm : lm.length ≤ 1048576 := by have := hIN.len; omega
  have HINF := Lib.hid hIN
  clear hrm hIN hrowm
  go_enter Tryd.func8, Tryd.ntmps8
  go_wp2_with (first
    | (go_at_call 20; ((with_reducible refine HGA.out.mono ?_); rintro e W1 ⟨v1, rfl, ho, hb⟩; obtain ⟨A2, c2, hv1, hl2, hC2⟩ := Kd.R_reads ho; subst hv1; have HB1 : Hid (Below w.heap.size w W1) := Lib.hid hb; have HC2 := Lib.hid hC2; clear ho hb hC2))
    | (go_at_call 21; ((with_reducible refine (built_law W1 A2 c2 l HC2.out hl2 HF.out (Tabs_at HG.out HB1.out) HGN.out.good).mono ?_); rintro e W2 ⟨tb, p, PI, rfl, hP, hT, hb⟩; have HP := Lib.hid hP; have HL : Hid (LT l p PI tb A2 W2) := Lib.hid ⟨Kd.C_below HC2.out hb, hT, Tabs_at HG.out (HB1.out.trans (hb.mono HB1.out.size))⟩; have HB2 : Hid (Below w.heap.size w W2) := Lib.hid (HB1.out.trans (hb.mono HB1.out.size)); clear hP hT hb))
    | go_in)
  obtain ⟨b, o, hA2, hbl, hEn⟩ := ents_at HL.out.list hlp
  subst hA2
  have HE := Lib.hid hEn
  clear hEn
  go_loopw [9, 10, 11, 12, 13, 14] (fun v9 v10 v11 v12 v13 v14 wr => ∃ n : Nat, n ≤ l.length ∧ v9 = .int .i64 (n : Nat) ∧ Hid (DitMeth.Calm W2 wr)) (fun v _ _ _ _ _ _ => l.length - (intOf v).toNat)
  case atStart => exact ⟨0, Nat.zero_le _, rfl, Lib.hid (Below.refl _ _)⟩
  case round =>
    obtain ⟨n, hn, rfl, HW⟩ := hrel
    by_cases hin : n < l.length
    · have hlt : (n : Int) < (l.length : Int) := by omega
      have hwi : IntKind.i64.wrap ((n : Int) + 1) = ((n + 1 : Nat) : Int) := by rw [IntWalk.i64_in _ (by omega)]; rfl
      have HEN := Lib.hid (fun (w : World) (hT : TreeAt l p l.length PI tb w) => entryC HP.out hT hin)
      have hkn := HP.out.kl1 (p.getD n 0)
      have hfn := HP.out.find hin
      have hnn := HP.out.near_self hin
      have HKO := Lib.hid (fun i => key_ok HINF.out HGN.out (ent_mem (HP.out.mem hin)) i)
      have HNR := Lib.hid (fun (k : List ByteArray) (hk : keyN l p n <+: k) => HP.out.near hin hk)
      unfold keyN at hfn hnn HNR
      generalize ent l (p.getD n 0) = en at HEN hkn hfn hnn HKO HNR
      have hk0 : KeyOK en.f2 := by have := HKO.out 0; rwa [List.take_zero, List.append_nil] at this
      have hfd := field45
      have HFN : Hid (∀ (w : World) (hT : TreeAt l p l.length PI tb w) (ht : Tabs w) (g c : Nat) (A : Option Addr) (hk : RowS w g A c en.f2), Calls Tryd.prog 32 #[TP tb, .slice A en.f2.length c] w fun e w' => e = .returned (.int .i64 (n : Int)) ∧ Below w.heap.size w w') := Lib.hid (fun w hT ht g c A hk => by have := find_as hT ht g c A en.f2 hk hk0; rw [hfn] at this; exact this)
      have HNN : Hid (∀ (w : World) (hT : TreeAt l p l.length PI tb w) (ht : Tabs w) (g c : Nat) (A : Option Addr) (hk : RowS w g A c en.f2), Calls Tryd.prog 33 #[TP tb, .slice A en.f2.length c] w fun e w' => e = .returned (.int .i64 (n : Int)) ∧ Below w.heap.size w w') := Lib.hid (fun w hT ht g c A hk => by have := nearest_as hT ht g c A en.f2 hk hk0; rw [hnn] at this; exact this)
      clear hfn hnn hk0
      have HB := Lib.hid (Below.refl wr.heap.size wr)
      go_upto_region 11 with (first
        | ((with_reducible refine gate_dst (N := 28) rfl ?_); (refine Kd.R_lit Kd.string (w0 := wr) wr.heap.size 9 ?hg (N := 28) ?hd (xs := ([] : List ByteArray)) (inner := []) (ok := fun _ => True) (okp := fun _ => True) ?hr ?hp (fun _ hk => hk) trivial (Below.refl _ _) (Nat.le_refl _) (by simp) ?_; (case hd => rfl); (case hg => rfl); (case hr => first | (go_simp; done) | (go_simp; rfl)); (case hp => exact (Reps.none _ _)); intro v3 w3 ho3 hb3 _ _; have HO3 : Hid (Kd.R Kd.string 9 w3 wr.heap.size (fun _ => True) v3 []) := Lib.hid ho3; have HB3 : Hid (DitMeth.Calm wr w3) := Lib.hid hb3; clear ho3 hb3))
        | (go_at_call 27; ((with_reducible refine (HEN.out w3 (HL.out.tree.below (HW.out.trans (HB3.out.mono HW.out.size)))).mono ?_); rintro e4 W4 ⟨C2, g2, C3, g3, rfl, hec, hb⟩; have HB4 : Hid (DitMeth.Calm w3 W4) := Lib.hid hb; have HEC4 := Lib.hid hec; clear hec hb))
        | ((with_reducible refine gate_builtin (b := .append) (xs := #[.tmp 28, .tmp 32]) rfl ?_); at_builtin; (refine Kd.R_append_rows Kd.string (w0 := wr) wr.heap.size rfl (.tmp 28) (.tmp 32) 39 9 (.string ⟨#[]⟩) 16 rfl Tryd.underlying39 XK.info9 rfl (by decide) (by omega) v3 [] en.f2 _ _ _ (fun _ => True) (fun _ => False) rfl rfl ?aR HEC4.out.key (fun _ _ h => h) (fun _ h => h.elim) (fun _ _ => trivial) ?aB ?aS (by simp only [List.length_nil]; omega) ?_; (case aR => exact Kd.R_below HO3.out HB4.out); (case aB => exact HB3.out.trans (HB4.out.mono HB3.out.size)); (case aS => exact Nat.le_trans HB3.out.size HB4.out.size); intro v5 w5 ho5 hb5 _ _; rw [List.nil_append] at ho5; obtain ⟨A5, c5, hv5, hl5, hC5⟩ := Kd.R_reads ho5; subst hv5; obtain ⟨g5, hrow5⟩ := rowS_of_C hC5 hl5; have HR5 : Hid (RowS w5 g5 A5 c5 en.f2) := Lib.hid hrow5; have HB5 : Hid (DitMeth.Calm wr w5) := Lib.hid hb5; have HB25 : Hid (DitMeth.Calm W2 w5) := Lib.hid (HW.out.trans (hb5.mono HW.out.size)); clear ho5 hb5 hC5 hrow5))
        | (go_at_call 32; ((with_reducible refine (HFN.out w5 (HL.out.tree.below HB25.out) (Tabs_at HL.out.tabs HB25.out) g5 c5 A5 HR5.out).mono ?_); rintro e6 W6 ⟨rfl, hb⟩; have HB6 : Hid (DitMeth.Calm w5 W6) := Lib.hid hb; have HB26 : Hid (DitMeth.Calm W2 W6) := Lib.hid (HB25.out.trans (hb.mono HB25.out.size)); clear hb))
        | (go_at_call 33; ((with_reducible refine (HNN.out W6 (HL.out.tree.below HB26.out) (Tabs_at HL.out.tabs HB26.out) g5 c5 A5 (HR5.out.below HB6.out)).mono ?_); rintro e7 W7 ⟨rfl, hb⟩; have HB7 : Hid (DitMeth.Calm W2 W7) := Lib.hid (HB26.out.trans (hb.mono HB26.out.size)); have HR7 := Lib.hid (HR5.out.below (HB6.out.trans (hb.mono HB6.out.size))); clear hb))
        | go_in)
      go_wp2
      have HKV : Hid (KV W7 (.slice A5 en.f2.length c5) (en.f2 ++ lm.take 0)) := Lib.hid (by rw [List.take_zero, List.append_nil]; exact ⟨A5, c5, rfl, HR7.out.cap, CS_of_row HR7.out (by omega)⟩)
      clear HFN HNN HB3 HB4 HO3 HEC4 HR5 HB5 HB25 HB6 HB26 HR7 HB HW
      go_loopw [10, 11] (fun v10 v11 wr => ∃ i : Nat, i ≤ lm.length ∧ v11 = .int .i64 (i : Nat) ∧ Hid (DitMeth.Calm W7 wr ∧ KV wr v10 (en.f2 ++ lm.take i))) (fun _ v _ => lm.length - (intOf v).toNat)
      case atStart => exact ⟨0, Nat.zero_le _, rfl, Lib.hid ⟨Below.refl _ _, HKV.out⟩⟩
      case round =>
        clear HKV
        obtain ⟨i, hi, rfl, HV⟩ := hrel
        have HB2r : Hid (DitMeth.Calm W2 wr) := Lib.hid (HB7.out.trans (HV.out.1.mono HB7.out.size))
        obtain ⟨A6, c6, hv6, hl6, hC6⟩ := HV.out.2
        subst hv6
        have HC6 := Lib.hid hC6
        clear hC6
        by_cases him : i < lm.length
        · have hlti : (i : Int) < (lm.length : Int) := by omega
          have hwii : IntKind.i64.wrap ((i : Int) + 1) = ((i + 1 : Nat) : Int) := by rw [IntWalk.i64_in _ (by omega)]; rfl
          obtain ⟨om, hAm, hcm2⟩ := HRM.out.at_ (by omega)
          subst hAm
          have cx0 := hcm2 i him
          have cx := ((HB2.out.trans (HB2r.out.mono HB2.out.size)).cell (p := ⟨gm, om + i, none⟩) (World.block_lt_of_cell? w _ cx0)).trans cx0
          have htk : en.f2 ++ lm.take (i + 1) = (en.f2 ++ lm.take i) ++ [lm.getD i E] := by
            rw [List.take_add_one, List.getElem?_eq_getElem him, List.getD_eq_getElem?_getD, List.getElem?_eq_getElem him, ← List.append_assoc]
            rfl
          have HTK := Lib.hid htk
          have hkl := (HKO.out i).len
          generalize lm.getD i E = q at cx HTK
          generalize en.f2 ++ lm.take i = k at HC6 HTK hl6 hkl
          have hlf := DitEv.longer_f k q (by omega)
          have HLF := Lib.hid hlf
          clear htk hcm2 cx0 hlf
          go_wp2_with (first
            | (go_at_call 23; ((with_reducible refine (rosterlaw09_longer.calls A6 c6 k q (k ++ [q]) wr HC6.out hl6 HLF.out).mono ?_); rintro e8 W8 ⟨v8, rfl, ho, hb⟩; obtain ⟨A8, c8, hv8, hl8, hC8⟩ := Kd.R_reads ho; subst hv8; have HN : Hid (DitMeth.Calm W7 W8 ∧ KV W8 (.slice A8 (k.length + 1) c8) (en.f2 ++ lm.take (i + 1))) := Lib.hid ⟨HV.out.1.trans (hb.mono HV.out.1.size), by rw [HTK.out]; exact ⟨A8, c8, by rw [List.length_append, List.length_singleton], hl8, hC8⟩⟩; clear ho hb hC8))
            | go_in)
          go_roundw
          case rel => exact ⟨i + 1, by omega, by go_num, HN⟩
          case measure => simp [intOf]; omega
        · have hlti : ¬ (i : Int) < (lm.length : Int) := by omega
          have htk : lm.take i = lm := List.take_of_length_le (by omega)
          have hkey := HKO.out lm.length
          rw [List.take_length] at hkey
          rw [htk] at HC6 hl6 ⊢
          have hfr : en.f2 <+: en.f2 ++ lm := List.prefix_append _ _
          obtain ⟨mn, hmn, hnr, hmf, hml⟩ := HNR.out _ hfr
          have hbo := HP.out.both (en.f2 ++ lm)
          clear htk hfr HNR HV
          generalize en.f2 ++ lm = k at HC6 hl6 hkey hnr hmf hml hbo ⊢
          obtain ⟨g6, hrow6⟩ := rowS_of_C HC6.out hl6
          have HR6 := Lib.hid hrow6
          have hkl := hkey.len
          obtain ⟨ka, hka⟩ := Ev.rounds (DitEv.among_ev l k (by omega) (by omega) (fun e he => by have := (HF.out.key e he).1; omega))
          generalize DitEv.amongR l k = am at hbo hka
          have HKA := Lib.hid hka
          have HKEY := Lib.hid hkey
          have HFD : Hid (∀ (w : World) (hT : TreeAt l p l.length PI tb w) (ht : Tabs w) (hk : RowS w g6 A6 c6 k), Calls Tryd.prog 32 #[TP tb, .slice A6 k.length c6] w fun e w' => e = .returned (.int .i64 (findR (keysOf l p) k)) ∧ Below w.heap.size w w') := Lib.hid (fun w hT ht hk => find_as hT ht g6 c6 A6 k hk HKEY.out)
          have HND : Hid (∀ (w : World) (hT : TreeAt l p l.length PI tb w) (ht : Tabs w) (hk : RowS w g6 A6 c6 k), Calls Tryd.prog 33 #[TP tb, .slice A6 k.length c6] w fun e w' => e = .returned (.int .i64 (mn : Int)) ∧ Below w.heap.size w w') := Lib.hid (fun w hT ht hk => by have := nearest_as hT ht g6 c6 A6 k hk HKEY.out; rw [hnr] at this; exact this)
          generalize findR (keysOf l p) k = fm at HFD hbo
          have HEM := Lib.hid (fun (w : World) (hT : TreeAt l p l.length PI tb w) => entryC HP.out hT hmn)
          have hkm := HP.out.kl1 (p.getD mn 0)
          generalize ent l (p.getD mn 0) = em at HEM hkm hmf hml
          obtain ⟨kf, hkf⟩ := Ev.rounds (DitEv.front_ev em.f2 k (by omega))
          rw [decide_eq_true hmf] at hkf
          have HKF := Lib.hid hkf
          have HML := Lib.hid hml
          have hPL := fun (w : World) (hT : TreeAt l p l.length PI tb w) => place_as hT fm
          have HPL := Lib.hid hPL
          clear hrow6 hka hkey hnr hmf hml hkf hPL
          have HGO : Hid (∀ W : World, W = wr → True) := Lib.hid (fun _ _ => trivial)
          rcases hbo with ⟨ham, hfm⟩ | ⟨m, hm, hfm, ham⟩
          · subst ham hfm
            go_upto_region 22 with (first
              | (go_at_call 24; ((with_reducible refine (rosterlaw09_among.calls ka (some ⟨b, o, none⟩) c2 l A6 c6 k (-1) wr (Kd.C_below HL.out.list HB2r.out) hl2 HC6.out hl6 HKA.out).mono ?_); rintro e8 W8 ⟨rfl, hd⟩; have HB8 : Hid (DitMeth.Calm wr W8) := Lib.hid hd.below; have HB28 : Hid (DitMeth.Calm W2 W8) := Lib.hid (HB2r.out.trans (hd.below.mono HB2r.out.size)); clear hd))
              | (go_at_call 32; ((with_reducible refine (HFD.out W8 (HL.out.tree.below HB28.out) (Tabs_at HL.out.tabs HB28.out) (HR6.out.below HB8.out)).mono ?_); rintro e9 W9 ⟨rfl, hb⟩; have HB9 : Hid (DitMeth.Calm wr W9) := Lib.hid (HB8.out.trans (hb.mono HB8.out.size)); have HB29 : Hid (DitMeth.Calm W2 W9) := Lib.hid (HB28.out.trans (hb.mono HB28.out.size)); clear hb))
              | (go_at_call 33; ((with_reducible refine (HND.out W9 (HL.out.tree.below HB29.out) (Tabs_at HL.out.tabs HB29.out) (HR6.out.below HB9.out)).mono ?_); rintro e10 W10 ⟨rfl, hb⟩; have HB10 : Hid (DitMeth.Calm wr W10) := Lib.hid (HB9.out.trans (hb.mono HB9.out.size)); have HB210 : Hid (DitMeth.Calm W2 W10) := Lib.hid (HB29.out.trans (hb.mono HB29.out.size)); clear hb))
              | (go_at_call 27; ((with_reducible refine (HEM.out W10 (HL.out.tree.below HB210.out)).mono ?_); rintro e11 W11 ⟨C2, g2, C3, g3, rfl, hec, hb⟩; have HB11 : Hid (DitMeth.Calm W10 W11) := Lib.hid hb; have HEC11 := Lib.hid hec; clear hec hb))
              | (go_at_call 31; ((with_reducible refine (rosterlaw09_front.calls kf C2 g2 em.f2 A6 c6 k true W11 HEC11.out.key HEC11.out.kc (Kd.C_below HC6.out (HB10.out.trans (HB11.out.mono HB10.out.size))) hl6 HKF.out).mono ?_); rintro e12 W12 ⟨rfl, hd⟩; have HB12 : Hid (DitMeth.Calm wr W12) := Lib.hid (HB10.out.trans ((HB11.out.trans (hd.below.mono HB11.out.size)).mono HB10.out.size)); clear hd))
              | go_in)
            have HB212 : Hid (DitMeth.Calm W2 W12) := Lib.hid (HB2r.out.trans (HB12.out.mono HB2r.out.size))
            have HC12 : Hid (Kd.C Kd.string W12 A6 k.length k) := Lib.hid (Kd.C_below HC6.out HB12.out)
            have hmn0 : ¬ ((mn : Int) < 0) := by omega
            clear HB8 HB28 HB9 HB29 HB10 HB210 HB11 HEC11 HB12 HB2r HC6 HR6 HFD HND HKA HPL
            go_wp2
            go_loopw [14] (fun v14 wr => ∃ j : Nat, j ≤ l.length ∧ v14 = .int .i64 (j : Nat) ∧ Hid (DitMeth.Calm W12 wr)) (fun v _ => l.length - (intOf v).toNat)
            case atStart => exact ⟨0, Nat.zero_le _, rfl, Lib.hid (Below.refl _ _)⟩
            case round =>
              obtain ⟨j, hj, rfl, HW⟩ := hrel
              have HB2r : Hid (DitMeth.Calm W2 wr) := Lib.hid (HB212.out.trans (HW.out.mono HB212.out.size))
              by_cases hjl : j < l.length
              · have hltj : (j : Int) < (l.length : Int) := by omega
                have hwj : IntKind.i64.wrap ((j : Int) + 1) = ((j + 1 : Nat) : Int) := by rw [IntWalk.i64_in _ (by omega)]; rfl
                have hmem := ent_mem hjl
                have hmk : (ent l j).f2 ∈ l.map S45.f2 := List.mem_map_of_mem hmem
                have hkj := (HF.out.key _ hmem).1
                have hE2 := HE.out j hjl
                obtain ⟨A7, d7, _, _, e2, _, hec⟩ := EC.ent hE2
                have HEC := Lib.hid (hec (by show (ent l j).f2.length ≤ _; omega))
                have hlj := HML.out _ hmk
                change W2.cell? ⟨b, o + j * 4 + 2, none⟩ = some (.slice A7 (ent l j).f2.length d7) at e2
                change Hid (EC W2 (ent l j) A7 d7 _ _) at HEC
                generalize ent l j = x at e2 HEC hlj hkj
                have kx := (HB2r.out.cell (p := ⟨b, o + j * 4 + 2, none⟩) hbl).trans e2
                have hbr : b < wr.heap.size := Nat.lt_of_lt_of_le hbl HB2r.out.size
                obtain ⟨kg, hkg⟩ := Ev.rounds (DitEv.front_ev x.f2 k (by omega))
                clear hmem hmk hE2 hec e2
                by_cases hpre : x.f2 <+: k
                · have hle := hlj hpre
                  rw [decide_eq_true hpre] at hkg
                  have HKG := Lib.hid hkg
                  have hgt : ¬ (em.f2.length : Int) < (x.f2.length : Int) := by omega
                  have hgd : decide ((em.f2.length : Int) < (x.f2.length : Int)) = false := decide_eq_false hgt
                  have hgn : decide (em.f2.length < x.f2.length) = false := decide_eq_false (by omega)
                  clear hkg hlj hpre
                  go_wp2
                  refine start_ (n := 21) (S := fun w' => w'.cell? ⟨b, o + j * 4 + 2, none⟩ = some (.slice A7 x.f2.length d7)) (ds := []) #[false, false, false, false, false, false, false, false, false, false, false, false, false, false, false, false, false, false, false, false, false] (by kernel_rfl) rfl rfl (kx) (fun hHeld => ?_)
                  refine pure_ (i := 0) (N := some 100) (v := ?_) (a' := ?_) #[true, false, false, false, false, false, false, false, false, false, false, false, false, false, false, false, false, false, false, false, false] rfl rfl (by kernel_rfl) (fun _ _ _ h => h) (Or.inl ⟨by rfl, ?_⟩) ?_ ?_
                  rotate_left
                  · intro w'
                    go_simp
                    with_reducible rfl
                  rotate_left
                  · simp only [Act.put, List.setIfInBounds_toArray, List.set_cons_zero, List.set_cons_succ, i64_w, i32_w]
                    rfl
                  refine pure_ (i := 1) (N := some 101) (v := ?_) (a' := ?_) #[true, true, false, false, false, false, false, false, false, false, false, false, false, false, false, false, false, false, false, false, false] rfl rfl (by kernel_rfl) (fun _ _ _ h => h) (Or.inl ⟨by rfl, ?_⟩) ?_ ?_
                  rotate_left
                  · intro w'
                    go_simp
                    with_reducible rfl
                  rotate_left
                  · simp only [Act.put, List.setIfInBounds_toArray, List.set_cons_zero, List.set_cons_succ, i64_w, i32_w]
                    rfl
                  refine pure_ (i := 2) (N := some 102) (v := ?_) (a' := ?_) #[true, true, true, false, false, false, false, false, false, false, false, false, false, false, false, false, false, false, false, false, false] rfl rfl (by kernel_rfl) (fun _ _ _ h => h) (Or.inl ⟨by rfl, ?_⟩) ?_ ?_
                  rotate_left
                  · intro w'
                    go_simp
                    with_reducible rfl
                  rotate_left
                  · simp only [Act.put, List.setIfInBounds_toArray, List.set_cons_zero, List.set_cons_succ, i64_w, i32_w]
                    rfl
                  refine pure_ (i := 3) (N := some 103) (v := ?_) (a' := ?_) #[true, true, true, true, false, false, false, false, false, false, false, false, false, false, false, false, false, false, false, false, false] rfl rfl (by kernel_rfl) (fun _ _ _ h => h) (Or.inl ⟨by rfl, ?_⟩) ?_ ?_
                  rotate_left
                  · intro w'
                    go_simp
                    with_reducible rfl
                  rotate_left
                  · simp only [Act.put, List.setIfInBounds_toArray, List.set_cons_zero, List.set_cons_succ, i64_w, i32_w]
                    rfl
                  refine pure_ (i := 5) (N := some 105) (v := ?_) (a' := ?_) #[true, true, true, true, false, true, false, false, false, false, false, false, false, false, false, false, false, false, false, false, false] rfl rfl (by kernel_rfl) (fun _ _ _ h => h) (Or.inl ⟨by rfl, ?_⟩) ?_ ?_
                  rotate_left
                  · intro w'
                    go_simp
                    with_reducible rfl
                  rotate_left
                  · simp only [Act.put, List.setIfInBounds_toArray, List.set_cons_zero, List.set_cons_succ, i64_w, i32_w]
                    rfl
                  refine take_ (i := 4) (N := some 104) (v := ?_) (a' := ?_) #[true, true, true, true, true, true, false, false, false, false, false, false, false, false, false, false, false, false, false, false, false] rfl rfl (by kernel_rfl) (fun _ _ _ h => h) (Or.inl ⟨by rfl, ?_⟩) hHeld ?_ ?_
                  rotate_left
                  · intro w' s0
                    go_simp
                    with_reducible rfl
                  rotate_left
                  · simp only [Act.put, List.setIfInBounds_toArray, List.set_cons_zero, List.set_cons_succ, i64_w, i32_w]
                    rfl
                  refine one_ (i := 6) (N := some 106) #[true, true, true, true, true, true, true, false, false, false, false, false, false, false, false, false, false, false, false, false, false] rfl rfl (by kernel_rfl) (by decide) (fun K hK => ?_)
                  refine goes_ Tryd.func31 (by kernel_rfl) rfl #[.slice A7 x.f2.length d7, .slice A6 k.length c6] (by rfl) rfl rfl (by simp only [List.map_toArray, List.map_cons, List.map_nil]; rfl) ?_
                  with_reducible refine (rosterlaw09_front.calls kg A7 d7 x.f2 A6 c6 k true _ (by exact (HEC.out.calm (HB2r.out.trans (((by repeat (first | exact Below.refl _ _ | apply below_alloc | apply pw_below_drewN | apply below_drew1)) : Below wr.heap.size wr _).mono HB2r.out.size))).key) HEC.out.kc (by exact Kd.C_below HC12.out (HW.out.trans (((by repeat (first | exact Below.refl _ _ | apply below_alloc | apply pw_below_drewN | apply below_drew1)) : Below wr.heap.size wr _).mono HW.out.size))) hl6 HKG.out).mono ?_
                  rintro e13 W13 ⟨rfl, hd⟩
                  have HB13 : Hid (DitMeth.Calm wr W13) := Lib.hid (by have hb := hd.below; repeat (first | exact hb | apply undrewN | apply undrew1))
                  clear hd
                  refine ⟨_, rfl, ?_⟩
                  refine hK.out _ _ ((HB13.out.cell (p := ⟨b, o + j * 4 + 2, none⟩) hbr).trans kx) (fun hHeld => ?_)
                  clear hK K
                  refine norm_ (a' := ?_) ?_ ?_
                  rotate_left
                  · show Act.put _ (some 106) _ = _
                    simp only [Act.put, List.setIfInBounds_toArray, List.set_cons_zero, List.set_cons_succ, i64_w, i32_w]
                    rfl
                  refine pure_ (i := 7) (N := some 107) (v := ?_) (a' := ?_) #[true, true, true, true, true, true, true, true, false, false, false, false, false, false, false, false, false, false, false, false, false] rfl rfl (by kernel_rfl) (fun _ _ _ h => h) (Or.inl ⟨by rfl, ?_⟩) ?_ ?_
                  rotate_left
                  · intro w'
                    go_simp
                    with_reducible rfl
                  rotate_left
                  · simp only [Act.put, List.setIfInBounds_toArray, List.set_cons_zero, List.set_cons_succ, i64_w, i32_w]
                    rfl
                  refine pure_ (i := 8) (N := some 108) (v := ?_) (a' := ?_) #[true, true, true, true, true, true, true, true, true, false, false, false, false, false, false, false, false, false, false, false, false] rfl rfl (by kernel_rfl) (fun _ _ _ h => h) (Or.inl ⟨by rfl, ?_⟩) ?_ ?_
                  rotate_left
                  · intro w'
                    go_simp
                    with_reducible rfl
                  rotate_left
                  · simp only [Act.put, List.setIfInBounds_toArray, List.set_cons_zero, List.set_cons_succ, i64_w, i32_w]
                    rfl
                  refine pure_ (i := 9) (N := some 109) (v := ?_) (a' := ?_) #[true, true, true, true, true, true, true, true, true, true, false, false, false, false, false, false, false, false, false, false, false] rfl rfl (by kernel_rfl) (fun _ _ _ h => h) (Or.inl ⟨by rfl, ?_⟩) ?_ ?_
                  rotate_left
                  · intro w'
                    go_simp
                    with_reducible rfl
                  rotate_left
                  · simp only [Act.put, List.setIfInBounds_toArray, List.set_cons_zero, List.set_cons_succ, i64_w, i32_w]
                    rfl
                  refine pure_ (i := 10) (N := some 110) (v := ?_) (a' := ?_) #[true, true, true, true, true, true, true, true, true, true, true, false, false, false, false, false, false, false, false, false, false] rfl rfl (by kernel_rfl) (fun _ _ _ h => h) (Or.inl ⟨by rfl, ?_⟩) ?_ ?_
                  rotate_left
                  · intro w'
                    go_simp
                    with_reducible rfl
                  rotate_left
                  · simp only [Act.put, List.setIfInBounds_toArray, List.set_cons_zero, List.set_cons_succ, i64_w, i32_w]
                    rfl
                  refine pure_ (i := 11) (N := some 111) (v := ?_) (a' := ?_) #[true, true, true, true, true, true, true, true, true, true, true, true, false, false, false, false, false, false, false, false, false] rfl rfl (by kernel_rfl) (fun _ _ _ h => h) (Or.inl ⟨by rfl, ?_⟩) ?_ ?_
                  rotate_left
                  · intro w'
                    go_simp
                    with_reducible rfl
                  rotate_left
                  · simp only [Act.put, List.setIfInBounds_toArray, List.set_cons_zero, List.set_cons_succ, i64_w, i32_w]
                    rfl
                  refine pure_ (i := 14) (N := some 114) (v := ?_) (a' := ?_) #[true, true, true, true, true, true, true, true, true, true, true, true, false, false, true, false, false, false, false, false, false] rfl rfl (by kernel_rfl) (fun _ _ _ h => h) (Or.inl ⟨by rfl, ?_⟩) ?_ ?_
                  rotate_left
                  · intro w'
                    go_simp
                    with_reducible rfl
                  rotate_left
                  · simp only [Act.put, List.setIfInBounds_toArray, List.set_cons_zero, List.set_cons_succ, i64_w, i32_w]
                    rfl
                  refine pure_ (i := 15) (N := some 115) (v := ?_) (a' := ?_) #[true, true, true, true, true, true, true, true, true, true, true, true, false, false, true, true, false, false, false, false, false] rfl rfl (by kernel_rfl) (fun _ _ _ h => h) (Or.inl ⟨by rfl, ?_⟩) ?_ ?_
                  rotate_left
                  · intro w'
                    go_simp
                    with_reducible rfl
                  rotate_left
                  · simp only [Act.put, List.setIfInBounds_toArray, List.set_cons_zero, List.set_cons_succ, i64_w, i32_w]
                    rfl
                  refine take_ (i := 12) (N := some 112) (v := ?_) (a' := ?_) #[true, true, true, true, true, true, true, true, true, true, true, true, true, false, true, true, false, false, false, false, false] rfl rfl (by kernel_rfl) (fun _ _ _ h => h) (Or.inl ⟨by rfl, ?_⟩) hHeld ?_ ?_
                  rotate_left
                  · intro w' s0
                    go_simp
                    with_reducible rfl
                  rotate_left
                  · simp only [Act.put, List.setIfInBounds_toArray, List.set_cons_zero, List.set_cons_succ, i64_w, i32_w]
                    rfl
                  refine pure_ (i := 13) (N := some 113) (v := ?_) (a' := ?_) #[true, true, true, true, true, true, true, true, true, true, true, true, true, true, true, true, false, false, false, false, false] rfl rfl (by kernel_rfl) (fun _ _ _ h => h) (Or.inl ⟨by rfl, ?_⟩) ?_ ?_
                  rotate_left
                  · intro w'
                    go_simp
                    with_reducible rfl
                  rotate_left
                  · simp only [Act.put, List.setIfInBounds_toArray, List.set_cons_zero, List.set_cons_succ, i64_w, i32_w]
                    rfl
                  refine one_ (i := 16) (N := some 116) #[true, true, true, true, true, true, true, true, true, true, true, true, true, true, true, true, true, false, false, false, false] rfl rfl (by kernel_rfl) (by decide) (fun K hK => ?_)
                  refine goes_ Tryd.func27 (by kernel_rfl) rfl #[TP tb, .int .i64 (mn : Int)] (by rfl) rfl rfl (by simp only [List.map_toArray, List.map_cons, List.map_nil]; rfl) ?_
                  with_reducible refine (HEM.out _ (HL.out.tree.below (HB2r.out.trans ((HB13.out.trans (((by repeat (first | exact Below.refl _ _ | apply below_alloc | apply pw_below_drewN | apply below_drew1)) : Below W13.heap.size W13 _).mono HB13.out.size)).mono HB2r.out.size)))).mono ?_
                  rintro e14 W14 ⟨D2, j2, D3, j3, rfl, hec, hb⟩
                  have HB14 : Hid (DitMeth.Calm W13 W14) := Lib.hid (by repeat (first | exact hb | apply undrewN | apply undrew1))
                  have HN : Hid (DitMeth.Calm W12 W14) := Lib.hid (HW.out.trans ((HB13.out.trans (HB14.out.mono HB13.out.size)).mono HW.out.size))
                  clear hec hb
                  refine ⟨_, rfl, ?_⟩
                  refine hK.out _ _ (((HB13.out.trans (HB14.out.mono HB13.out.size)).cell (p := ⟨b, o + j * 4 + 2, none⟩) hbr).trans kx) (fun hHeld => ?_)
                  clear hK K
                  refine norm_ (a' := ?_) ?_ ?_
                  rotate_left
                  · show Act.put _ (some 116) _ = _
                    simp only [Act.put, List.setIfInBounds_toArray, List.set_cons_zero, List.set_cons_succ, i64_w, i32_w]
                    rfl
                  refine pure_ (i := 17) (N := some 117) (v := ?_) (a' := ?_) #[true, true, true, true, true, true, true, true, true, true, true, true, true, true, true, true, true, true, false, false, false] rfl rfl (by kernel_rfl) (fun _ _ _ h => h) (Or.inl ⟨by rfl, ?_⟩) ?_ ?_
                  rotate_left
                  · intro w'
                    go_simp
                    with_reducible rfl
                  rotate_left
                  · simp only [Act.put, List.setIfInBounds_toArray, List.set_cons_zero, List.set_cons_succ, i64_w, i32_w]
                    rfl
                  refine pure_ (i := 18) (N := some 118) (v := ?_) (a' := ?_) #[true, true, true, true, true, true, true, true, true, true, true, true, true, true, true, true, true, true, true, false, false] rfl rfl (by kernel_rfl) (fun _ _ _ h => h) (Or.inl ⟨by rfl, ?_⟩) ?_ ?_
                  rotate_left
                  · intro w'
                    go_simp
                    with_reducible rfl
                  rotate_left
                  · simp only [Act.put, List.setIfInBounds_toArray, List.set_cons_zero, List.set_cons_succ, i64_w, i32_w]
                    rfl
                  refine pure_ (i := 19) (N := some 119) (v := ?_) (a' := ?_) #[true, true, true, true, true, true, true, true, true, true, true, true, true, true, true, true, true, true, true, true, false] rfl rfl (by kernel_rfl) (fun _ _ _ h => h) (Or.inl ⟨by rfl, ?_⟩) ?_ ?_
                  rotate_left
                  · intro w'
                    go_simp
                    with_reducible rfl
                  rotate_left
                  · simp only [Act.put, List.setIfInBounds_toArray, List.set_cons_zero, List.set_cons_succ, i64_w, i32_w]
                    rfl
                  refine pure_ (i := 20) (N := some 120) (v := ?_) (a' := ?_) #[true, true, true, true, true, true, true, true, true, true, true, true, true, true, true, true, true, true, true, true, true] rfl rfl (by kernel_rfl) (fun _ _ _ h => h) (Or.inl ⟨by rfl, ?_⟩) ?_ ?_
                  rotate_left
                  · intro w'
                    go_simp
                    with_reducible rfl
                  rotate_left
                  · simp only [Act.put, List.setIfInBounds_toArray, List.set_cons_zero, List.set_cons_succ, i64_w, i32_w]
                    rfl
                  refine done_ (by kernel_rfl) ?_
                  go_wp2
                  go_roundw
                  case rel => exact ⟨j + 1, by omega, by go_num, HN⟩
                  case measure => simp [intOf]; omega
                · rw [decide_eq_false hpre] at hkg
                  have HKG := Lib.hid hkg
                  clear hkg hlj hpre
                  go_wp2
                  refine start_ (n := 21) (S := fun w' => w'.cell? ⟨b, o + j * 4 + 2, none⟩ = some (.slice A7 x.f2.length d7)) (ds := []) #[false, false, false, false, false, false, false, false, false, false, false, false, false, false, false, false, false, false, false, false, false] (by kernel_rfl) rfl rfl (kx) (fun hHeld => ?_)
                  refine pure_ (i := 0) (N := some 100) (v := ?_) (a' := ?_) #[true, false, false, false, false, false, false, false, false, false, false, false, false, false, false, false, false, false, false, false, false] rfl rfl (by kernel_rfl) (fun _ _ _ h => h) (Or.inl ⟨by rfl, ?_⟩) ?_ ?_
                  rotate_left
                  · intro w'
                    go_simp
                    with_reducible rfl
                  rotate_left
                  · simp only [Act.put, List.setIfInBounds_toArray, List.set_cons_zero, List.set_cons_succ, i64_w, i32_w]
                    rfl
                  refine pure_ (i := 1) (N := some 101) (v := ?_) (a' := ?_) #[true, true, false, false, false, false, false, false, false, false, false, false, false, false, false, false, false, false, false, false, false] rfl rfl (by kernel_rfl) (fun _ _ _ h => h) (Or.inl ⟨by rfl, ?_⟩) ?_ ?_
                  rotate_left
                  · intro w'
                    go_simp
                    with_reducible rfl
                  rotate_left
                  · simp only [Act.put, List.setIfInBounds_toArray, List.set_cons_zero, List.set_cons_succ, i64_w, i32_w]
                    rfl
                  refine pure_ (i := 2) (N := some 102) (v := ?_) (a' := ?_) #[true, true, true, false, false, false, false, false, false, false, false, false, false, false, false, false, false, false, false, false, false] rfl rfl (by kernel_rfl) (fun _ _ _ h => h) (Or.inl ⟨by rfl, ?_⟩) ?_ ?_
                  rotate_left
                  · intro w'
                    go_simp
                    with_reducible rfl
                  rotate_left
                  · simp only [Act.put, List.setIfInBounds_toArray, List.set_cons_zero, List.set_cons_succ, i64_w, i32_w]
                    rfl
                  refine pure_ (i := 3) (N := some 103) (v := ?_) (a' := ?_) #[true, true, true, true, false, false, false, false, false, false, false, false, false, false, false, false, false, false, false, false, false] rfl rfl (by kernel_rfl) (fun _ _ _ h => h) (Or.inl ⟨by rfl, ?_⟩) ?_ ?_
                  rotate_left
                  · intro w'
                    go_simp
                    with_reducible rfl
                  rotate_left
                  · simp only [Act.put, List.setIfInBounds_toArray, List.set_cons_zero, List.set_cons_succ, i64_w, i32_w]
                    rfl
                  refine pure_ (i := 5) (N := some 105) (v := ?_) (a' := ?_) #[true, true, true, true, false, true, false, false, false, false, false, false, false, false, false, false, false, false, false, false, false] rfl rfl (by kernel_rfl) (fun _ _ _ h => h) (Or.inl ⟨by rfl, ?_⟩) ?_ ?_
                  rotate_left
                  · intro w'
                    go_simp
                    with_reducible rfl
                  rotate_left
                  · simp only [Act.put, List.setIfInBounds_toArray, List.set_cons_zero, List.set_cons_succ, i64_w, i32_w]
                    rfl
                  refine take_ (i := 4) (N := some 104) (v := ?_) (a' := ?_) #[true, true, true, true, true, true, false, false, false, false, false, false, false, false, false, false, false, false, false, false, false] rfl rfl (by kernel_rfl) (fun _ _ _ h => h) (Or.inl ⟨by rfl, ?_⟩) hHeld ?_ ?_
                  rotate_left
                  · intro w' s0
                    go_simp
                    with_reducible rfl
                  rotate_left
                  · simp only [Act.put, List.setIfInBounds_toArray, List.set_cons_zero, List.set_cons_succ, i64_w, i32_w]
                    rfl
                  refine one_ (i := 6) (N := some 106) #[true, true, true, true, true, true, true, false, false, false, false, false, false, false, false, false, false, false, false, false, false] rfl rfl (by kernel_rfl) (by decide) (fun K hK => ?_)
                  refine goes_ Tryd.func31 (by kernel_rfl) rfl #[.slice A7 x.f2.length d7, .slice A6 k.length c6] (by rfl) rfl rfl (by simp only [List.map_toArray, List.map_cons, List.map_nil]; rfl) ?_
                  with_reducible refine (rosterlaw09_front.calls kg A7 d7 x.f2 A6 c6 k false _ (by exact (HEC.out.calm (HB2r.out.trans (((by repeat (first | exact Below.refl _ _ | apply below_alloc | apply pw_below_drewN | apply below_drew1)) : Below wr.heap.size wr _).mono HB2r.out.size))).key) HEC.out.kc (by exact Kd.C_below HC12.out (HW.out.trans (((by repeat (first | exact Below.refl _ _ | apply below_alloc | apply pw_below_drewN | apply below_drew1)) : Below wr.heap.size wr _).mono HW.out.size))) hl6 HKG.out).mono ?_
                  rintro e13 W13 ⟨rfl, hd⟩
                  have HB13 : Hid (DitMeth.Calm wr W13) := Lib.hid (by have hb := hd.below; repeat (first | exact hb | apply undrewN | apply undrew1))
                  have HN : Hid (DitMeth.Calm W12 W13) := Lib.hid (HW.out.trans (HB13.out.mono HW.out.size))
                  clear hd
                  refine ⟨_, rfl, ?_⟩
                  refine hK.out _ _ ((HB13.out.cell (p := ⟨b, o + j * 4 + 2, none⟩) hbr).trans kx) (fun hHeld => ?_)
                  clear hK K
                  refine norm_ (a' := ?_) ?_ ?_
                  rotate_left
                  · show Act.put _ (some 106) _ = _
                    simp only [Act.put, List.setIfInBounds_toArray, List.set_cons_zero, List.set_cons_succ, i64_w, i32_w]
                    rfl
                  refine pure_ (i := 7) (N := some 107) (v := ?_) (a' := ?_) #[true, true, true, true, true, true, true, true, false, false, false, false, false, false, false, false, false, false, false, false, false] rfl rfl (by kernel_rfl) (fun _ _ _ h => h) (Or.inl ⟨by rfl, ?_⟩) ?_ ?_
                  rotate_left
                  · intro w'
                    go_simp
                    with_reducible rfl
                  rotate_left
                  · simp only [Act.put, List.setIfInBounds_toArray, List.set_cons_zero, List.set_cons_succ, i64_w, i32_w]
                    rfl
                  refine pure_ (i := 8) (N := some 108) (v := undef) (a' := ?_) #[true, true, true, true, true, true, true, true, true, false, false, false, false, false, false, false, false, false, false, false, false] rfl rfl (by kernel_rfl) (fun _ _ _ h => h) (Or.inr ⟨by rfl, rfl⟩) ?_ ?_
                  rotate_left
                  · simp only [Act.put, List.setIfInBounds_toArray, List.set_cons_zero, List.set_cons_succ, i64_w, i32_w]
                    rfl
                  refine pure_ (i := 9) (N := some 109) (v := undef) (a' := ?_) #[true, true, true, true, true, true, true, true, true, true, false, false, false, false, false, false, false, false, false, false, false] rfl rfl (by kernel_rfl) (fun _ _ _ h => h) (Or.inr ⟨by rfl, rfl⟩) ?_ ?_
                  rotate_left
                  · simp only [Act.put, List.setIfInBounds_toArray, List.set_cons_zero, List.set_cons_succ, i64_w, i32_w]
                    rfl
                  refine pure_ (i := 10) (N := some 110) (v := undef) (a' := ?_) #[true, true, true, true, true, true, true, true, true, true, true, false, false, false, false, false, false, false, false, false, false] rfl rfl (by kernel_rfl) (fun _ _ _ h => h) (Or.inr ⟨by rfl, rfl⟩) ?_ ?_
                  rotate_left
                  · simp only [Act.put, List.setIfInBounds_toArray, List.set_cons_zero, List.set_cons_succ, i64_w, i32_w]
                    rfl
                  refine pure_ (i := 11) (N := some 111) (v := undef) (a' := ?_) #[true, true, true, true, true, true, true, true, true, true, true, true, false, false, false, false, false, false, false, false, false] rfl rfl (by kernel_rfl) (fun _ _ _ h => h) (Or.inr ⟨by rfl, rfl⟩) ?_ ?_
                  rotate_left
                  · simp only [Act.put, List.setIfInBounds_toArray, List.set_cons_zero, List.set_cons_succ, i64_w, i32_w]
                    rfl
                  refine pure_ (i := 12) (N := some 112) (v := undef) (a' := ?_) #[true, true, true, true, true, true, true, true, true, true, true, true, true, false, false, false, false, false, false, false, false] rfl rfl (by kernel_rfl) (fun _ _ _ h => h) (Or.inr ⟨by rfl, rfl⟩) ?_ ?_
                  rotate_left
                  · simp only [Act.put, List.setIfInBounds_toArray, List.set_cons_zero, List.set_cons_succ, i64_w, i32_w]
                    rfl
                  refine pure_ (i := 13) (N := some 113) (v := undef) (a' := ?_) #[true, true, true, true, true, true, true, true, true, true, true, true, true, true, false, false, false, false, false, false, false] rfl rfl (by kernel_rfl) (fun _ _ _ h => h) (Or.inr ⟨by rfl, rfl⟩) ?_ ?_
                  rotate_left
                  · simp only [Act.put, List.setIfInBounds_toArray, List.set_cons_zero, List.set_cons_succ, i64_w, i32_w]
                    rfl
                  refine pure_ (i := 14) (N := some 114) (v := undef) (a' := ?_) #[true, true, true, true, true, true, true, true, true, true, true, true, true, true, true, false, false, false, false, false, false] rfl rfl (by kernel_rfl) (fun _ _ _ h => h) (Or.inr ⟨by rfl, rfl⟩) ?_ ?_
                  rotate_left
                  · simp only [Act.put, List.setIfInBounds_toArray, List.set_cons_zero, List.set_cons_succ, i64_w, i32_w]
                    rfl
                  refine pure_ (i := 15) (N := some 115) (v := undef) (a' := ?_) #[true, true, true, true, true, true, true, true, true, true, true, true, true, true, true, true, false, false, false, false, false] rfl rfl (by kernel_rfl) (fun _ _ _ h => h) (Or.inr ⟨by rfl, rfl⟩) ?_ ?_
                  rotate_left
                  · simp only [Act.put, List.setIfInBounds_toArray, List.set_cons_zero, List.set_cons_succ, i64_w, i32_w]
                    rfl
                  refine pure_ (i := 16) (N := some 116) (v := undef) (a' := ?_) #[true, true, true, true, true, true, true, true, true, true, true, true, true, true, true, true, true, false, false, false, false] rfl rfl (by kernel_rfl) (fun _ _ _ h => h) (Or.inr ⟨by rfl, rfl⟩) ?_ ?_
                  rotate_left
                  · simp only [Act.put, List.setIfInBounds_toArray, List.set_cons_zero, List.set_cons_succ, i64_w, i32_w]
                    rfl
                  refine pure_ (i := 17) (N := some 117) (v := undef) (a' := ?_) #[true, true, true, true, true, true, true, true, true, true, true, true, true, true, true, true, true, true, false, false, false] rfl rfl (by kernel_rfl) (fun _ _ _ h => h) (Or.inr ⟨by rfl, rfl⟩) ?_ ?_
                  rotate_left
                  · simp only [Act.put, List.setIfInBounds_toArray, List.set_cons_zero, List.set_cons_succ, i64_w, i32_w]
                    rfl
                  refine pure_ (i := 18) (N := some 118) (v := undef) (a' := ?_) #[true, true, true, true, true, true, true, true, true, true, true, true, true, true, true, true, true, true, true, false, false] rfl rfl (by kernel_rfl) (fun _ _ _ h => h) (Or.inr ⟨by rfl, rfl⟩) ?_ ?_
                  rotate_left
                  · simp only [Act.put, List.setIfInBounds_toArray, List.set_cons_zero, List.set_cons_succ, i64_w, i32_w]
                    rfl
                  refine pure_ (i := 19) (N := some 119) (v := undef) (a' := ?_) #[true, true, true, true, true, true, true, true, true, true, true, true, true, true, true, true, true, true, true, true, false] rfl rfl (by kernel_rfl) (fun _ _ _ h => h) (Or.inr ⟨by rfl, rfl⟩) ?_ ?_
                  rotate_left
                  · simp only [Act.put, List.setIfInBounds_toArray, List.set_cons_zero, List.set_cons_succ, i64_w, i32_w]
                    rfl
                  refine pure_ (i := 20) (N := some 120) (v := ?_) (a' := ?_) #[true, true, true, true, true, true, true, true, true, true, true, true, true, true, true, true, true, true, true, true, true] rfl rfl (by kernel_rfl) (fun _ _ _ h => h) (Or.inl ⟨by rfl, ?_⟩) ?_ ?_
                  rotate_left
                  · intro w'
                    go_simp
                    with_reducible rfl
                  rotate_left
                  · simp only [Act.put, List.setIfInBounds_toArray, List.set_cons_zero, List.set_cons_succ, i64_w, i32_w]
                    rfl
                  refine done_ (by kernel_rfl) ?_
                  go_wp2
                  go_roundw
                  case rel => exact ⟨j + 1, by omega, by go_num, HN⟩
                  case measure => simp [intOf]; omega
              · have hltj : ¬ (j : Int) < (l.length : Int) := by omega
                have HN : Hid (DitMeth.Calm W2 wr) := HB2r
                go_wp2
                go_roundw
                case rel => exact ⟨n + 1, by omega, by go_num, HN⟩
                case measure => simp [intOf]; omega
          · have hmi : ¬ ((m : Int) < 0) := by omega
            have hai : ¬ (((p.getD m 0 : Nat) : Int) < 0) := by omega
            have haq : (0 : Int) ≤ ((p.getD m 0 : Nat) : Int) := by omega
            subst ham hfm
            have hplm := HP.out.place hm
            rw [hplm] at HPL
            clear hplm
            generalize p.getD m 0 = pm at HKA HPL hai haq
            have hd1 : decide ((m : Int) < 0) = false := decide_eq_false hmi
            have hd2 : decide ((pm : Int) < 0) = false := decide_eq_false hai
            go_upto_region 22 with (first
              | (go_at_call 24; ((with_reducible refine (rosterlaw09_among.calls ka (some ⟨b, o, none⟩) c2 l A6 c6 k (pm : Int) wr (Kd.C_below HL.out.list HB2r.out) hl2 HC6.out hl6 HKA.out).mono ?_); rintro e8 W8 ⟨rfl, hd⟩; have HB8 : Hid (DitMeth.Calm wr W8) := Lib.hid hd.below; have HB28 : Hid (DitMeth.Calm W2 W8) := Lib.hid (HB2r.out.trans (hd.below.mono HB2r.out.size)); clear hd))
              | (go_at_call 32; ((with_reducible refine (HFD.out W8 (HL.out.tree.below HB28.out) (Tabs_at HL.out.tabs HB28.out) (HR6.out.below HB8.out)).mono ?_); rintro e9 W9 ⟨rfl, hb⟩; have HB9 : Hid (DitMeth.Calm wr W9) := Lib.hid (HB8.out.trans (hb.mono HB8.out.size)); have HB29 : Hid (DitMeth.Calm W2 W9) := Lib.hid (HB28.out.trans (hb.mono HB28.out.size)); clear hb))
              | (go_at_call 33; ((with_reducible refine (HND.out W9 (HL.out.tree.below HB29.out) (Tabs_at HL.out.tabs HB29.out) (HR6.out.below HB9.out)).mono ?_); rintro e10 W10 ⟨rfl, hb⟩; have HB10 : Hid (DitMeth.Calm wr W10) := Lib.hid (HB9.out.trans (hb.mono HB9.out.size)); have HB210 : Hid (DitMeth.Calm W2 W10) := Lib.hid (HB29.out.trans (hb.mono HB29.out.size)); clear hb))
              | (go_at_call 27; ((with_reducible refine (HEM.out W10 (HL.out.tree.below HB210.out)).mono ?_); rintro e11 W11 ⟨C2, g2, C3, g3, rfl, hec, hb⟩; have HB11 : Hid (DitMeth.Calm W10 W11) := Lib.hid hb; have HEC11 := Lib.hid hec; clear hec hb))
              | (go_at_call 31; ((with_reducible refine (rosterlaw09_front.calls kf C2 g2 em.f2 A6 c6 k true W11 HEC11.out.key HEC11.out.kc (Kd.C_below HC6.out (HB10.out.trans (HB11.out.mono HB10.out.size))) hl6 HKF.out).mono ?_); rintro e12 W12 ⟨rfl, hd⟩; have HB12 : Hid (DitMeth.Calm wr W12) := Lib.hid (HB10.out.trans ((HB11.out.trans (hd.below.mono HB11.out.size)).mono HB10.out.size)); clear hd))
              | (go_at_call 25; ((with_reducible refine (HPL.out W9 (HL.out.tree.below HB29.out)).mono ?_); rintro e W ⟨rfl, hq⟩; subst W))
              | go_in)
            have HB212 : Hid (DitMeth.Calm W2 W12) := Lib.hid (HB2r.out.trans (HB12.out.mono HB2r.out.size))
            have HC12 : Hid (Kd.C Kd.string W12 A6 k.length k) := Lib.hid (Kd.C_below HC6.out HB12.out)
            have hmn0 : ¬ ((mn : Int) < 0) := by omega
            clear HB8 HB28 HB9 HB29 HB10 HB210 HB11 HEC11 HB12 HB2r HC6 HR6 HFD HND HKA HPL
            go_wp2
            go_loopw [14] (fun v14 wr => ∃ j : Nat, j ≤ l.length ∧ v14 = .int .i64 (j : Nat) ∧ Hid (DitMeth.Calm W12 wr)) (fun v _ => l.length - (intOf v).toNat)
            case atStart => exact ⟨0, Nat.zero_le _, rfl, Lib.hid (Below.refl _ _)⟩
            case round =>
              obtain ⟨j, hj, rfl, HW⟩ := hrel
              have HB2r : Hid (DitMeth.Calm W2 wr) := Lib.hid (HB212.out.trans (HW.out.mono HB212.out.size))
              by_cases hjl : j < l.length
              · have hltj : (j : Int) < (l.length : Int) := by omega
                have hwj : IntKind.i64.wrap ((j : Int) + 1) = ((j + 1 : Nat) : Int) := by rw [IntWalk.i64_in _ (by omega)]; rfl
                have hmem := ent_mem hjl
                have hmk : (ent l j).f2 ∈ l.map S45.f2 := List.mem_map_of_mem hmem
                have hkj := (HF.out.key _ hmem).1
                have hE2 := HE.out j hjl
                obtain ⟨A7, d7, _, _, e2, _, hec⟩ := EC.ent hE2
                have HEC := Lib.hid (hec (by show (ent l j).f2.length ≤ _; omega))
                have hlj := HML.out _ hmk
                change W2.cell? ⟨b, o + j * 4 + 2, none⟩ = some (.slice A7 (ent l j).f2.length d7) at e2
                change Hid (EC W2 (ent l j) A7 d7 _ _) at HEC
                generalize ent l j = x at e2 HEC hlj hkj
                have kx := (HB2r.out.cell (p := ⟨b, o + j * 4 + 2, none⟩) hbl).trans e2
                have hbr : b < wr.heap.size := Nat.lt_of_lt_of_le hbl HB2r.out.size
                obtain ⟨kg, hkg⟩ := Ev.rounds (DitEv.front_ev x.f2 k (by omega))
                clear hmem hmk hE2 hec e2
                by_cases hpre : x.f2 <+: k
                · have hle := hlj hpre
                  rw [decide_eq_true hpre] at hkg
                  have HKG := Lib.hid hkg
                  have hgt : ¬ (em.f2.length : Int) < (x.f2.length : Int) := by omega
                  have hgd : decide ((em.f2.length : Int) < (x.f2.length : Int)) = false := decide_eq_false hgt
                  have hgn : decide (em.f2.length < x.f2.length) = false := decide_eq_false (by omega)
                  clear hkg hlj hpre
                  go_wp2
                  refine start_ (n := 21) (S := fun w' => w'.cell? ⟨b, o + j * 4 + 2, none⟩ = some (.slice A7 x.f2.length d7)) (ds := []) #[false, false, false, false, false, false, false, false, false, false, false, false, false, false, false, false, false, false, false, false, false] (by kernel_rfl) rfl rfl (kx) (fun hHeld => ?_)
                  refine pure_ (i := 0) (N := some 100) (v := ?_) (a' := ?_) #[true, false, false, false, false, false, false, false, false, false, false, false, false, false, false, false, false, false, false, false, false] rfl rfl (by kernel_rfl) (fun _ _ _ h => h) (Or.inl ⟨by rfl, ?_⟩) ?_ ?_
                  rotate_left
                  · intro w'
                    go_simp
                    with_reducible rfl
                  rotate_left
                  · simp only [Act.put, List.setIfInBounds_toArray, List.set_cons_zero, List.set_cons_succ, i64_w, i32_w]
                    rfl
                  refine pure_ (i := 1) (N := some 101) (v := ?_) (a' := ?_) #[true, true, false, false, false, false, false, false, false, false, false, false, false, false, false, false, false, false, false, false, false] rfl rfl (by kernel_rfl) (fun _ _ _ h => h) (Or.inl ⟨by rfl, ?_⟩) ?_ ?_
                  rotate_left
                  · intro w'
                    go_simp
                    with_reducible rfl
                  rotate_left
                  · simp only [Act.put, List.setIfInBounds_toArray, List.set_cons_zero, List.set_cons_succ, i64_w, i32_w]
                    rfl
                  refine pure_ (i := 2) (N := some 102) (v := ?_) (a' := ?_) #[true, true, true, false, false, false, false, false, false, false, false, false, false, false, false, false, false, false, false, false, false] rfl rfl (by kernel_rfl) (fun _ _ _ h => h) (Or.inl ⟨by rfl, ?_⟩) ?_ ?_
                  rotate_left
                  · intro w'
                    go_simp
                    with_reducible rfl
                  rotate_left
                  · simp only [Act.put, List.setIfInBounds_toArray, List.set_cons_zero, List.set_cons_succ, i64_w, i32_w]
                    rfl
                  refine pure_ (i := 3) (N := some 103) (v := ?_) (a' := ?_) #[true, true, true, true, false, false, false, false, false, false, false, false, false, false, false, false, false, false, false, false, false] rfl rfl (by kernel_rfl) (fun _ _ _ h => h) (Or.inl ⟨by rfl, ?_⟩) ?_ ?_
                  rotate_left
                  · intro w'
                    go_simp
                    with_reducible rfl
                  rotate_left
                  · simp only [Act.put, List.setIfInBounds_toArray, List.set_cons_zero, List.set_cons_succ, i64_w, i32_w]
                    rfl
                  refine pure_ (i := 5) (N := some 105) (v := ?_) (a' := ?_) #[true, true, true, true, false, true, false, false, false, false, false, false, false, false, false, false, false, false, false, false, false] rfl rfl (by kernel_rfl) (fun _ _ _ h => h) (Or.inl ⟨by rfl, ?_⟩) ?_ ?_
                  rotate_left
                  · intro w'
                    go_simp
                    with_reducible rfl
                  rotate_left
                  · simp only [Act.put, List.setIfInBounds_toArray, List.set_cons_zero, List.set_cons_succ, i64_w, i32_w]
                    rfl
                  refine take_ (i := 4) (N := some 104) (v := ?_) (a' := ?_) #[true, true, true, true, true, true, false, false, false, false, false, false, false, false, false, false, false, false, false, false, false] rfl rfl (by kernel_rfl) (fun _ _ _ h => h) (Or.inl ⟨by rfl, ?_⟩) hHeld ?_ ?_
                  rotate_left
                  · intro w' s0
                    go_simp
                    with_reducible rfl
                  rotate_left
                  · simp only [Act.put, List.setIfInBounds_toArray, List.set_cons_zero, List.set_cons_succ, i64_w, i32_w]
                    rfl
                  refine one_ (i := 6) (N := some 106) #[true, true, true, true, true, true, true, false, false, false, false, false, false, false, false, false, false, false, false, false, false] rfl rfl (by kernel_rfl) (by decide) (fun K hK => ?_)
                  refine goes_ Tryd.func31 (by kernel_rfl) rfl #[.slice A7 x.f2.length d7, .slice A6 k.length c6] (by rfl) rfl rfl (by simp only [List.map_toArray, List.map_cons, List.map_nil]; rfl) ?_
                  with_reducible refine (rosterlaw09_front.calls kg A7 d7 x.f2 A6 c6 k true _ (by exact (HEC.out.calm (HB2r.out.trans (((by repeat (first | exact Below.refl _ _ | apply below_alloc | apply pw_below_drewN | apply below_drew1)) : Below wr.heap.size wr _).mono HB2r.out.size))).key) HEC.out.kc (by exact Kd.C_below HC12.out (HW.out.trans (((by repeat (first | exact Below.refl _ _ | apply below_alloc | apply pw_below_drewN | apply below_drew1)) : Below wr.heap.size wr _).mono HW.out.size))) hl6 HKG.out).mono ?_
                  rintro e13 W13 ⟨rfl, hd⟩
                  have HB13 : Hid (DitMeth.Calm wr W13) := Lib.hid (by have hb := hd.below; repeat (first | exact hb | apply undrewN | apply undrew1))
                  clear hd
                  refine ⟨_, rfl, ?_⟩
                  refine hK.out _ _ ((HB13.out.cell (p := ⟨b, o + j * 4 + 2, none⟩) hbr).trans kx) (fun hHeld => ?_)
                  clear hK K
                  refine norm_ (a' := ?_) ?_ ?_
                  rotate_left
                  · show Act.put _ (some 106) _ = _
                    simp only [Act.put, List.setIfInBounds_toArray, List.set_cons_zero, List.set_cons_succ, i64_w, i32_w]
                    rfl
                  refine pure_ (i := 7) (N := some 107) (v := ?_) (a' := ?_) #[true, true, true, true, true, true, true, true, false, false, false, false, false, false, false, false, false, false, false, false, false] rfl rfl (by kernel_rfl) (fun _ _ _ h => h) (Or.inl ⟨by rfl, ?_⟩) ?_ ?_
                  rotate_left
                  · intro w'
                    go_simp
                    with_reducible rfl
                  rotate_left
                  · simp only [Act.put, List.setIfInBounds_toArray, List.set_cons_zero, List.set_cons_succ, i64_w, i32_w]
                    rfl
                  refine pure_ (i := 8) (N := some 108) (v := ?_) (a' := ?_) #[true, true, true, true, true, true, true, true, true, false, false, false, false, false, false, false, false, false, false, false, false] rfl rfl (by kernel_rfl) (fun _ _ _ h => h) (Or.inl ⟨by rfl, ?_⟩) ?_ ?_
                  rotate_left
                  · intro w'
                    go_simp
                    with_reducible rfl
                  rotate_left
                  · simp only [Act.put, List.setIfInBounds_toArray, List.set_cons_zero, List.set_cons_succ, i64_w, i32_w]
                    rfl
                  refine pure_ (i := 9) (N := some 109) (v := ?_) (a' := ?_) #[true, true, true, true, true, true, true, true, true, true, false, false, false, false, false, false, false, false, false, false, false] rfl rfl (by kernel_rfl) (fun _ _ _ h => h) (Or.inl ⟨by rfl, ?_⟩) ?_ ?_
                  rotate_left
                  · intro w'
                    go_simp
                    with_reducible rfl
                  rotate_left
                  · simp only [Act.put, List.setIfInBounds_toArray, List.set_cons_zero, List.set_cons_succ, i64_w, i32_w]
                    rfl
                  refine pure_ (i := 10) (N := some 110) (v := ?_) (a' := ?_) #[true, true, true, true, true, true, true, true, true, true, true, false, false, false, false, false, false, false, false, false, false] rfl rfl (by kernel_rfl) (fun _ _ _ h => h) (Or.inl ⟨by rfl, ?_⟩) ?_ ?_
                  rotate_left
                  · intro w'
                    go_simp
                    with_reducible rfl
                  rotate_left
                  · simp only [Act.put, List.setIfInBounds_toArray, List.set_cons_zero, List.set_cons_succ, i64_w, i32_w]
                    rfl
                  refine pure_ (i := 11) (N := some 111) (v := ?_) (a' := ?_) #[true, true, true, true, true, true, true, true, true, true, true, true, false, false, false, false, false, false, false, false, false] rfl rfl (by kernel_rfl) (fun _ _ _ h => h) (Or.inl ⟨by rfl, ?_⟩) ?_ ?_
                  rotate_left
                  · intro w'
                    go_simp
                    with_reducible rfl
                  rotate_left
                  · simp only [Act.put, List.setIfInBounds_toArray, List.set_cons_zero, List.set_cons_succ, i64_w, i32_w]
                    rfl
                  refine pure_ (i := 14) (N := some 114) (v := ?_) (a' := ?_) #[true, true, true, true, true, true, true, true, true, true, true, true, false, false, true, false, false, false, false, false, false] rfl rfl (by kernel_rfl) (fun _ _ _ h => h) (Or.inl ⟨by rfl, ?_⟩) ?_ ?_
                  rotate_left
                  · intro w'
                    go_simp
                    with_reducible rfl
                  rotate_left
                  · simp only [Act.put, List.setIfInBounds_toArray, List.set_cons_zero, List.set_cons_succ, i64_w, i32_w]
                    rfl
                  refine pure_ (i := 15) (N := some 115) (v := ?_) (a' := ?_) #[true, true, true, true, true, true, true, true, true, true, true, true, false, false, true, true, false, false, false, false, false] rfl rfl (by kernel_rfl) (fun _ _ _ h => h) (Or.inl ⟨by rfl, ?_⟩) ?_ ?_
                  rotate_left
                  · intro w'
                    go_simp
                    with_reducible rfl
                  rotate_left
                  · simp only [Act.put, List.setIfInBounds_toArray, List.set_cons_zero, List.set_cons_succ, i64_w, i32_w]
                    rfl
                  refine take_ (i := 12) (N := some 112) (v := ?_) (a' := ?_) #[true, true, true, true, true, true, true, true, true, true, true, true, true, false, true, true, false, false, false, false, false] rfl rfl (by kernel_rfl) (fun _ _ _ h => h) (Or.inl ⟨by rfl, ?_⟩) hHeld ?_ ?_
                  rotate_left
                  · intro w' s0
                    go_simp
                    with_reducible rfl
                  rotate_left
                  · simp only [Act.put, List.setIfInBounds_toArray, List.set_cons_zero, List.set_cons_succ, i64_w, i32_w]
                    rfl
                  refine pure_ (i := 13) (N := some 113) (v := ?_) (a' := ?_) #[true, true, true, true, true, true, true, true, true, true, true, true, true, true, true, true, false, false, false, false, false] rfl rfl (by kernel_rfl) (fun _ _ _ h => h) (Or.inl ⟨by rfl, ?_⟩) ?_ ?_
                  rotate_left
                  · intro w'
                    go_simp
                    with_reducible rfl
                  rotate_left
                  · simp only [Act.put, List.setIfInBounds_toArray, List.set_cons_zero, List.set_cons_succ, i64_w, i32_w]
                    rfl
                  refine one_ (i := 16) (N := some 116) #[true, true, true, true, true, true, true, true, true, true, true, true, true, true, true, true, true, false, false, false, false] rfl rfl (by kernel_rfl) (by decide) (fun K hK => ?_)
                  refine goes_ Tryd.func27 (by kernel_rfl) rfl #[TP tb, .int .i64 (mn : Int)] (by rfl) rfl rfl (by simp only [List.map_toArray, List.map_cons, List.map_nil]; rfl) ?_
                  with_reducible refine (HEM.out _ (HL.out.tree.below (HB2r.out.trans ((HB13.out.trans (((by repeat (first | exact Below.refl _ _ | apply below_alloc | apply pw_below_drewN | apply below_drew1)) : Below W13.heap.size W13 _).mono HB13.out.size)).mono HB2r.out.size)))).mono ?_
                  rintro e14 W14 ⟨D2, j2, D3, j3, rfl, hec, hb⟩
                  have HB14 : Hid (DitMeth.Calm W13 W14) := Lib.hid (by repeat (first | exact hb | apply undrewN | apply undrew1))
                  have HN : Hid (DitMeth.Calm W12 W14) := Lib.hid (HW.out.trans ((HB13.out.trans (HB14.out.mono HB13.out.size)).mono HW.out.size))
                  clear hec hb
                  refine ⟨_, rfl, ?_⟩
                  refine hK.out _ _ (((HB13.out.trans (HB14.out.mono HB13.out.size)).cell (p := ⟨b, o + j * 4 + 2, none⟩) hbr).trans kx) (fun hHeld => ?_)
                  clear hK K
                  refine norm_ (a' := ?_) ?_ ?_
                  rotate_left
                  · show Act.put _ (some 116) _ = _
                    simp only [Act.put, List.setIfInBounds_toArray, List.set_cons_zero, List.set_cons_succ, i64_w, i32_w]
                    rfl
                  refine pure_ (i := 17) (N := some 117) (v := ?_) (a' := ?_) #[true, true, true, true, true, true, true, true, true, true, true, true, true, true, true, true, true, true, false, false, false] rfl rfl (by kernel_rfl) (fun _ _ _ h => h) (Or.inl ⟨by rfl, ?_⟩) ?_ ?_
                  rotate_left
                  · intro w'
                    go_simp
                    with_reducible rfl
                  rotate_left
                  · simp only [Act.put, List.setIfInBounds_toArray, List.set_cons_zero, List.set_cons_succ, i64_w, i32_w]
                    rfl
                  refine pure_ (i := 18) (N := some 118) (v := ?_) (a' := ?_) #[true, true, true, true, true, true, true, true, true, true, true, true, true, true, true, true, true, true, true, false, false] rfl rfl (by kernel_rfl) (fun _ _ _ h => h) (Or.inl ⟨by rfl, ?_⟩) ?_ ?_
                  rotate_left
                  · intro w'
                    go_simp
                    with_reducible rfl
                  rotate_left
                  · simp only [Act.put, List.setIfInBounds_toArray, List.set_cons_zero, List.set_cons_succ, i64_w, i32_w]
                    rfl
                  refine pure_ (i := 19) (N := some 119) (v := ?_) (a' := ?_) #[true, true, true, true, true, true, true, true, true, true, true, true, true, true, true, true, true, true, true, true, false] rfl rfl (by kernel_rfl) (fun _ _ _ h => h) (Or.inl ⟨by rfl, ?_⟩) ?_ ?_
                  rotate_left
                  · intro w'
                    go_simp
                    with_reducible rfl
                  rotate_left
                  · simp only [Act.put, List.setIfInBounds_toArray, List.set_cons_zero, List.set_cons_succ, i64_w, i32_w]
                    rfl
                  refine pure_ (i := 20) (N := some 120) (v := ?_) (a' := ?_) #[true, true, true, true, true, true, true, true, true, true, true, true, true, true, true, true, true, true, true, true, true] rfl rfl (by kernel_rfl) (fun _ _ _ h => h) (Or.inl ⟨by rfl, ?_⟩) ?_ ?_
                  rotate_left
                  · intro w'
                    go_simp
                    with_reducible rfl
                  rotate_left
                  · simp only [Act.put, List.setIfInBounds_toArray, List.set_cons_zero, List.set_cons_succ, i64_w, i32_w]
                    rfl
                  refine done_ (by kernel_rfl) ?_
                  go_wp2
                  go_roundw
                  case rel => exact ⟨j + 1, by omega, by go_num, HN⟩
                  case measure => simp [intOf]; omega
                · rw [decide_eq_false hpre] at hkg
                  have HKG := Lib.hid hkg
                  clear hkg hlj hpre
                  go_wp2
                  refine start_ (n := 21) (S := fun w' => w'.cell? ⟨b, o + j * 4 + 2, none⟩ = some (.slice A7 x.f2.length d7)) (ds := []) #[false, false, false, false, false, false, false, false, false, false, false, false, false, false, false, false, false, false, false, false, false] (by kernel_rfl) rfl rfl (kx) (fun hHeld => ?_)
                  refine pure_ (i := 0) (N := some 100) (v := ?_) (a' := ?_) #[true, false, false, false, false, false, false, false, false, false, false, false, false, false, false, false, false, false, false, false, false] rfl rfl (by kernel_rfl) (fun _ _ _ h => h) (Or.inl ⟨by rfl, ?_⟩) ?_ ?_
                  rotate_left
                  · intro w'
                    go_simp
                    with_reducible rfl
                  rotate_left
                  · simp only [Act.put, List.setIfInBounds_toArray, List.set_cons_zero, List.set_cons_succ, i64_w, i32_w]
                    rfl
                  refine pure_ (i := 1) (N := some 101) (v := ?_) (a' := ?_) #[true, true, false, false, false, false, false, false, false, false, false, false, false, false, false, false, false, false, false, false, false] rfl rfl (by kernel_rfl) (fun _ _ _ h => h) (Or.inl ⟨by rfl, ?_⟩) ?_ ?_
                  rotate_left
                  · intro w'
                    go_simp
                    with_reducible rfl
                  rotate_left
                  · simp only [Act.put, List.setIfInBounds_toArray, List.set_cons_zero, List.set_cons_succ, i64_w, i32_w]
                    rfl
                  refine pure_ (i := 2) (N := some 102) (v := ?_) (a' := ?_) #[true, true, true, false, false, false, false, false, false, false, false, false, false, false, false, false, false, false, false, false, false] rfl rfl (by kernel_rfl) (fun _ _ _ h => h) (Or.inl ⟨by rfl, ?_⟩) ?_ ?_
                  rotate_left
                  · intro w'
                    go_simp
                    with_reducible rfl
                  rotate_left
                  · simp only [Act.put, List.setIfInBounds_toArray, List.set_cons_zero, List.set_cons_succ, i64_w, i32_w]
                    rfl
                  refine pure_ (i := 3) (N := some 103) (v := ?_) (a' := ?_) #[true, true, true, true, false, false, false, false, false, false, false, false, false, false, false, false, false, false, false, false, false] rfl rfl (by kernel_rfl) (fun _ _ _ h => h) (Or.inl ⟨by rfl, ?_⟩) ?_ ?_
                  rotate_left
                  · intro w'
                    go_simp
                    with_reducible rfl
                  rotate_left
                  · simp only [Act.put, List.setIfInBounds_toArray, List.set_cons_zero, List.set_cons_succ, i64_w, i32_w]
                    rfl
                  refine pure_ (i := 5) (N := some 105) (v := ?_) (a' := ?_) #[true, true, true, true, false, true, false, false, false, false, false, false, false, false, false, false, false, false, false, false, false] rfl rfl (by kernel_rfl) (fun _ _ _ h => h) (Or.inl ⟨by rfl, ?_⟩) ?_ ?_
                  rotate_left
                  · intro w'
                    go_simp
                    with_reducible rfl
                  rotate_left
                  · simp only [Act.put, List.setIfInBounds_toArray, List.set_cons_zero, List.set_cons_succ, i64_w, i32_w]
                    rfl
                  refine take_ (i := 4) (N := some 104) (v := ?_) (a' := ?_) #[true, true, true, true, true, true, false, false, false, false, false, false, false, false, false, false, false, false, false, false, false] rfl rfl (by kernel_rfl) (fun _ _ _ h => h) (Or.inl ⟨by rfl, ?_⟩) hHeld ?_ ?_
                  rotate_left
                  · intro w' s0
                    go_simp
                    with_reducible rfl
                  rotate_left
                  · simp only [Act.put, List.setIfInBounds_toArray, List.set_cons_zero, List.set_cons_succ, i64_w, i32_w]
                    rfl
                  refine one_ (i := 6) (N := some 106) #[true, true, true, true, true, true, true, false, false, false, false, false, false, false, false, false, false, false, false, false, false] rfl rfl (by kernel_rfl) (by decide) (fun K hK => ?_)
                  refine goes_ Tryd.func31 (by kernel_rfl) rfl #[.slice A7 x.f2.length d7, .slice A6 k.length c6] (by rfl) rfl rfl (by simp only [List.map_toArray, List.map_cons, List.map_nil]; rfl) ?_
                  with_reducible refine (rosterlaw09_front.calls kg A7 d7 x.f2 A6 c6 k false _ (by exact (HEC.out.calm (HB2r.out.trans (((by repeat (first | exact Below.refl _ _ | apply below_alloc | apply pw_below_drewN | apply below_drew1)) : Below wr.heap.size wr _).mono HB2r.out.size))).key) HEC.out.kc (by exact Kd.C_below HC12.out (HW.out.trans (((by repeat (first | exact Below.refl _ _ | apply below_alloc | apply pw_below_drewN | apply below_drew1)) : Below wr.heap.size wr _).mono HW.out.size))) hl6 HKG.out).mono ?_
                  rintro e13 W13 ⟨rfl, hd⟩
                  have HB13 : Hid (DitMeth.Calm wr W13) := Lib.hid (by have hb := hd.below; repeat (first | exact hb | apply undrewN | apply undrew1))
                  have HN : Hid (DitMeth.Calm W12 W13) := Lib.hid (HW.out.trans (HB13.out.mono HW.out.size))
                  clear hd
                  refine ⟨_, rfl, ?_⟩
                  refine hK.out _ _ ((HB13.out.cell (p := ⟨b, o + j * 4 + 2, none⟩) hbr).trans kx) (fun hHeld => ?_)
                  clear hK K
                  refine norm_ (a' := ?_) ?_ ?_
                  rotate_left
                  · show Act.put _ (some 106) _ = _
                    simp only [Act.put, List.setIfInBounds_toArray, List.set_cons_zero, List.set_cons_succ, i64_w, i32_w]
                    rfl
                  refine pure_ (i := 7) (N := some 107) (v := ?_) (a' := ?_) #[true, true, true, true, true, true, true, true, false, false, false, false, false, false, false, false, false, false, false, false, false] rfl rfl (by kernel_rfl) (fun _ _ _ h => h) (Or.inl ⟨by rfl, ?_⟩) ?_ ?_
                  rotate_left
                  · intro w'
                    go_simp
                    with_reducible rfl
                  rotate_left
                  · simp only [Act.put, List.setIfInBounds_toArray, List.set_cons_zero, List.set_cons_succ, i64_w, i32_w]
                    rfl
                  refine pure_ (i := 8) (N := some 108) (v := undef) (a' := ?_) #[true, true, true, true, true, true, true, true, true, false, false, false, false, false, false, false, false, false, false, false, false] rfl rfl (by kernel_rfl) (fun _ _ _ h => h) (Or.inr ⟨by rfl, rfl⟩) ?_ ?_
                  rotate_left
                  · simp only [Act.put, List.setIfInBounds_toArray, List.set_cons_zero, List.set_cons_succ, i64_w, i32_w]
                    rfl
                  refine pure_ (i := 9) (N := some 109) (v := undef) (a' := ?_) #[true, true, true, true, true, true, true, true, true, true, false, false, false, false, false, false, false, false, false, false, false] rfl rfl (by kernel_rfl) (fun _ _ _ h => h) (Or.inr ⟨by rfl, rfl⟩) ?_ ?_
                  rotate_left
                  · simp only [Act.put, List.setIfInBounds_toArray, List.set_cons_zero, List.set_cons_succ, i64_w, i32_w]
                    rfl
                  refine pure_ (i := 10) (N := some 110) (v := undef) (a' := ?_) #[true, true, true, true, true, true, true, true, true, true, true, false, false, false, false, false, false, false, false, false, false] rfl rfl (by kernel_rfl) (fun _ _ _ h => h) (Or.inr ⟨by rfl, rfl⟩) ?_ ?_
                  rotate_left
                  · simp only [Act.put, List.setIfInBounds_toArray, List.set_cons_zero, List.set_cons_succ, i64_w, i32_w]
                    rfl
                  refine pure_ (i := 11) (N := some 111) (v := undef) (a' := ?_) #[true, true, true, true, true, true, true, true, true, true, true, true, false, false, false, false, false, false, false, false, false] rfl rfl (by kernel_rfl) (fun _ _ _ h => h) (Or.inr ⟨by rfl, rfl⟩) ?_ ?_
                  rotate_left
                  · simp only [Act.put, List.setIfInBounds_toArray, List.set_cons_zero, List.set_cons_succ, i64_w, i32_w]
                    rfl
                  refine pure_ (i := 12) (N := some 112) (v := undef) (a' := ?_) #[true, true, true, true, true, true, true, true, true, true, true, true, true, false, false, false, false, false, false, false, false] rfl rfl (by kernel_rfl) (fun _ _ _ h => h) (Or.inr ⟨by rfl, rfl⟩) ?_ ?_
                  rotate_left
                  · simp only [Act.put, List.setIfInBounds_toArray, List.set_cons_zero, List.set_cons_succ, i64_w, i32_w]
                    rfl
                  refine pure_ (i := 13) (N := some 113) (v := undef) (a' := ?_) #[true, true, true, true, true, true, true, true, true, true, true, true, true, true, false, false, false, false, false, false, false] rfl rfl (by kernel_rfl) (fun _ _ _ h => h) (Or.inr ⟨by rfl, rfl⟩) ?_ ?_
                  rotate_left
                  · simp only [Act.put, List.setIfInBounds_toArray, List.set_cons_zero, List.set_cons_succ, i64_w, i32_w]
                    rfl
                  refine pure_ (i := 14) (N := some 114) (v := undef) (a' := ?_) #[true, true, true, true, true, true, true, true, true, true, true, true, true, true, true, false, false, false, false, false, false] rfl rfl (by kernel_rfl) (fun _ _ _ h => h) (Or.inr ⟨by rfl, rfl⟩) ?_ ?_
                  rotate_left
                  · simp only [Act.put, List.setIfInBounds_toArray, List.set_cons_zero, List.set_cons_succ, i64_w, i32_w]
                    rfl
                  refine pure_ (i := 15) (N := some 115) (v := undef) (a' := ?_) #[true, true, true, true, true, true, true, true, true, true, true, true, true, true, true, true, false, false, false, false, false] rfl rfl (by kernel_rfl) (fun _ _ _ h => h) (Or.inr ⟨by rfl, rfl⟩) ?_ ?_
                  rotate_left
                  · simp only [Act.put, List.setIfInBounds_toArray, List.set_cons_zero, List.set_cons_succ, i64_w, i32_w]
                    rfl
                  refine pure_ (i := 16) (N := some 116) (v := undef) (a' := ?_) #[true, true, true, true, true, true, true, true, true, true, true, true, true, true, true, true, true, false, false, false, false] rfl rfl (by kernel_rfl) (fun _ _ _ h => h) (Or.inr ⟨by rfl, rfl⟩) ?_ ?_
                  rotate_left
                  · simp only [Act.put, List.setIfInBounds_toArray, List.set_cons_zero, List.set_cons_succ, i64_w, i32_w]
                    rfl
                  refine pure_ (i := 17) (N := some 117) (v := undef) (a' := ?_) #[true, true, true, true, true, true, true, true, true, true, true, true, true, true, true, true, true, true, false, false, false] rfl rfl (by kernel_rfl) (fun _ _ _ h => h) (Or.inr ⟨by rfl, rfl⟩) ?_ ?_
                  rotate_left
                  · simp only [Act.put, List.setIfInBounds_toArray, List.set_cons_zero, List.set_cons_succ, i64_w, i32_w]
                    rfl
                  refine pure_ (i := 18) (N := some 118) (v := undef) (a' := ?_) #[true, true, true, true, true, true, true, true, true, true, true, true, true, true, true, true, true, true, true, false, false] rfl rfl (by kernel_rfl) (fun _ _ _ h => h) (Or.inr ⟨by rfl, rfl⟩) ?_ ?_
                  rotate_left
                  · simp only [Act.put, List.setIfInBounds_toArray, List.set_cons_zero, List.set_cons_succ, i64_w, i32_w]
                    rfl
                  refine pure_ (i := 19) (N := some 119) (v := undef) (a' := ?_) #[true, true, true, true, true, true, true, true, true, true, true, true, true, true, true, true, true, true, true, true, false] rfl rfl (by kernel_rfl) (fun _ _ _ h => h) (Or.inr ⟨by rfl, rfl⟩) ?_ ?_
                  rotate_left
                  · simp only [Act.put, List.setIfInBounds_toArray, List.set_cons_zero, List.set_cons_succ, i64_w, i32_w]
                    rfl
                  refine pure_ (i := 20) (N := some 120) (v := ?_) (a' := ?_) #[true, true, true, true, true, true, true, true, true, true, true, true, true, true, true, true, true, true, true, true, true] rfl rfl (by kernel_rfl) (fun _ _ _ h => h) (Or.inl ⟨by rfl, ?_⟩) ?_ ?_
                  rotate_left
                  · intro w'
                    go_simp
                    with_reducible rfl
                  rotate_left
                  · simp only [Act.put, List.setIfInBounds_toArray, List.set_cons_zero, List.set_cons_succ, i64_w, i32_w]
                    rfl
                  refine done_ (by kernel_rfl) ?_
                  go_wp2
                  go_roundw
                  case rel => exact ⟨j + 1, by omega, by go_num, HN⟩
                  case measure => simp [intOf]; omega
              · have hltj : ¬ (j : Int) < (l.length : Int) := by omega
                have HN : Hid (DitMeth.Calm W2 wr) := HB2r
                go_wp2
                go_roundw
                case rel => exact ⟨n + 1, by omega, by go_num, HN⟩
                case measure => simp [intOf]; omega
    · have hlt : ¬ (n : Int) < (l.length : Int) := by omega
      go_wp2
      go_ret
      exact ⟨rfl, HB2.out.trans (HW.out.mono HB2.out.size)⟩
end Go.Proofs.YtnogmaljcocfjaaDoor.XK

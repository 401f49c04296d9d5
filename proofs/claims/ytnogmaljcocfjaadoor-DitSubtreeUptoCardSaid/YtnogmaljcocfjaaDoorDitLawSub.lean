/- DitSubtree: the law walked (printed). For every input and world. -/
import Derived.Test.YtnogmaljcocfjaaDoorPkF
import Derived.OpenShut
set_option linter.unusedVariables false
set_option linter.unusedSimpArgs false
namespace Go.Proofs.YtnogmaljcocfjaaDoor.XK
open Go Go.Maps Go.RowKit Go.Proofs.YtnogmaljcocfjaaDoor.Blk Go.Proofs.YtnogmaljcocfjaaDoor.DitTab Go.Proofs.YtnogmaljcocfjaaDoor.DitRow Go.Proofs.YtnogmaljcocfjaaDoor.DitTerm Go.Proofs.YtnogmaljcocfjaaDoor.DitMap Go.Proofs.YtnogmaljcocfjaaDoor.DitCheck Go.Proofs.YtnogmaljcocfjaaDoor.DitCopy Go.Proofs.YtnogmaljcocfjaaDoor.DitPure Go.Proofs.YtnogmaljcocfjaaDoor.DitSort Go.Proofs.YtnogmaljcocfjaaDoor.DitBuild Go.Proofs.YtnogmaljcocfjaaDoor.DitMeth Go.Proofs.YtnogmaljcocfjaaDoor.DitGr Go.Proofs.YtnogmaljcocfjaaDoor.DitLaw Go.Proofs.YtnogmaljcocfjaaDoor.Keys Go.Proofs.YtnogmaljcocfjaaDoorW.PrintWords Go.Proofs.YtnogmaljcocfjaaDoorW.PrintLast Go.Proofs.YtnogmaljcocfjaaDoorW.PrintMore
open Classical in
noncomputable def rosterlaw09_DitSubtree.f (l0 : List ByteArray) (l1 : List S86) : Option Bool := if InOK l0 l1 then some true else none
set_option maxHeartbeats 8000000 in
set_option maxRecDepth 100000 in
theorem rosterlaw09_DitSubtree.calls (A0 : Option Addr) (c0 : Nat) (l0 : List ByteArray) (A1 : Option Addr) (c1 : Nat) (l1 : List S86) (r : Bool) (w : World) (hG : Tabs w) (hr0 : Kd.C Kd.string w A0 l0.length l0) (hc0 : l0.length ≤ c0) (hr1 : Kd.C k86 w A1 l1.length l1) (hc1 : l1.length ≤ c1) (h : rosterlaw09_DitSubtree.f l0 l1 = some r) :
    Calls Tryd.prog 7 #[.slice A0 l0.length c0, .slice A1 l1.length c1] w fun e w' => e = .returned (.bool r) ∧ Below w.heap.size w w' := by
  unfold rosterlaw09_DitSubtree.f at h
  split at h
  case isFalse => cases h
  case isTrue hIN =>
  obtain rfl := Option.some.inj h
  have hI := hIN
  obtain ⟨l, hl⟩ : ∃ l, l = grownL l0 l1 := ⟨_, rfl⟩
  have hgn : GN l0 l1 l1.length l := by rw [hl]; exact grown_gn hI l1.length (Nat.le_refl _)
  have GA := grown_as w A0 A1 c0 c1 l0 l1 hr0 hr1 hI
  rw [← hl] at GA
  have HGA := Lib.hid GA
  have HGN := Lib.hid hgn
  have HF := Lib.hid (hgn.fit hI (Nat.le_refl _))
  have HG := Lib.hid hG
  have HIN := Lib.hid hI
  have hll := (hgn.fit hI (Nat.le_refl _)).len
  have hlp : 0 < l.length := by have := hgn.good.pos; simpa using this
  clear h GA hgn hG hI hl hr0 hr1 hIN
  go_enter Tryd.func7, Tryd.ntmps7
  go_wp2_with (first
    | (go_at_call 20; ((with_reducible refine HGA.out.mono ?_); rintro e W1 ⟨v1, rfl, ho, hb⟩; obtain ⟨A2, c2, hv1, hl2, hC2⟩ := Kd.R_reads ho; subst hv1; have HB1 : Hid (Below w.heap.size w W1) := Lib.hid hb; have HC2 := Lib.hid hC2; clear ho hb hC2))
    | (go_at_call 21; ((with_reducible refine (built_law W1 A2 c2 l HC2.out hl2 HF.out (Tabs_at HG.out HB1.out) HGN.out.good).mono ?_); rintro e W2 ⟨tb, p, PI, rfl, hP, hT, hb⟩; have HP := Lib.hid hP; have HL : Hid (LT l p PI tb A2 W2) := Lib.hid ⟨Kd.C_below HC2.out hb, hT, Tabs_at HG.out (HB1.out.trans (hb.mono HB1.out.size))⟩; have HB2 : Hid (Below w.heap.size w W2) := Lib.hid (HB1.out.trans (hb.mono HB1.out.size)); clear hP hT hb))
    | go_in)
  have hE := TreeAt.ends HL.out.tree
  go_loopw [7] (fun v7 wr => ∃ x : Nat, x ≤ l.length ∧ v7 = .int .i64 (x : Nat) ∧ Hid (DitMeth.Calm W2 wr)) (fun v _ => l.length - (intOf v).toNat)
  case atStart => exact ⟨0, Nat.zero_le _, rfl, Lib.hid (Below.refl _ _)⟩
  case round =>
    obtain ⟨x, hx, rfl, HW⟩ := hrel
    by_cases hin : x < l.length
    · have hlt : (x : Int) < (l.length : Int) := by omega
      have hwi : IntKind.i64.wrap ((x : Int) + 1) = ((x + 1 : Nat) : Int) := by rw [IntWalk.i64_in _ (by omega)]; rfl
      have UA := upward_as HP.out (HL.out.tree.below HW.out) (x : Int) (-1)
      rw [takeR_all] at UA
      have hul := HP.out.ups_len (x : Int)
      have HMET := Lib.hid (fun (m : Nat) (hm : m < l.length) => HP.out.met hm hin)
      generalize upI l.length PI (x : Int) = ul at UA hul HMET
      have HUA := Lib.hid UA
      have HEX := Lib.hid (fun (w : World) (hT : TreeAt l p l.length PI tb w) => entryC HP.out hT hin)
      have hkx := HP.out.kl1 (p.getD x 0)
      generalize hxx : ent l (p.getD x 0) = ex at HEX hkx
      have HXX := Lib.hid hxx
      clear UA hxx
      go_upto_region 9 with (first
        | (go_at_call 29; ((with_reducible refine HUA.out.mono ?_); rintro e W4 ⟨v4, rfl, hown, hb⟩; obtain ⟨gu, Bu, cu, hv4, hrow, _, _⟩ := row_of_own hown; subst hv4; have HRU : Hid (RowI W4 gu Bu cu ul) := Lib.hid hrow; have HB4 : Hid (DitMeth.Calm W2 W4) := Lib.hid (HW.out.trans (hb.mono HW.out.size)); clear hown hrow hb))
        | go_in)
      go_wp2
      go_loopw [9] (fun v9 wr => ∃ m : Nat, m ≤ l.length ∧ v9 = .int .i64 (m : Nat) ∧ Hid (DitMeth.Calm W4 wr)) (fun v _ => l.length - (intOf v).toNat)
      case atStart => exact ⟨0, Nat.zero_le _, rfl, Lib.hid (Below.refl _ _)⟩
      case round =>
        clear HW
        obtain ⟨m, hm, rfl, HW⟩ := hrel
        by_cases hmn : m < l.length
        · have hltm : (m : Int) < (l.length : Int) := by omega
          have hwm : IntKind.i64.wrap ((m : Int) + 1) = ((m + 1 : Nat) : Int) := by rw [IntWalk.i64_in _ (by omega)]; rfl
          have HB5 : Hid (DitMeth.Calm W2 wr) := Lib.hid (HB4.out.trans (HW.out.mono HB4.out.size))
          have SA := span_as (HL.out.tree.below HB5.out) (m : Int)
          rw [span_eq m l.length hmn] at SA
          obtain ⟨s1, s2, s3⟩ := HP.out.span hE hmn
          have s4 := s3 x hin
          generalize endR (keyS l p) m = e at SA s1 s2 s4
          have hmm := HMET.out m hmn
          have HEM := Lib.hid (fun (w : World) (hT : TreeAt l p l.length PI tb w) => entryC HP.out hT hmn)
          have hkm := HP.out.kl1 (p.getD m 0)
          unfold keyN at hmm s4
          rw [HXX.out] at hmm s4
          generalize ent l (p.getD m 0) = em at HEM hkm hmm s4
          obtain ⟨kf, hkf⟩ := Ev.rounds (DitEv.front_ev em.f2 ex.f2 (by omega))
          obtain ⟨fr, hfr⟩ : ∃ fr, fr = decide (em.f2 <+: ex.f2) := ⟨_, rfl⟩
          rw [← hfr] at hkf
          have hcase : (fr = true ∧ decide ((m : Int) ∈ ul) = true ∧ m ≤ x ∧ x < e) ∨ (fr = false ∧ decide ((m : Int) ∈ ul) = false ∧ m ≤ x ∧ ¬ x < e) ∨ (fr = false ∧ decide ((m : Int) ∈ ul) = false ∧ ¬ m ≤ x) := by
            rw [hfr]
            by_cases hpre : em.f2 <+: ex.f2
            · exact .inl ⟨decide_eq_true hpre, decide_eq_true (hmm.2 hpre), s4.1 hpre⟩
            · have h1 : ¬ (m ≤ x ∧ x < e) := fun h => hpre (s4.2 h)
              have h2 := decide_eq_false (fun h => hpre (hmm.1 h))
              by_cases hmx : m ≤ x
              · exact .inr (.inl ⟨decide_eq_false hpre, h2, hmx, fun h => h1 ⟨hmx, h⟩⟩)
              · exact .inr (.inr ⟨decide_eq_false hpre, h2, hmx⟩)
          have HSA := Lib.hid SA
          have HKF := Lib.hid hkf
          have HCASE := Lib.hid hcase
          clear SA hkf hcase hfr hmm s4 s3
          have hfd := field45
          go_upto_region 15 with (first
            | (go_at_call 30; ((with_reducible refine HSA.out.mono ?_); rintro e5 W5 ⟨rfl, hb⟩; have HB6 : Hid (DitMeth.Calm wr W5) := Lib.hid hb; clear hb))
            | (go_at_call 27; ((with_reducible refine (HEM.out W5 (HL.out.tree.below (HB5.out.trans (HB6.out.mono HB5.out.size)))).mono ?_); rintro e6 W6 ⟨C2, g2, C3, g3, rfl, hec, hb⟩; have HB7 : Hid (DitMeth.Calm W5 W6) := Lib.hid hb; have HEC6 := Lib.hid hec; clear hec hb))
            | (go_at_call 27; ((with_reducible refine (HEX.out W6 (HL.out.tree.below (HB5.out.trans ((HB6.out.trans (HB7.out.mono HB6.out.size)).mono HB5.out.size)))).mono ?_); rintro e7 W7 ⟨D2, j2, D3, j3, rfl, hec, hb⟩; have HB8 : Hid (DitMeth.Calm W6 W7) := Lib.hid hb; have HEC7 := Lib.hid hec; clear hec hb))
            | (go_at_call 31; ((with_reducible refine (rosterlaw09_front.calls kf C2 g2 em.f2 D2 j2 ex.f2 fr W7 (HEC6.out.calm HB8.out).key HEC6.out.kc HEC7.out.key HEC7.out.kc HKF.out).mono ?_); rintro e8 W8 ⟨rfl, hd⟩; have HB9 : Hid (DitMeth.Calm W4 W8) := Lib.hid (HW.out.trans ((HB6.out.trans ((HB7.out.trans ((HB8.out.trans (hd.below.mono HB8.out.size)).mono HB7.out.size)).mono HB6.out.size)).mono HW.out.size)); clear hd))
            | go_in)
          go_wp2
          go_loopw [13, 14] (fun v13 v14 wr => ∃ i : Nat, i ≤ ul.length ∧ v14 = .int .i64 (i : Nat) ∧ v13 = .bool (decide ((m : Int) ∈ ul.take i)) ∧ Hid (DitMeth.Calm W4 wr)) (fun _ v _ => ul.length - (intOf v).toNat)
          case atStart => exact ⟨0, Nat.zero_le _, rfl, by simp, HB9⟩
          case round =>
            clear HB9 HW HB5 HB6 HB7 HB8
            obtain ⟨i, hi, rfl, rfl, HW⟩ := hrel
            by_cases hiu : i < ul.length
            · have hlti : (i : Int) < (ul.length : Int) := by omega
              have hwii : IntKind.i64.wrap ((i : Int) + 1) = ((i + 1 : Nat) : Int) := by rw [IntWalk.i64_in _ (by omega)]; rfl
              obtain ⟨ou, hBu, hcu⟩ := HRU.out.at_ (by omega)
              subst hBu
              have cu := (HW.out.cell (p := ⟨gu, ou + i, none⟩) (World.block_lt_of_cell? W4 _ (hcu i hiu))).trans (hcu i hiu)
              have htk : ul.take (i + 1) = ul.take i ++ [ul.getD i 0] := by
                rw [List.take_add_one, List.getElem?_eq_getElem hiu, List.getD_eq_getElem?_getD, List.getElem?_eq_getElem hiu]
                rfl
              have HTK := Lib.hid htk
              clear htk hcu
              generalize ul.getD i 0 = y at cu HTK
              by_cases hmet : (m : Int) ∈ ul.take i
              · have hd1 := decide_eq_true hmet
                have HN : Hid (decide ((m : Int) ∈ ul.take (i + 1)) = true) := Lib.hid (decide_eq_true (by rw [HTK.out]; exact List.mem_append_left _ hmet))
                rw [hd1]
                clear hd1 hmet
                go_wp2
                go_roundw
                case rel => exact ⟨i + 1, by omega, by go_num, by rw [HN.out], HW⟩
                case measure => simp [intOf]; omega
              · have hd1 := decide_eq_false hmet
                rw [hd1]
                by_cases hy : y = (m : Int)
                · have HN : Hid (decide ((m : Int) ∈ ul.take (i + 1)) = true) := Lib.hid (decide_eq_true (by rw [HTK.out, hy]; simp))
                  have hy1 : (y == (m : Int)) = true := by simpa using hy
                  have hy2 : decide (y = (m : Int)) = true := decide_eq_true hy
                  clear hd1 hmet hy
                  go_wp2
                  go_roundw
                  case rel => exact ⟨i + 1, by omega, by go_num, by rw [HN.out], HW⟩
                  case measure => simp [intOf]; omega
                · have HN : Hid (decide ((m : Int) ∈ ul.take (i + 1)) = false) := Lib.hid (decide_eq_false (by rw [HTK.out, List.mem_append, List.mem_singleton]; exact fun h => h.elim hmet (fun h => hy h.symm)))
                  have hy1 : (y == (m : Int)) = false := by simpa using hy
                  have hy2 : decide (y = (m : Int)) = false := decide_eq_false hy
                  clear hd1 hmet hy
                  go_wp2
                  go_roundw
                  case rel => exact ⟨i + 1, by omega, by go_num, by rw [HN.out], HW⟩
                  case measure => simp [intOf]; omega
            · have hlti : ¬ (i : Int) < (ul.length : Int) := by omega
              have htk : ul.take i = ul := List.take_of_length_le (by omega)
              rw [htk]
              rcases HCASE.out with ⟨h1, h2, h3, h4⟩ | ⟨h1, h2, h3, h4⟩ | ⟨h1, h2, h3⟩
              · rw [h1, h2]
                have h3' : (m : Int) ≤ (x : Int) := by omega
                have h4' : (x : Int) < (e : Int) := by omega
                go_wp2
                go_roundw
                case rel => exact ⟨m + 1, by omega, by go_num, HW⟩
                case measure => simp [intOf]; omega
              · rw [h1, h2]
                have h3' : (m : Int) ≤ (x : Int) := by omega
                have h4' : ¬ (x : Int) < (e : Int) := by omega
                go_wp2
                go_roundw
                case rel => exact ⟨m + 1, by omega, by go_num, HW⟩
                case measure => simp [intOf]; omega
              · rw [h1, h2]
                have h3' : ¬ (m : Int) ≤ (x : Int) := by omega
                go_wp2
                go_roundw
                case rel => exact ⟨m + 1, by omega, by go_num, HW⟩
                case measure => simp [intOf]; omega
        · have hltm : ¬ (m : Int) < (l.length : Int) := by omega
          have HN : Hid (DitMeth.Calm W2 wr) := Lib.hid (HB4.out.trans (HW.out.mono HB4.out.size))
          go_wp2
          go_roundw
          case rel => exact ⟨x + 1, by omega, by go_num, HN⟩
          case measure => simp [intOf]; omega
    · have hlt : ¬ (x : Int) < (l.length : Int) := by omega
      go_wp2
      go_ret
      exact ⟨rfl, HB2.out.trans (HW.out.mono HB2.out.size)⟩
end Go.Proofs.YtnogmaljcocfjaaDoor.XK

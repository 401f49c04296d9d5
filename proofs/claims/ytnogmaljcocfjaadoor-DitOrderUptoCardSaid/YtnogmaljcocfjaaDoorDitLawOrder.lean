/- DitOrder: the law walked (printed). For every input and world. -/
import Derived.Test.YtnogmaljcocfjaaDoorPkF
import Derived.OpenShut
set_option linter.unusedVariables false
set_option linter.unusedSimpArgs false
namespace Go.Proofs.YtnogmaljcocfjaaDoor.XK
open Go Go.Maps Go.RowKit Go.Proofs.YtnogmaljcocfjaaDoor.Blk Go.Proofs.YtnogmaljcocfjaaDoor.DitTab Go.Proofs.YtnogmaljcocfjaaDoor.DitRow Go.Proofs.YtnogmaljcocfjaaDoor.DitTerm Go.Proofs.YtnogmaljcocfjaaDoor.DitMap Go.Proofs.YtnogmaljcocfjaaDoor.DitCheck Go.Proofs.YtnogmaljcocfjaaDoor.DitCopy Go.Proofs.YtnogmaljcocfjaaDoor.DitPure Go.Proofs.YtnogmaljcocfjaaDoor.DitSort Go.Proofs.YtnogmaljcocfjaaDoor.DitBuild Go.Proofs.YtnogmaljcocfjaaDoor.DitMeth Go.Proofs.YtnogmaljcocfjaaDoor.DitGr Go.Proofs.YtnogmaljcocfjaaDoor.DitLaw Go.Proofs.YtnogmaljcocfjaaDoor.Keys Go.Proofs.YtnogmaljcocfjaaDoorW.PrintWords Go.Proofs.YtnogmaljcocfjaaDoorW.PrintLast Go.Proofs.YtnogmaljcocfjaaDoorW.PrintMore
/-- The places seen so far. -/
structure OW (W2 : World) (gs n : Nat) (p : List Nat) (i : Nat) (wr : World) : Prop where
  calm : DitMeth.Calm W2 wr
  low : W2.heap.size ≤ gs
  seen : ∃ cur : List Value, At wr gs cur 4 ∧ cur.length = n ∧ ∀ j, j < n → cur[j]? = some (.bool (decide (j ∈ p.take i)))
theorem OW.on {W2 wr wr' : World} {gs n i : Nat} {p : List Nat} (h : OW W2 gs n p i wr) (k : DitMeth.Calm wr wr') : OW W2 gs n p i wr' := by
  obtain ⟨cur, a, b⟩ := h.seen
  exact ⟨h.calm.trans (k.mono h.calm.size), h.low, cur, a.below k a.lt, b⟩
theorem OW.set {W2 wr : World} {gs n i : Nat} {p : List Nat} (h : OW W2 gs n p i wr) (hp : p.length = n) (hi : i < n) (hq : p.getD i 0 < n) : OW W2 gs n p (i + 1) (wr.setCell ⟨gs, p.getD i 0, none⟩ (.bool true)) := by
  obtain ⟨cur, a, b, c⟩ := h.seen
  have e : p.take (i + 1) = p.take i ++ [p.getD i 0] := by
    rw [List.take_add_one, List.getElem?_eq_getElem (by omega), List.getD_eq_getElem?_getD, List.getElem?_eq_getElem (by omega)]
    rfl
  refine ⟨below_set h.calm h.low h.calm.size _, h.low, cur.set (p.getD i 0) (.bool true), a.set _ _, by rw [List.length_set]; exact b, fun j hj => ?_⟩
  rw [List.getElem?_set]
  by_cases hjq : p.getD i 0 = j
  · rw [if_pos hjq, if_pos (by omega)]
    have : j ∈ p.take (i + 1) := by rw [e, ← hjq]; simp
    rw [decide_eq_true this]
  · rw [if_neg hjq, c j hj]
    have : j ∈ p.take (i + 1) ↔ j ∈ p.take i := by
      rw [e, List.mem_append, List.mem_singleton]
      exact ⟨fun h => h.elim id (fun h => absurd h.symm hjq), .inl⟩
    rw [decide_eq_decide.2 this]
theorem info4 : (Tryd.prog.info? 4).map (fun i => (i.zero, i.size, i.bytes)) = some (some (.bool false), 1, 1) := by kernel_rfl
theorem made_false (n : Nat) : (madeCells #[Value.bool false] n).toList = List.replicate n (.bool false) := by
  apply List.ext_getElem
  · simp [size_madeCells]
  · intro i h1 h2
    simp [madeCells, Nat.mod_one]
theorem ow_start {W2 : World} {n : Nat} {p : List Nat} {Z : Array Value} (hZ : Z.toList = List.replicate n (Value.bool false)) : OW W2 W2.heap.size n p 0 (W2.alloc (.cells Z 4)) := by
  refine ⟨below_alloc (Below.refl _ _) _, Nat.le_refl _, Z.toList, ?_, by rw [hZ]; simp, fun j hj => by rw [hZ, List.getElem?_replicate, if_pos hj]; simp⟩
  have := At.fresh W2 Z.toList 4
  rwa [Array.toArray_toList] at this
open Classical in
noncomputable def rosterlaw09_DitOrder.f (l0 : List ByteArray) (l1 : List S86) : Option Bool := if InOK l0 l1 then some true else none
set_option maxHeartbeats 8000000 in
set_option maxRecDepth 100000 in
theorem rosterlaw09_DitOrder.calls (A0 : Option Addr) (c0 : Nat) (l0 : List ByteArray) (A1 : Option Addr) (c1 : Nat) (l1 : List S86) (r : Bool) (w : World) (hG : Tabs w) (hr0 : Kd.C Kd.string w A0 l0.length l0) (hc0 : l0.length ≤ c0) (hr1 : Kd.C k86 w A1 l1.length l1) (hc1 : l1.length ≤ c1) (h : rosterlaw09_DitOrder.f l0 l1 = some r) :
    Calls Tryd.prog 5 #[.slice A0 l0.length c0, .slice A1 l1.length c1] w fun e w' => e = .returned (.bool r) ∧ Below w.heap.size w w' := by
  unfold rosterlaw09_DitOrder.f at h
  split at h
  case isFalse => cases h
  case isTrue hIN =>
  obtain rfl := Option.some.inj h
  have hI := hIN
  obtain ⟨l, hl⟩ : ∃ l, l = grownL l0 l1 := ⟨_, rfl⟩
  have hgn : GN l0 l1 l1.length l := by rw [hl]; exact grown_gn hI l1.length (Nat.le_refl _)
  have GA := grown_as w A0 A1 c0 c1 l0 l1 hr0 hr1 hI
  rw [← hl] at GA
  have HGA := Lib.hid GA
  have HGN := Lib.hid hgn
  have HF := Lib.hid (hgn.fit hI (Nat.le_refl _))
  have HG := Lib.hid hG
  have HIN := Lib.hid hI
  have hll := (hgn.fit hI (Nat.le_refl _)).len
  have hlp : 0 < l.length := by have := hgn.good.pos; simpa using this
  clear h GA hgn hG hI hl hr0 hr1 hIN
  have hmk := run_make_row' (P := Tryd.prog) 50 4 (.bool false) 1 Tryd.underlying50 info4 rfl .i64 .i64 l.length (by omega) (by omega)
  have hZ := made_false l.length
  generalize madeCells #[Value.bool false] l.length = Z at hmk hZ
  go_enter Tryd.func5, Tryd.ntmps5
  go_wp2_with (first
    | (go_at_call 20; ((with_reducible refine HGA.out.mono ?_); rintro e W1 ⟨v1, rfl, ho, hb⟩; obtain ⟨A2, c2, hv1, hl2, hC2⟩ := Kd.R_reads ho; subst hv1; have HB1 : Hid (Below w.heap.size w W1) := Lib.hid hb; have HC2 := Lib.hid hC2; clear ho hb hC2))
    | (go_at_call 21; ((with_reducible refine (built_law W1 A2 c2 l HC2.out hl2 HF.out (Tabs_at HG.out HB1.out) HGN.out.good).mono ?_); rintro e W2 ⟨tb, p, PI, rfl, hP, hT, hb⟩; have HP := Lib.hid hP; have HL : Hid (LT l p PI tb A2 W2) := Lib.hid ⟨Kd.C_below HC2.out hb, hT, Tabs_at HG.out (HB1.out.trans (hb.mono HB1.out.size))⟩; have HB2 : Hid (Below w.heap.size w W2) := Lib.hid (HB1.out.trans (hb.mono HB1.out.size)); clear hP hT hb))
    | go_in)
  have HO0 := Lib.hid (ow_start (W2 := W2) (p := p) hZ)
  obtain ⟨W3, hW3⟩ : ∃ W3, W3 = W2.alloc (.cells Z 4) := ⟨_, rfl⟩
  obtain ⟨gs, hgs⟩ : ∃ g, g = W2.heap.size := ⟨_, rfl⟩
  rw [← hW3, ← hgs] at HO0 ⊢
  clear hW3 hgs hmk hZ
  have hpos := HP.out.pos
  obtain ⟨b, o, hA2, hbl, hEn⟩ := ents_at HL.out.list hlp
  subst hA2
  have HE := Lib.hid hEn
  clear hEn
  go_loopw [8, 9] (fun v8 v9 wr => ∃ i : Nat, i ≤ l.length ∧ v8 = .int .i64 (i : Nat) ∧ Hid (OW W2 gs l.length p i wr)) (fun v _ _ => l.length - (intOf v).toNat)
  case atStart => exact ⟨0, Nat.zero_le _, rfl, HO0⟩
  case round =>
    clear HO0
    obtain ⟨i, hi, rfl, HW⟩ := hrel
    by_cases hin : i < l.length
    · have hlt : (i : Int) < (l.length : Int) := by omega
      have hwi : IntKind.i64.wrap ((i : Int) + 1) = ((i + 1 : Nat) : Int) := by rw [IntWalk.i64_in _ (by omega)]; rfl
      have hqm := HP.out.mem hin
      have hE2 := HE.out _ hqm
      have HSET := Lib.hid (HW.out.set HP.out.len hin hqm)
      have hplc := HP.out.place hin
      obtain ⟨cur, hcu, hcl, hcj⟩ := HW.out.seen
      have ks := hcu.get (p.getD i 0) _ (hcj _ hqm)
      have fs := hcu.free (p.getD i 0)
      have hnot : decide (p.getD i 0 ∈ p.take i) = false := by
        refine decide_eq_false fun hm => ?_
        obtain ⟨j, hj, hjl, e⟩ := DitPure.take_getD (d := 0) hm
        have := HP.out.inj (by have := HP.out.len; omega) hin e
        omega
      rw [hnot] at ks
      have hkey := HP.out.kl1 (p.getD i 0)
      have hfe := fit_ent HF.out (p.getD i 0)
      have HEN := Lib.hid (fun (w : World) (hT : TreeAt l p l.length PI tb w) => entryC HP.out hT hin)
      obtain ⟨A5, d5, A6, d6, e2, e3, hec⟩ := EC.ent hE2
      have HEC := Lib.hid (hec (by show (ent l (p.getD i 0)).f2.length ≤ _; omega))
      have e0 := hE2.c0
      have e1 := hE2.c1
      change W2.cell? ⟨b, o + p.getD i 0 * 4 + 2, none⟩ = some (.slice A5 (ent l (p.getD i 0)).f2.length d5) at e2
      change W2.cell? ⟨b, o + p.getD i 0 * 4 + 3, none⟩ = some (.slice A6 (ent l (p.getD i 0)).f3.length d6) at e3
      change W2.cell? ⟨b, o + p.getD i 0 * 4, none⟩ = some (.int .i64 (ent l (p.getD i 0)).f0) at e0
      change W2.cell? ⟨b, o + p.getD i 0 * 4 + 1, none⟩ = some (.string (ent l (p.getD i 0)).f1) at e1
      change Hid (EC W2 (ent l (p.getD i 0)) A5 d5 A6 d6) at HEC
      have hAH := fun (h0 : 0 < i) => HP.out.ts.ris (i - 1) i (by omega) (by rw [HP.out.slen]; exact hin)
      obtain ⟨ke, hke⟩ := Ev.rounds (DitEv.entry_true (ent l (p.getD i 0)).f0 (ent l (p.getD i 0)).f1 (ent l (p.getD i 0)).f2 (ent l (p.getD i 0)).f3 (by omega) hfe.2.1 hfe.2.2)
      generalize hx : ent l (p.getD i 0) = x at e0 e1 e2 e3 HEC HEN hke
      have HX := Lib.hid hx
      generalize hq : p.getD i 0 = q at hqm hplc HSET ks fs e0 e1 e2 e3
      have hql : (q : Int) < (l.length : Int) := by omega
      have hq0 : ¬ ((q : Int) < 0) := by omega
      have hqg : ¬ ((l.length : Int) ≤ (q : Int)) := by omega
      have HKE := Lib.hid hke
      clear hcu hcl hcj hnot hkey hfe hec hke hE2 hx hq
      have HPL := Lib.hid (fun (w : World) (hT : TreeAt l p l.length PI tb w) => by have := place_as hT (i : Int); rw [hplc] at this; exact this)
      clear hplc
      have ht1 := HL.out.tree.below HW.out.calm
      go_wp2_with (first
        | (go_at_call 25; ((with_reducible refine (HPL.out wr ht1).mono ?_); rintro e W4 ⟨rfl, rfl⟩))
        | go_in)
      obtain ⟨W5, eW5⟩ : ∃ W, W = W4.setCell ⟨gs, q, none⟩ (.bool true) := ⟨_, rfl⟩
      rw [← eW5] at HSET ⊢
      clear eW5 ks fs ht1 HW HPL
      have k0 := (HSET.out.calm.cell (p := ⟨b, o + q * 4, none⟩) hbl).trans e0
      have k1 := (HSET.out.calm.cell (p := ⟨b, o + q * 4 + 1, none⟩) hbl).trans e1
      have k2 := (HSET.out.calm.cell (p := ⟨b, o + q * 4 + 2, none⟩) hbl).trans e2
      have k3 := (HSET.out.calm.cell (p := ⟨b, o + q * 4 + 3, none⟩) hbl).trans e3
      have hb5 : b < W5.heap.size := Nat.lt_of_lt_of_le hbl HSET.out.calm.size
      refine start_ (n := 9) (S := fun w' => w'.cell? ⟨b, o + q * 4, none⟩ = some (.int .i64 x.f0) ∧ w'.cell? ⟨b, o + q * 4 + 1, none⟩ = some (.string x.f1) ∧ w'.cell? ⟨b, o + q * 4 + 2, none⟩ = some (.slice A5 x.f2.length d5) ∧ w'.cell? ⟨b, o + q * 4 + 3, none⟩ = some (.slice A6 x.f3.length d6)) (ds := []) #[false, false, false, false, false, false, false, false, false] (by kernel_rfl) rfl rfl ⟨k0, k1, k2, k3⟩ (fun hHeld => ?_)
      refine pure_ (i := 0) (N := some 46) (v := ?_) (a' := ?_) #[true, false, false, false, false, false, false, false, false] rfl rfl (by kernel_rfl) (fun _ _ _ h => h) (Or.inl ⟨by rfl, ?_⟩) ?_ ?_
      rotate_left
      · intro w'
        go_simp
        with_reducible rfl
      rotate_left
      · simp only [Act.put, List.setIfInBounds_toArray, List.set_cons_zero, List.set_cons_succ, i64_w, i32_w]
        rfl
      refine pure_ (i := 1) (N := some 47) (v := ?_) (a' := ?_) #[true, true, false, false, false, false, false, false, false] rfl rfl (by kernel_rfl) (fun _ _ _ h => h) (Or.inl ⟨by rfl, ?_⟩) ?_ ?_
      rotate_left
      · intro w'
        go_simp
        with_reducible rfl
      rotate_left
      · simp only [Act.put, List.setIfInBounds_toArray, List.set_cons_zero, List.set_cons_succ, i64_w, i32_w]
        rfl
      refine pure_ (i := 3) (N := some 49) (v := ?_) (a' := ?_) #[true, true, false, true, false, false, false, false, false] rfl rfl (by kernel_rfl) (fun _ _ _ h => h) (Or.inl ⟨by rfl, ?_⟩) ?_ ?_
      rotate_left
      · intro w'
        go_simp
        with_reducible rfl
      rotate_left
      · simp only [Act.put, List.setIfInBounds_toArray, List.set_cons_zero, List.set_cons_succ, i64_w, i32_w]
        rfl
      refine pure_ (i := 4) (N := some 50) (v := ?_) (a' := ?_) #[true, true, false, true, true, false, false, false, false] rfl rfl (by kernel_rfl) (fun _ _ _ h => h) (Or.inl ⟨by rfl, ?_⟩) ?_ ?_
      rotate_left
      · intro w'
        go_simp
        with_reducible rfl
      rotate_left
      · simp only [Act.put, List.setIfInBounds_toArray, List.set_cons_zero, List.set_cons_succ, i64_w, i32_w]
        rfl
      refine pure_ (i := 5) (N := some 51) (v := ?_) (a' := ?_) #[true, true, false, true, true, true, false, false, false] rfl rfl (by kernel_rfl) (fun _ _ _ h => h) (Or.inl ⟨by rfl, ?_⟩) ?_ ?_
      rotate_left
      · intro w'
        go_simp
        with_reducible rfl
      rotate_left
      · simp only [Act.put, List.setIfInBounds_toArray, List.set_cons_zero, List.set_cons_succ, i64_w, i32_w]
        rfl
      refine take_ (i := 6) (N := some 52) (v := ?_) (a' := ?_) #[true, true, false, true, true, true, true, false, false] rfl rfl (by kernel_rfl) (fun _ _ _ h => h) (Or.inl ⟨by rfl, ?_⟩) hHeld ?_ ?_
      rotate_left
      · rintro w' ⟨s0, s1, s2, s3⟩
        go_simp
        with_reducible rfl
      rotate_left
      · simp only [Act.put, List.setIfInBounds_toArray, List.set_cons_zero, List.set_cons_succ, i64_w, i32_w]
        rfl
      refine one_ (i := 2) (N := some 48) #[true, true, true, true, true, true, true, false, false] rfl rfl (by kernel_rfl) (by decide) (fun K hK => ?_)
      refine goes_ Tryd.func27 (by kernel_rfl) rfl #[TP tb, .int .i64 (i : Int)] (by rfl) rfl rfl (by simp only [List.map_toArray, List.map_cons, List.map_nil]; rfl) ?_
      with_reducible refine (HEN.out _ (HL.out.tree.below (by repeat (first | exact HSET.out.calm | apply pw_below_drewN | apply below_drew1)))).mono ?_
      rintro e W6 ⟨B2, d2, B3, d3, rfl, hec, hb⟩
      have HB6 : Hid (DitMeth.Calm W5 W6) := Lib.hid (by repeat (first | exact hb | apply undrewN | apply undrew1))
      have HEC6 : Hid (EC W6 x B2 d2 B3 d3) := Lib.hid hec
      clear hec hb
      refine ⟨_, rfl, ?_⟩
      refine hK.out _ _ ⟨(HB6.out.cell (p := ⟨b, o + q * 4, none⟩) hb5).trans k0, (HB6.out.cell (p := ⟨b, o + q * 4 + 1, none⟩) hb5).trans k1, (HB6.out.cell (p := ⟨b, o + q * 4 + 2, none⟩) hb5).trans k2, (HB6.out.cell (p := ⟨b, o + q * 4 + 3, none⟩) hb5).trans k3⟩ (fun hHeld => ?_)
      clear hK K
      refine norm_ (a' := ?_) ?_ ?_
      rotate_left
      · show Act.put _ (some 48) _ = _
        simp only [Act.put, List.setIfInBounds_toArray, List.set_cons_zero, List.set_cons_succ, i64_w, i32_w]
        rfl
      refine one_ (i := 7) (N := some 53) #[true, true, true, true, true, true, true, true, false] rfl rfl (by kernel_rfl) (by decide) (fun K hK => ?_)
      refine goes_ Tryd.func26 (by kernel_rfl) rfl #[.agg #[.int .i64 x.f0, .string x.f1, .slice B2 x.f2.length d2, .slice B3 x.f3.length d3], .agg #[.int .i64 x.f0, .string x.f1, .slice A5 x.f2.length d5, .slice A6 x.f3.length d6]] (by rfl) rfl rfl (by simp only [List.map_toArray, List.map_cons, List.map_nil]; rfl) ?_
      with_reducible refine (rosterlaw09_sameEntry.calls ke x.f0 x.f1 B2 d2 x.f2 B3 d3 x.f3 x.f0 x.f1 A5 d5 x.f2 A6 d6 x.f3 true _ (by exact (HEC6.out.calm (by repeat (first | exact Below.refl _ _ | apply below_alloc | apply pw_below_drewN | apply below_drew1))).key) HEC6.out.kc (by exact (HEC6.out.calm (by repeat (first | exact Below.refl _ _ | apply below_alloc | apply pw_below_drewN | apply below_drew1))).att) HEC6.out.ac (by exact (HEC.out.calm (HSET.out.calm.trans ((HB6.out.trans (((by repeat (first | exact Below.refl _ _ | apply below_alloc | apply pw_below_drewN | apply below_drew1)) : Below W6.heap.size W6 _).mono HB6.out.size)).mono HSET.out.calm.size))).key) HEC.out.kc (by exact (HEC.out.calm (HSET.out.calm.trans ((HB6.out.trans (((by repeat (first | exact Below.refl _ _ | apply below_alloc | apply pw_below_drewN | apply below_drew1)) : Below W6.heap.size W6 _).mono HB6.out.size)).mono HSET.out.calm.size))).att) HEC.out.ac HKE.out).mono ?_
      rintro e W7 ⟨rfl, hb⟩
      have HB7 : Hid (DitMeth.Calm W6 W7) := Lib.hid (by repeat (first | exact hb | apply undrewN | apply undrew1))
      clear hb
      refine ⟨_, rfl, ?_⟩
      refine hK.out _ _ ⟨((HB6.out.trans (HB7.out.mono HB6.out.size)).cell (p := ⟨b, o + q * 4, none⟩) hb5).trans k0, ((HB6.out.trans (HB7.out.mono HB6.out.size)).cell (p := ⟨b, o + q * 4 + 1, none⟩) hb5).trans k1, ((HB6.out.trans (HB7.out.mono HB6.out.size)).cell (p := ⟨b, o + q * 4 + 2, none⟩) hb5).trans k2, ((HB6.out.trans (HB7.out.mono HB6.out.size)).cell (p := ⟨b, o + q * 4 + 3, none⟩) hb5).trans k3⟩ (fun hHeld => ?_)
      clear hK K
      refine norm_ (a' := ?_) ?_ ?_
      rotate_left
      · show Act.put _ (some 53) _ = _
        simp only [Act.put, List.setIfInBounds_toArray, List.set_cons_zero, List.set_cons_succ, i64_w, i32_w]
        rfl
      refine pure_ (i := 8) (N := some 54) (v := ?_) (a' := ?_) #[true, true, true, true, true, true, true, true, true] rfl rfl (by kernel_rfl) (fun _ _ _ h => h) (Or.inl ⟨by rfl, ?_⟩) ?_ ?_
      rotate_left
      · intro w'
        go_simp
        with_reducible rfl
      rotate_left
      · simp only [Act.put, List.setIfInBounds_toArray, List.set_cons_zero, List.set_cons_succ, i64_w, i32_w]
        rfl
      refine done_ (by kernel_rfl) ?_
      by_cases h0 : 0 < i
      · have hi0 : (0 : Int) < (i : Int) := by omega
        have hwm : IntKind.i64.wrap ((i : Int) - 1) = ((i - 1 : Nat) : Int) := by rw [IntWalk.i64_in _ (by omega)]; omega
        have hx1m := HP.out.mem (show i - 1 < l.length by omega)
        have hcm := hAH h0
        rw [HP.out.key (show i - 1 < l.length by omega), HP.out.key hin, HX.out] at hcm
        have HEM := Lib.hid (fun (w : World) (hT : TreeAt l p l.length PI tb w) => entryC HP.out hT (show i - 1 < l.length by omega))
        have hk1 := HP.out.kl1 (p.getD (i - 1) 0)
        generalize ent l (p.getD (i - 1) 0) = y at HEM hcm hk1
        obtain ⟨ka, hka⟩ := Ev.rounds (DitEv.ahead_true y.f2 x.f2 (by omega) hcm)
        have HKA := Lib.hid hka
        have HCW : Hid (DitMeth.Calm W2 W7) := Lib.hid (HSET.out.calm.trans ((HB6.out.trans (HB7.out.mono HB6.out.size)).mono HSET.out.calm.size))
        have hfd := field45
        clear hka hcm hAH
        go_wp2_with (first
          | (go_at_call 27; ((with_reducible refine (HEM.out W7 (HL.out.tree.below HCW.out)).mono ?_); rintro e W8 ⟨C2, g2, C3, g3, rfl, hec8, hb8⟩; have HB8 : Hid (DitMeth.Calm W7 W8) := Lib.hid hb8; have HEC8 := Lib.hid hec8; clear hec8 hb8))
          | (go_at_call 27; ((with_reducible refine (HEN.out W8 (HL.out.tree.below (HCW.out.trans (HB8.out.mono HCW.out.size)))).mono ?_); rintro e W9 ⟨D2, j2, D3, j3, rfl, hec9, hb9⟩; have HB9 : Hid (DitMeth.Calm W8 W9) := Lib.hid hb9; have HEC9 := Lib.hid hec9; clear hec9 hb9))
          | (go_at_call 28; ((with_reducible refine (rosterlaw09_ahead.calls ka C2 g2 y.f2 D2 j2 x.f2 true W9 (HEC8.out.calm HB9.out).key HEC8.out.kc HEC9.out.key HEC9.out.kc HKA.out).mono ?_); rintro e W10 ⟨rfl, hd⟩; have HN : Hid (OW W2 gs l.length p (i + 1) W10) := Lib.hid (HSET.out.on (HB6.out.trans ((HB7.out.trans ((HB8.out.trans ((HB9.out.trans (hd.below.mono HB9.out.size)).mono HB8.out.size)).mono HB7.out.size)).mono HB6.out.size))); clear hd))
          | go_in)
        go_roundw
        case rel => exact ⟨i + 1, by omega, by go_num, HN⟩
        case measure => simp [intOf]; omega
      · have hi0 : ¬ (0 : Int) < (i : Int) := by omega
        have hd0 : decide (0 < i) = false := decide_eq_false h0
        have hd1 : decide ((0 : Int) < (i : Int)) = false := decide_eq_false hi0
        have HN : Hid (OW W2 gs l.length p (i + 1) W7) := Lib.hid (HSET.out.on (HB6.out.trans (HB7.out.mono HB6.out.size)))
        clear hAH
        go_wp2
        go_roundw
        case rel => exact ⟨i + 1, by omega, by go_num, HN⟩
        case measure => simp [intOf]; omega
    · have hlt : ¬ (i : Int) < (l.length : Int) := by omega
      have ht1 := HL.out.tree.below HW.out.calm
      have p1 := place_as ht1 (l.length : Int)
      have p2 := place_as ht1 (-1)
      have p3 := place_as ht1 0
      have q1 : placeR p l.length (l.length : Int) = -1 := by unfold placeR; rw [show isIn l.length (l.length : Int) = false by simp [isIn]]; rfl
      have q2 : placeR p l.length (-1) = -1 := by unfold placeR; rw [show isIn l.length (-1) = false by simp [isIn]]; rfl
      have q3 : placeR p l.length 0 = 0 := by have := HP.out.place hlp; rw [HP.out.zero] at this; exact this
      rw [q1] at p1
      rw [q2] at p2
      rw [q3] at p3
      have HP1 := Lib.hid p1
      have HP2 := Lib.hid p2
      have HP3 := Lib.hid p3
      have HCL : Hid (Below w.heap.size w wr) := Lib.hid (HB2.out.trans (HW.out.calm.mono HB2.out.size))
      clear p1 p2 p3 q1 q2 q3 ht1 HW
      go_wp2_with (first
        | (go_at_call 25; ((with_reducible refine HP1.out.mono ?_); rintro e W4 ⟨rfl, h4⟩; subst W4))
        | (go_at_call 25; ((with_reducible refine HP2.out.mono ?_); rintro e W4 ⟨rfl, h4⟩; subst W4))
        | (go_at_call 25; ((with_reducible refine HP3.out.mono ?_); rintro e W4 ⟨rfl, h4⟩; subst W4))
        | go_in)
      go_ret
      exact ⟨rfl, HCL.out⟩
end Go.Proofs.YtnogmaljcocfjaaDoor.XK

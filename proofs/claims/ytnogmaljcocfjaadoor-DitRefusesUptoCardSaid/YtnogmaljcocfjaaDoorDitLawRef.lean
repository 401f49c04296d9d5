/- DitRefuses: the law walked (printed). For every input and world. -/
import Derived.Test.YtnogmaljcocfjaaDoorPkF
import Derived.OpenShut
set_option linter.unusedVariables false
set_option linter.unusedSimpArgs false
namespace Go.Proofs.YtnogmaljcocfjaaDoor.XK
open Go Go.Maps Go.RowKit Go.Proofs.YtnogmaljcocfjaaDoor.Blk Go.Proofs.YtnogmaljcocfjaaDoor.DitTab Go.Proofs.YtnogmaljcocfjaaDoor.DitRow Go.Proofs.YtnogmaljcocfjaaDoor.DitTerm Go.Proofs.YtnogmaljcocfjaaDoor.DitMap Go.Proofs.YtnogmaljcocfjaaDoor.DitCheck Go.Proofs.YtnogmaljcocfjaaDoor.DitCopy Go.Proofs.YtnogmaljcocfjaaDoor.DitPure Go.Proofs.YtnogmaljcocfjaaDoor.DitSort Go.Proofs.YtnogmaljcocfjaaDoor.DitBuild Go.Proofs.YtnogmaljcocfjaaDoor.DitMeth Go.Proofs.YtnogmaljcocfjaaDoor.DitGr Go.Proofs.YtnogmaljcocfjaaDoor.DitLaw Go.Proofs.YtnogmaljcocfjaaDoor.Keys Go.Proofs.YtnogmaljcocfjaaDoorW.PrintWords Go.Proofs.YtnogmaljcocfjaaDoorW.PrintLast Go.Proofs.YtnogmaljcocfjaaDoorW.PrintMore
/-- Bounds on what comes in, with a part more. -/
structure InR (l0 : List ByteArray) (l1 : List S86) (pt : ByteArray) (wh : Int) : Prop where
  inn : InOK l0 l1
  len : l0.length + l1.length + 2 ≤ 1048574
  bulk : bulkK l0 + (l1.map fun k => k.f1.size + 22).sum + (pt.size + 22) + (pt.size + 22) ≤ 29360128 + 2097152
  part : pt.size ≤ 1048576
  wh : wfi wh
theorem app_at {K M : List (List ByteArray)} {i : Nat} (h : i < K.length) : (K ++ M).getD i [] = K.getD i [] ∧ (K ++ M).take i = K.take i := by
  rw [List.getD_eq_getElem?_getD, List.getElem?_append_left h, List.getD_eq_getElem?_getD, List.take_append_of_le_length (by omega)]
  exact ⟨rfl, rfl⟩
/-- Behind a list that is taken, the first entry more is the one at fault. -/
theorem chk_more {K : List (List ByteArray)} (h : DitBuild.Good K) (k : List ByteArray) (M : List (List ByteArray)) {f : Int} (hf : f ≠ 0) (hk : (k ∈ K ∧ f = 90) ∨ (k ∉ K ∧ f = 91 ∧ (k = [] ∨ k.dropLast ∉ K))) : chk (K ++ k :: M) = (f, (K.length : Int)) := by
  have hat : (K ++ k :: M).getD K.length [] = k := by rw [List.getD_eq_getElem?_getD, List.getElem?_append_right (Nat.le_refl _)]; simp
  have htk : (K ++ k :: M).take K.length = K := by rw [List.take_append_of_le_length (Nat.le_refl _), List.take_length]
  have hfa : faultAt (K ++ k :: M) K.length = f := by
    unfold faultAt
    rw [hat, htk]
    have := h.pos
    rcases hk with ⟨h1, h2⟩ | ⟨h1, h2, h3⟩
    · rw [if_pos h1, h2]
    · rw [if_neg h1, if_neg (by omega), if_pos h3, h2]
  have := chk_at (K := K ++ k :: M) (i := K.length) (by rw [List.length_append, List.length_cons]; omega) (fun j hj => ?_) (by rw [hfa]; exact hf)
  · rw [this, hfa]
  · obtain ⟨a1, a2⟩ := app_at (K := K) (M := k :: M) hj
    refine fault_ok.2 ?_
    rw [a1, a2]
    exact fault_ok.1 ((chk_good.1 (good_iff.2 h)).2 j hj)
/-- A key two parts longer than one of the list, whose parent is not there. -/
theorem far_key {l : List S45} {l0 : List ByteArray} {l1 : List S86} (g : GN l0 l1 l1.length l) {k : List ByteArray} {pt : ByteArray} (hk : k ∈ Keys l) (hn : k ++ [pt] ∉ Keys l) : (k ++ [pt]) ++ [pt] ∉ Keys l ∧ ((k ++ [pt]) ++ [pt]).dropLast ∉ Keys l := by
  have hd : ((k ++ [pt]) ++ [pt]).dropLast = k ++ [pt] := List.dropLast_concat
  refine ⟨fun hm => ?_, by rw [hd]; exact hn⟩
  obtain ⟨i, hi, e⟩ := DitPure.mem_getD (d := []) hm
  by_cases h0 : i = 0
  · subst h0
    obtain ⟨e2, he2, e3⟩ := List.mem_map.1 hk
    have h1 := (g.key e2 he2).2.2.2.length_le
    have h2 := g.base
    have h3 : (Keys l).getD 0 [] = (ent l 0).f2 := keys_at (by simpa using hi)
    rw [h3, h2] at e
    rw [e, ← e3] at h1
    simp at h1
    omega
  · have h1 := (g.good.par i (by omega) hi).2
    rw [e, hd] at h1
    exact hn (List.mem_of_mem_take h1)
/-- The copies, and two entries laid beside them. -/
structure RQ (W : World) (m : Nat) (l : List S45) (cells : Array Value) (A : Option Addr) (c g : Nat) (w' : World) : Prop where
  calm : DitMeth.Calm W w'
  own : Kd.R k45 45 w' m (fun k => W.heap.size ≤ k) (.slice A l.length c) l
  lit : w'.heap[g]? = some (.cells cells 45 (0, 0))
  ne : some g ≠ (Value.slice A l.length c).ownBlock
theorem C_cutR {W : World} {A : Option Addr} {c : Nat} {l : List ByteArray} (h : Kd.C Kd.string W A l.length l) (hc : l.length ≤ c) (hl : l.length ≤ 1048576) {k : List ByteArray} (hk : k = l.take k.length) : Kd.C Kd.string W A k.length k := by
  obtain ⟨q, hq⟩ := rowS_of_C h hc
  have hkl : k.length ≤ l.length := by
    have := congrArg List.length hk
    rw [List.length_take] at this
    omega
  have := hq.take k.length hkl c (by omega)
  rw [← hk] at this
  exact CS_of_row this (by omega)
theorem rq_first {W W7 : World} {m : Nat} {l : List S45} {cells : Array Value} {A : Option Addr} {c : Nat} (hm : m ≤ W.heap.size) (hb : DitMeth.Calm W W7) (ho : Kd.R k45 45 W7 W.heap.size (fun _ => True) (.slice A l.length c) l) : RQ W m l cells A c W7.heap.size (W7.alloc (.cells cells 45)) := by
  refine ⟨hb.alloc hb.size _, Kd.R_alloc (Kd.R_lower (Kd.R_mono (Kd.R_bound ho) (fun k hk => hk.2.1)) hm) _, ?_, fun e => ?_⟩
  · exact World.alloc_heap_new _ _
  · have := Kd.R_lt ho _ e.symm
    omega
theorem rq_second {W W7 : World} {m : Nat} {l : List S45} {cells : Array Value} {A : Option Addr} {c : Nat} (hm : m ≤ W.heap.size) (hb : Below (W.alloc (.cells cells 45)).heap.size (W.alloc (.cells cells 45)) W7) (ho : Kd.R k45 45 W7 (W.alloc (.cells cells 45)).heap.size (fun _ => True) (.slice A l.length c) l) : RQ W m l cells A c W.heap.size W7 := by
  have hz : (W.alloc (.cells cells 45)).heap.size = W.heap.size + 1 := World.size_alloc _ _
  refine ⟨(below_alloc (Below.refl _ _) _ : Below W.heap.size W _).trans (hb.mono (by omega)), Kd.R_lower (Kd.R_mono (Kd.R_bound ho) (fun k hk => by have := hk.2.1; omega)) (by omega), ?_, fun e => ?_⟩
  · exact (hb.block _ (by omega)).trans (World.alloc_heap_new _ _)
  · have := Kd.R_base ho _ e.symm
    omega
theorem lit2_reads {W : World} {g : Nat} {a0 a1 a2 a3 b0 b1 b2 b3 : Value} (h : W.heap[g]? = some (.cells #[a0, a1, a2, a3, b0, b1, b2, b3] 45 (0, 0))) (e1 e2 : S45) : ReadsRow (fun e cs => (e = e1 ∧ cs = [a0, a1, a2, a3]) ∨ (e = e2 ∧ cs = [b0, b1, b2, b3])) 4 W (some ⟨g, 0, none⟩) 2 [e1, e2] := by
  have hat : At W g [a0, a1, a2, a3, b0, b1, b2, b3] 45 := h
  refine ⟨rfl, by decide, fun _ => ⟨_, rfl, fun j p hj => ?_⟩⟩
  have hj2 : j < 2 := (List.getElem?_eq_some_iff.1 hj).1
  rcases (show j = 0 ∨ j = 1 by omega) with rfl | rfl
  · obtain rfl : e1 = p := by simpa using hj
    refine ⟨[a0, a1, a2, a3], rfl, .inl ⟨rfl, rfl⟩, fun i u hu => ?_⟩
    rw [add_off, Nat.zero_mul, Nat.zero_add]
    have hi : i < 4 := (List.getElem?_eq_some_iff.1 hu).1
    refine hat.get _ _ ?_
    rcases (show i = 0 ∨ i = 1 ∨ i = 2 ∨ i = 3 by omega) with rfl | rfl | rfl | rfl <;> simpa using hu
  · obtain rfl : e2 = p := by simpa using hj
    refine ⟨[b0, b1, b2, b3], rfl, .inr ⟨rfl, rfl⟩, fun i u hu => ?_⟩
    rw [add_off]
    have hi : i < 4 := (List.getElem?_eq_some_iff.1 hu).1
    refine hat.get _ _ ?_
    rcases (show i = 0 ∨ i = 1 ∨ i = 2 ∨ i = 3 by omega) with rfl | rfl | rfl | rfl <;> simpa using hu
/-- An entry of one's own: what its lists are. -/
structure OE (W : World) (m : Nat) (x : S45) (B2 : Option Addr) (d2 : Nat) (B3 : Option Addr) (d3 : Nat) : Prop where
  key : Kd.R Kd.string 9 W m (fun k => k < W.heap.size) (.slice B2 x.f2.length d2) x.f2
  att : Kd.R k74 74 W m (fun k => k < W.heap.size) (.slice B3 x.f3.length d3) x.f3
theorem OE.mk2 {W : World} {m : Nat} {x : S45} {B2 B3 : Option Addr} {d2 d3 : Nat} {W' : World} {N : Nat} (h : OE W m x B2 d2 B3 d3) (hb : DitMeth.Calm W W') (hN : W.heap.size ≤ N) : k45.M W' m (fun k => k < N) x [.int .i64 x.f0, .string x.f1, .slice B2 x.f2.length d2, .slice B3 x.f3.length d3] :=
  k45_mkM _ _ _ x (Kd.R_mono (Kd.R_below h.key hb) (fun k hk => Nat.lt_of_lt_of_le hk hN)) (Kd.R_mono (Kd.R_below h.att hb) (fun k hk => Nat.lt_of_lt_of_le hk hN))
theorem OE.calm {W W' : World} {m : Nat} {x : S45} {B2 B3 : Option Addr} {d2 d3 : Nat} (h : OE W m x B2 d2 B3 d3) (hb : DitMeth.Calm W W') : OE W' m x B2 d2 B3 d3 :=
  ⟨Kd.R_mono (Kd.R_below h.key hb) (fun k hk => Nat.lt_of_lt_of_le hk hb.size), Kd.R_mono (Kd.R_below h.att hb) (fun k hk => Nat.lt_of_lt_of_le hk hb.size)⟩
open Classical in
noncomputable def rosterlaw09_DitRefuses.f (l0 : List ByteArray) (l1 : List S86) (wh : Int) (pt : ByteArray) : Option Bool := if InR l0 l1 pt wh then some true else none
set_option maxHeartbeats 8000000 in
set_option maxRecDepth 100000 in
theorem rosterlaw09_DitRefuses.calls (A0 : Option Addr) (c0 : Nat) (l0 : List ByteArray) (A1 : Option Addr) (c1 : Nat) (l1 : List S86) (wh : Int) (pt : ByteArray) (r : Bool) (w : World) (hG : Tabs w) (hr0 : Kd.C Kd.string w A0 l0.length l0) (hc0 : l0.length ≤ c0) (hr1 : Kd.C k86 w A1 l1.length l1) (hc1 : l1.length ≤ c1) (h : rosterlaw09_DitRefuses.f l0 l1 wh pt = some r) :
    Calls Tryd.prog 4 #[.slice A0 l0.length c0, .slice A1 l1.length c1, .int .i64 wh, .string pt] w fun e w' => e = .returned (.bool r) ∧ Below w.heap.size w w' := by
  unfold rosterlaw09_DitRefuses.f at h
  split at h
  case isFalse => cases h
  case isTrue hIN =>
  obtain rfl := Option.some.inj h
  have hI := hIN.inn
  obtain ⟨l, hl⟩ : ∃ l, l = grownL l0 l1 := ⟨_, rfl⟩
  have hgn : GN l0 l1 l1.length l := by rw [hl]; exact grown_gn hI l1.length (Nat.le_refl _)
  have GA := grown_as w A0 A1 c0 c1 l0 l1 hr0 hr1 hI
  rw [← hl] at GA
  have HGA := Lib.hid GA
  have HGN := Lib.hid hgn
  have HF := Lib.hid (hgn.fit hI (Nat.le_refl _))
  have HG := Lib.hid hG
  have HIN := Lib.hid hI
  have hll := (hgn.fit hI (Nat.le_refl _)).len
  have hlp : 0 < l.length := by have := hgn.good.pos; simpa using this
  clear h GA hgn hG hI hl hr0 hr1 
  have HINR := Lib.hid hIN
  have HIN0 := Lib.hid hIN.inn
  have hwr := wf_range hIN.wh
  obtain ⟨uu, huu⟩ : ∃ uu, uu = under wh := ⟨_, rfl⟩
  have hrm : Int.tmod uu (l.length : Int) = (whichE wh l.length : Int) := by
    have h0 := under_nonneg wh
    rw [← huu] at h0
    unfold whichE
    rw [← huu, Int.tmod_eq_emod_of_nonneg h0, Int.natCast_emod, Int.toNat_of_nonneg h0]
  have hql := whichE_lt wh hlp
  have hlnil : ¬ l = [] := fun e => by rw [e] at hlp; exact absurd hlp (by decide)
  have hlen0 : ¬ (l.length : Int) = 0 := by omega
  generalize whichE wh l.length = q at hrm hql
  have hqi : (q : Int) < (l.length : Int) := by omega
  obtain ⟨kc, hkc⟩ := Ev.rounds (DitEv.copies_ev l (by omega) (fun e he => by have := (HF.out.key e he).1; omega) (fun e he => HF.out.att e he))
  have HKC := Lib.hid hkc
  have hfe := fit_ent HF.out q
  obtain ⟨kd, hkd⟩ := Ev.rounds (DitEv.copied_ev (ent l q).f0 (ent l q).f1 (ent l q).f2 (ent l q).f3 (by omega) hfe.2.1 hfe.2.2)
  have HKD := Lib.hid hkd
  have hxm := ent_mem hql
  have hxk : (ent l q).f2 ∈ DitCheck.Keys l := List.mem_map_of_mem hxm
  have hxkey := GN.keyOK HIN.out (Nat.le_refl _) HGN.out hxm
  have hxg := HGN.out.key _ hxm
  clear hkc hkd hIN
  have hw2 : (wh < 0 ∧ IntKind.i64.wrap (wh + 1) = wh + 1 ∧ IntKind.i64.wrap (-(wh + 1)) = uu) ∨ (¬ wh < 0 ∧ uu = wh) := by
    by_cases hneg : wh < 0
    · exact .inl ⟨hneg, IntWalk.i64_in _ (by omega), by rw [IntWalk.i64_in _ (by omega), huu, under, if_pos hneg]⟩
    · exact .inr ⟨hneg, by rw [huu, under, if_neg hneg]⟩
  go_enter Tryd.func4, Tryd.ntmps4
  go_upto_region 4 with (first
    | (go_at_call 20; ((with_reducible refine HGA.out.mono ?_); rintro e W1 ⟨v1, rfl, ho, hb⟩; obtain ⟨A2, c2, hv1, hl2, hC2⟩ := Kd.R_reads ho; subst hv1; have HB1 : Hid (Below w.heap.size w W1) := Lib.hid hb; have HC2 := Lib.hid hC2; clear ho hb hC2))
    | (go_at_call 21; ((with_reducible refine (built_law W1 A2 c2 l HC2.out hl2 HF.out (Tabs_at HG.out HB1.out) HGN.out.good).mono ?_); rintro e W2 ⟨tb, p, PI, rfl, hP, hT, hb⟩; have HP := Lib.hid hP; have HL : Hid (LT l p PI tb A2 W2) := Lib.hid ⟨Kd.C_below HC2.out hb, hT, Tabs_at HG.out (HB1.out.trans (hb.mono HB1.out.size))⟩; have HB2 : Hid (Below w.heap.size w W2) := Lib.hid (HB1.out.trans (hb.mono HB1.out.size)); clear hP hT hb))
    | go_in)
  obtain ⟨b, o, hA2, hbl, hEn⟩ := ents_at HL.out.list hlp
  subst hA2
  have hE2 := hEn q hql
  obtain ⟨A5, d5, A6, d6, e2, e3, hec⟩ := EC.ent hE2
  have HEC := Lib.hid (hec (by show (ent l q).f2.length ≤ _; omega))
  have e0 := hE2.c0
  have e1 := hE2.c1
  change W2.cell? ⟨b, o + q * 4 + 2, none⟩ = some (.slice A5 (ent l q).f2.length d5) at e2
  change W2.cell? ⟨b, o + q * 4 + 3, none⟩ = some (.slice A6 (ent l q).f3.length d6) at e3
  change W2.cell? ⟨b, o + q * 4, none⟩ = some (.int .i64 (ent l q).f0) at e0
  change W2.cell? ⟨b, o + q * 4 + 1, none⟩ = some (.string (ent l q).f1) at e1
  change Hid (EC W2 (ent l q) A5 d5 A6 d6) at HEC
  generalize ent l q = x at e0 e1 e2 e3 HEC HKD hxm hxk hxkey hxg hfe
  clear hEn hE2 hec
  clear huu
  go_upto_if 22 with (first | go_in)
  go_cut [2] (fun v2 wc => v2 = .int .i64 uu ∧ wc = W2)
  case first =>
    rcases hw2 with ⟨h1, h2, h3⟩ | ⟨h1, h2⟩
    · go_wp2
      go_meet
      case rel => exact ⟨rfl, rfl⟩
    · have h4 : wh = uu := h2.symm
      clear h2
      go_wp2
      go_meet
      case rel => exact ⟨congrArg (Value.int .i64) h4, rfl⟩
  case rest =>
  obtain ⟨rfl, rfl⟩ := hcut
  clear hw2
  have hz2 := HL.out.tree.lt
  go_wp2_with (first
    | (go_at_call 22; ((with_reducible refine (rosterlaw09_copied.calls kd x.f0 x.f1 A5 d5 x.f2 A6 d6 x.f3 x.f0 x.f1 x.f2 x.f3 _ HEC.out.key HEC.out.kc HEC.out.att HEC.out.ac HKD.out).mono ?_); rintro e5 W5 ⟨v2, v3, rfl, ho2, ho3, hb⟩; obtain ⟨B2, d2, hv2⟩ := Kd.R_slice ho2; subst hv2; obtain ⟨B3, d3, hv3⟩ := Kd.R_slice (Kd.S_R ho3); subst hv3; have HB5 : Hid (DitMeth.Calm wc W5) := Lib.hid hb; have HOE : Hid (OE W5 wc.heap.size x B2 d2 B3 d3) := Lib.hid ⟨Kd.R_mono (Kd.R_bound ho2) (fun k hk => hk.2.2.1), Kd.R_mono (Kd.R_bound (Kd.S_R ho3)) (fun k hk => hk.2.2.1)⟩; clear ho2 ho3 hb))
    | go_in)
  obtain ⟨W6, eW6⟩ : ∃ W, W = W5.alloc (.cells #[.int .i64 x.f0, .string x.f1, .slice B2 x.f2.length d2, .slice B3 x.f3.length d3] 45) := ⟨_, rfl⟩
  have HB56 : Hid (DitMeth.Calm W5 W6) := Lib.hid (by rw [eW6]; exact below_alloc (Below.refl _ _) _)
  have hD6 : At W6 W5.heap.size [.int .i64 x.f0, .string x.f1, .slice B2 x.f2.length d2, .slice B3 x.f3.length d3] 45 := by rw [eW6]; exact At.fresh _ _ _
  have HB6 : Hid (DitMeth.Calm wc W6) := Lib.hid (HB5.out.trans (HB56.out.mono HB5.out.size))
  have HOE6 := Lib.hid (HOE.out.calm HB56.out)
  have k0 := hD6.get 0 _ rfl
  have k1 := hD6.get 1 _ rfl
  have k2 := hD6.get 2 _ rfl
  have k3 := hD6.get 3 _ rfl
  have hgd := hD6.lt
  have hm6 := HB6.out.size
  rw [← eW6]
  generalize W5.heap.size = gd at hD6 k0 k1 k2 k3 hgd ⊢
  have k0' := k0
  have k1' := k1
  have k2' := k2
  have k3' := k3
  have HD6 := Lib.hid hD6
  have HE2 : Hid (wc.cell? ⟨b, o + q * 4 + 2, none⟩ = some (.slice A5 x.f2.length d5)) := Lib.hid e2
  clear eW6 HB5 HOE HB56 hD6 e0 e1 e2 e3 HKD
  obtain ⟨m, hmm⟩ : ∃ m, m = wc.heap.size := ⟨_, rfl⟩
  rw [← hmm] at HOE6 hm6
  clear hmm
  have HCL : Hid (∀ W, DitMeth.Calm W6 W → Kd.C k45 W (some ⟨b, o, none⟩) l.length l) := Lib.hid (fun W hW => Kd.C_below HL.out.list (HB6.out.trans (hW.mono HB6.out.size)))
  have HTB : Hid (∀ W, DitMeth.Calm W6 W → Tabs W) := Lib.hid (fun W hW => Tabs_at HL.out.tabs (HB6.out.trans (hW.mono HB6.out.size)))
  have HB26 : Hid (Below w.heap.size w W6) := Lib.hid (HB2.out.trans (HB6.out.mono HB2.out.size))
  have hb6 : b < W6.heap.size := Nat.lt_of_lt_of_le hbl HB6.out.size
  have HFX : Hid (∀ y : S45, y.f2.length ≤ 1048576 → bulkK y.f2 ≤ 33554432 → (∀ q ∈ y.f2, q.size ≤ 1048576) → (y.f3.length ≤ 1048576 ∧ ∀ a ∈ y.f3, a.f2.length ≤ 1048576) → ∀ M, M.length ≤ 2 → (∀ e ∈ M, e = y ∨ e = x) → l.length + M.length ≤ 1048576 → Fit (l ++ M)) := Lib.hid (fun y h1 h2 h3 h4 M hM hMm hlM => by
    have hx1 := HF.out.key x hxm
    have hx2 := HF.out.att x hxm
    refine ⟨by rw [List.length_append]; exact hlM, fun e he => ?_, fun e he => ?_⟩
    · rcases List.mem_append.1 he with he | he
      · exact HF.out.key e he
      · rcases hMm e he with rfl | rfl
        · exact ⟨h1, h2, h3⟩
        · exact hx1
    · rcases List.mem_append.1 he with he | he
      · exact HF.out.att e he
      · rcases hMm e he with rfl | rfl
        · exact h4
        · exact hx2)
  have hl2' : l.length + 2 ≤ 1048576 := by have := HGN.out.len; have := HINR.out.len; omega
  have HF7 := Lib.hid (HFX.out x hxkey.len hxkey.bulk hxkey.part (HF.out.att x hxm) [x, x] (by simp) (by simp) (by simpa using hl2'))
  have hchk7 : chk (DitCheck.Keys (l ++ [x, x])) = (90, (l.length : Int)) := by
    have := chk_more HGN.out.good x.f2 [x.f2] (f := 90) (by decide) (.inl ⟨hxk, rfl⟩)
    rw [show (DitCheck.Keys l).length = l.length from List.length_map _] at this
    rw [show DitCheck.Keys (l ++ [x, x]) = DitCheck.Keys l ++ x.f2 :: [x.f2] by unfold DitCheck.Keys; rw [List.map_append]; rfl]
    exact this
  have HBA7 : Hid (∀ (W : World) (A : Option Addr) (c : Nat), Kd.C k45 W A (l ++ [x, x]).length (l ++ [x, x]) → Tabs W → Calls Tryd.prog 16 #[.slice A (l ++ [x, x]).length c] W fun e w' => e = .returned (.tuple #[.pointer none, .int .i64 90, .int .i64 (l.length : Int)]) ∧ Below W.heap.size W w') := Lib.hid (fun W A c h1 h2 => by have := bad_as W A c (l ++ [x, x]) h1 HF7.out h2 (by rw [hchk7]; show (90 : Int) ≠ 0; decide); rw [hchk7] at this; exact this)
  have HBX : Hid (DitMeth.Calm W6 W6) := Lib.hid (Below.refl _ _)
  clear hchk7
  go_wp2
  refine start_ (n := 14) (S := fun w' => w'.cell? ⟨gd, 0, none⟩ = some (.int .i64 x.f0) ∧ w'.cell? ⟨gd, 1, none⟩ = some (.string x.f1) ∧ w'.cell? ⟨gd, 2, none⟩ = some (.slice B2 x.f2.length d2) ∧ w'.cell? ⟨gd, 3, none⟩ = some (.slice B3 x.f3.length d3)) (ds := [5, 6]) #[false, false, false, false, false, false, false, false, false, false, false, false, false, false] (by kernel_rfl) rfl rfl ⟨k0, k1, k2, k3⟩ (fun hHeld => ?_)
  refine pure_ (i := 0) (N := some 35) (v := ?_) (a' := ?_) #[true, false, false, false, false, false, false, false, false, false, false, false, false, false] rfl rfl (by kernel_rfl) (fun _ _ _ h => h) (Or.inl ⟨by rfl, ?_⟩) ?_ ?_
  rotate_left
  · intro w'
    go_simp
    with_reducible rfl
  rotate_left
  · simp only [Act.put, List.setIfInBounds_toArray, List.set_cons_zero, List.set_cons_succ, i64_w, i32_w]
    rfl
  refine take_ (i := 2) (N := some 37) (v := ?_) (a' := ?_) #[true, false, true, false, false, false, false, false, false, false, false, false, false, false] rfl rfl (by kernel_rfl) (fun _ _ _ h => h) (Or.inl ⟨by rfl, ?_⟩) hHeld ?_ ?_
  rotate_left
  · rintro w' ⟨s0, s1, s2, s3⟩
    go_simp
    with_reducible rfl
  rotate_left
  · simp only [Act.put, List.setIfInBounds_toArray, List.set_cons_zero, List.set_cons_succ, i64_w, i32_w]
    rfl
  refine take_ (i := 3) (N := some 38) (v := ?_) (a' := ?_) #[true, false, true, true, false, false, false, false, false, false, false, false, false, false] rfl rfl (by kernel_rfl) (fun _ _ _ h => h) (Or.inl ⟨by rfl, ?_⟩) hHeld ?_ ?_
  rotate_left
  · rintro w' ⟨s0, s1, s2, s3⟩
    go_simp
    with_reducible rfl
  rotate_left
  · simp only [Act.put, List.setIfInBounds_toArray, List.set_cons_zero, List.set_cons_succ, i64_w, i32_w]
    rfl
  refine join_ (σ := Option Addr × Nat × Nat) 9 #[true, true, true, true, true, false, false, false, false, false, false, false, false, false] (fun s => [(36, .slice s.1 l.length s.2.1), (39, .slice (some ⟨s.2.2, 0, none⟩) 2 2)]) (fun s w' => (w'.cell? ⟨gd, 0, none⟩ = some (.int .i64 x.f0) ∧ w'.cell? ⟨gd, 1, none⟩ = some (.string x.f1) ∧ w'.cell? ⟨gd, 2, none⟩ = some (.slice B2 x.f2.length d2) ∧ w'.cell? ⟨gd, 3, none⟩ = some (.slice B3 x.f3.length d3)) ∧ RQ W6 m l #[.int .i64 x.f0, .string x.f1, .slice B2 x.f2.length d2, .slice B3 x.f3.length d3, .int .i64 x.f0, .string x.f1, .slice B2 x.f2.length d2, .slice B3 x.f3.length d3] s.1 s.2.1 s.2.2 w') ?_ ?_
  rotate_left
  · intro hCont
    refine two_ (i := 1) (j := 4) (Ni := some 36) (Nj := some 39) #[true, true, true, true, false, false, false, false, false, false, false, false, false, false] #[true, false, true, true, true, false, false, false, false, false, false, false, false, false] rfl rfl rfl rfl (by kernel_rfl) (by decide) (by decide) (fun K hK => ?_) (fun K hK => ?_)
    · skip
      refine goes_ Tryd.func12 (by kernel_rfl) rfl #[.slice (some ⟨b, o, none⟩) l.length c2] (by rfl) rfl rfl (by simp only [List.map_toArray, List.map_cons, List.map_nil]; rfl) ?_
      with_reducible refine (rosterlaw09_copies.calls kc (some ⟨b, o, none⟩) c2 l l _ (HCL.out _ (by repeat (first | exact HBX.out | apply below_alloc | apply pw_below_drewN | apply below_drew1))) hl2 HKC.out).mono ?_
      rintro e W7 ⟨v7, rfl, ho, hb⟩
      obtain ⟨A36, c36, hv7⟩ := Kd.R_slice ho
      subst hv7
      have HRQ : Hid (RQ W6 m l #[.int .i64 x.f0, .string x.f1, .slice B2 x.f2.length d2, .slice B3 x.f3.length d3, .int .i64 x.f0, .string x.f1, .slice B2 x.f2.length d2, .slice B3 x.f3.length d3] A36 c36 W7.heap.size (W7.alloc (.cells #[.int .i64 x.f0, .string x.f1, .slice B2 x.f2.length d2, .slice B3 x.f3.length d3, .int .i64 x.f0, .string x.f1, .slice B2 x.f2.length d2, .slice B3 x.f3.length d3] 45))) := Lib.hid (rq_first (W := W6) hm6 (by repeat (first | exact hb | apply undrewN | apply undrew1)) ho)
      have HB7 : Hid (DitMeth.Calm W6 W7) := Lib.hid (by repeat (first | exact hb | apply undrewN | apply undrew1))
      clear ho hb
      refine ⟨_, rfl, ?_⟩
      refine hK.out _ _ ⟨(HB7.out.cell (p := ⟨gd, 0, none⟩) hgd).trans k0, (HB7.out.cell (p := ⟨gd, 1, none⟩) hgd).trans k1, (HB7.out.cell (p := ⟨gd, 2, none⟩) hgd).trans k2, (HB7.out.cell (p := ⟨gd, 3, none⟩) hgd).trans k3⟩ (fun hHeld => ?_)
      clear hK K
      refine norm_ (a' := ?_) ?_ ?_
      rotate_left
      · show Act.put _ (some 36) _ = _
        simp only [Act.put, List.setIfInBounds_toArray, List.set_cons_zero, List.set_cons_succ, i64_w, i32_w]
        rfl
      refine one_ (i := 4) (N := some 39) #[true, true, true, true, true, false, false, false, false, false, false, false, false, false] rfl rfl (by kernel_rfl) (by decide) (fun K hK => ?_)
      refine value_ (w1 := ?_) (v := ?_) (by rfl) rfl ?_ ?_
      rotate_left 2
      · go_simp
        constructor
        · rfl
        · rfl
      refine hK.out _ _ ⟨((HRQ.out.calm : Below W6.heap.size W6 _).cell (p := ⟨gd, 0, none⟩) hgd).trans k0, ((HRQ.out.calm : Below W6.heap.size W6 _).cell (p := ⟨gd, 1, none⟩) hgd).trans k1, ((HRQ.out.calm : Below W6.heap.size W6 _).cell (p := ⟨gd, 2, none⟩) hgd).trans k2, ((HRQ.out.calm : Below W6.heap.size W6 _).cell (p := ⟨gd, 3, none⟩) hgd).trans k3⟩ (fun hHeld => ?_)
      clear hK K
      refine norm_ (a' := ?_) ?_ ?_
      rotate_left
      · show Act.put _ (some 39) _ = _
        simp only [Act.put, List.setIfInBounds_toArray, List.set_cons_zero, List.set_cons_succ, i64_w, i32_w]
        rfl
      exact norm_ (by simp only [putAll, Act.put, List.setIfInBounds_toArray, List.set_cons_zero, List.set_cons_succ]) (hCont (A36, c36, W7.heap.size) _ ⟨⟨(HRQ.out.calm.cell (p := ⟨gd, 0, none⟩) hgd).trans k0, (HRQ.out.calm.cell (p := ⟨gd, 1, none⟩) hgd).trans k1, (HRQ.out.calm.cell (p := ⟨gd, 2, none⟩) hgd).trans k2, (HRQ.out.calm.cell (p := ⟨gd, 3, none⟩) hgd).trans k3⟩, HRQ.out⟩)
    · skip
      refine value_ (w1 := ?_) (v := ?_) (by rfl) rfl ?_ ?_
      rotate_left 2
      · go_simp
        constructor
        · rfl
        · rfl
      refine hK.out _ _ ⟨((by repeat (first | exact Below.refl _ _ | apply below_alloc | apply pw_below_drewN | apply below_drew1) : Below W6.heap.size W6 _).cell (p := ⟨gd, 0, none⟩) hgd).trans k0, ((by repeat (first | exact Below.refl _ _ | apply below_alloc | apply pw_below_drewN | apply below_drew1) : Below W6.heap.size W6 _).cell (p := ⟨gd, 1, none⟩) hgd).trans k1, ((by repeat (first | exact Below.refl _ _ | apply below_alloc | apply pw_below_drewN | apply below_drew1) : Below W6.heap.size W6 _).cell (p := ⟨gd, 2, none⟩) hgd).trans k2, ((by repeat (first | exact Below.refl _ _ | apply below_alloc | apply pw_below_drewN | apply below_drew1) : Below W6.heap.size W6 _).cell (p := ⟨gd, 3, none⟩) hgd).trans k3⟩ (fun hHeld => ?_)
      clear hK K
      refine norm_ (a' := ?_) ?_ ?_
      rotate_left
      · show Act.put _ (some 39) _ = _
        simp only [Act.put, List.setIfInBounds_toArray, List.set_cons_zero, List.set_cons_succ, i64_w, i32_w]
        rfl
      refine one_ (i := 1) (N := some 36) #[true, true, true, true, true, false, false, false, false, false, false, false, false, false] rfl rfl (by kernel_rfl) (by decide) (fun K hK => ?_)
      refine goes_ Tryd.func12 (by kernel_rfl) rfl #[.slice (some ⟨b, o, none⟩) l.length c2] (by rfl) rfl rfl (by simp only [List.map_toArray, List.map_cons, List.map_nil]; rfl) ?_
      with_reducible refine (rosterlaw09_copies.calls kc (some ⟨b, o, none⟩) c2 l l _ (HCL.out _ (by repeat (first | exact HBX.out | apply below_alloc | apply pw_below_drewN | apply below_drew1))) hl2 HKC.out).mono ?_
      rintro e W7 ⟨v7, rfl, ho, hb⟩
      obtain ⟨A36, c36, hv7⟩ := Kd.R_slice ho
      subst hv7
      have HRQ : Hid (RQ W6 m l #[.int .i64 x.f0, .string x.f1, .slice B2 x.f2.length d2, .slice B3 x.f3.length d3, .int .i64 x.f0, .string x.f1, .slice B2 x.f2.length d2, .slice B3 x.f3.length d3] A36 c36 W6.heap.size W7) := Lib.hid (rq_second (W := W6) hm6 (by repeat (first | exact hb | apply undrewN | apply undrew1)) ho)
      clear ho hb
      refine ⟨_, rfl, ?_⟩
      refine hK.out _ _ ⟨(HRQ.out.calm.cell (p := ⟨gd, 0, none⟩) hgd).trans k0, (HRQ.out.calm.cell (p := ⟨gd, 1, none⟩) hgd).trans k1, (HRQ.out.calm.cell (p := ⟨gd, 2, none⟩) hgd).trans k2, (HRQ.out.calm.cell (p := ⟨gd, 3, none⟩) hgd).trans k3⟩ (fun hHeld => ?_)
      clear hK K
      refine norm_ (a' := ?_) ?_ ?_
      rotate_left
      · show Act.put _ (some 36) _ = _
        simp only [Act.put, List.setIfInBounds_toArray, List.set_cons_zero, List.set_cons_succ, i64_w, i32_w]
        rfl
      exact norm_ (by simp only [putAll, Act.put, List.setIfInBounds_toArray, List.set_cons_zero, List.set_cons_succ]) (hCont (A36, c36, W6.heap.size) _ ⟨⟨(HRQ.out.calm.cell (p := ⟨gd, 0, none⟩) hgd).trans k0, (HRQ.out.calm.cell (p := ⟨gd, 1, none⟩) hgd).trans k1, (HRQ.out.calm.cell (p := ⟨gd, 2, none⟩) hgd).trans k2, (HRQ.out.calm.cell (p := ⟨gd, 3, none⟩) hgd).trans k3⟩, HRQ.out⟩)
  rintro ⟨A36, c36, g39⟩ w' ⟨hHeld, hrq⟩
  have HRQ := Lib.hid hrq
  have hgl := lit2_reads hrq.lit
  clear hrq
  refine norm_ (a' := ?_) ?_ ?_
  rotate_left
  · simp only [putAll, Act.put, List.setIfInBounds_toArray, List.set_cons_zero, List.set_cons_succ]
    rfl
  refine last_ (i := 5) (N := some 40) #[true, true, true, true, true, true, false, false, false, false, false, false, false, false] rfl rfl (by kernel_rfl) (by decide) (fun K hK => ?_)
  refine Kd.R_append_rows_step k45 (Rr := _) (w0 := W6) (W := _) m (by rfl) (.tmp 36) (.tmp 39) 22 45 (.agg #[(.int .i64 0), (.string ⟨#[]⟩), (.slice none 0 0), (.slice none 0 0)]) 72 rfl Tryd.underlying22 info45 rfl (by decide) (by decide) (.slice A36 l.length c36) l [x, x] (some ⟨g39, 0, none⟩) 2 2 (fun k => True) (fun k => k < W6.heap.size) rfl rfl (Kd.R_mono HRQ.out.own (fun _ _ => trivial)) (hgl x x) ?aK ?aO (fun _ _ => trivial) (HRQ.out.calm.mono hm6) (Nat.le_trans hm6 HRQ.out.calm.size) (by omega) ?_
  case aK => rintro e cs (⟨rfl, rfl⟩ | ⟨rfl, rfl⟩) <;> exact HOE6.out.mk2 HRQ.out.calm (Nat.le_refl _)
  case aO => exact (fun k hk => ⟨trivial, fun e => by have := (HRQ.out.own.1 k e.symm); omega⟩)
  intro v40 w1 ho hb hg40 _
  obtain ⟨A40, c40, hv40, hl40, hC40⟩ := Kd.R_reads ho
  subst hv40
  have HB40 : Hid (DitMeth.Calm W6 w1) := Lib.hid (HRQ.out.calm.grown hg40 HRQ.out.calm.size (fun j e => HRQ.out.own.1 j e))
  have HC40 := Lib.hid hC40
  clear ho hb hg40 hC40
  refine hK.out _ _ ?_
  clear hK K
  refine norm_ (a' := ?_) ?_ ?_
  rotate_left
  · show Act.put _ (some 40) _ = _
    simp only [Act.put, List.setIfInBounds_toArray, List.set_cons_zero, List.set_cons_succ, i64_w, i32_w]
    rfl
  refine last_ (i := 6) (N := some 41) #[true, true, true, true, true, true, true, false, false, false, false, false, false, false] rfl rfl (by kernel_rfl) (by decide) (fun K hK => ?_)
  refine goes_ Tryd.func16 (by kernel_rfl) rfl #[.slice A40 (l ++ [x, x]).length c40] (by rfl) rfl rfl (by simp only [List.map_toArray, List.map_cons, List.map_nil]; rfl) ?_
  with_reducible refine (HBA7.out _ A40 c40 (Kd.C_below HC40.out (by repeat (first | exact Below.refl _ _ | apply below_alloc | apply pw_below_drewN | apply below_drew1))) (HTB.out _ (HB40.out.trans (((by repeat (first | exact Below.refl _ _ | apply below_alloc | apply pw_below_drewN | apply below_drew1)) : Below w1.heap.size w1 _).mono HB40.out.size)))).mono ?_
  rintro e W41 ⟨rfl, hb⟩
  have HB41 : Hid (DitMeth.Calm W6 W41) := Lib.hid (HB40.out.trans ((by repeat (first | exact hb | apply undrewN | apply undrew1) : Below w1.heap.size w1 W41).mono HB40.out.size))
  clear hb
  refine ⟨_, rfl, ?_⟩
  refine hK.out _ _ ?_
  clear hK K
  refine norm_ (a' := ?_) ?_ ?_
  rotate_left
  · show Act.put _ (some 41) _ = _
    simp only [Act.put, List.setIfInBounds_toArray, List.set_cons_zero, List.set_cons_succ, i64_w, i32_w]
    rfl
  refine pure_ (i := 7) (N := some 34) (v := ?_) (a' := ?_) #[true, true, true, true, true, true, true, true, false, false, false, false, false, false] rfl rfl (by kernel_rfl) (fun _ _ _ h => h) (Or.inl ⟨by rfl, ?_⟩) ?_ ?_
  rotate_left
  · intro w'
    go_simp
    with_reducible rfl
  rotate_left
  · simp only [Act.put, List.setIfInBounds_toArray, List.set_cons_zero, List.set_cons_succ, i64_w, i32_w]
    rfl
  refine pure_ (i := 8) (N := some 42) (v := ?_) (a' := ?_) #[true, true, true, true, true, true, true, true, true, false, false, false, false, false] rfl rfl (by kernel_rfl) (fun _ _ _ h => h) (Or.inl ⟨by rfl, ?_⟩) ?_ ?_
  rotate_left
  · intro w'
    go_simp
    with_reducible rfl
  rotate_left
  · simp only [Act.put, List.setIfInBounds_toArray, List.set_cons_zero, List.set_cons_succ, i64_w, i32_w]
    rfl
  refine pure_ (i := 9) (N := some 43) (v := ?_) (a' := ?_) #[true, true, true, true, true, true, true, true, true, true, false, false, false, false] rfl rfl (by kernel_rfl) (fun _ _ _ h => h) (Or.inl ⟨by rfl, ?_⟩) ?_ ?_
  rotate_left
  · intro w'
    go_simp
    with_reducible rfl
  rotate_left
  · simp only [Act.put, List.setIfInBounds_toArray, List.set_cons_zero, List.set_cons_succ, i64_w, i32_w]
    rfl
  refine pure_ (i := 10) (N := some 44) (v := ?_) (a' := ?_) #[true, true, true, true, true, true, true, true, true, true, true, false, false, false] rfl rfl (by kernel_rfl) (fun _ _ _ h => h) (Or.inl ⟨by rfl, ?_⟩) ?_ ?_
  rotate_left
  · intro w'
    go_simp
    with_reducible rfl
  rotate_left
  · simp only [Act.put, List.setIfInBounds_toArray, List.set_cons_zero, List.set_cons_succ, i64_w, i32_w]
    rfl
  refine pure_ (i := 11) (N := some 11) (v := ?_) (a' := ?_) #[true, true, true, true, true, true, true, true, true, true, true, true, false, false] rfl rfl (by kernel_rfl) (fun _ _ _ h => h) (Or.inl ⟨by rfl, ?_⟩) ?_ ?_
  rotate_left
  · intro w'
    go_simp
    with_reducible rfl
  rotate_left
  · simp only [Act.put, List.setIfInBounds_toArray, List.set_cons_zero, List.set_cons_succ, i64_w, i32_w]
    rfl
  refine pure_ (i := 12) (N := some 12) (v := ?_) (a' := ?_) #[true, true, true, true, true, true, true, true, true, true, true, true, true, false] rfl rfl (by kernel_rfl) (fun _ _ _ h => h) (Or.inl ⟨by rfl, ?_⟩) ?_ ?_
  rotate_left
  · intro w'
    go_simp
    with_reducible rfl
  rotate_left
  · simp only [Act.put, List.setIfInBounds_toArray, List.set_cons_zero, List.set_cons_succ, i64_w, i32_w]
    rfl
  refine pure_ (i := 13) (N := some 13) (v := ?_) (a' := ?_) #[true, true, true, true, true, true, true, true, true, true, true, true, true, true] rfl rfl (by kernel_rfl) (fun _ _ _ h => h) (Or.inl ⟨by rfl, ?_⟩) ?_ ?_
  rotate_left
  · intro w'
    go_simp
    with_reducible rfl
  rotate_left
  · simp only [Act.put, List.setIfInBounds_toArray, List.set_cons_zero, List.set_cons_succ, i64_w, i32_w]
    rfl
  refine done_ (by kernel_rfl) ?_
  obtain ⟨k1, hk1⟩ : ∃ k, k = x.f2 ++ [pt] := ⟨_, rfl⟩
  obtain ⟨k2, hk2⟩ : ∃ k, k = k1 ++ [pt] := ⟨_, rfl⟩
  have hk1l : k1.length = x.f2.length + 1 := by rw [hk1, List.length_append, List.length_singleton]
  have hk2l : k2.length = k1.length + 1 := by rw [hk2, List.length_append, List.length_singleton]
  have hk2b : k2.length ≤ 1048574 := by have := hxg.1; have := HINR.out.len; omega
  have hlf1 : rosterlaw09_longer.f x.f2 pt = some k1 := by rw [hk1]; exact DitEv.longer_f _ _ (by omega)
  have hlf2 : rosterlaw09_longer.f k1 pt = some k2 := by rw [hk2]; exact DitEv.longer_f _ _ (by omega)
  have HLF1 := Lib.hid hlf1
  have HLF2 := Lib.hid hlf2
  have hbk2 : bulkK k2 ≤ 33554432 := by
    rw [hk2, hk1, bulkK_app, bulkK_app, show bulkK [pt] = pt.size + 22 by simp [bulkK]]
    have := HINR.out.bulk
    have := take_sum HIN0.out l1.length
    have := hxg.2.1
    omega
  have hpk2 : ∀ q ∈ k2, q.size ≤ 1048576 := fun q hq => by
    rw [hk2, hk1] at hq
    have hp := HINR.out.part
    rcases List.mem_append.1 hq with hq | hq
    · rcases List.mem_append.1 hq with hq | hq
      · exact hxkey.part q hq
      · rw [List.mem_singleton] at hq; rw [hq]; exact hp
    · rw [List.mem_singleton] at hq; rw [hq]; exact hp
  have hktk : k1 = k2.take k1.length := by rw [hk2]; simp
  have HKTK := Lib.hid hktk
  have hws : IntKind.i64.wrap ((k2.length : Int) - 1) = (k1.length : Int) := by rw [IntWalk.i64_in _ (by omega)]; omega
  obtain ⟨i9, hi9, _, _, _⟩ := info_parts DitRow.info9
  have HCUT := Lib.hid (fun (C2 : Option Addr) (g2 : Nat) (hc : k2.length ≤ g2) (W : World) => cut_to (P := Tryd.prog) 39 9 .i64 Tryd.underlying39 hi9 C2 k2.length g2 (k1.length : Int) (by omega) (by omega) hc W)
  obtain ⟨am, ham⟩ : ∃ am, am = DitEv.amongR l k1 := ⟨_, rfl⟩
  obtain ⟨ka, hka⟩ := Ev.rounds (DitEv.among_ev l k1 (by omega) (by omega) (fun e he => by have := (HF.out.key e he).1; omega))
  rw [← ham] at hka
  have HKA := Lib.hid hka
  have hamc : (am < 0 ∧ k2 ∉ DitCheck.Keys l ∧ k2.dropLast ∉ DitCheck.Keys l) ∨ ¬ am < 0 := by
    by_cases hm : k1 ∈ DitCheck.Keys l
    · exact .inr (fun h => DitEv.among_neg.1 (by rw [← ham]; exact h) hm)
    · have h1 : am < 0 := by rw [ham]; exact DitEv.among_neg.2 hm
      have h2 := far_key HGN.out hxk (pt := pt) (by rw [← hk1]; exact hm)
      rw [← hk1, ← hk2] at h2
      exact .inl ⟨h1, h2⟩
  have HAMC := Lib.hid hamc
  have HKL := Lib.hid (And.intro hk1l hk2l)
  have HK2 := Lib.hid (And.intro hk2b (And.intro hbk2 hpk2))
  have kx := ((HB6.out.trans (HB41.out.mono HB6.out.size)).cell (p := ⟨b, o + q * 4 + 2, none⟩) hbl).trans HE2.out
  have HEC41 := Lib.hid (HEC.out.calm (HB6.out.trans (HB41.out.mono HB6.out.size)))
  clear hk1 hk2 hk1l hk2l hlf1 hlf2 hktk hi9 ham hka hamc hbk2 hpk2 HRQ HB40 HC40 hgl HEC
  go_upto_region 11 with (first
    | (go_at_call 23; ((with_reducible refine (rosterlaw09_longer.calls A5 d5 x.f2 pt k1 W41 HEC41.out.key HEC41.out.kc HLF1.out).mono ?_); rintro e42 W42 ⟨v42, rfl, ho, hb⟩; obtain ⟨A42, c42, hv42, hl42, hC42⟩ := Kd.R_reads ho; subst hv42; have HB42 : Hid (DitMeth.Calm W41 W42) := Lib.hid hb; have HC42 := Lib.hid hC42; clear ho hb hC42))
    | (go_at_call 23; ((with_reducible refine (rosterlaw09_longer.calls A42 c42 k1 pt k2 W42 HC42.out hl42 HLF2.out).mono ?_); rintro e43 W43 ⟨v43, rfl, ho, hb⟩; obtain ⟨A43, c43, hv43, hl43, hC43⟩ := Kd.R_reads ho; subst hv43; have HB43 : Hid (DitMeth.Calm W41 W43) := Lib.hid (HB42.out.trans (hb.mono HB42.out.size)); have HO43 : Hid (Kd.R Kd.string 9 W43 W42.heap.size (fun _ => True) (.slice A43 k2.length c43) k2) := Lib.hid ho; have HC43 := Lib.hid hC43; clear ho hb hC43))
    | go_in)
  have hcut := HCUT.out A43 c43 hl43
  rw [Int.toNat_natCast] at hcut
  have HB643 : Hid (DitMeth.Calm W6 W43) := Lib.hid (HB41.out.trans (HB43.out.mono HB41.out.size))
  have HC1 : Hid (Kd.C Kd.string W43 A43 k1.length k1) := Lib.hid (C_cutR HC43.out hl43 (by have := HK2.out.1; omega) HKTK.out)
  have hlc1 : k1.length ≤ c43 := by have := HKL.out.2; omega
  go_upto_if 76 with (first
    | (go_at_call 24; ((with_reducible refine (rosterlaw09_among.calls ka (some ⟨b, o, none⟩) c2 l A43 c43 k1 am W43 (HCL.out _ HB643.out) hl2 HC1.out hlc1 HKA.out).mono ?_); rintro e44 W44 ⟨rfl, hd⟩; have HB44 : Hid (DitMeth.Calm W43 W44) := Lib.hid hd.below; have HB644 : Hid (DitMeth.Calm W6 W44) := Lib.hid (HB643.out.trans (hd.below.mono HB643.out.size)); clear hd))
    | go_in)
  clear hcut hws
  go_cut [11, 12, 13] (fun v11 v12 v13 wc => Hid (DitMeth.Calm W6 wc))
  case first =>
    rcases HAMC.out with ⟨h1, h2, h3⟩ | h1
    · have hd1 : decide (am < 0) = true := decide_eq_true h1
      obtain ⟨y, hy⟩ : ∃ y : S45, y = ⟨0, ⟨#[]⟩, k2, []⟩ := ⟨_, rfl⟩
      have hyl : y.f2.length = k2.length := by rw [hy]
      have HF12 := Lib.hid (HFX.out y (by rw [hyl]; have := HK2.out.1; omega) (by rw [hy]; exact HK2.out.2.1) (by rw [hy]; exact HK2.out.2.2) (by rw [hy]; exact ⟨Nat.zero_le _, fun a ha => by cases ha⟩) [y, x] (by simp) (by simp) (by simpa using hl2'))
      have hchk12 : chk (DitCheck.Keys (l ++ [y, x])) = (91, (l.length : Int)) := by
        have := chk_more HGN.out.good y.f2 [x.f2] (f := 91) (by decide) (.inr ⟨by rw [hy]; exact h2, rfl, .inr (by rw [hy]; exact h3)⟩)
        rw [show (DitCheck.Keys l).length = l.length from List.length_map _] at this
        rw [show DitCheck.Keys (l ++ [y, x]) = DitCheck.Keys l ++ y.f2 :: [x.f2] by unfold DitCheck.Keys; rw [List.map_append]; rfl]
        exact this
      have HBA12 : Hid (∀ (W : World) (A : Option Addr) (c : Nat), Kd.C k45 W A (l ++ [y, x]).length (l ++ [y, x]) → Tabs W → Calls Tryd.prog 16 #[.slice A (l ++ [y, x]).length c] W fun e w' => e = .returned (.tuple #[.pointer none, .int .i64 91, .int .i64 (l.length : Int)]) ∧ Below W.heap.size W w') := Lib.hid (fun W A c h1 h2 => by have := bad_as W A c (l ++ [y, x]) h1 HF12.out h2 (by rw [hchk12]; show (91 : Int) ≠ 0; decide); rw [hchk12] at this; exact this)
      have HYC : Hid (∀ W' : World, DitMeth.Calm W44 W' → k45.M W' m (fun k => k < W44.heap.size) y [.int .i64 0, .string ⟨#[]⟩, .slice A43 k2.length c43, .slice none 0 0]) := Lib.hid (fun W' hW => by
        have hk := Kd.R_below (Kd.R_below HO43.out HB44.out) hW
        rw [hy]
        exact k45_mkM W' m (fun k => k < W44.heap.size) (⟨0, ⟨#[]⟩, k2, []⟩ : S45) (Kd.R_lower (Kd.R_mono (Kd.R_below (Kd.R_bound (Kd.R_below HO43.out HB44.out)) hW) (fun k hk => hk.2.2.1)) (by have h1 := HB41.out.size; have h2 := HB42.out.size; omega)) (Kd.R_nil _ _ _ _ _))
      have HXC : Hid (∀ W' : World, DitMeth.Calm W44 W' → k45.M W' m (fun k => k < W44.heap.size) x [.int .i64 x.f0, .string x.f1, .slice B2 x.f2.length d2, .slice B3 x.f3.length d3]) := Lib.hid (fun W' hW => HOE6.out.mk2 (HB644.out.trans (hW.mono HB644.out.size)) HB644.out.size)
      have q0 := (HB644.out.cell (p := ⟨gd, 0, none⟩) hgd).trans k0'
      have q1 := (HB644.out.cell (p := ⟨gd, 1, none⟩) hgd).trans k1'
      have q2 := (HB644.out.cell (p := ⟨gd, 2, none⟩) hgd).trans k2'
      have q3 := (HB644.out.cell (p := ⟨gd, 3, none⟩) hgd).trans k3'
      have hgd4 : gd < W44.heap.size := Nat.lt_of_lt_of_le hgd HB644.out.size
      have hm44 : m ≤ W44.heap.size := Nat.le_trans hm6 HB644.out.size
      have HBX : Hid (DitMeth.Calm W6 W44) := HB644
      clear h2 h3 hchk12 hyl hy
      go_wp2
      refine start_ (n := 15) (S := fun w' => w'.cell? ⟨gd, 0, none⟩ = some (.int .i64 x.f0) ∧ w'.cell? ⟨gd, 1, none⟩ = some (.string x.f1) ∧ w'.cell? ⟨gd, 2, none⟩ = some (.slice B2 x.f2.length d2) ∧ w'.cell? ⟨gd, 3, none⟩ = some (.slice B3 x.f3.length d3)) (ds := [6, 7]) #[false, false, false, false, false, false, false, false, false, false, false, false, false, false, false] (by kernel_rfl) rfl rfl ⟨q0, q1, q2, q3⟩ (fun hHeld => ?_)
      refine pure_ (i := 0) (N := some 78) (v := ?_) (a' := ?_) #[true, false, false, false, false, false, false, false, false, false, false, false, false, false, false] rfl rfl (by kernel_rfl) (fun _ _ _ h => h) (Or.inl ⟨by rfl, ?_⟩) ?_ ?_
      rotate_left
      · intro w'
        go_simp
        with_reducible rfl
      rotate_left
      · simp only [Act.put, List.setIfInBounds_toArray, List.set_cons_zero, List.set_cons_succ, i64_w, i32_w]
        rfl
      refine pure_ (i := 2) (N := some 80) (v := ?_) (a' := ?_) #[true, false, true, false, false, false, false, false, false, false, false, false, false, false, false] rfl rfl (by kernel_rfl) (fun _ _ _ h => h) (Or.inl ⟨by rfl, ?_⟩) ?_ ?_
      rotate_left
      · intro w'
        go_simp
        with_reducible rfl
      rotate_left
      · simp only [Act.put, List.setIfInBounds_toArray, List.set_cons_zero, List.set_cons_succ, i64_w, i32_w]
        rfl
      refine pure_ (i := 3) (N := some 81) (v := ?_) (a' := ?_) #[true, false, true, true, false, false, false, false, false, false, false, false, false, false, false] rfl rfl (by kernel_rfl) (fun _ _ _ h => h) (Or.inl ⟨by rfl, ?_⟩) ?_ ?_
      rotate_left
      · intro w'
        go_simp
        with_reducible rfl
      rotate_left
      · simp only [Act.put, List.setIfInBounds_toArray, List.set_cons_zero, List.set_cons_succ, i64_w, i32_w]
        rfl
      refine take_ (i := 4) (N := some 82) (v := ?_) (a' := ?_) #[true, false, true, true, true, false, false, false, false, false, false, false, false, false, false] rfl rfl (by kernel_rfl) (fun _ _ _ h => h) (Or.inl ⟨by rfl, ?_⟩) hHeld ?_ ?_
      rotate_left
      · rintro w' ⟨s0, s1, s2, s3⟩
        go_simp
        with_reducible rfl
      rotate_left
      · simp only [Act.put, List.setIfInBounds_toArray, List.set_cons_zero, List.set_cons_succ, i64_w, i32_w]
        rfl
      refine join_ (σ := Option Addr × Nat × Nat) 9 #[true, true, true, true, true, true, false, false, false, false, false, false, false, false, false] (fun s => [(79, .slice s.1 l.length s.2.1), (83, .slice (some ⟨s.2.2, 0, none⟩) 2 2)]) (fun s w' => (w'.cell? ⟨gd, 0, none⟩ = some (.int .i64 x.f0) ∧ w'.cell? ⟨gd, 1, none⟩ = some (.string x.f1) ∧ w'.cell? ⟨gd, 2, none⟩ = some (.slice B2 x.f2.length d2) ∧ w'.cell? ⟨gd, 3, none⟩ = some (.slice B3 x.f3.length d3)) ∧ RQ W44 m l #[.int .i64 0, .string ⟨#[]⟩, .slice A43 k2.length c43, .slice none 0 0, .int .i64 x.f0, .string x.f1, .slice B2 x.f2.length d2, .slice B3 x.f3.length d3] s.1 s.2.1 s.2.2 w') ?_ ?_
      rotate_left
      · intro hCont
        refine two_ (i := 1) (j := 5) (Ni := some 79) (Nj := some 83) #[true, true, true, true, true, false, false, false, false, false, false, false, false, false, false] #[true, false, true, true, true, true, false, false, false, false, false, false, false, false, false] rfl rfl rfl rfl (by kernel_rfl) (by decide) (by decide) (fun K hK => ?_) (fun K hK => ?_)
        · skip
          refine goes_ Tryd.func12 (by kernel_rfl) rfl #[.slice (some ⟨b, o, none⟩) l.length c2] (by rfl) rfl rfl (by simp only [List.map_toArray, List.map_cons, List.map_nil]; rfl) ?_
          with_reducible refine (rosterlaw09_copies.calls kc (some ⟨b, o, none⟩) c2 l l _ (HCL.out _ (by repeat (first | exact HBX.out | apply below_alloc | apply pw_below_drewN | apply below_drew1))) hl2 HKC.out).mono ?_
          rintro e W7 ⟨v7, rfl, ho, hb⟩
          obtain ⟨A36, c36, hv7⟩ := Kd.R_slice ho
          subst hv7
          have HRQ : Hid (RQ W44 m l #[.int .i64 0, .string ⟨#[]⟩, .slice A43 k2.length c43, .slice none 0 0, .int .i64 x.f0, .string x.f1, .slice B2 x.f2.length d2, .slice B3 x.f3.length d3] A36 c36 W7.heap.size (W7.alloc (.cells #[.int .i64 0, .string ⟨#[]⟩, .slice A43 k2.length c43, .slice none 0 0, .int .i64 x.f0, .string x.f1, .slice B2 x.f2.length d2, .slice B3 x.f3.length d3] 45))) := Lib.hid (rq_first (W := W44) hm44 (by repeat (first | exact hb | apply undrewN | apply undrew1)) ho)
          have HB7 : Hid (DitMeth.Calm W44 W7) := Lib.hid (by repeat (first | exact hb | apply undrewN | apply undrew1))
          clear ho hb
          refine ⟨_, rfl, ?_⟩
          refine hK.out _ _ ⟨(HB7.out.cell (p := ⟨gd, 0, none⟩) hgd4).trans q0, (HB7.out.cell (p := ⟨gd, 1, none⟩) hgd4).trans q1, (HB7.out.cell (p := ⟨gd, 2, none⟩) hgd4).trans q2, (HB7.out.cell (p := ⟨gd, 3, none⟩) hgd4).trans q3⟩ (fun hHeld => ?_)
          clear hK K
          refine norm_ (a' := ?_) ?_ ?_
          rotate_left
          · show Act.put _ (some 79) _ = _
            simp only [Act.put, List.setIfInBounds_toArray, List.set_cons_zero, List.set_cons_succ, i64_w, i32_w]
            rfl
          refine one_ (i := 5) (N := some 83) #[true, true, true, true, true, true, false, false, false, false, false, false, false, false, false] rfl rfl (by kernel_rfl) (by decide) (fun K hK => ?_)
          refine value_ (w1 := ?_) (v := ?_) (by rfl) rfl ?_ ?_
          rotate_left 2
          · go_simp
            constructor
            · rfl
            · rfl
          refine hK.out _ _ ⟨((HRQ.out.calm : Below W44.heap.size W44 _).cell (p := ⟨gd, 0, none⟩) hgd4).trans q0, ((HRQ.out.calm : Below W44.heap.size W44 _).cell (p := ⟨gd, 1, none⟩) hgd4).trans q1, ((HRQ.out.calm : Below W44.heap.size W44 _).cell (p := ⟨gd, 2, none⟩) hgd4).trans q2, ((HRQ.out.calm : Below W44.heap.size W44 _).cell (p := ⟨gd, 3, none⟩) hgd4).trans q3⟩ (fun hHeld => ?_)
          clear hK K
          refine norm_ (a' := ?_) ?_ ?_
          rotate_left
          · show Act.put _ (some 83) _ = _
            simp only [Act.put, List.setIfInBounds_toArray, List.set_cons_zero, List.set_cons_succ, i64_w, i32_w]
            rfl
          exact norm_ (by simp only [putAll, Act.put, List.setIfInBounds_toArray, List.set_cons_zero, List.set_cons_succ]) (hCont (A36, c36, W7.heap.size) _ ⟨⟨(HRQ.out.calm.cell (p := ⟨gd, 0, none⟩) hgd4).trans q0, (HRQ.out.calm.cell (p := ⟨gd, 1, none⟩) hgd4).trans q1, (HRQ.out.calm.cell (p := ⟨gd, 2, none⟩) hgd4).trans q2, (HRQ.out.calm.cell (p := ⟨gd, 3, none⟩) hgd4).trans q3⟩, HRQ.out⟩)
        · skip
          refine value_ (w1 := ?_) (v := ?_) (by rfl) rfl ?_ ?_
          rotate_left 2
          · go_simp
            constructor
            · rfl
            · rfl
          refine hK.out _ _ ⟨((by repeat (first | exact Below.refl _ _ | apply below_alloc | apply pw_below_drewN | apply below_drew1) : Below W44.heap.size W44 _).cell (p := ⟨gd, 0, none⟩) hgd4).trans q0, ((by repeat (first | exact Below.refl _ _ | apply below_alloc | apply pw_below_drewN | apply below_drew1) : Below W44.heap.size W44 _).cell (p := ⟨gd, 1, none⟩) hgd4).trans q1, ((by repeat (first | exact Below.refl _ _ | apply below_alloc | apply pw_below_drewN | apply below_drew1) : Below W44.heap.size W44 _).cell (p := ⟨gd, 2, none⟩) hgd4).trans q2, ((by repeat (first | exact Below.refl _ _ | apply below_alloc | apply pw_below_drewN | apply below_drew1) : Below W44.heap.size W44 _).cell (p := ⟨gd, 3, none⟩) hgd4).trans q3⟩ (fun hHeld => ?_)
          clear hK K
          refine norm_ (a' := ?_) ?_ ?_
          rotate_left
          · show Act.put _ (some 83) _ = _
            simp only [Act.put, List.setIfInBounds_toArray, List.set_cons_zero, List.set_cons_succ, i64_w, i32_w]
            rfl
          refine one_ (i := 1) (N := some 79) #[true, true, true, true, true, true, false, false, false, false, false, false, false, false, false] rfl rfl (by kernel_rfl) (by decide) (fun K hK => ?_)
          refine goes_ Tryd.func12 (by kernel_rfl) rfl #[.slice (some ⟨b, o, none⟩) l.length c2] (by rfl) rfl rfl (by simp only [List.map_toArray, List.map_cons, List.map_nil]; rfl) ?_
          with_reducible refine (rosterlaw09_copies.calls kc (some ⟨b, o, none⟩) c2 l l _ (HCL.out _ (by repeat (first | exact HBX.out | apply below_alloc | apply pw_below_drewN | apply below_drew1))) hl2 HKC.out).mono ?_
          rintro e W7 ⟨v7, rfl, ho, hb⟩
          obtain ⟨A36, c36, hv7⟩ := Kd.R_slice ho
          subst hv7
          have HRQ : Hid (RQ W44 m l #[.int .i64 0, .string ⟨#[]⟩, .slice A43 k2.length c43, .slice none 0 0, .int .i64 x.f0, .string x.f1, .slice B2 x.f2.length d2, .slice B3 x.f3.length d3] A36 c36 W44.heap.size W7) := Lib.hid (rq_second (W := W44) hm44 (by repeat (first | exact hb | apply undrewN | apply undrew1)) ho)
          clear ho hb
          refine ⟨_, rfl, ?_⟩
          refine hK.out _ _ ⟨(HRQ.out.calm.cell (p := ⟨gd, 0, none⟩) hgd4).trans q0, (HRQ.out.calm.cell (p := ⟨gd, 1, none⟩) hgd4).trans q1, (HRQ.out.calm.cell (p := ⟨gd, 2, none⟩) hgd4).trans q2, (HRQ.out.calm.cell (p := ⟨gd, 3, none⟩) hgd4).trans q3⟩ (fun hHeld => ?_)
          clear hK K
          refine norm_ (a' := ?_) ?_ ?_
          rotate_left
          · show Act.put _ (some 79) _ = _
            simp only [Act.put, List.setIfInBounds_toArray, List.set_cons_zero, List.set_cons_succ, i64_w, i32_w]
            rfl
          exact norm_ (by simp only [putAll, Act.put, List.setIfInBounds_toArray, List.set_cons_zero, List.set_cons_succ]) (hCont (A36, c36, W44.heap.size) _ ⟨⟨(HRQ.out.calm.cell (p := ⟨gd, 0, none⟩) hgd4).trans q0, (HRQ.out.calm.cell (p := ⟨gd, 1, none⟩) hgd4).trans q1, (HRQ.out.calm.cell (p := ⟨gd, 2, none⟩) hgd4).trans q2, (HRQ.out.calm.cell (p := ⟨gd, 3, none⟩) hgd4).trans q3⟩, HRQ.out⟩)
      rintro ⟨A36, c36, g39⟩ w' ⟨hHeld, hrq⟩
      have HRQ := Lib.hid hrq
      have hgl := lit2_reads hrq.lit
      clear hrq
      refine norm_ (a' := ?_) ?_ ?_
      rotate_left
      · simp only [putAll, Act.put, List.setIfInBounds_toArray, List.set_cons_zero, List.set_cons_succ]
        rfl
      refine last_ (i := 6) (N := some 84) #[true, true, true, true, true, true, true, false, false, false, false, false, false, false, false] rfl rfl (by kernel_rfl) (by decide) (fun K hK => ?_)
      refine Kd.R_append_rows_step k45 (Rr := _) (w0 := W44) (W := _) m (by rfl) (.tmp 79) (.tmp 83) 22 45 (.agg #[(.int .i64 0), (.string ⟨#[]⟩), (.slice none 0 0), (.slice none 0 0)]) 72 rfl Tryd.underlying22 info45 rfl (by decide) (by decide) (.slice A36 l.length c36) l [y, x] (some ⟨g39, 0, none⟩) 2 2 (fun k => True) (fun k => k < W44.heap.size) rfl rfl (Kd.R_mono HRQ.out.own (fun _ _ => trivial)) (hgl y x) ?aK ?aO (fun _ _ => trivial) (HRQ.out.calm.mono hm44) (Nat.le_trans hm44 HRQ.out.calm.size) (by omega) ?_
      case aK => rintro e cs (⟨rfl, rfl⟩ | ⟨rfl, rfl⟩); exact HYC.out _ HRQ.out.calm; exact HXC.out _ HRQ.out.calm
      case aO => exact (fun k hk => ⟨trivial, fun e => by have := (HRQ.out.own.1 k e.symm); omega⟩)
      intro v90 w90 ho hb hg90 _
      obtain ⟨A90, c90, hv90, hl90, hC90⟩ := Kd.R_reads ho
      subst hv90
      have HB90 : Hid (DitMeth.Calm W44 w90) := Lib.hid (HRQ.out.calm.grown hg90 HRQ.out.calm.size (fun j e => HRQ.out.own.1 j e))
      have HC90 := Lib.hid hC90
      clear ho hb hg90 hC90
      refine hK.out _ _ ?_
      clear hK K
      refine norm_ (a' := ?_) ?_ ?_
      rotate_left
      · show Act.put _ (some 84) _ = _
        simp only [Act.put, List.setIfInBounds_toArray, List.set_cons_zero, List.set_cons_succ, i64_w, i32_w]
        rfl
      refine last_ (i := 7) (N := some 85) #[true, true, true, true, true, true, true, true, false, false, false, false, false, false, false] rfl rfl (by kernel_rfl) (by decide) (fun K hK => ?_)
      refine goes_ Tryd.func16 (by kernel_rfl) rfl #[.slice A90 (l ++ [y, x]).length c90] (by rfl) rfl rfl (by simp only [List.map_toArray, List.map_cons, List.map_nil]; rfl) ?_
      with_reducible refine (HBA12.out _ A90 c90 (Kd.C_below HC90.out (by repeat (first | exact Below.refl _ _ | apply below_alloc | apply pw_below_drewN | apply below_drew1))) (HTB.out _ (HB644.out.trans ((HB90.out.trans (((by repeat (first | exact Below.refl _ _ | apply below_alloc | apply pw_below_drewN | apply below_drew1)) : Below w90.heap.size w90 _).mono HB90.out.size)).mono HB644.out.size)))).mono ?_
      rintro e W91 ⟨rfl, hb⟩
      have HB91 : Hid (DitMeth.Calm W44 W91) := Lib.hid (HB90.out.trans ((by repeat (first | exact hb | apply undrewN | apply undrew1) : Below w90.heap.size w90 W91).mono HB90.out.size))
      clear hb
      refine ⟨_, rfl, ?_⟩
      refine hK.out _ _ ?_
      clear hK K
      refine norm_ (a' := ?_) ?_ ?_
      rotate_left
      · show Act.put _ (some 85) _ = _
        simp only [Act.put, List.setIfInBounds_toArray, List.set_cons_zero, List.set_cons_succ, i64_w, i32_w]
        rfl
      refine pure_ (i := 8) (N := some 77) (v := ?_) (a' := ?_) #[true, true, true, true, true, true, true, true, true, false, false, false, false, false, false] rfl rfl (by kernel_rfl) (fun _ _ _ h => h) (Or.inl ⟨by rfl, ?_⟩) ?_ ?_
      rotate_left
      · intro w'
        go_simp
        with_reducible rfl
      rotate_left
      · simp only [Act.put, List.setIfInBounds_toArray, List.set_cons_zero, List.set_cons_succ, i64_w, i32_w]
        rfl
      refine pure_ (i := 9) (N := some 86) (v := ?_) (a' := ?_) #[true, true, true, true, true, true, true, true, true, true, false, false, false, false, false] rfl rfl (by kernel_rfl) (fun _ _ _ h => h) (Or.inl ⟨by rfl, ?_⟩) ?_ ?_
      rotate_left
      · intro w'
        go_simp
        with_reducible rfl
      rotate_left
      · simp only [Act.put, List.setIfInBounds_toArray, List.set_cons_zero, List.set_cons_succ, i64_w, i32_w]
        rfl
      refine pure_ (i := 10) (N := some 87) (v := ?_) (a' := ?_) #[true, true, true, true, true, true, true, true, true, true, true, false, false, false, false] rfl rfl (by kernel_rfl) (fun _ _ _ h => h) (Or.inl ⟨by rfl, ?_⟩) ?_ ?_
      rotate_left
      · intro w'
        go_simp
        with_reducible rfl
      rotate_left
      · simp only [Act.put, List.setIfInBounds_toArray, List.set_cons_zero, List.set_cons_succ, i64_w, i32_w]
        rfl
      refine pure_ (i := 11) (N := some 88) (v := ?_) (a' := ?_) #[true, true, true, true, true, true, true, true, true, true, true, true, false, false, false] rfl rfl (by kernel_rfl) (fun _ _ _ h => h) (Or.inl ⟨by rfl, ?_⟩) ?_ ?_
      rotate_left
      · intro w'
        go_simp
        with_reducible rfl
      rotate_left
      · simp only [Act.put, List.setIfInBounds_toArray, List.set_cons_zero, List.set_cons_succ, i64_w, i32_w]
        rfl
      refine pure_ (i := 12) (N := some 11) (v := ?_) (a' := ?_) #[true, true, true, true, true, true, true, true, true, true, true, true, true, false, false] rfl rfl (by kernel_rfl) (fun _ _ _ h => h) (Or.inl ⟨by rfl, ?_⟩) ?_ ?_
      rotate_left
      · intro w'
        go_simp
        with_reducible rfl
      rotate_left
      · simp only [Act.put, List.setIfInBounds_toArray, List.set_cons_zero, List.set_cons_succ, i64_w, i32_w]
        rfl
      refine pure_ (i := 13) (N := some 12) (v := ?_) (a' := ?_) #[true, true, true, true, true, true, true, true, true, true, true, true, true, true, false] rfl rfl (by kernel_rfl) (fun _ _ _ h => h) (Or.inl ⟨by rfl, ?_⟩) ?_ ?_
      rotate_left
      · intro w'
        go_simp
        with_reducible rfl
      rotate_left
      · simp only [Act.put, List.setIfInBounds_toArray, List.set_cons_zero, List.set_cons_succ, i64_w, i32_w]
        rfl
      refine pure_ (i := 14) (N := some 13) (v := ?_) (a' := ?_) #[true, true, true, true, true, true, true, true, true, true, true, true, true, true, true] rfl rfl (by kernel_rfl) (fun _ _ _ h => h) (Or.inl ⟨by rfl, ?_⟩) ?_ ?_
      rotate_left
      · intro w'
        go_simp
        with_reducible rfl
      rotate_left
      · simp only [Act.put, List.setIfInBounds_toArray, List.set_cons_zero, List.set_cons_succ, i64_w, i32_w]
        rfl
      refine done_ (by kernel_rfl) ?_
      have HN : Hid (DitMeth.Calm W6 W91) := Lib.hid (HB644.out.trans (HB91.out.mono HB644.out.size))
      go_wp2
      go_meet
      case rel => exact HN
    · have hd1 : decide (am < 0) = false := decide_eq_false (by omega)
      have HN := HB644
      go_wp2
      go_meet
      case rel => exact HN
  case rest =>
  have HCW : Hid (DitMeth.Calm W6 wc) := hcut
  clear hcut
  obtain ⟨z, hz⟩ : ∃ z : S45, z = ⟨0, ⟨#[120]⟩, [], []⟩ := ⟨_, rfl⟩
  have HF15 := Lib.hid (HFX.out z (by rw [hz]; decide) (by rw [hz]; simp [bulkK]) (by rw [hz]; intro q hq; cases hq) (by rw [hz]; exact ⟨Nat.zero_le _, fun a ha => by cases ha⟩) [z] (by simp) (by simp) (by simp; omega))
  have HZM : Hid (∀ (W' : World) (ok : Nat → Prop), k45.M W' wc.heap.size ok z [.int .i64 0, .string ⟨#[120]⟩, .slice none 0 0, .slice none 0 0]) := Lib.hid (fun W' ok => by rw [hz]; exact k45_mkM W' wc.heap.size ok (⟨0, ⟨#[120]⟩, [], []⟩ : S45) (Kd.R_nil _ _ _ _ _) (Kd.R_nil _ _ _ _ _))
  have hroot : ([] ∈ DitCheck.Keys l) ↔ l0.length = 0 := by
    constructor
    · intro hm
      obtain ⟨e, he, h1⟩ := List.mem_map.1 hm
      have h2 := (HGN.out.key e he).2.2.2.length_le
      rw [h1] at h2
      simpa using h2
    · intro h0
      have h1 : l0 = [] := List.eq_nil_of_length_eq_zero h0
      have h2 := HGN.out.base
      rw [h1] at h2
      exact List.mem_map.2 ⟨_, ent_mem hlp, h2⟩
  obtain ⟨f, hf⟩ : ∃ f : Int, f = if l0.length = 0 then 90 else 91 := ⟨_, rfl⟩
  have hchk15 : chk (DitCheck.Keys (l ++ [z])) = (f, (l.length : Int)) ∧ f ≠ 0 := by
    have h9 : f ≠ 0 := by rw [hf]; split <;> decide
    refine ⟨?_, h9⟩
    have := chk_more HGN.out.good z.f2 [] (f := f) h9 (by
      rw [hz]
      by_cases h0 : l0.length = 0
      · exact .inl ⟨hroot.2 h0, by rw [hf, if_pos h0]⟩
      · exact .inr ⟨fun h => h0 (hroot.1 h), by rw [hf, if_neg h0], .inl rfl⟩)
    rw [show (DitCheck.Keys l).length = l.length from List.length_map _] at this
    rw [show DitCheck.Keys (l ++ [z]) = DitCheck.Keys l ++ z.f2 :: [] by unfold DitCheck.Keys; rw [List.map_append]; rfl]
    exact this
  have HBA15 : Hid (∀ (W : World) (A : Option Addr) (c : Nat), Kd.C k45 W A (l ++ [z]).length (l ++ [z]) → Tabs W → Calls Tryd.prog 16 #[.slice A (l.length + 1) c] W fun e w' => e = .returned (.tuple #[.pointer none, .int .i64 f, .int .i64 (l.length : Int)]) ∧ Below W.heap.size W w') := Lib.hid (fun W A c h1 h2 => by have := bad_as W A c (l ++ [z]) h1 HF15.out h2 (by rw [hchk15.1]; exact hchk15.2); rw [hchk15.1, List.length_append, List.length_singleton] at this; exact this)
  have HFV := Lib.hid hf
  clear hz hroot hf hchk15
  have CC := Lib.hid (rosterlaw09_copies.calls kc (some ⟨b, o, none⟩) c2 l l wc (HCL.out _ HCW.out) hl2 HKC.out)
  go_upto_region 16 with (first
    | (go_at_call 12; ((with_reducible refine CC.out.mono ?_); rintro e50 W50 ⟨v50, rfl, ho, hb⟩; obtain ⟨A50, c50, hv50, hl50, hC50⟩ := Kd.R_reads ho; subst hv50; have HB50 : Hid (DitMeth.Calm wc W50) := Lib.hid hb; have HO50 : Hid (Kd.R k45 45 W50 wc.heap.size (fun _ => True) (.slice A50 l.length c50) l) := Lib.hid ho; clear ho hb hC50))
    | ((with_reducible refine gate_builtin (b := .append) (xs := #[.tmp 103, .tmp 105]) rfl ?_); at_builtin; (refine Kd.R_append k45 (w0 := wc) wc.heap.size rfl (.tmp 103) (.tmp 105) 22 45 (.agg #[(.int .i64 0), (.string ⟨#[]⟩), (.slice none 0 0), (.slice none 0 0)]) 72 rfl Tryd.underlying22 info45 rfl (by decide) (by decide) (.slice A50 l.length c50) l z [.int .i64 0, .string ⟨#[120]⟩, .slice none 0 0, .slice none 0 0] (fun _ => True) (fun _ => False) rfl rfl (HZM.out _ _) (fun _ h => h.elim) (fun _ _ => trivial) HO50.out HB50.out HB50.out.size (by omega) ?_; intro v51 w51 ho hb _ _; obtain ⟨A51, c51, hv51, hl51, hC51⟩ := Kd.R_reads ho; subst hv51; have HC51 := Lib.hid hC51; have HB51 : Hid (DitMeth.Calm wc w51) := Lib.hid hb; clear ho hb hC51))
    | (go_at_call 16; ((with_reducible refine (HBA15.out w51 A51 c51 HC51.out (HTB.out _ (HCW.out.trans (HB51.out.mono HCW.out.size)))).mono ?_); rintro e52 W52 ⟨rfl, hb⟩; have HB52 : Hid (DitMeth.Calm W6 W52) := Lib.hid (HCW.out.trans ((HB51.out.trans (hb.mono HB51.out.size)).mono HCW.out.size)); clear hb))
    | go_in)
  by_cases h0 : l0.length = 0
  · have hf9 : f = 90 := by rw [HFV.out, if_pos h0]
    subst hf9
    have hz0 : ((l0.length : Int) == 0) = true := by rw [h0]; rfl
    have h0' : l0 = [] := List.eq_nil_of_length_eq_zero h0
    go_wp2
    go_ret
    exact ⟨by simp, HB26.out.trans (HB52.out.mono HB26.out.size)⟩
  · have hf9 : f = 91 := by rw [HFV.out, if_neg h0]
    subst hf9
    have hz0 : ((l0.length : Int) == 0) = false := beq_eq_false_iff_ne.mpr (by omega)
    have h0' : ¬ l0 = [] := fun e => h0 (by rw [e]; rfl)
    go_wp2
    go_ret
    exact ⟨by simp, HB26.out.trans (HB52.out.mono HB26.out.size)⟩
end Go.Proofs.YtnogmaljcocfjaaDoor.XK

/- DitStops: the law walked (printed). For every input and world. -/
import Derived.Test.YtnogmaljcocfjaaDoorDitAgain
import Derived.OpenShut
set_option linter.unusedVariables false
set_option linter.unusedSimpArgs false
namespace Go.Proofs.YtnogmaljcocfjaaDoor.XK
open Go Go.Maps Go.RowKit Go.Proofs.YtnogmaljcocfjaaDoor.Blk Go.Proofs.YtnogmaljcocfjaaDoor.DitTab Go.Proofs.YtnogmaljcocfjaaDoor.DitRow Go.Proofs.YtnogmaljcocfjaaDoor.DitTerm Go.Proofs.YtnogmaljcocfjaaDoor.DitMap Go.Proofs.YtnogmaljcocfjaaDoor.DitCheck Go.Proofs.YtnogmaljcocfjaaDoor.DitCopy Go.Proofs.YtnogmaljcocfjaaDoor.DitPure Go.Proofs.YtnogmaljcocfjaaDoor.DitSort Go.Proofs.YtnogmaljcocfjaaDoor.DitBuild Go.Proofs.YtnogmaljcocfjaaDoor.DitMeth Go.Proofs.YtnogmaljcocfjaaDoor.DitGr Go.Proofs.YtnogmaljcocfjaaDoor.DitLaw Go.Proofs.YtnogmaljcocfjaaDoor.Keys Go.Proofs.YtnogmaljcocfjaaDoorW.PrintWords Go.Proofs.YtnogmaljcocfjaaDoorW.PrintLast Go.Proofs.YtnogmaljcocfjaaDoorW.PrintMore
theorem scopeOK {es : List S45} {p : List Nat} {nn tb : Nat} {PI : Nat → Nat} {w : World} (hT : TreeAt es p nn PI tb w) (hnn : nn ≤ 1048576) (hpl : p.length = nn) {lt ln ls : Nat} {x s : Int} (hbx : BxS tb lt ln ls x s w) : SeqOK w 53 #[.pointer (some ⟨lt, 0, none⟩), .pointer (some ⟨ln, 0, none⟩), .pointer (some ⟨ls, 0, none⟩)] (scopeI es p nn PI x s) := by
  intro d n w' b hn hB hb
  have h1 := (Array.getElem?_eq_some_iff.1 hbx.1).1
  have h2 := (Array.getElem?_eq_some_iff.1 hbx.2.1).1
  have h3 := (Array.getElem?_eq_some_iff.1 hbx.2.2).1
  exact scope_seqG d n hn w' lt ln ls b x s hT hnn hpl hB ⟨box_on hbx.1 hB, box_on hbx.2.1 hB, box_on hbx.2.2 hB⟩ (by omega) (by omega) (by omega)
theorem upOK {es : List S45} {p : List Nat} {nn tb : Nat} {PI : Nat → Nat} {w : World} (hT : TreeAt es p nn PI tb w) (hS : TS (keyS es p)) (hP : Par (keyS es p) PI) (hl : (keyS es p).length = nn) {ln lt : Nat} {x : Int} (hbx : BxU tb ln lt x w) : SeqOK w 55 #[.pointer (some ⟨ln, 0, none⟩), .pointer (some ⟨lt, 0, none⟩)] (upI nn PI x) := by
  intro d n w' b hn hB hb
  have h1 := (Array.getElem?_eq_some_iff.1 hbx.1).1
  have h2 := (Array.getElem?_eq_some_iff.1 hbx.2).1
  exact up_seqG d n hn w' ln lt b x hT hS hP hl hB ⟨box_on hbx.1 hB, box_on hbx.2 hB⟩ (by omega) (by omega)
/-- Scope called, and what was handed out gone through. -/
theorem scope_box (w : World) (tb : Nat) (x s : Int) : BxS tb w.heap.size (w.heap.size + 1) (w.heap.size + 1 + 1) x s (((w.alloc (.cells #[TP tb] 32)).alloc (.cells #[.int .i64 x] 3)).alloc (.cells #[.int .i64 s] 66)) := by
  refine ⟨?_, ?_, ?_⟩
  · exact ((Boxed.new w 32 (TP tb)).alloc _).alloc _
  · have := Boxed.new (w.alloc (.cells #[TP tb] 32)) 3 (.int .i64 x)
    rw [World.size_alloc] at this
    exact this.alloc _
  · have := Boxed.new ((w.alloc (.cells #[TP tb] 32)).alloc (.cells #[.int .i64 x] 3)) 66 (.int .i64 s)
    simpa only [World.size_alloc] using this
theorem up_box (w : World) (tb : Nat) (x : Int) : BxU tb (w.heap.size + 1) w.heap.size x ((w.alloc (.cells #[TP tb] 32)).alloc (.cells #[.int .i64 x] 3)) := by
  refine ⟨?_, ?_⟩
  · have := Boxed.new (w.alloc (.cells #[TP tb] 32)) 3 (.int .i64 x)
    rwa [World.size_alloc] at this
  · exact (Boxed.new w 32 (TP tb)).alloc _
theorem bxs_on {tb lt ln ls : Nat} {x s : Int} {A B : World} (h : BxS tb lt ln ls x s A) (k : DitMeth.Calm A B) : BxS tb lt ln ls x s B := ⟨box_on h.1 k, box_on h.2.1 k, box_on h.2.2 k⟩
theorem bxu_on {tb ln lt : Nat} {x : Int} {A B : World} (h : BxU tb ln lt x A) (k : DitMeth.Calm A B) : BxU tb ln lt x B := ⟨box_on h.1 k, box_on h.2 k⟩
theorem one_row (W : World) (x : Int) : RowI (W.alloc (.cells #[.int .i64 x] 3)) W.heap.size (some ⟨W.heap.size, 0, none⟩) 1 [x] := by
  refine ⟨Nat.le_refl _, fun _ => ⟨0, rfl, fun i hi => ?_⟩⟩
  have hi0 : i = 0 := by have : i < 1 := hi; omega
  subst hi0
  have := At.fresh W [.int .i64 x] 3
  exact this.get 0 _ rfl
theorem scope_zero {l : List S45} {p : List Nat} {PI : Nat → Nat} {n : Nat} (hn : n < l.length) : scopeI l p l.length PI (n : Int) 0 = [(n : Int)] := by
  unfold scopeI
  rw [isIn_true (by omega) (by omega), if_pos rfl, if_pos rfl]
theorem scope_oneS {l : List S45} {p : List Nat} {PI : Nat → Nat} {n : Nat} (hn : n < l.length) : scopeI l p l.length PI (n : Int) 1 = childL l.length PI (n : Int) := by
  unfold scopeI
  rw [isIn_true (by omega) (by omega), if_pos rfl, if_neg (by decide), if_pos rfl]
theorem scope_two {l : List S45} {p : List Nat} {PI : Nat → Nat} (h : PT l p PI) (hE : ∃ e : Nat → Nat, ∀ m, m < l.length → IsEnd (keyS l p) m (e m)) {n : Nat} (hn : n < l.length) : ∃ t, scopeI l p l.length PI (n : Int) 2 = (n : Int) :: t := by
  have h1 := (h.span hE hn).1
  unfold scopeI
  rw [isIn_true (by omega) (by omega), if_pos rfl, if_neg (by decide), if_neg (by decide), if_pos rfl, Int.toNat_natCast]
  obtain ⟨k, hk⟩ : ∃ k, endR (keyS l p) n - n = k + 1 := ⟨endR (keyS l p) n - n - 1, by omega⟩
  rw [hk, List.range_succ_eq_map, List.map_cons]
  exact ⟨_, by simp; rfl⟩
open Classical in
noncomputable def rosterlaw09_DitStops.f (l0 : List ByteArray) (l1 : List S86) (nI sI : Int) : Option Bool := if InOK l0 l1 ∧ wfi nI ∧ wfi sI then some true else none
set_option maxHeartbeats 8000000 in
set_option maxRecDepth 100000 in
theorem rosterlaw09_DitStops.calls (A0 : Option Addr) (c0 : Nat) (l0 : List ByteArray) (A1 : Option Addr) (c1 : Nat) (l1 : List S86) (nI sI : Int) (r : Bool) (w : World) (hG : Tabs w) (hr0 : Kd.C Kd.string w A0 l0.length l0) (hc0 : l0.length ≤ c0) (hr1 : Kd.C k86 w A1 l1.length l1) (hc1 : l1.length ≤ c1) (h : rosterlaw09_DitStops.f l0 l1 nI sI = some r) :
    Calls Tryd.prog 9 #[.slice A0 l0.length c0, .slice A1 l1.length c1, .int .i64 nI, .int .i64 sI] w fun e w' => e = .returned (.bool r) ∧ Below w.heap.size w w' := by
  unfold rosterlaw09_DitStops.f at h
  split at h
  case isFalse => cases h
  case isTrue hIN =>
  obtain rfl := Option.some.inj h
  have hI := hIN.1
  obtain ⟨l, hl⟩ : ∃ l, l = grownL l0 l1 := ⟨_, rfl⟩
  have hgn : GN l0 l1 l1.length l := by rw [hl]; exact grown_gn hI l1.length (Nat.le_refl _)
  have GA := grown_as w A0 A1 c0 c1 l0 l1 hr0 hr1 hI
  rw [← hl] at GA
  have HGA := Lib.hid GA
  have HGN := Lib.hid hgn
  have HF := Lib.hid (hgn.fit hI (Nat.le_refl _))
  have HG := Lib.hid hG
  have HIN := Lib.hid hI
  have hll := (hgn.fit hI (Nat.le_refl _)).len
  have hlp : 0 < l.length := by have := hgn.good.pos; simpa using this
  clear h GA hgn hG hI hl hr0 hr1 
  have hn2 := wf_range hIN.2.1
  have hs2 := wf_range hIN.2.2
  have cs : ∀ k : Int, -9223372036854775808 ≤ k → k ≤ 9223372036854775807 → (k < 0 ∧ IntKind.i64.wrap (k + 1) = k + 1 ∧ IntKind.i64.wrap (-(k + 1)) = under k) ∨ (¬ k < 0 ∧ under k = k) := fun k h1 h2 => by
    by_cases hneg : k < 0
    · exact .inl ⟨hneg, IntWalk.i64_in _ (by omega), by rw [IntWalk.i64_in _ (by omega), under, if_pos hneg]⟩
    · exact .inr ⟨hneg, by rw [under, if_neg hneg]⟩
  have rm : ∀ k : Int, Int.tmod (under k) (l.length : Int) = (whichE k l.length : Int) := fun k => by
    have h0 := under_nonneg k
    unfold whichE
    rw [Int.tmod_eq_emod_of_nonneg h0, Int.natCast_emod, Int.toNat_of_nonneg h0]
  have HN := Lib.hid (cs nI hn2.1 hn2.2)
  have HS := Lib.hid (cs sI hs2.1 hs2.2)
  have hrn := rm nI
  have hrs := rm sI
  have hql := whichE_lt nI hlp
  have hsl := whichE_lt sI hlp
  clear cs rm hn2 hs2 hIN
  generalize whichE nI l.length = q at hrn hql
  generalize whichE sI l.length = r at hrs hsl
  generalize under nI = un at HN hrn
  generalize under sI = us at HS hrs
  obtain ⟨st, hst⟩ : ∃ st : Int, st = 1 + (r : Int) := ⟨_, rfl⟩
  have hwst : IntKind.i64.wrap (1 + (r : Int)) = st := by rw [hst]; exact IntWalk.i64_in _ (by omega)
  have hst1 : 1 ≤ st := by omega
  have hlnil : ¬ l = [] := fun e => by rw [e] at hlp; exact absurd hlp (by decide)
  have hlen0 : ¬ (l.length : Int) = 0 := by omega
  have hnil := fun a b c w => run_func_nil a b c w
  clear hst
  go_enter Tryd.func9, Tryd.ntmps9
  go_upto_region 5 with (first
    | (go_at_call 20; ((with_reducible refine HGA.out.mono ?_); rintro e W1 ⟨v1, rfl, ho, hb⟩; obtain ⟨A2, c2, hv1, hl2, hC2⟩ := Kd.R_reads ho; subst hv1; have HB1 : Hid (Below w.heap.size w W1) := Lib.hid hb; have HC2 := Lib.hid hC2; clear ho hb hC2))
    | (go_at_call 21; ((with_reducible refine (built_law W1 A2 c2 l HC2.out hl2 HF.out (Tabs_at HG.out HB1.out) HGN.out.good).mono ?_); rintro e W2 ⟨tb, p, PI, rfl, hP, hT, hb⟩; have HP := Lib.hid hP; have HL : Hid (LT l p PI tb A2 W2) := Lib.hid ⟨Kd.C_below HC2.out hb, hT, Tabs_at HG.out (HB1.out.trans (hb.mono HB1.out.size))⟩; have HB2 : Hid (Below w.heap.size w W2) := Lib.hid (HB1.out.trans (hb.mono HB1.out.size)); clear hP hT hb))
    | go_in)
  go_upto_if 21 with (first | go_in)
  go_cut [2] (fun v2 wc => v2 = .int .i64 un ∧ wc = W2)
  case first =>
    rcases HN.out with ⟨h1, h2, h3⟩ | ⟨h1, h2⟩
    · go_wp2
      go_meet
      case rel => exact ⟨rfl, rfl⟩
    · have h4 : nI = un := h2.symm
      clear h2
      go_wp2
      go_meet
      case rel => exact ⟨congrArg (Value.int .i64) h4, rfl⟩
  case rest =>
  obtain ⟨rfl, rfl⟩ := hcut
  clear HN
  go_upto_if 30 with (first | go_in)
  go_cut [3] (fun v3 wd => v3 = .int .i64 us ∧ wd = wc)
  case first =>
    rcases HS.out with ⟨h1, h2, h3⟩ | ⟨h1, h2⟩
    · go_wp2
      go_meet
      case rel => exact ⟨rfl, rfl⟩
    · have h4 : sI = us := h2.symm
      clear h2
      go_wp2
      go_meet
      case rel => exact ⟨congrArg (Value.int .i64) h4, rfl⟩
  case rest =>
  obtain ⟨rfl, rfl⟩ := hcut
  clear HS
  have hE := TreeAt.ends HL.out.tree
  obtain ⟨bt, hbt⟩ := scope_two HP.out hE hql
  have hbll := HP.out.scope_len (q : Int) 2 hE
  have hull := HP.out.ups_len (q : Int)
  have SA := fun (w : World) (hT : TreeAt l p l.length PI tb w) => scoped_as HP.out hT (q : Int) 2 (-1)
  have UA := fun (w : World) (hT : TreeAt l p l.length PI tb w) => upward_as HP.out hT (q : Int) (-1)
  rw [takeR_all] at SA UA
  obtain ⟨bl, hbl⟩ : ∃ bl, bl = scopeI l p l.length PI (q : Int) 2 := ⟨_, rfl⟩
  obtain ⟨ul, hul⟩ : ∃ ul, ul = upI l.length PI (q : Int) := ⟨_, rfl⟩
  rw [← hbl] at hbt hbll SA
  rw [← hul] at hull UA
  have hut : ∃ t, ul = (q : Int) :: t := by rw [hul, upI_in HP.out.ts HP.out.par HP.out.slen hql]; exact ⟨_, rfl⟩
  obtain ⟨ut, hut⟩ := hut
  have hbp : 0 < bl.length := by rw [hbt]; simp
  have hup : 0 < ul.length := by rw [hut]; simp
  have hb0 : bl.getD 0 0 = (q : Int) := by rw [hbt]; rfl
  have hu0 : ul.getD 0 0 = (q : Int) := by rw [hut]; rfl
  have HSA := Lib.hid SA
  have HUA := Lib.hid UA
  have HBL := Lib.hid hbl
  have HUL := Lib.hid hul
  have hbz : ((bl.length : Int) == 0) = false := beq_eq_false_iff_ne.mpr (by omega)
  have huz : ((ul.length : Int) == 0) = false := beq_eq_false_iff_ne.mpr (by omega)
  have hbn : ¬ bl = [] := by rw [hbt]; simp
  have hun : ¬ ul = [] := by rw [hut]; simp
  have HB0 := Lib.hid (And.intro hb0 (And.intro hu0 (And.intro hbp hup)))
  have hq0 : (0 : Int) ≤ (q : Int) := by omega
  have hwf : wfi (q : Int) := WalkArith.wf_i64 (by omega)
  have HE0 := Lib.hid hE
  clear SA UA hbt hut hbl hul hb0 hu0 hE
  go_upto_region 13 with (first
    | (go_at_call 34; ((with_reducible refine (HSA.out wc HL.out.tree).mono ?_); rintro e4 W4 ⟨v4, rfl, hown, hb⟩; obtain ⟨gb, Bb, cb, hv4, hrow, _, _⟩ := row_of_own hown; subst hv4; have HRB : Hid (RowI W4 gb Bb cb bl) := Lib.hid hrow; have HB4 : Hid (DitMeth.Calm wc W4) := Lib.hid hb; clear hown hrow hb))
    | (go_at_call 29; ((with_reducible refine (HUA.out W4 (HL.out.tree.below HB4.out)).mono ?_); rintro e5 W5 ⟨v5, rfl, hown, hb⟩; obtain ⟨gu, Bu, cu, hv5, hrow, _, _⟩ := row_of_own hown; subst hv5; have HRU : Hid (RowI W5 gu Bu cu ul) := Lib.hid hrow; have HC5 : Hid (DitMeth.Calm wc W5) := Lib.hid (HB4.out.trans (hb.mono HB4.out.size)); have HRB5 : Hid (RowI W5 gb Bb cb bl) := Lib.hid (HRB.out.below hb); clear hown hrow hb))
    | go_in)
  obtain ⟨ob, hBb, hcb⟩ := HRB5.out.at_ HB0.out.2.2.1
  subst hBb
  obtain ⟨ou, hBu, hcu⟩ := HRU.out.at_ HB0.out.2.2.2
  subst hBu
  have cb0 := hcb 0 HB0.out.2.2.1
  have cu0 := hcu 0 HB0.out.2.2.2
  rw [HB0.out.1] at cb0
  rw [HB0.out.2.1] at cu0
  have cb1 : W5.cell? ⟨gb, ob, none⟩ = some (.int .i64 (q : Int)) := cb0
  have cu1 : W5.cell? ⟨gu, ou, none⟩ = some (.int .i64 (q : Int)) := cu0
  have hbi : (0 : Int) < (bl.length : Int) := by have := HB0.out.2.2.1; omega
  have hui : (0 : Int) < (ul.length : Int) := by have := HB0.out.2.2.2; omega
  have hbp2 := HB0.out.2.2.1
  have hup2 := HB0.out.2.2.2
  clear hcb hcu
  go_upto_region 15 with (first | go_in)
  clear cb0 cu0 cb1 cu1 hbi hui
  have HTT : Hid (∀ W, DitMeth.Calm W5 W → TreeAt l p l.length PI tb W) := Lib.hid (fun W hW => HL.out.tree.below (HC5.out.trans (hW.mono HC5.out.size)))
  have eg53 := enters_of Tryd.func53 (by kernel_rfl) rfl
  have eg55 := enters_of Tryd.func55 (by kernel_rfl) rfl
  have HEG := Lib.hid (And.intro eg53 eg55)
  have hlen1 := HP.out.len
  have hsl1 := HP.out.slen
  have HLN := Lib.hid (And.intro hlen1 hsl1)
  have CA := fun (w : World) (hT : TreeAt l p l.length PI tb w) => children_as hT hll (q : Int) hwf
  have hcl := childL_len l.length PI (q : Int)
  have h1e := scope_oneS (p := p) (PI := PI) hql
  have h0e := scope_zero (p := p) (PI := PI) hql
  obtain ⟨cl, hcle⟩ : ∃ cl, cl = childL l.length PI (q : Int) := ⟨_, rfl⟩
  rw [← hcle] at CA hcl h1e
  have HCA := Lib.hid CA
  have HEQ := Lib.hid (And.intro h0e h1e)
  -- again at a scope's sequence
  have AG := fun (W : World) (hW : DitMeth.Calm W5 W) (lt ln ls : Nat) (s : Int) (hbx : BxS tb lt ln ls (q : Int) s W) (L : List Int) (hL : scopeI l p l.length PI (q : Int) s = L) (gL cL : Nat) (AL : Option Addr) (hrow : RowI W gL AL cL L) (hLl : L.length ≤ 1048576) =>
    again_as W 53 #[.pointer (some ⟨lt, 0, none⟩), .pointer (some ⟨ln, 0, none⟩), .pointer (some ⟨ls, 0, none⟩)] HEG.out.1 AL cL gL L st (by rw [← hL]; exact scopeOK (HTT.out W hW) hll HLN.out.1 hbx) hrow hLl hst1
  have AU := fun (W : World) (hW : DitMeth.Calm W5 W) (ln lt : Nat) (hbx : BxU tb ln lt (q : Int) W) (gL cL : Nat) (AL : Option Addr) (hrow : RowI W gL AL cL ul) =>
    again_as W 55 #[.pointer (some ⟨ln, 0, none⟩), .pointer (some ⟨lt, 0, none⟩)] HEG.out.2 AL cL gL ul st (by rw [HUL.out]; exact upOK (HTT.out W hW) HP.out.ts HP.out.par HLN.out.2 hbx) hrow hull hst1
  have HAG0 : Hid (∀ (W6 : World) (hW : DitMeth.Calm W5 W6) (lt ln ls : Nat) (hbx : BxS tb lt ln ls (q : Int) 0 W6), Calls Tryd.prog 35 #[.func (.func 53) #[] #[.pointer (some ⟨lt, 0, none⟩), .pointer (some ⟨ln, 0, none⟩), .pointer (some ⟨ls, 0, none⟩)], .slice (some ⟨W6.heap.size, 0, none⟩) 1 1, .int .i64 st] (W6.alloc (.cells #[.int .i64 (q : Int)] 3)) fun e w' => e = .returned (.bool true) ∧ Below (W6.alloc (.cells #[.int .i64 (q : Int)] 3)).heap.size (W6.alloc (.cells #[.int .i64 (q : Int)] 3)) w') := Lib.hid (fun W6 hW lt ln ls hbx => AG (W6.alloc (.cells #[.int .i64 (q : Int)] 3)) (hW.trans (below_alloc (Below.refl _ _) _ |>.mono hW.size)) lt ln ls 0 (bxs_on hbx (below_alloc (Below.refl _ _) _)) [(q : Int)] HEQ.out.1 W6.heap.size 1 (some ⟨W6.heap.size, 0, none⟩) (one_row W6 (q : Int)) (by simp))
  have HAG := Lib.hid AG
  have HAU := Lib.hid AU
  clear AG AU CA h1e h0e hcle eg53 eg55 hlen1 hsl1
  go_upto_region 17 with (first
    | (go_at_call 36; ((with_reducible refine (scopecall_as W5 tb (q : Int) 0).mono ?_); rintro e6 W6 ⟨rfl, h6⟩; have HX6 : Hid (BxS tb W5.heap.size (W5.heap.size + 1) (W5.heap.size + 1 + 1) (q : Int) 0 W6) := Lib.hid (by rw [h6]; exact scope_box W5 tb (q : Int) 0); have HD6 : Hid (DitMeth.Calm W5 W6) := Lib.hid (by rw [h6]; repeat (first | exact Below.refl _ _ | refine below_alloc ?_ _)); clear h6))
    | (go_at_call 35; ((with_reducible refine (HAG0.out W6 HD6.out W5.heap.size (W5.heap.size + 1) (W5.heap.size + 1 + 1) HX6.out).mono ?_); rintro e7 W7 ⟨rfl, hb⟩; have HD7 : Hid (DitMeth.Calm W5 W7) := Lib.hid (HD6.out.trans ((Below.trans (below_alloc (Below.refl W6.heap.size W6) _) (hb.mono (by rw [World.size_alloc]; omega))).mono HD6.out.size)); clear hb))
    | (go_at_call 36; ((with_reducible refine (scopecall_as W7 tb (q : Int) 1).mono ?_); rintro e8 W8 ⟨rfl, h8⟩; have HX8 : Hid (BxS tb W7.heap.size (W7.heap.size + 1) (W7.heap.size + 1 + 1) (q : Int) 1 W8) := Lib.hid (by rw [h8]; exact scope_box W7 tb (q : Int) 1); have HD8 : Hid (DitMeth.Calm W5 W8) := Lib.hid (HD7.out.trans (Below.mono (by rw [h8]; repeat (first | exact Below.refl _ _ | refine below_alloc ?_ _)) HD7.out.size)); clear h8))
    | (go_at_call 37; ((with_reducible refine (HCA.out W8 (HTT.out W8 HD8.out)).mono ?_); rintro e9 W9 ⟨v9, rfl, hown, hb⟩; obtain ⟨gc, Bc, cc, hv9, hrow, _, _⟩ := row_of_own hown.1; subst hv9; have HRC : Hid (RowI W9 gc Bc cc cl) := Lib.hid hrow; have HX9 := Lib.hid (bxs_on HX8.out hb); have HD9 : Hid (DitMeth.Calm W5 W9) := Lib.hid (HD8.out.trans (hb.mono HD8.out.size)); clear hown hrow hb))
    | (go_at_call 35; ((with_reducible refine (HAG.out W9 HD9.out W7.heap.size (W7.heap.size + 1) (W7.heap.size + 1 + 1) 1 HX9.out cl HEQ.out.2 gc cc Bc HRC.out (by omega)).mono ?_); rintro e10 W10 ⟨rfl, hb⟩; have HD10 : Hid (DitMeth.Calm W5 W10) := Lib.hid (HD9.out.trans (hb.mono HD9.out.size)); clear hb))
    | go_in)
  go_wp2_with (first
    | (go_at_call 36; ((with_reducible refine (scopecall_as W10 tb (q : Int) 2).mono ?_); rintro e11 W11 ⟨rfl, h11⟩; have HX11 : Hid (BxS tb W10.heap.size (W10.heap.size + 1) (W10.heap.size + 1 + 1) (q : Int) 2 W11) := Lib.hid (by rw [h11]; exact scope_box W10 tb (q : Int) 2); have HD11 : Hid (DitMeth.Calm W5 W11) := Lib.hid (HD10.out.trans (Below.mono (by rw [h11]; repeat (first | exact Below.refl _ _ | refine below_alloc ?_ _)) HD10.out.size)); clear h11))
    | (go_at_call 35; ((with_reducible refine (HAG.out W11 HD11.out W10.heap.size (W10.heap.size + 1) (W10.heap.size + 1 + 1) 2 HX11.out bl HBL.out.symm gb cb (some ⟨gb, ob, none⟩) (HRB5.out.below HD11.out) hbll).mono ?_); rintro e12 W12 ⟨rfl, hb⟩; have HD12 : Hid (DitMeth.Calm W5 W12) := Lib.hid (HD11.out.trans (hb.mono HD11.out.size)); clear hb))
    | (go_at_call 38; ((with_reducible refine (upcall_as W12 tb (q : Int)).mono ?_); rintro e13 W13 ⟨rfl, h13⟩; have HX13 : Hid (BxU tb (W12.heap.size + 1) W12.heap.size (q : Int) W13) := Lib.hid (by rw [h13]; exact up_box W12 tb (q : Int)); have HD13 : Hid (DitMeth.Calm W5 W13) := Lib.hid (HD12.out.trans (Below.mono (by rw [h13]; repeat (first | exact Below.refl _ _ | refine below_alloc ?_ _)) HD12.out.size)); clear h13))
    | (go_at_call 35; ((with_reducible refine (HAU.out W13 HD13.out (W12.heap.size + 1) W12.heap.size HX13.out gu cu (some ⟨gu, ou, none⟩) (HRU.out.below HD13.out)).mono ?_); rintro e14 W14 ⟨rfl, hb⟩; have HD14 : Hid (DitMeth.Calm W5 W14) := Lib.hid (HD13.out.trans (hb.mono HD13.out.size)); clear hb))
    | go_in)
  go_ret
  exact ⟨rfl, HB2.out.trans ((HC5.out.trans (HD14.out.mono HC5.out.size)).mono HB2.out.size)⟩
end Go.Proofs.YtnogmaljcocfjaaDoor.XK

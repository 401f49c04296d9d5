/- By hand: a name copied, each list with a mark behind it. For every name and world. -/
import Derived.Test.YtdkohenilbkmkaaUpD
set_option linter.unusedVariables false
set_option linter.unusedSimpArgs false
namespace Go.Proofs.Ytdkohenilbkmkaa.UpW
open Go.RowKit Go.Proofs.Ytdkohenilbkmkaa.XT Go.Proofs.Ytdkohenilbkmkaa.RFun Go.Proofs.Ytdkohenilbkmkaa.RGen Go.Proofs.YtdkohenilbkmkaaW.PrintWords Go.Proofs.YtdkohenilbkmkaaW.PrintLast Go.Proofs.YtdkohenilbkmkaaW.PrintMore
def spB : ByteArray := ⟨#[115, 112, 97, 114, 101, 32, 114, 111, 111, 109]⟩
def spA : S46 := ⟨spB, ⟨#[]⟩⟩
/-- A part of the copy. -/
structure PD where
  g : Nat
  c : Nat
  l : RD
instance : Inhabited PD := ⟨⟨0, 0, []⟩⟩
def PD.v (p : PD) : Value := .slice (some ⟨p.g, 0, none⟩) p.l.length p.c
/-- A part with its mark behind it, in a block of its own. -/
structure PM (B0 : Nat) (W : World) (p : PD) : Prop where
  rd : Kd.C k46 W (some ⟨p.g, 0, none⟩) (p.l ++ [spA]).length (p.l ++ [spA])
  cap : p.l.length + 1 ≤ p.c
  low : B0 ≤ p.g
  kind : ∃ cs : Array Value, W.heap[p.g]? = some (.cells cs 46 (0, 0)) ∧ cs.size = p.c * 2
theorem PM.lt {B0 : Nat} {W : World} {p : PD} (h : PM B0 W p) : p.g < W.heap.size := by
  obtain ⟨cs, hc, _⟩ := h.kind
  exact (Array.getElem?_eq_some_iff.1 hc).1
theorem add_off (g o k : Nat) : (⟨g, o, none⟩ : Addr).add k = ⟨g, o + k, none⟩ := by
  unfold Addr.add
  by_cases h : k = 0
  · subst h; simp
  · simp [h]
theorem c46_on {W W' : World} {g : Nat} {xs : RD} {n : Nat} (h : Kd.C k46 W (some ⟨g, 0, none⟩) n xs) (hk : W'.heap[g]? = W.heap[g]?) : Kd.C k46 W' (some ⟨g, 0, none⟩) n xs := by
  obtain ⟨h1, h2, h3⟩ := h
  refine ⟨h1, h2, fun hp => ?_⟩
  obtain ⟨ad, e, h4⟩ := h3 hp
  refine ⟨ad, e, fun j p hj => ?_⟩
  obtain ⟨cs, a1, a2, a3⟩ := h4 j p hj
  refine ⟨cs, a1, (by have e2 := k46_open a2; subst e2; exact k46_mk _ _), fun i u hu => ?_⟩
  injection e with e
  subst e
  have := a3 i u hu
  rw [add_off] at this ⊢
  exact (World.cell?_of_block (a := ⟨g, _, none⟩) hk).trans this
theorem PM.on {B0 : Nat} {W W' : World} {p : PD} (h : PM B0 W p) (k : W'.heap[p.g]? = W.heap[p.g]?) : PM B0 W' p :=
  ⟨c46_on h.rd k, h.cap, h.low, by obtain ⟨cs, h1, h2⟩ := h.kind; exact ⟨cs, k.trans h1, h2⟩⟩
theorem pm_of {B0 : Nat} {W : World} {l : RD} {v : Value} (h : Kd.R k46 46 W B0 (fun _ => True) v (l ++ [spA])) : ∃ g c, v = .slice (some ⟨g, 0, none⟩) (l.length + 1) c ∧ PM B0 W ⟨g, c, l⟩ := by
  obtain ⟨inner, own⟩ := Kd.R_own h
  have hr := (Kd.R_slice h)
  rcases own.2 with ⟨_, h0⟩ | ⟨g, cap, cur, rfl, hg, hh, h1, h2, h3, h4⟩
  · simp at h0
  · obtain ⟨_, _, hC⟩ := Kd.R_reads' h
    exact ⟨g, cap, by simp, hC, by simpa using h1, hg, cur, hh, h3⟩
/-- The parts copied so far. -/
structure CP (w : World) (D : DN) (i : Nat) (ps : List PD) (v : Value) (wr : World) : Prop where
  own : wr.ownsRow w.heap.size 44 1 v i (ps.map PD.v)
  each : ∀ p ∈ ps, PM w.heap.size wr p
  maps : ps.map PD.l = D.take i
  below : Below w.heap.size w wr
theorem CP.next {w W2 w3 wr : World} {D : DN} {i : Nat} {ps : List PD} {v v' : Value} {p : PD} {o : Obj} (h : CP w D i ps v wr) (hi : i < D.length) (hb : Below wr.heap.size wr W2) (hp : PM w.heap.size W2 p) (he : p.l = rd_L2 D (i : Int)) (hg : (W2.alloc o).grownBy w3 v.ownBlock) (own : w3.ownsRow w.heap.size 44 1 v' (i + 1) (ps.map PD.v ++ [p.v])) : CP w D (i + 1) (ps ++ [p]) v' w3 := by
  have hz : (W2.alloc o).heap.size = W2.heap.size + 1 := World.size_alloc _ _
  have hbs := h.below.size
  have hb2 := hb.size
  have keep : ∀ q : PD, PM w.heap.size W2 q → PM w.heap.size w3 q := fun q hq => hq.on (by
    obtain ⟨cs, hc, _⟩ := hq.kind
    refine (hg.block _ (by have := hq.lt; omega) (fun e => ?_)).trans (Below.heap_alloc _ _ _ hq.lt)
    obtain ⟨cells, h1⟩ := own_typed h.own q.g e.symm
    have h2 := (hb.block q.g (h.own.lt q.g e.symm).2).trans h1
    rw [hc] at h2
    injection h2 with h2
    injection h2 with _ h2
    cases h2)
  refine ⟨by rw [List.map_append]; exact own, fun q hq => ?_, ?_, ?_⟩
  · rcases List.mem_append.1 hq with hq | hq
    · exact keep q ((h.each q hq).on (hb.block _ (h.each q hq).lt))
    · rw [List.mem_singleton.1 hq]; exact keep p hp
  · rw [List.map_append, h.maps, List.map_cons, List.map_nil, he, List.take_add_one]
    unfold rd_L2
    rw [Int.toNat_natCast, List.getD_eq_getElem?_getD, List.getElem?_eq_getElem hi]
    rfl
  · exact ((h.below.trans (hb.mono hbs)).alloc (by omega) o).grown hg (by omega) (fun j e => (h.own.lt _ e).1)
theorem own_below {w w1 : World} {base : Nat} {e : TypeId} {size : Nat} {v : Value} {n : Nat} {xs : List Value} (h : w.ownsRow base e size v n xs) (hb : Below w.heap.size w w1) : w1.ownsRow base e size v n xs := own_move h (fun k hk => hb.block k (h.lt k hk).2)
/-- The copy: each list with a mark behind it. -/
structure MN (B0 : Nat) (W : World) (r c m : Nat) (D : DN) (ps : List PD) : Prop where
  row : ∃ hs : Array Value, W.heap[r]? = some (.cells hs 44 (0, 0)) ∧ hs.size = c * 1 ∧ (∀ k, k < ps.length → hs[k]? = some (ps.getD k default).v) ∧ hs[ps.length]? = some (.slice (some ⟨m, 0, none⟩) 1 1)
  cap : D.length + 1 ≤ c
  low : B0 ≤ r
  mark : W.heap[m]? = some (.cells #[.string spB, .string ⟨#[]⟩] 46 (0, 0))
  mlow : B0 ≤ m
  each : ∀ p ∈ ps, PM B0 W p
  maps : ps.map PD.l = D
def MineQ (w : World) (D : DN) (e : Ending) (w' : World) : Prop := ∃ (r c m : Nat) (ps : List PD), e = .returned (.slice (some ⟨r, 0, none⟩) D.length c) ∧ MN w.heap.size w' r c m D ps ∧ Below w.heap.size w w'
set_option maxRecDepth 100000 in
set_option maxHeartbeats 8000000 in
theorem mine_as (w : World) (A : Option Addr) (c : Nat) (D : DN) (h : Kd.C kD w A D.length D) (hc : D.length ≤ c) (hD : D.length ≤ 1048576) (hDl : ∀ r ∈ D, r.length ≤ 1048576) : Calls Try.prog 9 #[.slice A D.length c] w (MineQ w D) := by
  obtain ⟨i0, hi, hz0, hz1, hz2⟩ := info_parts info44
  obtain ⟨j0, hj0, _, _, _⟩ := info_parts info46
  have HC := Lib.hid h
  have HDL := Lib.hid hDl
  have HP0 : Hid (CP w D 0 [] (.slice none 0 0) w) := Lib.hid ⟨World.ownsRow_nil _ _ _ _, fun p hp => by simp at hp, rfl, Below.refl _ _⟩
  clear h hDl
  go_enter Try.func9, Try.ntmps9
  go_wp2
  go_loopw [3, 4, 5] (fun v3 v4 v5 wr => ∃ (i : Nat) (ps : List PD), i ≤ D.length ∧ v4 = .int .i64 (i : Nat) ∧ Hid (CP w D i ps v3 wr)) (fun _ v _ _ => D.length - (intOf v).toNat)
  case atStart => exact ⟨0, [], Nat.zero_le _, rfl, HP0⟩
  case round =>
    clear HP0
    obtain ⟨i, ps, hi', rfl, HW⟩ := hrel
    have hown := HW.out.own
    have hsm := HW.out.below.size
    have hml : i + 1 ≤ maxLen := by simp only [maxLen]; omega
    by_cases hin : i < D.length
    · have hlt : (i : Int) < (D.length : Int) := by omega
      have hwi : IntKind.i64.wrap ((i : Int) + 1) = ((i + 1 : Nat) : Int) := by rw [IntWalk.i64_in _ (by omega)]; rfl
      obtain ⟨ad, A0', c0', e0, cx, hc0, hCr⟩ := at_L2 (Kd.C_below HC.out HW.out.below) (i : Int) (by omega) (by omega)
      subst e0
      rw [Int.toNat_natCast] at cx
      have hrm := HDL.out _ (rd_mem D i hin)
      obtain ⟨p, hp⟩ : ∃ p, p = rd_L2 D (i : Int) := ⟨_, rfl⟩
      rw [← hp] at cx hc0 hCr hrm
      have HP := Lib.hid hp
      have HCR := Lib.hid hCr
      have hbl := World.block_lt_of_cell? wr _ cx
      clear hCr hp
      go_wp2_with (first
        | ((with_reducible refine gate_dst (N := 12) rfl ?_); refine Kd.R_lit k46 (w0 := wr) wr.heap.size 46 ?hg (N := 12) ?hd (xs := ([] : RD)) (inner := []) (ok := fun _ => True) (okp := fun _ => True) ?hr ?hp (fun _ hk => hk) trivial (Below.refl _ _) (Nat.le_refl _) (by simp) ?_; (case hd => rfl); (case hg => rfl); (case hr => first | (go_simp; done) | (go_simp; rfl)); (case hp => exact (Reps.none _ _)); intro v0 w0 ho hb hg hat; have HO0 := Lib.hid ho; have HB0 := Lib.hid hb; have cx0 := (hb.cell (p := ad.add i) hbl).trans cx; clear ho hb hg hat)
        | ((with_reducible refine gate_builtin (b := .append) (xs := #[.tmp 12, .tmp 16]) rfl ?_); at_builtin; refine Kd.R_append_rows k46 (w0 := wr) wr.heap.size rfl (.tmp 12) (.tmp 16) 44 46 (.agg #[(.string ⟨#[]⟩), (.string ⟨#[]⟩)]) 32 rfl Try.underlying44 info46 rfl (by decide) (by omega) v0 ([] : RD) p _ _ _ (fun _ => True) (fun _ => False) rfl rfl ?aO ?aR (fun _ _ h => h) (fun _ h => h.elim) ?aF ?aB ?aS ?aL ?_; (case aR => exact Kd.C_below HCR.out HB0.out); (case aB => exact HB0.out); (case aF => exact (fun _ _ => trivial)); (case aO => exact HO0.out); (case aS => exact HB0.out.size); (case aL => simp only [List.length_nil]; omega); intro v1 w1 ho hb hg hat; have HO1 := Lib.hid ho; have HB1 := Lib.hid hb; clear ho hb hg hat)
        | ((with_reducible refine gate_builtin (b := .append) (xs := #[.tmp 17, .tmp 19]) rfl ?_); at_builtin; refine Kd.R_append k46 (w0 := wr) wr.heap.size rfl (.tmp 17) (.tmp 19) 44 46 (.agg #[(.string ⟨#[]⟩), (.string ⟨#[]⟩)]) 32 rfl Try.underlying44 info46 rfl (by decide) (by omega) v1 ([] ++ p) spA [.string spB, .string ⟨#[]⟩] (fun _ => True) (fun _ => False) rfl rfl ?aP (fun _ hk => hk.elim) ?aF ?aO ?aB ?aS ?aL ?_; (case aP => exact k46_mkM _ _ _ spA); (case aB => exact HB1.out); (case aF => exact (fun _ _ => trivial)); (case aO => exact HO1.out); (case aS => exact HB1.out.size); (case aL => simp only [List.nil_append]; omega); intro v2 w2 ho hb hg hat; rw [List.nil_append] at ho; obtain ⟨g, cp, hv2, hpm⟩ := pm_of ho; subst hv2; have HPM := Lib.hid hpm; have HB2 := Lib.hid hb; have cx2 := (hb.cell (p := ad.add i) hbl).trans cx; have hcut := cut_to (P := Try.prog) 44 46 .i64 Try.underlying44 hj0 (some ⟨g, 0, none⟩) (p.length + 1) cp (p.length : Int) (by omega) (by omega) hpm.cap; rw [Int.toNat_natCast] at hcut; have own2 := own_below hown hb; have hsz2 := hb.size; clear ho hb hg hat hpm)
        | (at_builtin; refine wpList_append_own _ rfl (.tmp 21) (.tmp 29) 23 rfl w.heap.size 44 i0 (.slice none 0 0) 1 24 Try.underlying23 hi hz0 hz1 hz2 rfl (by decide) _ _ _ rfl (own2.alloc _) ⟨w2.heap.size, 0, none⟩ 1 1 [.slice (some ⟨g, 0, none⟩) p.length cp] rfl rfl (cell_one_new _ _ _) (by simp [Value.oneCell']) hml (by omega) (by rw [World.size_alloc]; omega) ?_; intro v3 w3 own3 grow3 _; have HQ := Lib.hid (CP.next (p := ⟨g, cp, p⟩) HW.out hin HB2.out ⟨HPM.out.rd, HPM.out.cap, Nat.le_trans hsm HPM.out.low, HPM.out.kind⟩ HP.out grow3 own3); clear own3 grow3)
        | go_in)
      go_roundw
      case rel => exact ⟨i + 1, _, by omega, by go_num, HQ⟩
      case measure => simp [intOf]; omega
    · have hlt : ¬ (i : Int) < (D.length : Int) := by omega
      obtain rfl : i = D.length := by omega
      have hz1w : (wr.alloc (.cells #[.string spB, .string ⟨#[]⟩] 46)).heap.size = wr.heap.size + 1 := World.size_alloc _ _
      have hcell := cell_one_new (wr.alloc (.cells #[.string spB, .string ⟨#[]⟩] 46)) (.slice (some ⟨wr.heap.size, 0, none⟩) 1 1) 44
      rw [hz1w] at hcell
      have HAT := Lib.hid (show (wr.alloc (.cells #[.string spB, .string ⟨#[]⟩] 46)).heap[wr.heap.size]? = some (.cells #[.string spB, .string ⟨#[]⟩] 46 (0, 0)) from World.alloc_heap_new wr _)
      go_wp2_with (first
        | (at_builtin; refine wpList_append_own _ rfl (.tmp 31) (.tmp 34) 23 rfl w.heap.size 44 i0 (.slice none 0 0) 1 24 Try.underlying23 hi hz0 hz1 hz2 rfl (by decide) _ _ _ rfl ((hown.alloc _).alloc _) ⟨wr.heap.size + 1, 0, none⟩ 1 1 [.slice (some ⟨wr.heap.size, 0, none⟩) 1 1] rfl rfl hcell (by simp [Value.oneCell']) hml (by omega) (by rw [World.size_alloc, World.size_alloc]; omega) ?_; intro v3 w3 own3 grow3 _; obtain ⟨hn3, ⟨_, h0⟩ | ⟨g, cap, cur, hv3, hg, h4, h5, h6, h7, h8⟩⟩ := own3; (· omega); subst hv3; have hcut := cut_to (P := Try.prog) 23 44 .i64 Try.underlying23 hi (some ⟨g, 0, none⟩) (D.length + 1) cap (D.length : Int) (by omega) (by omega) h5; rw [Int.toNat_natCast] at hcut; have HE := Lib.hid (And.intro hg (And.intro h4 (And.intro h5 (And.intro h7 (And.intro h8 grow3))))); clear hg h4 h5 h6 h7 h8 grow3 hn3)
        | go_in)
      go_ret
      have hpl : ps.length = D.length := by have := congrArg List.length HW.out.maps; simpa using this
      have hg3 : ((wr.alloc (.cells #[.string spB, .string ⟨#[]⟩] 46)).alloc (.cells #[.slice (some ⟨wr.heap.size, 0, none⟩) 1 1] 44)).grownBy w3 u3.ownBlock := HE.out.2.2.2.2.2
      have hz2w : ((wr.alloc (.cells #[.string spB, .string ⟨#[]⟩] 46)).alloc (.cells #[.slice (some ⟨wr.heap.size, 0, none⟩) 1 1] 44)).heap.size = wr.heap.size + 2 := by rw [World.size_alloc, hz1w]
      have hget : ∀ k, k < D.length + 1 → cur[k]? = (ps.map PD.v ++ [Value.slice (some ⟨wr.heap.size, 0, none⟩) 1 1])[k]? := fun k hk => by
        have h1 := congrArg (fun z : List Value => z[k]?) HE.out.2.2.2.2.1
        rw [List.getElem?_take_of_lt (by omega)] at h1
        rw [← h1]; simp
      have keep : ∀ j, j < wr.heap.size → (∀ cs : Array Value, wr.heap[j]? ≠ some (.cells cs 44 (0, 0))) → w3.heap[j]? = wr.heap[j]? := fun j hj hne => by
        refine (hg3.block j (by omega) (fun e => ?_)).trans ((Below.heap_alloc _ _ _ (by omega)).trans (Below.heap_alloc _ _ _ hj))
        obtain ⟨cells, hc⟩ := own_typed hown j e.symm
        exact hne _ hc
      refine ⟨g, cap, wr.heap.size, ps, rfl, ⟨⟨cur, HE.out.2.1, HE.out.2.2.2.1, fun k hk => ?_, ?_⟩, HE.out.2.2.1, HE.out.1, ?_, hsm, fun q hq => (HW.out.each q hq).on (keep _ (HW.out.each q hq).lt (fun cs e => ?_)), by rw [HW.out.maps, List.take_length]⟩, ?_⟩
      · rw [hget k (by omega), List.getElem?_append_left (by simpa using hk), List.getElem?_map, List.getElem?_eq_getElem hk]
        simp [List.getD_eq_getElem?_getD, List.getElem?_eq_getElem hk]
      · rw [hpl, hget D.length (by omega), List.getElem?_append_right (by simp [hpl])]
        simp [hpl]
      · refine (hg3.block _ (by omega) (fun e => ?_)).trans ((Below.heap_alloc _ _ _ (by omega)).trans HAT.out)
        have := (hown.lt _ e.symm).2
        omega
      · obtain ⟨cs', h1, _⟩ := (HW.out.each q hq).kind
        rw [h1] at e
        injection e with e
        injection e with _ e
        cases e
      · exact ((HW.out.below.alloc hsm _).alloc (by rw [hz1w]; omega) _).grown hg3 (by rw [hz2w]; omega) (fun j e => (hown.lt _ e).1)
end Go.Proofs.Ytdkohenilbkmkaa.UpW

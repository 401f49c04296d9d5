/- rosterlaw09.again: its two ranges, each on its own code (printed by again.py). For every iterator and world. -/
import Derived.Test.YtnogmaljcocfjaaDoorDitIterG
import Derived.Laws.EntriesVeiled
set_option linter.unusedVariables false
set_option linter.unusedSimpArgs false
namespace Go.Proofs.YtnogmaljcocfjaaDoor.DitMeth
open Go Go.Maps Go.RowKit Go.Shelf Go.Proofs.YtnogmaljcocfjaaDoor.RFun Go.Proofs.YtnogmaljcocfjaaDoor.RGen Go.Proofs.YtnogmaljcocfjaaDoor.XK Go.Proofs.YtnogmaljcocfjaaDoor.Blk Go.Proofs.YtnogmaljcocfjaaDoor.DitTab Go.Proofs.YtnogmaljcocfjaaDoor.DitRow Go.Proofs.YtnogmaljcocfjaaDoor.DitTerm Go.Proofs.YtnogmaljcocfjaaDoor.DitMap Go.Proofs.YtnogmaljcocfjaaDoor.DitCheck Go.Proofs.YtnogmaljcocfjaaDoor.DitCopy Go.Proofs.YtnogmaljcocfjaaDoor.DitPure Go.Proofs.YtnogmaljcocfjaaDoor.DitSort Go.Proofs.YtnogmaljcocfjaaDoor.DitBuild Go.Proofs.YtnogmaljcocfjaaDoor.Keys Go.Proofs.YtnogmaljcocfjaaDoorW.PrintWords Go.Proofs.YtnogmaljcocfjaaDoorW.PrintLast Go.Proofs.YtnogmaljcocfjaaDoorW.PrintMore
attribute [local go_sem] Oper.semAt_some
attribute [local go_sem] max2_int min2_int max_two min_two
/-- An iterator that hands out the numbers L, wherever what lay at wS lies still. -/
def SeqOK (wS : World) (gf : Nat) (lb : Array Value) (L : List Int) : Prop :=
  ∀ (d n : Nat) (w' : World) (b : Nat), 3 ≤ n → Below wS.heap.size wS w' → wS.heap.size ≤ b → SeqG Fence.wide d n Tryd.prog gf lb (fun x : Int => #[.int .i64 x]) (KC wS.heap.size w'.heap.size b) Calm (fun xs => xs = L) (fun pre => pre <+: L) L.length (fun pre y _ => pre ++ [y] <+: L) w'
theorem kc_fr {m₀ n₀ b : Nat} {A B : World} (h : FR b A B) (hb : m₀ ≤ b) (hm : m₀ ≤ A.heap.size) : KC m₀ n₀ b A B :=
  ⟨⟨h.os, h.tape, h.output, h.size, fun j hj => h.block j (by omega) (by omega)⟩, fun j cs t f h1 _ h3 => (h.block j (Array.getElem?_eq_some_iff.1 h1).1 h3).trans h1⟩
theorem kf_fr {B b : Nat} {W W' : World} {t : TypeId} {v : Value} (h : FR b W W') (hb : Boxed W b t v) : KeepsFrom B W W' :=
  ⟨h.size, fun j o _ h2 h3 => (h.block j (Array.getElem?_eq_some_iff.1 h2).1 (fun e => by subst e; rw [show W.heap[j]? = _ from hb] at h2; cases h2; cases h3)).trans h2⟩
theorem pre_at {L pre : List Int} {x : Int} (h : pre ++ [x] <+: L) : pre.length < L.length ∧ L.getD pre.length 0 = x := by
  obtain ⟨r, hr⟩ := h
  have hl : pre.length < L.length := by rw [← hr, List.length_append, List.length_append, List.length_singleton]; omega
  refine ⟨hl, ?_⟩
  rw [List.getD_eq_getElem?_getD, ← hr, List.append_assoc, List.getElem?_append_right (Nat.le_refl _)]
  simp
/-- What stands where again's ranges run. -/
structure AS (wS w : World) (ab : Nat) (AL : Option Addr) (cL gL : Nat) (L : List Int) : Prop where
  below : Below wS.heap.size wS w
  all : Boxed w ab 23 (.slice AL L.length cL)
  row : RowI w gL AL cL L
  rowB : 0 < L.length → gL < wS.heap.size
  low : wS.heap.size ≤ ab
theorem AS.fr {wS w W : World} {ab b gL cL : Nat} {AL : Option Addr} {L : List Int} (h : AS wS w ab AL cL gL L) (k : FR b w W) (hb : wS.heap.size ≤ b) (hne : ab ≠ b) : AS wS W ab AL cL gL L :=
  ⟨h.below.trans (kc_fr (n₀ := 0) k hb h.below.size).low, k.box h.all hne, h.row.on (fun hp => k.block gL (Row.lt h.row hp) (by have := h.rowB hp; omega)), h.rowB, h.low⟩
theorem AS.on {wS w W : World} {ab gL cL : Nat} {AL : Option Addr} {L : List Int} (h : AS wS w ab AL cL gL L) (k : Calm w W) : AS wS W ab AL cL gL L :=
  ⟨h.below.trans (k.mono h.below.size), box_on h.all k, h.row.below k, h.rowB, h.low⟩
set_option maxHeartbeats 4000000 in
set_option maxRecDepth 100000 in
theorem inner_range (n l : Nat) (hn : 12 ≤ n) (r0 : Loop) (gf : Nat) (lb : Array Value) (eg : ∀ args w, (callFunc gf args).run Tryd.prog w = .ok (.enter gf args) w) (wS w : World) (ab kb gL cL : Nat) (AL : Option Addr) (L : List Int) {v0 v1 v2 v3 v5 v6 v7 v8 v9 v11 v12 v13 v14 v15 v16 v17 v18 v19 v20 v21 v22 v23 v24 v25 v26 v27 v28 v29 v30 v31 v32 v33 v35 v36 v37 v38 v39 v40 v41 v42 v43 v44 v45 v46 v47 v48 v49 v50 v51 v52 v53 v54 v55 v56 v57 v58 v59 v60 v61 v62 v63 v64 v65 : Value} (a0 : Act) (Q : Exit → Act → World → Prop)
    (hl : w.heap[l]? = some (.loop r0)) (hsq : SeqOK wS gf lb L) (has : AS wS w ab AL cL gL L) (hk : Boxed w kb 3 (.int .i64 0)) (hkb : wS.heap.size ≤ kb) (hne : ab ≠ kb) (hL : L.length ≤ 1048576)
    (hQ : ∀ (e : Exit) (W' : World), (e = .normal ∨ e = .exit 4) → FR kb w W' → Boxed W' kb 3 (.int .i64 ((min 2 L.length : Nat) : Int)) → Q e { tmps := #[v0, v1, v2, v3, .pointer (some ⟨ab, 0, none⟩), v5, v6, v7, v8, v9, .pointer (some ⟨kb, 0, none⟩), v11, v12, v13, v14, v15, v16, v17, v18, v19, v20, v21, v22, v23, v24, v25, v26, v27, v28, v29, v30, v31, v32, v33, .func (.func gf) #[] lb, v35, v36, v37, v38, v39, v40, v41, v42, v43, v44, v45, v46, v47, v48, v49, v50, v51, v52, v53, v54, v55, v56, v57, v58, v59, v60, v61, v62, v63, v64, v65], defers := a0.defers } W') :
    (Go.Code.rangeFunc (Go.Operand.tmp 34) #[35] (Go.Code.region 14 #[{ dst := some 11, op := Go.Op.assign (Go.Operand.tmp 35), type := 3, pos := "outright.go:249", after := #[], guard := none }] false) (Go.Code.block 5 (((Go.Code.region 15 #[{ dst := some 36, op := Go.Op.load 3 (Go.Operand.tmp 10), type := 3, pos := "outright.go:250", after := #[], guard := none }, { dst := some 37, op := Go.Op.load 23 (Go.Operand.tmp 4), type := 23, pos := "outright.go:250", after := #[], guard := none }, { dst := some 38, op := Go.Op.call { callee := Go.Callee.builtin Go.Builtin.len, args := #[Go.Operand.tmp 37], argTypes := #[23] }, type := 3, pos := "outright.go:250", after := #[{ on := 1, ground := Go.Ground.data }], guard := none }, { dst := some 39, op := Go.Op.binOp Go.BinOp.geq 3 (Go.Operand.tmp 36) (Go.Operand.tmp 38) 3, type := 4, pos := "outright.go:250", after := #[{ on := 0, ground := Go.Ground.data }, { on := 2, ground := Go.Ground.data }], guard := none }, { dst := some 40, op := Go.Op.move (Go.Operand.tmp 39), type := 4, pos := "outright.go:250", after := #[{ on := 3, ground := Go.Ground.data }], guard := none }, { dst := some 41, op := Go.Op.move (Go.Operand.tmp 11), type := 3, pos := "outright.go:250", after := #[{ on := 4, ground := Go.Ground.guard }], guard := some (4, false) }, { dst := some 42, op := Go.Op.load 23 (Go.Operand.tmp 4), type := 23, pos := "outright.go:250", after := #[{ on := 4, ground := Go.Ground.guard }], guard := some (4, false) }, { dst := some 43, op := Go.Op.load 3 (Go.Operand.tmp 10), type := 3, pos := "outright.go:250", after := #[{ on := 4, ground := Go.Ground.guard }], guard := some (4, false) }, { dst := some 44, op := Go.Op.indexAddr 23 (Go.Operand.tmp 42) (Go.Operand.tmp 43), type := 0, pos := "outright.go:250", after := #[{ on := 6, ground := Go.Ground.data }, { on := 7, ground := Go.Ground.data }, { on := 4, ground := Go.Ground.guard }], guard := some (4, false) }, { dst := some 45, op := Go.Op.load 3 (Go.Operand.tmp 44), type := 3, pos := "outright.go:250", after := #[{ on := 8, ground := Go.Ground.data }, { on := 4, ground := Go.Ground.guard }], guard := some (4, false) }, { dst := some 46, op := Go.Op.binOp Go.BinOp.neq 3 (Go.Operand.tmp 41) (Go.Operand.tmp 45) 3, type := 4, pos := "outright.go:250", after := #[{ on := 5, ground := Go.Ground.data }, { on := 9, ground := Go.Ground.data }, { on := 4, ground := Go.Ground.guard }], guard := some (4, false) }, { dst := some 47, op := Go.Op.pick (Go.Operand.tmp 40) (Go.Operand.const (Go.Value.bool true)) (Go.Operand.tmp 46), type := 4, pos := "outright.go:250", after := #[{ on := 4, ground := Go.Ground.data }, { on := 10, ground := Go.Ground.data }], guard := none }] false).seq (Go.Code.cond (Go.Operand.tmp 47) ((Go.Code.region 16 #[{ dst := none, op := Go.Op.store 4 (Go.Operand.tmp 6) (Go.Operand.const (Go.Value.bool false)), type := 0, pos := "outright.go:251", after := #[], guard := none }] false).seq Go.Code.ret) Go.Code.skip)).seq ((Go.Code.region 17 #[{ dst := some 48, op := Go.Op.load 3 (Go.Operand.tmp 10), type := 3, pos := "outright.go:253", after := #[], guard := none }, { dst := some 49, op := Go.Op.binOp Go.BinOp.add 3 (Go.Operand.tmp 48) (Go.Operand.const (Go.Value.int Go.IntKind.i64 1)) 3, type := 3, pos := "outright.go:253", after := #[{ on := 0, ground := Go.Ground.data }], guard := none }, { dst := none, op := Go.Op.store 3 (Go.Operand.tmp 10) (Go.Operand.tmp 49), type := 0, pos := "outright.go:253", after := #[{ on := 1, ground := Go.Ground.data }, { on := 0, ground := Go.Ground.phase }, { on := 1, ground := Go.Ground.phase }], guard := none }] false).seq ((Go.Code.region 18 #[{ dst := some 50, op := Go.Op.load 3 (Go.Operand.tmp 10), type := 3, pos := "outright.go:254", after := #[], guard := none }, { dst := some 51, op := Go.Op.binOp Go.BinOp.eql 3 (Go.Operand.tmp 50) (Go.Operand.const (Go.Value.int Go.IntKind.i64 2)) 3, type := 4, pos := "outright.go:254", after := #[{ on := 0, ground := Go.Ground.data }], guard := none }] false).seq (Go.Code.cond (Go.Operand.tmp 51) (Go.Code.exit 4) Go.Code.skip)))))).wpIn (Fence.wide.inRound l) n Tryd.prog Q { tmps := #[v0, v1, v2, v3, .pointer (some ⟨ab, 0, none⟩), v5, v6, v7, v8, v9, .pointer (some ⟨kb, 0, none⟩), v11, v12, v13, v14, v15, v16, v17, v18, v19, v20, v21, v22, v23, v24, v25, v26, v27, v28, v29, v30, v31, v32, v33, .func (.func gf) #[] lb, v35, v36, v37, v38, v39, v40, v41, v42, v43, v44, v45, v46, v47, v48, v49, v50, v51, v52, v53, v54, v55, v56, v57, v58, v59, v60, v61, v62, v63, v64, v65], defers := a0.defers } w := by
  have hkw : kb < w.heap.size := (Array.getElem?_eq_some_iff.1 hk).1
  have HAS := Lib.hid has
  have hws := has.below.size
  have hsq1 : SeqG (Fence.wide.inRound l) 1 (n - 1) Tryd.prog gf lb (fun x : Int => #[.int .i64 x]) (KC wS.heap.size w.heap.size kb) Calm (fun xs => xs = L) (fun pre => pre <+: L) L.length (fun pre y _ => pre ++ [y] <+: L) w := hsq 1 (n - 1) w kb (by omega) has.below hkb
  refine rf_lawGN (F := Fence.wide.inRound l) rfl hl (by omega) (gf := gf) (lb := lb) rfl trivial eg hsq1
    (fun pre x W o o' h1 h2 hg => hg)
    (fun A B j o hr2 h1 h2 _ => (hr2.block j (Array.getElem?_eq_some_iff.1 h2).1).trans h2) KC.trans (fun W o o' h1 h2 => KC.putObj W _ o o' (by omega) h1 h2) (fun _ => rfl)
    (fun pre W => Boxed W kb 3 (.int .i64 (pre.length : Int)) ∧ FR kb w W ∧ pre.length < 2) (fun cd pre W => cd = .exit 4 ∧ Boxed W kb 3 (.int .i64 2) ∧ FR kb w W ∧ 2 ≤ L.length)
    (fun s A B row hs hg2 hr2 => ⟨hs.1.kept hg2 (fun e => by have := (hr2 _ e.symm).1; omega), hs.2.1.grown hg2 (fun r e => (hr2 r e).1), hs.2.2⟩)
    (fun s A B hs hr2 => ⟨box_on hs.1 hr2, hs.2.1.below hs.2.1.size hr2, hs.2.2⟩)
    (fun cd s A B row hs hg2 hr2 => ⟨hs.1, hs.2.1.kept hg2 (fun e => by have := (hr2 _ e.symm).1; omega), hs.2.2.1.grown hg2 (fun r e => (hr2 r e).1), hs.2.2.2⟩)
    (fun cd s A B hs hr2 => ⟨hs.1, box_on hs.2.1 hr2, hs.2.2.1.below hs.2.2.1.size hr2, hs.2.2.2⟩)
    ⟨hk, FR.refl _ _, by simp⟩
    (fun x => { tmps := #[v0, v1, v2, v3, .pointer (some ⟨ab, 0, none⟩), v5, v6, v7, v8, v9, .pointer (some ⟨kb, 0, none⟩), .int .i64 x, v12, v13, v14, v15, v16, v17, v18, v19, v20, v21, v22, v23, v24, v25, v26, v27, v28, v29, v30, v31, v32, v33, .func (.func gf) #[] lb, .int .i64 x, v36, v37, v38, v39, v40, v41, v42, v43, v44, v45, v46, v47, v48, v49, v50, v51, v52, v53, v54, v55, v56, v57, v58, v59, v60, v61, v62, v63, v64, v65], defers := [] }) ?assign ?body ?done ?stop
  case assign =>
    intro l2 x W K hK
    gi_wp2
    exact hK
  case body =>
    rintro l2 pre x W _ ⟨hkW, hF, hp2⟩ hlt hg
    obtain ⟨hpl, hpx⟩ := pre_at hg
    have hA := HAS.out.fr hF hkb hne
    obtain ⟨o, hAL, hcx⟩ := hA.row.at_ (by omega)
    subst hAL
    have cx := hcx _ hpl
    rw [hpx] at cx
    have hc := hkW.cell
    have hf := hkW.frozen
    have hca := hA.all.cell
    have hge : ¬ ((L.length : Int) ≤ (pre.length : Int)) := by omega
    have hged : decide ((L.length : Int) ≤ (pre.length : Int)) = false := decide_eq_false hge
    have hgen : decide (L.length ≤ pre.length) = false := decide_eq_false (by omega)
    obtain ⟨z, hz⟩ : ∃ z : Int, z = (pre.length : Int) + 1 := ⟨_, rfl⟩
    have hwk : IntKind.i64.wrap ((pre.length : Int) + 1) = z := by rw [hz]; exact IntWalk.i64_in _ (by omega)
    have HZ := Lib.hid hz
    have HFB := Lib.hid hF
    have HKW := Lib.hid hkW
    have HP := Lib.hid (And.intro hpl hp2)
    have hpi : (pre.length : Int) < (L.length : Int) := by omega
    have hWs := hF.size
    clear hz hF hkW hA hcx hp2 hg hpx
    by_cases h2 : z = 2
    · have h2b : (z == 2) = true := by rw [h2]; rfl
      have H2 := Lib.hid h2
      clear h2
      have hset := HKW.out.set (.int .i64 z)
      have hcz := hset.cell
      have HSET := Lib.hid hset
      clear hset
      gi_wp2
      have hfr : FR kb W (W.setCell ⟨kb, 0, none⟩ (.int .i64 z)) := (FR.refl kb W).set _
      refine ⟨kf_fr hfr HKW.out, rfl, ?_, HFB.out.trans hfr, ?_⟩
      · have := HSET.out
        rwa [H2.out] at this ⊢
      · have := HZ.out; have := H2.out; have := HP.out; omega
    · have h2b : (z == 2) = false := by simpa using h2
      have H2 := Lib.hid h2
      clear h2
      have hset := HKW.out.set (.int .i64 z)
      have hcz := hset.cell
      have HSET := Lib.hid hset
      clear hset
      gi_wp2
      have hfr : FR kb W (W.setCell ⟨kb, 0, none⟩ (.int .i64 z)) := (FR.refl kb W).set _
      refine ⟨kf_fr hfr HKW.out, kc_fr hfr hkb (Nat.le_trans hws hWs), ?_, HFB.out.trans hfr, ?_⟩
      · have h3 := HSET.out
        have h4 : ((pre ++ [x]).length : Int) = z := by rw [HZ.out]; simp
        rw [h4]
        exact h3
      · have := HZ.out; have := H2.out; have := HP.out; rw [List.length_append, List.length_singleton]; omega
  case done =>
    rintro xs W hxs ⟨h2, h3, h4⟩
    rw [hxs] at h2 h4
    have : min 2 L.length = L.length := by omega
    exact hQ .normal W (.inl rfl) h3 (by rw [this]; exact h2)
  case stop =>
    rintro cd pre W hp ⟨rfl, h2, h3, h4⟩
    have : min 2 L.length = 2 := by omega
    gi_wp2
    exact hQ (.exit 4) W (.inr rfl) h3 (by rw [this]; exact h2)
set_option maxHeartbeats 8000000 in
set_option maxRecDepth 100000 in
theorem outer_range (n : Nat) (hn : 20 ≤ n) (gf : Nat) (lb : Array Value) (eg : ∀ args w, (callFunc gf args).run Tryd.prog w = .ok (.enter gf args) w) (wS w : World) (sb ab tb rb ib gL cL : Nat) (AL : Option Addr) (L : List Int) (st : Int) (rv : Value) {v0 v1 v2 v7 v9 v10 v11 v12 v13 v14 v15 v16 v17 v19 v20 v21 v22 v23 v24 v25 v26 v27 v28 v29 v30 v31 v32 v33 v34 v35 v36 v37 v38 v39 v40 v41 v42 v43 v44 v45 v46 v47 v48 v49 v50 v51 v52 v53 v54 v55 v56 v57 v58 v59 v60 v61 v62 v63 v64 v65 : Value} (a0 : Act) (Q : Exit → Act → World → Prop)
    (hsq : SeqOK wS gf lb L) (has : AS wS w ab AL cL gL L) (hk : Boxed w ib 3 (.int .i64 0)) (hsb : Boxed w sb 64 (.func (.func gf) #[] lb)) (htb : Boxed w tb 3 (.int .i64 st)) (hib : wS.heap.size ≤ ib) (hne1 : ab ≠ ib) (hne2 : sb ≠ ib) (hne3 : tb ≠ ib) (hL : L.length ≤ 1048576) (hst : 1 ≤ st)
    (hQ : ∀ (e : Exit) (D' : Nat) (W' : World), (e = .normal ∨ e = .exit 2) → FR ib w W' → Boxed W' ib 3 (.int .i64 (min st (L.length : Int))) → W'.heap[D']? = some (.deferred (some [])) → w.heap.size ≤ D' → Q e { tmps := #[v0, v1, v2, .pointer (some ⟨sb, 0, none⟩), .pointer (some ⟨ab, 0, none⟩), .pointer (some ⟨tb, 0, none⟩), .pointer (some ⟨rb, 0, none⟩), v7, .pointer (some ⟨ib, 0, none⟩), v9, v10, v11, v12, v13, v14, v15, v16, v17, .func (.func gf) #[] lb, v19, v20, v21, v22, v23, v24, v25, v26, v27, v28, v29, v30, v31, v32, v33, v34, v35, v36, v37, v38, v39, v40, v41, v42, v43, v44, v45, v46, v47, v48, v49, v50, v51, v52, v53, v54, v55, v56, v57, v58, v59, v60, v61, v62, v63, v64, v65], defers := { target := .collected D', args := #[] } :: a0.defers } W') :
    (Go.Code.rangeFunc (Go.Operand.tmp 18) #[19] (Go.Code.region 8 #[{ dst := some 9, op := Go.Op.assign (Go.Operand.tmp 19), type := 3, pos := "outright.go:243", after := #[], guard := none }] false) (Go.Code.block 3 (((Go.Code.region 9 #[{ dst := some 20, op := Go.Op.load 3 (Go.Operand.tmp 8), type := 3, pos := "outright.go:244", after := #[], guard := none }, { dst := some 21, op := Go.Op.load 23 (Go.Operand.tmp 4), type := 23, pos := "outright.go:244", after := #[], guard := none }, { dst := some 22, op := Go.Op.call { callee := Go.Callee.builtin Go.Builtin.len, args := #[Go.Operand.tmp 21], argTypes := #[23] }, type := 3, pos := "outright.go:244", after := #[{ on := 1, ground := Go.Ground.data }], guard := none }, { dst := some 23, op := Go.Op.binOp Go.BinOp.geq 3 (Go.Operand.tmp 20) (Go.Operand.tmp 22) 3, type := 4, pos := "outright.go:244", after := #[{ on := 0, ground := Go.Ground.data }, { on := 2, ground := Go.Ground.data }], guard := none }, { dst := some 24, op := Go.Op.move (Go.Operand.tmp 23), type := 4, pos := "outright.go:244", after := #[{ on := 3, ground := Go.Ground.data }], guard := none }, { dst := some 25, op := Go.Op.move (Go.Operand.tmp 9), type := 3, pos := "outright.go:244", after := #[{ on := 4, ground := Go.Ground.guard }], guard := some (4, false) }, { dst := some 26, op := Go.Op.load 23 (Go.Operand.tmp 4), type := 23, pos := "outright.go:244", after := #[{ on := 4, ground := Go.Ground.guard }], guard := some (4, false) }, { dst := some 27, op := Go.Op.load 3 (Go.Operand.tmp 8), type := 3, pos := "outright.go:244", after := #[{ on := 4, ground := Go.Ground.guard }], guard := some (4, false) }, { dst := some 28, op := Go.Op.indexAddr 23 (Go.Operand.tmp 26) (Go.Operand.tmp 27), type := 0, pos := "outright.go:244", after := #[{ on := 6, ground := Go.Ground.data }, { on := 7, ground := Go.Ground.data }, { on := 4, ground := Go.Ground.guard }], guard := some (4, false) }, { dst := some 29, op := Go.Op.load 3 (Go.Operand.tmp 28), type := 3, pos := "outright.go:244", after := #[{ on := 8, ground := Go.Ground.data }, { on := 4, ground := Go.Ground.guard }], guard := some (4, false) }, { dst := some 30, op := Go.Op.binOp Go.BinOp.neq 3 (Go.Operand.tmp 25) (Go.Operand.tmp 29) 3, type := 4, pos := "outright.go:244", after := #[{ on := 5, ground := Go.Ground.data }, { on := 9, ground := Go.Ground.data }, { on := 4, ground := Go.Ground.guard }], guard := some (4, false) }, { dst := some 31, op := Go.Op.pick (Go.Operand.tmp 24) (Go.Operand.const (Go.Value.bool true)) (Go.Operand.tmp 30), type := 4, pos := "outright.go:244", after := #[{ on := 4, ground := Go.Ground.data }, { on := 10, ground := Go.Ground.data }], guard := none }] false).seq (Go.Code.cond (Go.Operand.tmp 31) ((Go.Code.region 10 #[{ dst := none, op := Go.Op.store 4 (Go.Operand.tmp 6) (Go.Operand.const (Go.Value.bool false)), type := 0, pos := "outright.go:245", after := #[], guard := none }] false).seq Go.Code.ret) Go.Code.skip)).seq ((Go.Code.region 11 #[{ dst := some 32, op := Go.Op.load 3 (Go.Operand.tmp 8), type := 3, pos := "outright.go:247", after := #[], guard := none }, { dst := some 33, op := Go.Op.binOp Go.BinOp.add 3 (Go.Operand.tmp 32) (Go.Operand.const (Go.Value.int Go.IntKind.i64 1)) 3, type := 3, pos := "outright.go:247", after := #[{ on := 0, ground := Go.Ground.data }], guard := none }, { dst := none, op := Go.Op.store 3 (Go.Operand.tmp 8) (Go.Operand.tmp 33), type := 0, pos := "outright.go:247", after := #[{ on := 1, ground := Go.Ground.data }, { on := 0, ground := Go.Ground.phase }, { on := 1, ground := Go.Ground.phase }], guard := none }] false).seq ((Go.Code.region 12 #[{ dst := some 10, op := Go.Op.alloc 3, type := 0, pos := "outright.go:248", after := #[], guard := none }, { dst := none, op := Go.Op.store 3 (Go.Operand.tmp 10) (Go.Operand.const (Go.Value.int Go.IntKind.i64 0)), type := 0, pos := "outright.go:248", after := #[{ on := 0, ground := Go.Ground.data }, { on := 0, ground := Go.Ground.phase }], guard := none }] false).seq (((Go.Code.region 13 #[{ dst := some 34, op := Go.Op.load 64 (Go.Operand.tmp 3), type := 64, pos := "outright.go:249", after := #[], guard := none }] false).seq (Go.Code.block 4 (Go.Code.rangeFunc (Go.Operand.tmp 34) #[35] (Go.Code.region 14 #[{ dst := some 11, op := Go.Op.assign (Go.Operand.tmp 35), type := 3, pos := "outright.go:249", after := #[], guard := none }] false) (Go.Code.block 5 (((Go.Code.region 15 #[{ dst := some 36, op := Go.Op.load 3 (Go.Operand.tmp 10), type := 3, pos := "outright.go:250", after := #[], guard := none }, { dst := some 37, op := Go.Op.load 23 (Go.Operand.tmp 4), type := 23, pos := "outright.go:250", after := #[], guard := none }, { dst := some 38, op := Go.Op.call { callee := Go.Callee.builtin Go.Builtin.len, args := #[Go.Operand.tmp 37], argTypes := #[23] }, type := 3, pos := "outright.go:250", after := #[{ on := 1, ground := Go.Ground.data }], guard := none }, { dst := some 39, op := Go.Op.binOp Go.BinOp.geq 3 (Go.Operand.tmp 36) (Go.Operand.tmp 38) 3, type := 4, pos := "outright.go:250", after := #[{ on := 0, ground := Go.Ground.data }, { on := 2, ground := Go.Ground.data }], guard := none }, { dst := some 40, op := Go.Op.move (Go.Operand.tmp 39), type := 4, pos := "outright.go:250", after := #[{ on := 3, ground := Go.Ground.data }], guard := none }, { dst := some 41, op := Go.Op.move (Go.Operand.tmp 11), type := 3, pos := "outright.go:250", after := #[{ on := 4, ground := Go.Ground.guard }], guard := some (4, false) }, { dst := some 42, op := Go.Op.load 23 (Go.Operand.tmp 4), type := 23, pos := "outright.go:250", after := #[{ on := 4, ground := Go.Ground.guard }], guard := some (4, false) }, { dst := some 43, op := Go.Op.load 3 (Go.Operand.tmp 10), type := 3, pos := "outright.go:250", after := #[{ on := 4, ground := Go.Ground.guard }], guard := some (4, false) }, { dst := some 44, op := Go.Op.indexAddr 23 (Go.Operand.tmp 42) (Go.Operand.tmp 43), type := 0, pos := "outright.go:250", after := #[{ on := 6, ground := Go.Ground.data }, { on := 7, ground := Go.Ground.data }, { on := 4, ground := Go.Ground.guard }], guard := some (4, false) }, { dst := some 45, op := Go.Op.load 3 (Go.Operand.tmp 44), type := 3, pos := "outright.go:250", after := #[{ on := 8, ground := Go.Ground.data }, { on := 4, ground := Go.Ground.guard }], guard := some (4, false) }, { dst := some 46, op := Go.Op.binOp Go.BinOp.neq 3 (Go.Operand.tmp 41) (Go.Operand.tmp 45) 3, type := 4, pos := "outright.go:250", after := #[{ on := 5, ground := Go.Ground.data }, { on := 9, ground := Go.Ground.data }, { on := 4, ground := Go.Ground.guard }], guard := some (4, false) }, { dst := some 47, op := Go.Op.pick (Go.Operand.tmp 40) (Go.Operand.const (Go.Value.bool true)) (Go.Operand.tmp 46), type := 4, pos := "outright.go:250", after := #[{ on := 4, ground := Go.Ground.data }, { on := 10, ground := Go.Ground.data }], guard := none }] false).seq (Go.Code.cond (Go.Operand.tmp 47) ((Go.Code.region 16 #[{ dst := none, op := Go.Op.store 4 (Go.Operand.tmp 6) (Go.Operand.const (Go.Value.bool false)), type := 0, pos := "outright.go:251", after := #[], guard := none }] false).seq Go.Code.ret) Go.Code.skip)).seq ((Go.Code.region 17 #[{ dst := some 48, op := Go.Op.load 3 (Go.Operand.tmp 10), type := 3, pos := "outright.go:253", after := #[], guard := none }, { dst := some 49, op := Go.Op.binOp Go.BinOp.add 3 (Go.Operand.tmp 48) (Go.Operand.const (Go.Value.int Go.IntKind.i64 1)) 3, type := 3, pos := "outright.go:253", after := #[{ on := 0, ground := Go.Ground.data }], guard := none }, { dst := none, op := Go.Op.store 3 (Go.Operand.tmp 10) (Go.Operand.tmp 49), type := 0, pos := "outright.go:253", after := #[{ on := 1, ground := Go.Ground.data }, { on := 0, ground := Go.Ground.phase }, { on := 1, ground := Go.Ground.phase }], guard := none }] false).seq ((Go.Code.region 18 #[{ dst := some 50, op := Go.Op.load 3 (Go.Operand.tmp 10), type := 3, pos := "outright.go:254", after := #[], guard := none }, { dst := some 51, op := Go.Op.binOp Go.BinOp.eql 3 (Go.Operand.tmp 50) (Go.Operand.const (Go.Value.int Go.IntKind.i64 2)) 3, type := 4, pos := "outright.go:254", after := #[{ on := 0, ground := Go.Ground.data }], guard := none }] false).seq (Go.Code.cond (Go.Operand.tmp 51) (Go.Code.exit 4) Go.Code.skip)))))))).seq (((Go.Code.region 19 #[{ dst := some 52, op := Go.Op.load 3 (Go.Operand.tmp 10), type := 3, pos := "outright.go:258", after := #[], guard := none }, { dst := some 53, op := Go.Op.load 23 (Go.Operand.tmp 4), type := 23, pos := "outright.go:258", after := #[], guard := none }, { dst := some 54, op := Go.Op.call { callee := Go.Callee.builtin Go.Builtin.len, args := #[Go.Operand.tmp 53], argTypes := #[23] }, type := 3, pos := "outright.go:258", after := #[{ on := 1, ground := Go.Ground.data }], guard := none }, { dst := some 55, op := Go.Op.call { callee := Go.Callee.builtin Go.Builtin.min, args := #[Go.Operand.const (Go.Value.int Go.IntKind.i64 2), Go.Operand.tmp 54], argTypes := #[3, 3] }, type := 3, pos := "outright.go:258", after := #[{ on := 2, ground := Go.Ground.data }], guard := none }, { dst := some 56, op := Go.Op.binOp Go.BinOp.neq 3 (Go.Operand.tmp 52) (Go.Operand.tmp 55) 3, type := 4, pos := "outright.go:258", after := #[{ on := 0, ground := Go.Ground.data }, { on := 3, ground := Go.Ground.data }], guard := none }] false).seq (Go.Code.cond (Go.Operand.tmp 56) ((Go.Code.region 20 #[{ dst := none, op := Go.Op.store 4 (Go.Operand.tmp 6) (Go.Operand.const (Go.Value.bool false)), type := 0, pos := "outright.go:259", after := #[], guard := none }] false).seq Go.Code.ret) Go.Code.skip)).seq ((Go.Code.region 21 #[{ dst := some 57, op := Go.Op.load 3 (Go.Operand.tmp 8), type := 3, pos := "outright.go:261", after := #[], guard := none }, { dst := some 58, op := Go.Op.load 3 (Go.Operand.tmp 5), type := 3, pos := "outright.go:261", after := #[], guard := none }, { dst := some 59, op := Go.Op.binOp Go.BinOp.eql 3 (Go.Operand.tmp 57) (Go.Operand.tmp 58) 3, type := 4, pos := "outright.go:261", after := #[{ on := 0, ground := Go.Ground.data }, { on := 1, ground := Go.Ground.data }], guard := none }] false).seq (Go.Code.cond (Go.Operand.tmp 59) (Go.Code.exit 2) Go.Code.skip))))))))).wpIn Fence.wide n Tryd.prog Q { tmps := #[v0, v1, v2, .pointer (some ⟨sb, 0, none⟩), .pointer (some ⟨ab, 0, none⟩), .pointer (some ⟨tb, 0, none⟩), .pointer (some ⟨rb, 0, none⟩), v7, .pointer (some ⟨ib, 0, none⟩), v9, v10, v11, v12, v13, v14, v15, v16, v17, .func (.func gf) #[] lb, v19, v20, v21, v22, v23, v24, v25, v26, v27, v28, v29, v30, v31, v32, v33, v34, v35, v36, v37, v38, v39, v40, v41, v42, v43, v44, v45, v46, v47, v48, v49, v50, v51, v52, v53, v54, v55, v56, v57, v58, v59, v60, v61, v62, v63, v64, v65], defers := a0.defers } w := by
  have hibw : ib < w.heap.size := (Array.getElem?_eq_some_iff.1 hk).1
  have HAS := Lib.hid has
  have HSQ := Lib.hid hsq
  have HSB := Lib.hid hsb
  have HTB := Lib.hid htb
  have hws := has.below.size
  refine rf_lawG (F := Fence.wide) rfl (by omega) (gf := gf) (lb := lb) rfl trivial eg (hsq 2 (n - 1) w ib (by omega) has.below hib)
    (fun pre x W o o' h1 h2 hg => hg)
    (fun A B j o hr2 h1 h2 _ => (hr2.block j (Array.getElem?_eq_some_iff.1 h2).1).trans h2) KC.trans (fun W o o' h1 h2 => KC.putObj W _ o o' (by omega) h1 h2) (fun _ => rfl)
    (fun pre W => Boxed W ib 3 (.int .i64 (pre.length : Int)) ∧ FR ib w W ∧ (pre.length : Int) < st) (fun cd pre W => cd = .exit 2 ∧ Boxed W ib 3 (.int .i64 st) ∧ FR ib w W ∧ st ≤ (L.length : Int))
    (fun s A B row hs hg2 hr2 => ⟨hs.1.kept hg2 (fun e => by have := (hr2 _ e.symm).1; omega), hs.2.1.grown hg2 (fun r e => (hr2 r e).1), hs.2.2⟩)
    (fun s A B hs hr2 => ⟨box_on hs.1 hr2, hs.2.1.below hs.2.1.size hr2, hs.2.2⟩)
    (fun cd s A B row hs hg2 hr2 => ⟨hs.1, hs.2.1.kept hg2 (fun e => by have := (hr2 _ e.symm).1; omega), hs.2.2.1.grown hg2 (fun r e => (hr2 r e).1), hs.2.2.2⟩)
    (fun cd s A B hs hr2 => ⟨hs.1, box_on hs.2.1 hr2, hs.2.2.1.below hs.2.2.1.size hr2, hs.2.2.2⟩)
    ⟨hk, FR.refl _ _, by simp; omega⟩
    (fun x => { tmps := #[v0, v1, v2, .pointer (some ⟨sb, 0, none⟩), .pointer (some ⟨ab, 0, none⟩), .pointer (some ⟨tb, 0, none⟩), .pointer (some ⟨rb, 0, none⟩), v7, .pointer (some ⟨ib, 0, none⟩), .int .i64 x, v10, v11, v12, v13, v14, v15, v16, v17, .func (.func gf) #[] lb, .int .i64 x, v20, v21, v22, v23, v24, v25, v26, v27, v28, v29, v30, v31, v32, v33, v34, v35, v36, v37, v38, v39, v40, v41, v42, v43, v44, v45, v46, v47, v48, v49, v50, v51, v52, v53, v54, v55, v56, v57, v58, v59, v60, v61, v62, v63, v64, v65], defers := [] }) ?assign ?body ?done ?stop
  case assign =>
    intro l2 x W K hK
    gi_wp2
    exact hK
  case body =>
    rintro l2 pre x W hl2 hrec ⟨hkW, hF, hp2⟩ hlt hg
    obtain ⟨hpl, hpx⟩ := pre_at hg
    have hA := HAS.out.fr hF hib hne1
    obtain ⟨o, hAL, hcx⟩ := hA.row.at_ (by omega)
    subst hAL
    have cx := hcx _ hpl
    rw [hpx] at cx
    have hc := hkW.cell
    have hf := hkW.frozen
    have hca := hA.all.cell
    have hsW := hF.box HSB.out hne2
    have htW := hF.box HTB.out hne3
    have hge : ¬ ((L.length : Int) ≤ (pre.length : Int)) := by omega
    have hged : decide ((L.length : Int) ≤ (pre.length : Int)) = false := decide_eq_false hge
    have hgen : decide (L.length ≤ pre.length) = false := decide_eq_false (by omega)
    obtain ⟨z, hz⟩ : ∃ z : Int, z = (pre.length : Int) + 1 := ⟨_, rfl⟩
    have hwk : IntKind.i64.wrap ((pre.length : Int) + 1) = z := by rw [hz]; exact IntWalk.i64_in _ (by omega)
    have HZ := Lib.hid hz
    have HFB := Lib.hid hF
    have HKW := Lib.hid hkW
    have HREC := Lib.hid hrec
    have HP := Lib.hid (And.intro hpl hp2)
    have HA := Lib.hid hA
    have HSW := Lib.hid hsW
    have HTW := Lib.hid htW
    have hpi : (pre.length : Int) < (L.length : Int) := by omega
    have hWs := hF.size
    clear hz hF hkW hA hcx hp2 hg hpx hrec hsW htW
    have hbV := HKW.out.set (.int .i64 z)
    have csV : ((W.setCell ⟨ib, 0, none⟩ (.int .i64 z)).alloc (.cells #[.int .i64 0] 3)).cell? ⟨sb, 0, none⟩ = some (.func (.func gf) #[] lb) := ((Boxed.other HSW.out hne2 _).alloc (.cells #[.int .i64 0] 3)).cell
    gi_wp2
    obtain ⟨V, hV⟩ : ∃ V, V = W.setCell ⟨ib, 0, none⟩ (.int .i64 z) := ⟨_, rfl⟩
    rw [← hV] at hbV ⊢
    clear csV
    have hVs : V.heap.size = W.heap.size := by rw [hV, World.size_setCell]
    have hVF : FR ib W V := by rw [hV]; exact (FR.refl ib W).set _
    have hB1 : Below V.heap.size V (V.alloc (.cells #[.int .i64 0] 3)) := (Below.refl _ V).alloc (Nat.le_refl _) _
    obtain ⟨r0, hrec0⟩ := HREC.out
    have hrecV : V.heap[l2]? = some (.loop r0) := (hVF.block l2 (Array.getElem?_eq_some_iff.1 hrec0).1 (fun e => by rw [e, show W.heap[ib]? = _ from HKW.out] at hrec0; cases hrec0)).trans hrec0
    have l1 := (Array.getElem?_eq_some_iff.1 hrecV).1
    have HAV := Lib.hid (HA.out.fr hVF hib hne1)
    have HTV := Lib.hid (hVF.box HTW.out hne3)
    have bn := Boxed.new V 3 (.int .i64 0)
    rw [hVs] at bn
    have hibW := (Array.getElem?_eq_some_iff.1 HKW.out).1
    have habW := (Array.getElem?_eq_some_iff.1 HA.out.all).1
    have HVF := Lib.hid hVF
    have HBV := Lib.hid hbV
    rw [hl2] at l1 hrecV
    clear hV hVF hbV
    refine inner_range (n - 1 - 1) (w.heap.size + 1) (by omega) r0 gf lb eg wS _ ab W.heap.size gL cL (some ⟨gL, o, none⟩) L { tmps := #[], defers := [] } _ ((hB1.block _ l1).trans hrecV) HSQ.out (HAV.out.on hB1) bn (by omega) (by omega) hL ?_
    intro e W' he hF2 hk2
    have hB' : Below V.heap.size V W' := fr_old (by rw [hVs]; exact hF2)
    have hib' : Boxed W' ib 3 (.int .i64 z) := box_on HBV.out hB'
    have hA' := HAV.out.on hB'
    have hT' := box_on HTV.out hB'
    have hc' := hib'.cell
    have hck' := hk2.cell
    have hca' := hA'.all.cell
    have hct' := hT'.cell
    have HFIN := Lib.hid (And.intro hB' hib')
    obtain ⟨y, hy⟩ : ∃ y : Int, y = ((min 2 L.length : Nat) : Int) := ⟨_, rfl⟩
    rw [← hy] at hck'
    have hym : min (2 : Int) (L.length : Int) = y := by rw [hy]; omega
    have hym2 : (if (2 : Int) < (L.length : Int) then (2 : Int) else (L.length : Int)) = y := by rw [← hym]; split <;> omega
    have hym3 : (if (L.length : Int) < (2 : Int) then (L.length : Int) else (2 : Int)) = y := by rw [← hym]; split <;> omega
    have hyy : (y != y) = false := bne_self_eq_false y
    have hfr : FR ib W W' := HVF.out.trans ⟨hB'.os, hB'.tape, hB'.output, hB'.size, fun j hj _ => hB'.block j hj⟩
    have HFR := Lib.hid hfr
    clear hF2 hk2 hib' hA' hT' hy hB' hfr
    by_cases h2 : z = st
    · have h2b : (z == st) = true := by rw [h2]; exact beq_self_eq_true st
      have H2 := Lib.hid h2
      clear h2
      rcases he with rfl | rfl
      · gi_wp2
        exact ⟨kf_fr HFR.out HKW.out, rfl, by rw [← H2.out]; exact HFIN.out.2, HFB.out.trans HFR.out, by rw [← H2.out, HZ.out]; omega⟩
      · gi_wp2
        exact ⟨kf_fr HFR.out HKW.out, rfl, by rw [← H2.out]; exact HFIN.out.2, HFB.out.trans HFR.out, by rw [← H2.out, HZ.out]; omega⟩
    · have h2b : (z == st) = false := by simpa using h2
      have H2 := Lib.hid h2
      clear h2
      have hlen : ((pre ++ [x]).length : Int) = z := by rw [HZ.out]; simp
      have HLN := Lib.hid hlen
      clear hlen
      rcases he with rfl | rfl
      · gi_wp2
        exact ⟨kf_fr HFR.out HKW.out, kc_fr HFR.out hib (Nat.le_trans hws hWs), by rw [HLN.out]; exact HFIN.out.2, HFB.out.trans HFR.out, by rw [HLN.out]; have := HZ.out; have := H2.out; have := HP.out.2; omega⟩
      · gi_wp2
        exact ⟨kf_fr HFR.out HKW.out, kc_fr HFR.out hib (Nat.le_trans hws hWs), by rw [HLN.out]; exact HFIN.out.2, HFB.out.trans HFR.out, by rw [HLN.out]; have := HZ.out; have := H2.out; have := HP.out.2; omega⟩
  case done =>
    rintro D' xs W hD' hxs ⟨h2, h3, h4⟩ hK
    rw [hxs] at h2 h4
    have : min st (L.length : Int) = (L.length : Int) := by omega
    exact hQ .normal D' W (.inl rfl) h3 (by rw [this]; exact h2) hK hD'
  case stop =>
    rintro D' cd pre W hD' hp ⟨rfl, h2, h3, h4⟩ hK
    have : min st (L.length : Int) = st := by omega
    gi_wp2
    exact hQ (.exit 2) D' W (.inr rfl) h3 (by rw [this]; exact h2) hK hD'
theorem arr66 (t : Array Value) (h : t.size = 66) : ∃ v : Nat → Value, t = #[v 0, v 1, v 2, v 3, v 4, v 5, v 6, v 7, v 8, v 9, v 10, v 11, v 12, v 13, v 14, v 15, v 16, v 17, v 18, v 19, v 20, v 21, v 22, v 23, v 24, v 25, v 26, v 27, v 28, v 29, v 30, v 31, v 32, v 33, v 34, v 35, v 36, v 37, v 38, v 39, v 40, v 41, v 42, v 43, v 44, v 45, v 46, v 47, v 48, v 49, v 50, v 51, v 52, v 53, v 54, v 55, v 56, v 57, v 58, v 59, v 60, v 61, v 62, v 63, v 64, v 65] := by
  refine ⟨fun i => t.getD i undef, ?_⟩
  have e : t.toList = (List.range 66).map fun i => t.getD i undef := by
    apply List.ext_getElem (by simp [h])
    intro i h1 h2
    simp at h1
    simp [Array.getD, h1]
  have := congrArg List.toArray e
  rw [Array.toArray_toList] at this
  rw [this]
  rfl
theorem arr66s (t : Array Value) (h : t.size = 66) {x3 x4 x5 x6 x7 : Value} (h3 : t[3]? = some x3) (h4 : t[4]? = some x4) (h5 : t[5]? = some x5) (h6 : t[6]? = some x6) (h7 : t[7]? = some x7) : ∃ v : Nat → Value, t = #[v 0, v 1, v 2, x3, x4, x5, x6, x7, v 8, v 9, v 10, v 11, v 12, v 13, v 14, v 15, v 16, v 17, v 18, v 19, v 20, v 21, v 22, v 23, v 24, v 25, v 26, v 27, v 28, v 29, v 30, v 31, v 32, v 33, v 34, v 35, v 36, v 37, v 38, v 39, v 40, v 41, v 42, v 43, v 44, v 45, v 46, v 47, v 48, v 49, v 50, v 51, v 52, v 53, v 54, v 55, v 56, v 57, v 58, v 59, v 60, v 61, v 62, v 63, v 64, v 65] := by
  obtain ⟨v, rfl⟩ := arr66 t h
  have e3 : v 3 = x3 := Option.some.inj h3
  have e4 : v 4 = x4 := Option.some.inj h4
  have e5 : v 5 = x5 := Option.some.inj h5
  have e6 : v 6 = x6 := Option.some.inj h6
  have e7 : v 7 = x7 := Option.some.inj h7
  exact ⟨v, by rw [e3, e4, e5, e6, e7]⟩
/-- Between the two turns. -/
def LG (W0 : World) (sb ab tb rb : Nat) (a : Act) (W : World) : Prop := a.tmps.size = 66 ∧ a.tmps[3]? = some (.pointer (some ⟨sb, 0, none⟩)) ∧ a.tmps[4]? = some (.pointer (some ⟨ab, 0, none⟩)) ∧ a.tmps[5]? = some (.pointer (some ⟨tb, 0, none⟩)) ∧ a.tmps[6]? = some (.pointer (some ⟨rb, 0, none⟩)) ∧ (∃ q : Nat, q ≤ 2 ∧ a.tmps[7]? = some (.int .i64 (q : Nat))) ∧ Marks W0.heap.size W.heap.size a.defers W ∧ Below W0.heap.size W0 W
set_option maxHeartbeats 8000000 in
set_option maxRecDepth 100000 in
theorem again_as (w : World) (gf : Nat) (lb : Array Value) (eg : ∀ args w, (callFunc gf args).run Tryd.prog w = .ok (.enter gf args) w) (AL : Option Addr) (cL gL : Nat) (L : List Int) (st : Int) (hsq : SeqOK w gf lb L) (hrow : RowI w gL AL cL L) (hL : L.length ≤ 1048576) (hst : 1 ≤ st) :
    Calls Tryd.prog 35 #[.func (.func gf) #[] lb, .slice AL L.length cL, .int .i64 st] w fun e w' => e = .returned (.bool true) ∧ Below w.heap.size w w' := by
  have hnil := fun a b c w => run_func_nil a b c w
  have HSQ := Lib.hid hsq
  have HROW := Lib.hid hrow
  have HEG := Lib.hid eg
  clear hsq hrow eg
  refine (callsIn_wide (n := 30)).1 ?_
  refine callsIn_of_wp_marks Tryd.func35 rfl trivial ?_ rfl
  simp only [Tryd.ntmps35, List.size_toArray, List.length_cons, List.length_nil, Nat.reduceAdd, Nat.reduceSub, Array.replicate_succ, Array.replicate_zero, List.push_toArray, List.append_toArray, List.nil_append, List.cons_append]
  refine (wpIn_wide (n := 30)).2 ?_
  obtain ⟨W0, hW0⟩ : ∃ W0, W0 = (((w.alloc (.cells #[.func (.func gf) #[] lb] 64)).alloc (.cells #[.slice AL L.length cL] 23)).alloc (.cells #[.int .i64 st] 3)).alloc (.cells #[.bool false] 4) := ⟨_, rfl⟩
  have z1 : (w.alloc (.cells #[.func (.func gf) #[] lb] 64)).heap.size = w.heap.size + 1 := World.size_alloc _ _
  have z2 : ((w.alloc (.cells #[.func (.func gf) #[] lb] 64)).alloc (.cells #[.slice AL L.length cL] 23)).heap.size = w.heap.size + 2 := by rw [World.size_alloc, z1]
  have z3 : (((w.alloc (.cells #[.func (.func gf) #[] lb] 64)).alloc (.cells #[.slice AL L.length cL] 23)).alloc (.cells #[.int .i64 st] 3)).heap.size = w.heap.size + 3 := by rw [World.size_alloc, z2]
  have z4 : W0.heap.size = w.heap.size + 4 := by rw [hW0, World.size_alloc, z3]
  have c1 : Boxed W0 w.heap.size 64 (.func (.func gf) #[] lb) := by rw [hW0]; exact (((Boxed.new w 64 _).alloc _).alloc _).alloc _
  have c2 : Boxed W0 (w.heap.size + 1) 23 (.slice AL L.length cL) := by rw [hW0]; have := Boxed.new (w.alloc (.cells #[.func (.func gf) #[] lb] 64)) 23 (.slice AL L.length cL); rw [z1] at this; exact (this.alloc _).alloc _
  have c3 : Boxed W0 (w.heap.size + 1 + 1) 3 (.int .i64 st) := by rw [hW0]; have := Boxed.new ((w.alloc (.cells #[.func (.func gf) #[] lb] 64)).alloc (.cells #[.slice AL L.length cL] 23)) 3 (.int .i64 st); rw [z2] at this; exact this.alloc _
  have c4 : Boxed W0 (w.heap.size + 1 + 1 + 1) 4 (.bool false) := by rw [hW0]; have := Boxed.new (((w.alloc (.cells #[.func (.func gf) #[] lb] 64)).alloc (.cells #[.slice AL L.length cL] 23)).alloc (.cells #[.int .i64 st] 3)) 4 (.bool false); rw [z3] at this; exact this
  have hB0 : Below w.heap.size w W0 := by rw [hW0]; repeat (first | exact Below.refl _ _ | refine below_alloc ?_ _)
  have HC := Lib.hid (And.intro c1 (And.intro c2 (And.intro c3 c4)))
  have HB0 := Lib.hid hB0
  clear z1 z2 z3 c1 c2 c3 c4 hB0
  go_upto_region 3 with (first | go_in)
  rw [← hW0]
  clear hW0
  go_wp2
  obtain ⟨sb, hsb⟩ : ∃ k, k = w.heap.size := ⟨_, rfl⟩
  obtain ⟨ab, hab⟩ : ∃ k, k = w.heap.size + 1 := ⟨_, rfl⟩
  obtain ⟨tb, htb⟩ : ∃ k, k = w.heap.size + 1 + 1 := ⟨_, rfl⟩
  obtain ⟨rb, hrb⟩ : ∃ k, k = w.heap.size + 1 + 1 + 1 := ⟨_, rfl⟩
  rw [← hrb, ← htb, ← hab, ← hsb] at HC ⊢
  have hord : w.heap.size ≤ sb ∧ sb < ab ∧ ab < tb ∧ tb < rb := by omega
  clear hrb htb hab hsb
  refine wp_loop (LG W0 sb ab tb rb) (fun a _ => 2 - (intOf (a.tmps.getD 7 undef)).toNat) ⟨rfl, rfl, rfl, rfl, rfl, ⟨0, by omega, rfl⟩, trivial, Below.refl _ _⟩ ?_
  rintro ⟨tmps, df⟩ W ⟨hs, h3, h4, h5, h6, ⟨q, hq, h7⟩, hmk, hbw⟩
  obtain ⟨v, rfl⟩ := arr66s tmps hs h3 h4 h5 h6 h7
  clear hs h3 h4 h5 h6 h7
  have HMK := Lib.hid hmk
  have HBW := Lib.hid hbw
  clear hmk hbw
  have hoz := HBW.out.size
  have hwz := HB0.out.size
  have b1 : Boxed W sb 64 (.func (.func gf) #[] lb) := (HBW.out.block _ (Array.getElem?_eq_some_iff.1 HC.out.1).1).trans HC.out.1
  have b2 : Boxed W ab 23 (.slice AL L.length cL) := (HBW.out.block _ (Array.getElem?_eq_some_iff.1 HC.out.2.1).1).trans HC.out.2.1
  have b3 : Boxed W tb 3 (.int .i64 st) := (HBW.out.block _ (Array.getElem?_eq_some_iff.1 HC.out.2.2.1).1).trans HC.out.2.2.1
  have b4 : Boxed W rb 4 (.bool false) := (HBW.out.block _ (Array.getElem?_eq_some_iff.1 HC.out.2.2.2).1).trans HC.out.2.2.2
  have w1 := (Array.getElem?_eq_some_iff.1 b1).1
  have w2 := (Array.getElem?_eq_some_iff.1 b2).1
  have w3 := (Array.getElem?_eq_some_iff.1 b3).1
  have w4 := (Array.getElem?_eq_some_iff.1 b4).1
  by_cases hq2 : q < 2
  · have hqi : (q : Int) < 2 := by omega
    have hwq : IntKind.i64.wrap ((q : Int) + 1) = ((q + 1 : Nat) : Int) := by rw [IntWalk.i64_in _ (by omega)]; rfl
    have hB1 : Below W.heap.size W (W.alloc (.cells #[.int .i64 0] 3)) := (Below.refl _ W).alloc (Nat.le_refl _) _
    have cs1 := (b1.alloc (.cells #[.int .i64 0] 3)).cell
    go_wp2
    refine (wpIn_wide (n := 30)).1 ?_
    have hAS : AS w (W.alloc (.cells #[.int .i64 0] 3)) ab AL cL gL L := ⟨HB0.out.trans ((HBW.out.trans (hB1.mono hoz)).mono hwz), b2.alloc _, HROW.out.below (HB0.out.trans ((HBW.out.trans (hB1.mono hoz)).mono hwz)), fun hp => Row.lt HROW.out hp, by omega⟩
    refine outer_range 30 (by omega) gf lb HEG.out w _ sb ab tb rb W.heap.size gL cL AL L st (.bool false) { tmps := #[], defers := df } _ HSQ.out hAS (Boxed.new W 3 (.int .i64 0)) (b1.alloc _) (b3.alloc _) (by omega) (by omega) (by omega) (by omega) hL hst ?_
    intro e D W' he hF hk hD hD2
    have hB2 := fr_old hF
    have hc := hk.cell
    have ct2 := (hB2.cell (p := ⟨tb, 0, none⟩) (by omega)).trans b3.cell
    have ca2 := (hB2.cell (p := ⟨ab, 0, none⟩) (by omega)).trans b2.cell
    have hDl := (Array.getElem?_eq_some_iff.1 hD).1
    have hW1 : (W.alloc (.cells #[.int .i64 0] 3)).heap.size = W.heap.size + 1 := World.size_alloc _ _
    have HMK2 : Hid (Marks W0.heap.size W'.heap.size ({ target := .collected D, args := #[] } :: df) W') := Lib.hid ⟨D, rfl, by omega, hDl, hD, Marks.mono (by omega) (fun j _ b c => (hB2.block j b).trans c) HMK.out⟩
    have HBW2 := Lib.hid (HBW.out.trans (hB2.mono hoz))
    obtain ⟨y, hy⟩ : ∃ y : Int, y = min st (L.length : Int) := ⟨_, rfl⟩
    rw [← hy] at hc
    have hym : min st (L.length : Int) = y := hy.symm
    have hym2 : (if st < (L.length : Int) then st else (L.length : Int)) = y := by rw [← hym]; split <;> omega
    have hym3 : (if (L.length : Int) < st then (L.length : Int) else st) = y := by rw [← hym]; split <;> omega
    have hyy : (y != y) = false := bne_self_eq_false y
    clear hF hk hD hD2 hB2 hDl hy
    rcases he with rfl | rfl
    · go_wp2
      exact ⟨⟨rfl, rfl, rfl, rfl, rfl, ⟨q + 1, by omega, by first | rfl | simp⟩, HMK2.out, HBW2.out⟩, by simp [intOf]; omega⟩
    · go_wp2
      exact ⟨⟨rfl, rfl, rfl, rfl, rfl, ⟨q + 1, by omega, by first | rfl | simp⟩, HMK2.out, HBW2.out⟩, by simp [intOf]; omega⟩
  · have hqi : ¬ (q : Int) < 2 := by omega
    obtain rfl : q = 2 := by omega
    have c4 := b4.cell
    have f4 := b4.frozen
    go_wp2
    have hbx := b4.set (.bool true)
    refine marks_leave (b := W0.heap.size) (u := W.heap.size) (Marks.mono (Nat.le_refl _) (fun j _ _ hd => (Below.heap_setCell _ _ _ _ (fun e => by rw [show j = rb from e, show W.heap[rb]? = _ from b4] at hd; cases hd)).trans hd) HMK.out) ?_
    intro w' hk
    have hbx' : Boxed w' rb 4 (.bool true) := hk.cell _ _ _ _ hbx
    refine ⟨.bool true, res_cell rfl _ _ rb _ rfl hbx'.cell rfl, rfl, ?_⟩
    have hB := HB0.out
    refine ⟨hk.os.trans (HBW.out.os.trans hB.os), hk.tape.trans (HBW.out.tape.trans hB.tape), hk.output.trans (HBW.out.output.trans hB.output), by have := hk.size; rw [World.size_setCell] at this; omega, fun j hj => ?_⟩
    refine (hk.block j (by rw [World.size_setCell]; omega) (by omega)).trans ?_
    exact (Below.heap_setCell _ _ _ _ (by show j ≠ rb; omega)).trans ((HBW.out.block j (by omega)).trans (hB.block j hj))

end Go.Proofs.YtnogmaljcocfjaaDoor.DitMeth

/- By hand: the three ranges of DnUp, each on its own code. -/
import Derived.Test.YtdkohenilbkmkaaUpH
set_option linter.unusedVariables false
set_option linter.unusedSimpArgs false
namespace Go.Proofs.Ytdkohenilbkmkaa.UpW
open Go.RowKit Go.Shelf Go.Proofs.Ytdkohenilbkmkaa.XT Go.Proofs.Ytdkohenilbkmkaa.XV Go.Proofs.Ytdkohenilbkmkaa.RFun Go.Proofs.Ytdkohenilbkmkaa.RGen Go.Proofs.YtdkohenilbkmkaaW.PrintWords Go.Proofs.YtdkohenilbkmkaaW.PrintLast Go.Proofs.YtdkohenilbkmkaaW.PrintMore
attribute [local go_sem] Oper.semAt_some
theorem FR.old {b : Nat} {wp w W : World} (h : FR b w W) (hb : wp.heap.size ≤ b) (k : Below wp.heap.size wp w) : Below wp.heap.size wp W :=
  ⟨h.os.trans k.os, h.tape.trans k.tape, h.output.trans k.output, Nat.le_trans k.size h.size, fun j hj => (h.block j (Nat.lt_of_lt_of_le hj k.size) (by omega)).trans (k.block j hj)⟩
/-- What the ranges read. -/
structure WF (wp w : World) (A : Option Addr) (c : Nat) (D : DN) (wb gw cw : Nat) (hs : List Value) : Prop where
  par : Below wp.heap.size wp w
  d : Kd.C kD wp A D.length D
  cap : D.length ≤ c
  want : Boxed w wb 24 (.slice (some ⟨gw, 0, none⟩) (D.length + 1) cw)
  row : w.heap[gw]? = some (.cells hs.toArray 23 (0, 0))
  at_ : ∀ i, i < D.length + 1 → hs[i]? = some (cutH A D.length c i)
theorem WF.fr {b : Nat} {wp w W : World} {A : Option Addr} {c wb gw cw : Nat} {D : DN} {hs : List Value} (h : WF wp w A c D wb gw cw hs) (k : FR b w W) (hb : wp.heap.size ≤ b) (h1 : wb ≠ b) (h2 : gw ≠ b) : WF wp W A c D wb gw cw hs :=
  ⟨FR.old k hb h.par, h.d, h.cap, k.box h.want h1, (k.block gw (Array.getElem?_eq_some_iff.1 h.row).1 h2).trans h.row, h.at_⟩
theorem WF.on {wp w W : World} {A : Option Addr} {c wb gw cw : Nat} {D : DN} {hs : List Value} (h : WF wp w A c D wb gw cw hs) (k : Below w.heap.size w W) : WF wp W A c D wb gw cw hs :=
  ⟨h.par.trans (k.mono h.par.size), h.d, h.cap, (k.block _ (Array.getElem?_eq_some_iff.1 h.want).1).trans h.want, (k.block _ (Array.getElem?_eq_some_iff.1 h.row).1).trans h.row, h.at_⟩
theorem WF.cell {wp w : World} {A : Option Addr} {c wb gw cw : Nat} {D : DN} {hs : List Value} (h : WF wp w A c D wb gw cw hs) (i : Nat) (hi : i < D.length + 1) : w.cell? ⟨gw, i, none⟩ = some (cutH A D.length c i) := by
  rw [cell_of h.row, List.getElem?_toArray, h.at_ i hi]
/-- One that was handed out, beside the wanted one. -/
theorem WF.same {wp w : World} {A : Option Addr} {c wb gw cw : Nat} {D : DN} {hs : List Value} (h : WF wp w A c D wb gw cw hs) (i : Nat) (hi : i < D.length + 1) (n₀ : Nat) (Ax : Option Addr) (nx cx : Nat) (hx : Kd.R kD 44 w n₀ (fun _ => True) (.slice Ax nx cx) (D.drop i)) (hD : D.length ≤ 1048576) (hDl : ∀ r ∈ D, r.length ≤ 1048576) :
    Calls Try.prog 13 #[.slice Ax nx cx, cutH A D.length c i] w fun e w' => e = .returned (.bool true) ∧ Drawn0 w w' := by
  obtain ⟨e1, e2, e3⟩ := Kd.R_reads' hx
  have hC := Kd.C_drop (m := i) (c := c) (Kd.C_below h.d h.par) (by omega) h.cap
  have hl : (D.drop i).length = D.length - i := List.length_drop
  exact same_as w Ax _ cx (c - i) nx (D.length - i) (D.drop i) e1 hl.symm e3 (by omega) hC (by have := h.cap; omega) (by omega) (fun r hr => hDl r (List.mem_of_mem_drop hr))
theorem ups_all {D : DN} {xs : List HD} (h : xs.map HD.l = ups D) : xs.length = D.length + 1 := by have := congrArg List.length h; simpa [ups_len] using this
theorem kf_below {B : Nat} {W W' : World} (hB : Below W.heap.size W W') : KeepsFrom B W W' := ⟨hB.size, fun j o _ h2 _ => (hB.block j (Array.getElem?_eq_some_iff.1 h2).1).trans h2⟩
theorem km_below {n₀ b : Nat} {W W' : World} (hB : Below W.heap.size W W') : KM n₀ b W W' :=
  ⟨hB.size, fun j cs t f h1 _ => (hB.block j (Array.getElem?_eq_some_iff.1 h1).1).trans h1, fun j o _ h2 _ => (hB.block j (Array.getElem?_eq_some_iff.1 h2).1).trans h2⟩
theorem calls_any2 {n l l' : Nat} {P : Program} {f : FuncId} {args : Array Value} {w : World} {R : Ending → World → Prop} (h : Calls P f args w R) : CallsIn ((Fence.wide.inRound l).inRound l') n P f args w R := (callsIn_wide (n := n)).2 h
theorem len1 {α : Type} (pre : List α) (x : α) : (((pre ++ [x]).length : Nat) : Int) = (pre.length : Int) + 1 := by simp
theorem gu_put {W : World} {n₀ r : Nat} {v : Value} {l : DN} {o o' : Obj} (h : Kd.R kD 44 W n₀ (fun _ => True) v l) (h1 : W.heap[r]? = some o) (h2 : o.isCells = false) : Kd.R kD 44 (W.putObj r o') n₀ (fun _ => True) v l :=
  Kd.R_mono (Kd.R_move (Kd.R_bound h) (fun j hj => World.putObj_heap_other (fun e => by
    obtain ⟨_, _, _, q, _, cells, hc⟩ := hj
    rw [e] at hc
    rw [h1] at hc
    injection hc with hc
    subst hc
    cases h2))) (fun _ _ => trivial)
set_option maxHeartbeats 4000000 in
set_option maxRecDepth 100000 in
theorem inner_range (n l : Nat) (hn : 12 ≤ n) (r0 : Loop) (lo kb rb bb c wb gw cw co : Nat) (A Ao : Option Addr) (D : DN) (hs : List Value) (rv : Value) {v0 v1 v2 v3 v6 v7 v8 v9 v10 v12 v13 v14 v15 v16 v17 v18 v19 v20 v21 v22 v23 v24 v25 v26 v27 v28 v29 v30 v31 v32 v33 v34 v35 v36 v37 v38 v39 v40 v41 v42 v43 v44 v45 v46 v47 v48 v49 v50 v51 v52 v53 v54 v55 v56 v57 v58 v59 v60 v61 v62 v63 v64 v65 v66 v67 v68 v69 v70 v71 v72 v73 v74 v75 v76 v77 v78 v79 v80 v81 v83 v84 v85 v86 v87 v88 v89 v90 v91 v92 v93 v94 v95 v96 v97 v98 v99 v100 v101 v102 v103 v104 v105 v106 v107 v108 v109 v110 v111 v112 v113 v114 v115 v116 : Value} (a0 : Act) (wp w : World) (Q : Exit → Act → World → Prop)
    (hl : w.heap[l]? = some (.loop r0)) (hwf : WF wp w A c D wb gw cw hs) (hbox : Boxed w lo 23 (.slice Ao D.length co)) (hown : Kd.R kD 44 w bb (fun k => k ≠ kb) (.slice Ao D.length co) D) (hk : Boxed w kb 3 (.int .i64 0)) (hrb : Boxed w rb 4 rv) (hlo : lo ≠ kb) (hne1 : wb ≠ kb) (hne2 : rb ≠ kb) (hne3 : gw ≠ kb) (hkp : wp.heap.size ≤ kb) (hD : D.length ≤ 1048576) (hDl : ∀ r ∈ D, r.length ≤ 1048576)
    (hQ : ∀ W', FR kb w W' → Boxed W' kb 3 (.int .i64 ((D.length + 1 : Nat) : Int)) → Q .normal { tmps := #[v0, v1, v2, v3, .pointer (some ⟨rb, 0, none⟩), .pointer (some ⟨wb, 0, none⟩), v6, v7, v8, v9, v10, .pointer (some ⟨kb, 0, none⟩), v12, v13, v14, v15, v16, v17, v18, v19, v20, v21, v22, v23, v24, v25, v26, v27, v28, v29, v30, v31, v32, v33, v34, v35, v36, v37, v38, v39, v40, v41, v42, v43, v44, v45, v46, v47, v48, v49, v50, v51, v52, v53, v54, v55, v56, v57, v58, v59, v60, v61, v62, v63, v64, v65, v66, v67, v68, v69, v70, v71, v72, v73, v74, v75, v76, v77, v78, v79, v80, v81, .func (.func 26) #[] #[.pointer (some ⟨lo, 0, none⟩)], v83, v84, v85, v86, v87, v88, v89, v90, v91, v92, v93, v94, v95, v96, v97, v98, v99, v100, v101, v102, v103, v104, v105, v106, v107, v108, v109, v110, v111, v112, v113, v114, v115, v116], defers := a0.defers } W') :
    (Go.Code.rangeFunc (Go.Operand.tmp 82) #[83] (Go.Code.region 25 #[{ dst := some 12, op := Go.Op.assign (Go.Operand.tmp 83), type := 23, pos := "law.go:193", after := #[], guard := none }] false) (Go.Code.block 5 (((Go.Code.region 26 #[{ dst := some 84, op := Go.Op.load 3 (Go.Operand.tmp 11), type := 3, pos := "law.go:194", after := #[], guard := none }, { dst := some 85, op := Go.Op.load 24 (Go.Operand.tmp 5), type := 24, pos := "law.go:194", after := #[], guard := none }, { dst := some 86, op := Go.Op.call { callee := Go.Callee.builtin Go.Builtin.len, args := #[Go.Operand.tmp 85], argTypes := #[24] }, type := 3, pos := "law.go:194", after := #[{ on := 1, ground := Go.Ground.data }], guard := none }, { dst := some 87, op := Go.Op.binOp Go.BinOp.geq 3 (Go.Operand.tmp 84) (Go.Operand.tmp 86) 3, type := 4, pos := "law.go:194", after := #[{ on := 0, ground := Go.Ground.data }, { on := 2, ground := Go.Ground.data }], guard := none }, { dst := some 88, op := Go.Op.move (Go.Operand.tmp 87), type := 4, pos := "law.go:194", after := #[{ on := 3, ground := Go.Ground.data }], guard := none }, { dst := some 89, op := Go.Op.move (Go.Operand.tmp 12), type := 23, pos := "law.go:194", after := #[{ on := 4, ground := Go.Ground.guard }], guard := some (4, false) }, { dst := some 90, op := Go.Op.load 24 (Go.Operand.tmp 5), type := 24, pos := "law.go:194", after := #[{ on := 4, ground := Go.Ground.guard }], guard := some (4, false) }, { dst := some 91, op := Go.Op.load 3 (Go.Operand.tmp 11), type := 3, pos := "law.go:194", after := #[{ on := 4, ground := Go.Ground.guard }], guard := some (4, false) }, { dst := some 92, op := Go.Op.indexAddr 24 (Go.Operand.tmp 90) (Go.Operand.tmp 91), type := 0, pos := "law.go:194", after := #[{ on := 6, ground := Go.Ground.data }, { on := 7, ground := Go.Ground.data }, { on := 4, ground := Go.Ground.guard }], guard := some (4, false) }, { dst := some 93, op := Go.Op.load 23 (Go.Operand.tmp 92), type := 23, pos := "law.go:194", after := #[{ on := 8, ground := Go.Ground.data }, { on := 4, ground := Go.Ground.guard }], guard := some (4, false) }, { dst := some 94, op := Go.Op.call { callee := Go.Callee.value (Go.Operand.func 13), args := #[Go.Operand.tmp 89, Go.Operand.tmp 93], argTypes := #[23, 23] }, type := 4, pos := "law.go:194", after := #[{ on := 5, ground := Go.Ground.data }, { on := 9, ground := Go.Ground.data }, { on := 4, ground := Go.Ground.chain }, { on := 4, ground := Go.Ground.guard }], guard := some (4, false) }, { dst := some 95, op := Go.Op.unOp Go.UnOp.not 4 (Go.Operand.tmp 94), type := 4, pos := "law.go:194", after := #[{ on := 10, ground := Go.Ground.data }, { on := 4, ground := Go.Ground.guard }], guard := some (4, false) }, { dst := some 96, op := Go.Op.pick (Go.Operand.tmp 88) (Go.Operand.const (Go.Value.bool true)) (Go.Operand.tmp 95), type := 4, pos := "law.go:194", after := #[{ on := 4, ground := Go.Ground.data }, { on := 11, ground := Go.Ground.data }], guard := none }] false).seq (Go.Code.cond (Go.Operand.tmp 96) ((Go.Code.region 27 #[{ dst := none, op := Go.Op.store 4 (Go.Operand.tmp 4) (Go.Operand.const (Go.Value.bool false)), type := 0, pos := "law.go:195", after := #[], guard := none }] false).seq Go.Code.ret) Go.Code.skip)).seq (Go.Code.region 28 #[{ dst := some 97, op := Go.Op.load 3 (Go.Operand.tmp 11), type := 3, pos := "law.go:197", after := #[], guard := none }, { dst := some 98, op := Go.Op.binOp Go.BinOp.add 3 (Go.Operand.tmp 97) (Go.Operand.const (Go.Value.int Go.IntKind.i64 1)) 3, type := 3, pos := "law.go:197", after := #[{ on := 0, ground := Go.Ground.data }], guard := none }, { dst := none, op := Go.Op.store 3 (Go.Operand.tmp 11) (Go.Operand.tmp 98), type := 0, pos := "law.go:197", after := #[{ on := 1, ground := Go.Ground.data }, { on := 0, ground := Go.Ground.phase }, { on := 1, ground := Go.Ground.phase }], guard := none }] false)))).wpIn (Fence.wide.inRound l) n Try.prog Q { tmps := #[v0, v1, v2, v3, .pointer (some ⟨rb, 0, none⟩), .pointer (some ⟨wb, 0, none⟩), v6, v7, v8, v9, v10, .pointer (some ⟨kb, 0, none⟩), v12, v13, v14, v15, v16, v17, v18, v19, v20, v21, v22, v23, v24, v25, v26, v27, v28, v29, v30, v31, v32, v33, v34, v35, v36, v37, v38, v39, v40, v41, v42, v43, v44, v45, v46, v47, v48, v49, v50, v51, v52, v53, v54, v55, v56, v57, v58, v59, v60, v61, v62, v63, v64, v65, v66, v67, v68, v69, v70, v71, v72, v73, v74, v75, v76, v77, v78, v79, v80, v81, .func (.func 26) #[] #[.pointer (some ⟨lo, 0, none⟩)], v83, v84, v85, v86, v87, v88, v89, v90, v91, v92, v93, v94, v95, v96, v97, v98, v99, v100, v101, v102, v103, v104, v105, v106, v107, v108, v109, v110, v111, v112, v113, v114, v115, v116], defers := a0.defers } w := by
  have hkb : kb < w.heap.size := (Array.getElem?_eq_some_iff.1 hk).1
  have HWF := Lib.hid hwf
  have HRB := Lib.hid hrb
  have HDL := Lib.hid hDl
  refine rf_lawGN (F := Fence.wide.inRound l) rfl hl (by omega) (gf := 26) (lb := #[.pointer (some ⟨lo, 0, none⟩)]) rfl trivial (enters_of Try.func26 (by kernel_rfl) rfl)
    ((up1_seq 1 (n - 1) (by omega) w lo kb bb Ao co D hbox hown hlo hD hDl).inRound l)
    (fun pre x W o o' h1 h2 hg => ⟨hg.1, gu_put hg.2 h1 h2⟩)
    (fun A B j o hr2 h1 h2 _ => (hr2.block j h1).trans h2) KM.trans (fun W o o' h1 h2 => KM.putObj W _ o o' (by omega) h1 h2) (fun _ => rfl)
    (fun pre W => Boxed W kb 3 (.int .i64 (pre.length : Int)) ∧ FR kb w W) (fun cd pre W => False)
    (fun s A B row hs hg2 hr2 => ⟨hs.1.kept hg2 (fun e => by have := (hr2 _ e.symm).1; omega), hs.2.grown hg2 (fun r e => (hr2 r e).1)⟩)
    (fun s A B hs hr2 => ⟨(hr2.block kb (by omega)).trans hs.1, hs.2.below (by omega) hr2⟩)
    (fun cd s A B row hs _ _ => hs) (fun cd s A B hs _ => hs)
    ⟨hk, FR.refl _ _⟩
    (fun x => { tmps := #[v0, v1, v2, v3, .pointer (some ⟨rb, 0, none⟩), .pointer (some ⟨wb, 0, none⟩), v6, v7, v8, v9, v10, .pointer (some ⟨kb, 0, none⟩), x.v, v13, v14, v15, v16, v17, v18, v19, v20, v21, v22, v23, v24, v25, v26, v27, v28, v29, v30, v31, v32, v33, v34, v35, v36, v37, v38, v39, v40, v41, v42, v43, v44, v45, v46, v47, v48, v49, v50, v51, v52, v53, v54, v55, v56, v57, v58, v59, v60, v61, v62, v63, v64, v65, v66, v67, v68, v69, v70, v71, v72, v73, v74, v75, v76, v77, v78, v79, v80, v81, .func (.func 26) #[] #[.pointer (some ⟨lo, 0, none⟩)], x.v, v84, v85, v86, v87, v88, v89, v90, v91, v92, v93, v94, v95, v96, v97, v98, v99, v100, v101, v102, v103, v104, v105, v106, v107, v108, v109, v110, v111, v112, v113, v114, v115, v116], defers := [] }) ?assign ?body ?done ?stop
  case assign =>
    intro l2 x W K hK
    gi_wp2
    exact hK
  case body =>
    rintro l2 pre ⟨xv, xl⟩ W - ⟨hkW, hF⟩ hlt ⟨hxl, hxR⟩
    simp only at hxl hxR
    rw [hxl] at hxR
    obtain ⟨Ax, cx, hxv⟩ := Kd.R_slice hxR
    subst hxv
    have hW2 := HWF.out.fr hF hkp hne1 hne3
    have sm := hW2.same pre.length hlt _ Ax _ cx hxR hD HDL.out
    rw [show (D.drop pre.length).length = D.length - pre.length from List.length_drop] at sm
    have SM := Lib.hid sm
    clear sm
    have hc := hkW.cell
    have hf := hkW.frozen
    have hcw := hW2.want.cell
    have ce := hW2.cell pre.length hlt
    have hge : ¬ (((D.length + 1 : Nat) : Int) ≤ (pre.length : Int)) := by omega
    have hge' : ¬ ((D.length : Int) + 1 ≤ (pre.length : Int)) := by omega
    have hwk : IntKind.i64.wrap ((pre.length : Int) + 1) = ((pre.length : Int) + 1) := IntWalk.i64_in _ (by omega)
    have HFB := Lib.hid hF
    have HKW := Lib.hid hkW
    clear hF hxR hW2 hxl
    unfold cutH at ce SM
    generalize (if c = pre.length then A else A.map (·.add (pre.length * 1))) = Aw at ce SM
    gi_wp2
    refine ⟨trivial, fun h => by simp [Fence.wide, Fence.inRound] at h, (calls_any2 SM.out).mono ?_⟩
    rintro e _ ⟨rfl, ⟨n1, rfl⟩⟩
    gi_wp2
    have hb2 := (show Boxed (W.drewN n1) kb 3 (.int .i64 (pre.length : Int)) from HKW.out).set (.int .i64 ((pre.length : Int) + 1))
    have hB0 : Below W.heap.size W (W.drewN n1) := pw_below_drewN (Below.refl _ _) n1
    exact ⟨below_kf hB0 (show Boxed (W.drewN n1) kb 3 (.int .i64 (pre.length : Int)) from HKW.out) _, below_km hB0 (show Boxed (W.drewN n1) kb 3 (.int .i64 (pre.length : Int)) from HKW.out) _, by rw [len1]; exact hb2, (below_fr HFB.out hB0).set _⟩
  case done =>
    rintro xs W hxs ⟨h2, h3⟩
    rw [ups_all hxs] at h2
    exact hQ W h3 h2
  case stop =>
    rintro cd pre W hp h
    exact h.elim
set_option maxHeartbeats 4000000 in
set_option maxRecDepth 100000 in
theorem range1 (n : Nat) (hn : 20 ≤ n) (lo nb mb sb rb bb c wb gw cw co : Nat) (A Ao : Option Addr) (D : DN) (hs : List Value) (rv : Value) (st : Int) {v0 v1 v2 v6 v7 v9 v10 v11 v12 v13 v14 v15 v16 v17 v18 v19 v20 v21 v22 v23 v24 v25 v26 v27 v28 v30 v31 v32 v33 v34 v35 v36 v37 v38 v39 v40 v41 v42 v43 v44 v45 v46 v47 v48 v49 v50 v51 v52 v53 v54 v55 v56 v57 v58 v59 v60 v61 v62 v63 v64 v65 v66 v67 v68 v69 v70 v71 v72 v73 v74 v75 v76 v77 v78 v79 v80 v81 v82 v83 v84 v85 v86 v87 v88 v89 v90 v91 v92 v93 v94 v95 v96 v97 v98 v99 v100 v101 v102 v103 v104 v105 v106 v107 v108 v109 v110 v111 v112 v113 v114 v115 v116 : Value} (a0 : Act) (wp w : World) (Q : Exit → Act → World → Prop)
    (hwf : WF wp w A c D wb gw cw hs) (hbox : Boxed w lo 23 (.slice Ao D.length co)) (hown : Kd.R kD 44 w bb (fun k => k ≠ nb) (.slice Ao D.length co) D) (hk : Boxed w nb 3 (.int .i64 0)) (hmb : Boxed w mb 3 (.int .i64 st)) (hsb : Boxed w sb 28 (.func (.func 26) #[] #[.pointer (some ⟨lo, 0, none⟩)])) (hrb : Boxed w rb 4 rv) (hlo : lo ≠ nb) (hne1 : wb ≠ nb) (hne2 : rb ≠ nb) (hne3 : gw ≠ nb) (hne4 : mb ≠ nb) (hne5 : sb ≠ nb) (hkp : wp.heap.size ≤ nb) (hD : D.length ≤ 1048576) (hDl : ∀ r ∈ D, r.length ≤ 1048576)
    (hQ : ∀ (e : Exit) (D' : Nat) (W' : World) (k : Int), (e = .normal ∨ e = .exit 0) → FR nb w W' → Boxed W' nb 3 (.int .i64 k) → (k = st ∨ k = ((D.length + 1 : Nat) : Int)) → W'.heap[D']? = some (.deferred (some [])) → w.heap.size ≤ D' → Q e { tmps := #[v0, v1, v2, .pointer (some ⟨mb, 0, none⟩), .pointer (some ⟨rb, 0, none⟩), .pointer (some ⟨wb, 0, none⟩), v6, v7, .pointer (some ⟨nb, 0, none⟩), v9, v10, v11, v12, v13, v14, v15, v16, v17, v18, v19, v20, v21, v22, v23, v24, v25, v26, v27, v28, .func (.func 26) #[] #[.pointer (some ⟨lo, 0, none⟩)], v30, v31, v32, v33, v34, v35, v36, v37, v38, v39, v40, v41, v42, v43, v44, v45, v46, v47, v48, v49, v50, v51, v52, v53, v54, v55, v56, v57, v58, v59, v60, v61, v62, v63, v64, v65, v66, v67, v68, v69, v70, v71, v72, v73, v74, v75, v76, v77, v78, v79, v80, v81, v82, v83, v84, v85, v86, v87, v88, v89, v90, v91, v92, v93, v94, v95, v96, v97, v98, v99, v100, v101, v102, v103, v104, v105, v106, v107, v108, v109, v110, v111, v112, v113, v114, v115, v116], defers := { target := .collected D', args := #[] } :: a0.defers } W') :
    (Go.Code.rangeFunc (Go.Operand.tmp 29) #[30] (Go.Code.region 9 #[{ dst := some 9, op := Go.Op.assign (Go.Operand.tmp 30), type := 23, pos := "law.go:171", after := #[], guard := none }] false) (Go.Code.block 1 (((Go.Code.region 10 #[{ dst := some 31, op := Go.Op.load 3 (Go.Operand.tmp 8), type := 3, pos := "law.go:172", after := #[], guard := none }, { dst := some 32, op := Go.Op.load 24 (Go.Operand.tmp 5), type := 24, pos := "law.go:172", after := #[], guard := none }, { dst := some 33, op := Go.Op.call { callee := Go.Callee.builtin Go.Builtin.len, args := #[Go.Operand.tmp 32], argTypes := #[24] }, type := 3, pos := "law.go:172", after := #[{ on := 1, ground := Go.Ground.data }], guard := none }, { dst := some 34, op := Go.Op.binOp Go.BinOp.geq 3 (Go.Operand.tmp 31) (Go.Operand.tmp 33) 3, type := 4, pos := "law.go:172", after := #[{ on := 0, ground := Go.Ground.data }, { on := 2, ground := Go.Ground.data }], guard := none }, { dst := some 35, op := Go.Op.move (Go.Operand.tmp 34), type := 4, pos := "law.go:172", after := #[{ on := 3, ground := Go.Ground.data }], guard := none }, { dst := some 36, op := Go.Op.move (Go.Operand.tmp 9), type := 23, pos := "law.go:172", after := #[{ on := 4, ground := Go.Ground.guard }], guard := some (4, false) }, { dst := some 37, op := Go.Op.load 24 (Go.Operand.tmp 5), type := 24, pos := "law.go:172", after := #[{ on := 4, ground := Go.Ground.guard }], guard := some (4, false) }, { dst := some 38, op := Go.Op.load 3 (Go.Operand.tmp 8), type := 3, pos := "law.go:172", after := #[{ on := 4, ground := Go.Ground.guard }], guard := some (4, false) }, { dst := some 39, op := Go.Op.indexAddr 24 (Go.Operand.tmp 37) (Go.Operand.tmp 38), type := 0, pos := "law.go:172", after := #[{ on := 6, ground := Go.Ground.data }, { on := 7, ground := Go.Ground.data }, { on := 4, ground := Go.Ground.guard }], guard := some (4, false) }, { dst := some 40, op := Go.Op.load 23 (Go.Operand.tmp 39), type := 23, pos := "law.go:172", after := #[{ on := 8, ground := Go.Ground.data }, { on := 4, ground := Go.Ground.guard }], guard := some (4, false) }, { dst := some 41, op := Go.Op.call { callee := Go.Callee.value (Go.Operand.func 13), args := #[Go.Operand.tmp 36, Go.Operand.tmp 40], argTypes := #[23, 23] }, type := 4, pos := "law.go:172", after := #[{ on := 5, ground := Go.Ground.data }, { on := 9, ground := Go.Ground.data }, { on := 4, ground := Go.Ground.chain }, { on := 4, ground := Go.Ground.guard }], guard := some (4, false) }, { dst := some 42, op := Go.Op.unOp Go.UnOp.not 4 (Go.Operand.tmp 41), type := 4, pos := "law.go:172", after := #[{ on := 10, ground := Go.Ground.data }, { on := 4, ground := Go.Ground.guard }], guard := some (4, false) }, { dst := some 43, op := Go.Op.pick (Go.Operand.tmp 35) (Go.Operand.const (Go.Value.bool true)) (Go.Operand.tmp 42), type := 4, pos := "law.go:172", after := #[{ on := 4, ground := Go.Ground.data }, { on := 11, ground := Go.Ground.data }], guard := none }] false).seq (Go.Code.cond (Go.Operand.tmp 43) ((Go.Code.region 11 #[{ dst := none, op := Go.Op.store 4 (Go.Operand.tmp 4) (Go.Operand.const (Go.Value.bool false)), type := 0, pos := "law.go:173", after := #[], guard := none }] false).seq Go.Code.ret) Go.Code.skip)).seq ((Go.Code.region 12 #[{ dst := some 44, op := Go.Op.load 3 (Go.Operand.tmp 8), type := 3, pos := "law.go:175", after := #[], guard := none }, { dst := some 45, op := Go.Op.binOp Go.BinOp.add 3 (Go.Operand.tmp 44) (Go.Operand.const (Go.Value.int Go.IntKind.i64 1)) 3, type := 3, pos := "law.go:175", after := #[{ on := 0, ground := Go.Ground.data }], guard := none }, { dst := none, op := Go.Op.store 3 (Go.Operand.tmp 8) (Go.Operand.tmp 45), type := 0, pos := "law.go:175", after := #[{ on := 1, ground := Go.Ground.data }, { on := 0, ground := Go.Ground.phase }, { on := 1, ground := Go.Ground.phase }], guard := none }] false).seq ((Go.Code.region 13 #[{ dst := some 46, op := Go.Op.load 3 (Go.Operand.tmp 8), type := 3, pos := "law.go:176", after := #[], guard := none }, { dst := some 47, op := Go.Op.load 3 (Go.Operand.tmp 3), type := 3, pos := "law.go:176", after := #[], guard := none }, { dst := some 48, op := Go.Op.binOp Go.BinOp.eql 3 (Go.Operand.tmp 46) (Go.Operand.tmp 47) 3, type := 4, pos := "law.go:176", after := #[{ on := 0, ground := Go.Ground.data }, { on := 1, ground := Go.Ground.data }], guard := none }] false).seq (Go.Code.cond (Go.Operand.tmp 48) (Go.Code.exit 0) Go.Code.skip)))))).wpIn Fence.wide n Try.prog Q { tmps := #[v0, v1, v2, .pointer (some ⟨mb, 0, none⟩), .pointer (some ⟨rb, 0, none⟩), .pointer (some ⟨wb, 0, none⟩), v6, v7, .pointer (some ⟨nb, 0, none⟩), v9, v10, v11, v12, v13, v14, v15, v16, v17, v18, v19, v20, v21, v22, v23, v24, v25, v26, v27, v28, .func (.func 26) #[] #[.pointer (some ⟨lo, 0, none⟩)], v30, v31, v32, v33, v34, v35, v36, v37, v38, v39, v40, v41, v42, v43, v44, v45, v46, v47, v48, v49, v50, v51, v52, v53, v54, v55, v56, v57, v58, v59, v60, v61, v62, v63, v64, v65, v66, v67, v68, v69, v70, v71, v72, v73, v74, v75, v76, v77, v78, v79, v80, v81, v82, v83, v84, v85, v86, v87, v88, v89, v90, v91, v92, v93, v94, v95, v96, v97, v98, v99, v100, v101, v102, v103, v104, v105, v106, v107, v108, v109, v110, v111, v112, v113, v114, v115, v116], defers := a0.defers } w := by
  have hkb : nb < w.heap.size := (Array.getElem?_eq_some_iff.1 hk).1
  have HWF := Lib.hid hwf
  have HRB := Lib.hid hrb
  have HMB := Lib.hid hmb
  have HSB := Lib.hid hsb
  have HOW := Lib.hid hown
  have HBX := Lib.hid hbox
  have HDL := Lib.hid hDl
  refine rf_lawG (F := Fence.wide) rfl (by omega) (gf := 26) (lb := #[.pointer (some ⟨lo, 0, none⟩)]) rfl trivial (enters_of Try.func26 (by kernel_rfl) rfl)
    (up1_seq 2 (n - 1) (by omega) w lo nb bb Ao co D hbox hown hlo hD hDl)
    (fun pre x W o o' h1 h2 hg => ⟨hg.1, gu_put hg.2 h1 h2⟩)
    (fun A B j o hr2 h1 h2 _ => (hr2.block j h1).trans h2) KM.trans (fun W o o' h1 h2 => KM.putObj W _ o o' (by omega) h1 h2) (fun _ => rfl)
    (fun pre W => Boxed W nb 3 (.int .i64 (pre.length : Int)) ∧ FR nb w W) (fun cd pre W => cd = .exit 0 ∧ Boxed W nb 3 (.int .i64 st) ∧ FR nb w W)
    (fun s A B row hs hg2 hr2 => ⟨hs.1.kept hg2 (fun e => by have := (hr2 _ e.symm).1; omega), hs.2.grown hg2 (fun r e => (hr2 r e).1)⟩)
    (fun s A B hs hr2 => ⟨(hr2.block nb (by omega)).trans hs.1, hs.2.below (by omega) hr2⟩)
    (fun cd s A B row hs hg2 hr2 => ⟨hs.1, hs.2.1.kept hg2 (fun e => by have := (hr2 _ e.symm).1; omega), hs.2.2.grown hg2 (fun r e => (hr2 r e).1)⟩)
    (fun cd s A B hs hr2 => ⟨hs.1, (hr2.block nb (by omega)).trans hs.2.1, hs.2.2.below (by omega) hr2⟩)
    ⟨hk, FR.refl _ _⟩
    (fun x => { tmps := #[v0, v1, v2, .pointer (some ⟨mb, 0, none⟩), .pointer (some ⟨rb, 0, none⟩), .pointer (some ⟨wb, 0, none⟩), v6, v7, .pointer (some ⟨nb, 0, none⟩), x.v, v10, v11, v12, v13, v14, v15, v16, v17, v18, v19, v20, v21, v22, v23, v24, v25, v26, v27, v28, .func (.func 26) #[] #[.pointer (some ⟨lo, 0, none⟩)], x.v, v31, v32, v33, v34, v35, v36, v37, v38, v39, v40, v41, v42, v43, v44, v45, v46, v47, v48, v49, v50, v51, v52, v53, v54, v55, v56, v57, v58, v59, v60, v61, v62, v63, v64, v65, v66, v67, v68, v69, v70, v71, v72, v73, v74, v75, v76, v77, v78, v79, v80, v81, v82, v83, v84, v85, v86, v87, v88, v89, v90, v91, v92, v93, v94, v95, v96, v97, v98, v99, v100, v101, v102, v103, v104, v105, v106, v107, v108, v109, v110, v111, v112, v113, v114, v115, v116], defers := [] }) ?assign ?body ?done ?stop
  case assign =>
    intro l2 x W K hK
    gi_wp2
    exact hK
  case body =>
    rintro l2 pre ⟨xv, xl⟩ W hl2 hrec ⟨hkW, hF⟩ hlt ⟨hxl, hxR⟩
    simp only at hxl hxR
    rw [hxl] at hxR
    obtain ⟨Ax, cx, hxv⟩ := Kd.R_slice hxR
    subst hxv
    have hW2 := HWF.out.fr hF hkp hne1 hne3
    have sm := hW2.same pre.length hlt _ Ax _ cx hxR hD HDL.out
    rw [show (D.drop pre.length).length = D.length - pre.length from List.length_drop] at sm
    have SM := Lib.hid sm
    have HXR := Lib.hid hxR
    clear sm
    have hc := hkW.cell
    have hf := hkW.frozen
    have hcw := hW2.want.cell
    have hcm := (hF.box HMB.out hne4).cell
    have ce := hW2.cell pre.length hlt
    have hge : ¬ (((D.length + 1 : Nat) : Int) ≤ (pre.length : Int)) := by omega
    have hge' : ¬ ((D.length : Int) + 1 ≤ (pre.length : Int)) := by omega
    have hwk : IntKind.i64.wrap ((pre.length : Int) + 1) = ((pre.length : Int) + 1) := IntWalk.i64_in _ (by omega)
    have HFB := Lib.hid hF
    have HKW := Lib.hid hkW
    have HW2 := Lib.hid hW2
    have HREC := Lib.hid hrec
    clear hF hxR hW2 hxl hrec
    have hch : cutH A D.length c pre.length = .slice (if c = pre.length then A else A.map (·.add (pre.length * 1))) (D.length - pre.length) (c - pre.length) := rfl
    rw [hch] at ce SM
    generalize (if c = pre.length then A else A.map (·.add (pre.length * 1))) = Aw at ce SM hch
    have HCH := Lib.hid hch
    clear hch
    have hB0 : ∀ n1, Below W.heap.size W (W.drewN n1) := fun n1 => pw_below_drewN (Below.refl _ _) n1
    by_cases heq : (pre.length : Int) + 1 = st
    · have hbeq : ((pre.length : Int) + 1 == st) = true := by rw [heq]; exact beq_self_eq_true st
      gi_wp2
      refine ⟨trivial, fun h => by simp [Fence.wide, Fence.inRound] at h, (calls_any SM.out).mono ?_⟩
      rintro e _ ⟨rfl, ⟨n1, rfl⟩⟩
      gi_wp2
      have hbx : Boxed (W.drewN n1) nb 3 (.int .i64 (pre.length : Int)) := HKW.out
      have hb2 := hbx.set (.int .i64 st)
      first
        | exact ⟨below_kf (hB0 n1) hbx _, rfl, hb2, (below_fr HFB.out (hB0 n1)).set _⟩
        | (rw [heq]; exact ⟨below_kf (hB0 n1) hbx _, rfl, hb2, (below_fr HFB.out (hB0 n1)).set _⟩)
    · have hbeq : ((pre.length : Int) + 1 == st) = false := beq_eq_false_iff_ne.mpr heq
      gi_wp2
      refine ⟨trivial, fun h => by simp [Fence.wide, Fence.inRound] at h, (calls_any SM.out).mono ?_⟩
      rintro e _ ⟨rfl, ⟨n1, rfl⟩⟩
      gi_wp2
      have hbx : Boxed (W.drewN n1) nb 3 (.int .i64 (pre.length : Int)) := HKW.out
      have hb2 := hbx.set (.int .i64 ((pre.length : Int) + 1))
      exact ⟨below_kf (hB0 n1) hbx _, below_km (hB0 n1) hbx _, by rw [len1]; exact hb2, (below_fr HFB.out (hB0 n1)).set _⟩
  case done =>
    rintro D' xs W hD' hxs ⟨h2, h3⟩ hK
    rw [ups_all hxs] at h2
    exact hQ .normal D' W _ (.inl rfl) h3 h2 (.inr rfl) hK hD'
  case stop =>
    rintro D' cd pre W hD' hp ⟨rfl, h2, h3⟩ hK
    gi_wp2
    exact hQ (.exit 0) D' W st (.inr rfl) h3 h2 (.inl rfl) hK hD'
set_option maxHeartbeats 8000000 in
set_option maxRecDepth 100000 in
theorem range2 (n : Nat) (hn : 20 ≤ n) (lo nb mb sb rb bb c wb gw cw co : Nat) (A Ao : Option Addr) (D : DN) (hs : List Value) (rv : Value) (st : Int) {v0 v1 v2 v6 v9 v10 v11 v12 v13 v14 v15 v16 v17 v18 v19 v20 v21 v22 v23 v24 v25 v26 v27 v28 v29 v30 v31 v32 v33 v34 v35 v36 v37 v38 v39 v40 v41 v42 v43 v44 v45 v46 v47 v48 v49 v50 v51 v52 v53 v54 v55 v56 v57 v59 v60 v61 v62 v63 v64 v65 v66 v67 v68 v69 v70 v71 v72 v73 v74 v75 v76 v77 v78 v79 v80 v81 v82 v83 v84 v85 v86 v87 v88 v89 v90 v91 v92 v93 v94 v95 v96 v97 v98 v99 v100 v101 v102 v103 v104 v105 v106 v107 v108 v109 v110 v111 v112 v113 v114 v115 v116 : Value} (a0 : Act) (wp w : World) (Q : Exit → Act → World → Prop)
    (hwf : WF wp w A c D wb gw cw hs) (hbox : Boxed w lo 23 (.slice Ao D.length co)) (hown : Kd.R kD 44 w bb (fun k => k ≠ nb) (.slice Ao D.length co) D) (hk : Boxed w nb 3 (.int .i64 0)) (hmb : Boxed w mb 3 (.int .i64 st)) (hsb : Boxed w sb 28 (.func (.func 26) #[] #[.pointer (some ⟨lo, 0, none⟩)])) (hrb : Boxed w rb 4 rv) (hlo : lo ≠ nb) (hne1 : wb ≠ nb) (hne2 : rb ≠ nb) (hne3 : gw ≠ nb) (hne4 : mb ≠ nb) (hne5 : sb ≠ nb) (hkp : wp.heap.size ≤ nb) (hD : D.length ≤ 1048576) (hDl : ∀ r ∈ D, r.length ≤ 1048576)
    (hQ : ∀ (D' : Nat) (W' : World), FR nb w W' → Boxed W' nb 3 (.int .i64 ((D.length + 1 : Nat) : Int)) → W'.heap[D']? = some (.deferred (some [])) → w.heap.size ≤ D' → Q .normal { tmps := #[v0, v1, v2, .pointer (some ⟨mb, 0, none⟩), .pointer (some ⟨rb, 0, none⟩), .pointer (some ⟨wb, 0, none⟩), v6, .pointer (some ⟨sb, 0, none⟩), .pointer (some ⟨nb, 0, none⟩), v9, v10, v11, v12, v13, v14, v15, v16, v17, v18, v19, v20, v21, v22, v23, v24, v25, v26, v27, v28, v29, v30, v31, v32, v33, v34, v35, v36, v37, v38, v39, v40, v41, v42, v43, v44, v45, v46, v47, v48, v49, v50, v51, v52, v53, v54, v55, v56, v57, .func (.func 26) #[] #[.pointer (some ⟨lo, 0, none⟩)], v59, v60, v61, v62, v63, v64, v65, v66, v67, v68, v69, v70, v71, v72, v73, v74, v75, v76, v77, v78, v79, v80, v81, v82, v83, v84, v85, v86, v87, v88, v89, v90, v91, v92, v93, v94, v95, v96, v97, v98, v99, v100, v101, v102, v103, v104, v105, v106, v107, v108, v109, v110, v111, v112, v113, v114, v115, v116], defers := { target := .collected D', args := #[] } :: a0.defers } W') :
    (Go.Code.rangeFunc (Go.Operand.tmp 58) #[59] (Go.Code.region 18 #[{ dst := some 10, op := Go.Op.assign (Go.Operand.tmp 59), type := 23, pos := "law.go:184", after := #[], guard := none }] false) (Go.Code.block 3 (((Go.Code.region 19 #[{ dst := some 60, op := Go.Op.load 3 (Go.Operand.tmp 8), type := 3, pos := "law.go:185", after := #[], guard := none }, { dst := some 61, op := Go.Op.load 24 (Go.Operand.tmp 5), type := 24, pos := "law.go:185", after := #[], guard := none }, { dst := some 62, op := Go.Op.call { callee := Go.Callee.builtin Go.Builtin.len, args := #[Go.Operand.tmp 61], argTypes := #[24] }, type := 3, pos := "law.go:185", after := #[{ on := 1, ground := Go.Ground.data }], guard := none }, { dst := some 63, op := Go.Op.binOp Go.BinOp.geq 3 (Go.Operand.tmp 60) (Go.Operand.tmp 62) 3, type := 4, pos := "law.go:185", after := #[{ on := 0, ground := Go.Ground.data }, { on := 2, ground := Go.Ground.data }], guard := none }, { dst := some 64, op := Go.Op.move (Go.Operand.tmp 63), type := 4, pos := "law.go:185", after := #[{ on := 3, ground := Go.Ground.data }], guard := none }, { dst := some 65, op := Go.Op.move (Go.Operand.tmp 10), type := 23, pos := "law.go:185", after := #[{ on := 4, ground := Go.Ground.guard }], guard := some (4, false) }, { dst := some 66, op := Go.Op.load 24 (Go.Operand.tmp 5), type := 24, pos := "law.go:185", after := #[{ on := 4, ground := Go.Ground.guard }], guard := some (4, false) }, { dst := some 67, op := Go.Op.load 3 (Go.Operand.tmp 8), type := 3, pos := "law.go:185", after := #[{ on := 4, ground := Go.Ground.guard }], guard := some (4, false) }, { dst := some 68, op := Go.Op.indexAddr 24 (Go.Operand.tmp 66) (Go.Operand.tmp 67), type := 0, pos := "law.go:185", after := #[{ on := 6, ground := Go.Ground.data }, { on := 7, ground := Go.Ground.data }, { on := 4, ground := Go.Ground.guard }], guard := some (4, false) }, { dst := some 69, op := Go.Op.load 23 (Go.Operand.tmp 68), type := 23, pos := "law.go:185", after := #[{ on := 8, ground := Go.Ground.data }, { on := 4, ground := Go.Ground.guard }], guard := some (4, false) }, { dst := some 70, op := Go.Op.call { callee := Go.Callee.value (Go.Operand.func 13), args := #[Go.Operand.tmp 65, Go.Operand.tmp 69], argTypes := #[23, 23] }, type := 4, pos := "law.go:185", after := #[{ on := 5, ground := Go.Ground.data }, { on := 9, ground := Go.Ground.data }, { on := 4, ground := Go.Ground.chain }, { on := 4, ground := Go.Ground.guard }], guard := some (4, false) }, { dst := some 71, op := Go.Op.unOp Go.UnOp.not 4 (Go.Operand.tmp 70), type := 4, pos := "law.go:185", after := #[{ on := 10, ground := Go.Ground.data }, { on := 4, ground := Go.Ground.guard }], guard := some (4, false) }, { dst := some 72, op := Go.Op.pick (Go.Operand.tmp 64) (Go.Operand.const (Go.Value.bool true)) (Go.Operand.tmp 71), type := 4, pos := "law.go:185", after := #[{ on := 4, ground := Go.Ground.data }, { on := 11, ground := Go.Ground.data }], guard := none }] false).seq (Go.Code.cond (Go.Operand.tmp 72) ((Go.Code.region 20 #[{ dst := none, op := Go.Op.store 4 (Go.Operand.tmp 4) (Go.Operand.const (Go.Value.bool false)), type := 0, pos := "law.go:186", after := #[], guard := none }] false).seq Go.Code.ret) Go.Code.skip)).seq ((Go.Code.region 21 #[{ dst := some 73, op := Go.Op.load 3 (Go.Operand.tmp 8), type := 3, pos := "law.go:188", after := #[], guard := none }, { dst := some 74, op := Go.Op.binOp Go.BinOp.add 3 (Go.Operand.tmp 73) (Go.Operand.const (Go.Value.int Go.IntKind.i64 1)) 3, type := 3, pos := "law.go:188", after := #[{ on := 0, ground := Go.Ground.data }], guard := none }, { dst := none, op := Go.Op.store 3 (Go.Operand.tmp 8) (Go.Operand.tmp 74), type := 0, pos := "law.go:188", after := #[{ on := 1, ground := Go.Ground.data }, { on := 0, ground := Go.Ground.phase }, { on := 1, ground := Go.Ground.phase }], guard := none }] false).seq (((Go.Code.region 22 #[{ dst := some 75, op := Go.Op.load 3 (Go.Operand.tmp 8), type := 3, pos := "law.go:189", after := #[], guard := none }, { dst := some 76, op := Go.Op.binOp Go.BinOp.neq 3 (Go.Operand.tmp 75) (Go.Operand.const (Go.Value.int Go.IntKind.i64 1)) 3, type := 4, pos := "law.go:189", after := #[{ on := 0, ground := Go.Ground.data }], guard := none }, { dst := some 77, op := Go.Op.move (Go.Operand.tmp 76), type := 4, pos := "law.go:189", after := #[{ on := 1, ground := Go.Ground.data }], guard := none }, { dst := some 78, op := Go.Op.load 3 (Go.Operand.tmp 8), type := 3, pos := "law.go:189", after := #[{ on := 2, ground := Go.Ground.guard }], guard := some (2, true) }, { dst := some 79, op := Go.Op.load 3 (Go.Operand.tmp 3), type := 3, pos := "law.go:189", after := #[{ on := 2, ground := Go.Ground.guard }], guard := some (2, true) }, { dst := some 80, op := Go.Op.binOp Go.BinOp.neq 3 (Go.Operand.tmp 78) (Go.Operand.tmp 79) 3, type := 4, pos := "law.go:189", after := #[{ on := 3, ground := Go.Ground.data }, { on := 4, ground := Go.Ground.data }, { on := 2, ground := Go.Ground.guard }], guard := some (2, true) }, { dst := some 81, op := Go.Op.pick (Go.Operand.tmp 77) (Go.Operand.tmp 80) (Go.Operand.const (Go.Value.bool false)), type := 4, pos := "law.go:189", after := #[{ on := 2, ground := Go.Ground.data }, { on := 5, ground := Go.Ground.data }], guard := none }] false).seq (Go.Code.cond (Go.Operand.tmp 81) (Go.Code.exit 3) Go.Code.skip)).seq ((Go.Code.region 23 #[{ dst := some 11, op := Go.Op.alloc 3, type := 0, pos := "law.go:192", after := #[], guard := none }, { dst := none, op := Go.Op.store 3 (Go.Operand.tmp 11) (Go.Operand.const (Go.Value.int Go.IntKind.i64 0)), type := 0, pos := "law.go:192", after := #[{ on := 0, ground := Go.Ground.data }, { on := 0, ground := Go.Ground.phase }], guard := none }] false).seq (((Go.Code.region 24 #[{ dst := some 82, op := Go.Op.load 28 (Go.Operand.tmp 7), type := 28, pos := "law.go:193", after := #[], guard := none }] false).seq (Go.Code.block 4 (Go.Code.rangeFunc (Go.Operand.tmp 82) #[83] (Go.Code.region 25 #[{ dst := some 12, op := Go.Op.assign (Go.Operand.tmp 83), type := 23, pos := "law.go:193", after := #[], guard := none }] false) (Go.Code.block 5 (((Go.Code.region 26 #[{ dst := some 84, op := Go.Op.load 3 (Go.Operand.tmp 11), type := 3, pos := "law.go:194", after := #[], guard := none }, { dst := some 85, op := Go.Op.load 24 (Go.Operand.tmp 5), type := 24, pos := "law.go:194", after := #[], guard := none }, { dst := some 86, op := Go.Op.call { callee := Go.Callee.builtin Go.Builtin.len, args := #[Go.Operand.tmp 85], argTypes := #[24] }, type := 3, pos := "law.go:194", after := #[{ on := 1, ground := Go.Ground.data }], guard := none }, { dst := some 87, op := Go.Op.binOp Go.BinOp.geq 3 (Go.Operand.tmp 84) (Go.Operand.tmp 86) 3, type := 4, pos := "law.go:194", after := #[{ on := 0, ground := Go.Ground.data }, { on := 2, ground := Go.Ground.data }], guard := none }, { dst := some 88, op := Go.Op.move (Go.Operand.tmp 87), type := 4, pos := "law.go:194", after := #[{ on := 3, ground := Go.Ground.data }], guard := none }, { dst := some 89, op := Go.Op.move (Go.Operand.tmp 12), type := 23, pos := "law.go:194", after := #[{ on := 4, ground := Go.Ground.guard }], guard := some (4, false) }, { dst := some 90, op := Go.Op.load 24 (Go.Operand.tmp 5), type := 24, pos := "law.go:194", after := #[{ on := 4, ground := Go.Ground.guard }], guard := some (4, false) }, { dst := some 91, op := Go.Op.load 3 (Go.Operand.tmp 11), type := 3, pos := "law.go:194", after := #[{ on := 4, ground := Go.Ground.guard }], guard := some (4, false) }, { dst := some 92, op := Go.Op.indexAddr 24 (Go.Operand.tmp 90) (Go.Operand.tmp 91), type := 0, pos := "law.go:194", after := #[{ on := 6, ground := Go.Ground.data }, { on := 7, ground := Go.Ground.data }, { on := 4, ground := Go.Ground.guard }], guard := some (4, false) }, { dst := some 93, op := Go.Op.load 23 (Go.Operand.tmp 92), type := 23, pos := "law.go:194", after := #[{ on := 8, ground := Go.Ground.data }, { on := 4, ground := Go.Ground.guard }], guard := some (4, false) }, { dst := some 94, op := Go.Op.call { callee := Go.Callee.value (Go.Operand.func 13), args := #[Go.Operand.tmp 89, Go.Operand.tmp 93], argTypes := #[23, 23] }, type := 4, pos := "law.go:194", after := #[{ on := 5, ground := Go.Ground.data }, { on := 9, ground := Go.Ground.data }, { on := 4, ground := Go.Ground.chain }, { on := 4, ground := Go.Ground.guard }], guard := some (4, false) }, { dst := some 95, op := Go.Op.unOp Go.UnOp.not 4 (Go.Operand.tmp 94), type := 4, pos := "law.go:194", after := #[{ on := 10, ground := Go.Ground.data }, { on := 4, ground := Go.Ground.guard }], guard := some (4, false) }, { dst := some 96, op := Go.Op.pick (Go.Operand.tmp 88) (Go.Operand.const (Go.Value.bool true)) (Go.Operand.tmp 95), type := 4, pos := "law.go:194", after := #[{ on := 4, ground := Go.Ground.data }, { on := 11, ground := Go.Ground.data }], guard := none }] false).seq (Go.Code.cond (Go.Operand.tmp 96) ((Go.Code.region 27 #[{ dst := none, op := Go.Op.store 4 (Go.Operand.tmp 4) (Go.Operand.const (Go.Value.bool false)), type := 0, pos := "law.go:195", after := #[], guard := none }] false).seq Go.Code.ret) Go.Code.skip)).seq (Go.Code.region 28 #[{ dst := some 97, op := Go.Op.load 3 (Go.Operand.tmp 11), type := 3, pos := "law.go:197", after := #[], guard := none }, { dst := some 98, op := Go.Op.binOp Go.BinOp.add 3 (Go.Operand.tmp 97) (Go.Operand.const (Go.Value.int Go.IntKind.i64 1)) 3, type := 3, pos := "law.go:197", after := #[{ on := 0, ground := Go.Ground.data }], guard := none }, { dst := none, op := Go.Op.store 3 (Go.Operand.tmp 11) (Go.Operand.tmp 98), type := 0, pos := "law.go:197", after := #[{ on := 1, ground := Go.Ground.data }, { on := 0, ground := Go.Ground.phase }, { on := 1, ground := Go.Ground.phase }], guard := none }] false)))))).seq ((Go.Code.region 29 #[{ dst := some 99, op := Go.Op.load 3 (Go.Operand.tmp 11), type := 3, pos := "law.go:199", after := #[], guard := none }, { dst := some 100, op := Go.Op.load 24 (Go.Operand.tmp 5), type := 24, pos := "law.go:199", after := #[], guard := none }, { dst := some 101, op := Go.Op.call { callee := Go.Callee.builtin Go.Builtin.len, args := #[Go.Operand.tmp 100], argTypes := #[24] }, type := 3, pos := "law.go:199", after := #[{ on := 1, ground := Go.Ground.data }], guard := none }, { dst := some 102, op := Go.Op.binOp Go.BinOp.neq 3 (Go.Operand.tmp 99) (Go.Operand.tmp 101) 3, type := 4, pos := "law.go:199", after := #[{ on := 0, ground := Go.Ground.data }, { on := 2, ground := Go.Ground.data }], guard := none }, { dst := some 103, op := Go.Op.move (Go.Operand.tmp 102), type := 4, pos := "law.go:199", after := #[{ on := 3, ground := Go.Ground.data }], guard := none }, { dst := some 104, op := Go.Op.move (Go.Operand.tmp 10), type := 23, pos := "law.go:199", after := #[{ on := 4, ground := Go.Ground.guard }], guard := some (4, false) }, { dst := some 105, op := Go.Op.load 24 (Go.Operand.tmp 5), type := 24, pos := "law.go:199", after := #[{ on := 4, ground := Go.Ground.guard }], guard := some (4, false) }, { dst := some 106, op := Go.Op.load 3 (Go.Operand.tmp 8), type := 3, pos := "law.go:199", after := #[{ on := 4, ground := Go.Ground.guard }], guard := some (4, false) }, { dst := some 107, op := Go.Op.binOp Go.BinOp.sub 3 (Go.Operand.tmp 106) (Go.Operand.const (Go.Value.int Go.IntKind.i64 1)) 3, type := 3, pos := "law.go:199", after := #[{ on := 7, ground := Go.Ground.data }, { on := 4, ground := Go.Ground.guard }], guard := some (4, false) }, { dst := some 108, op := Go.Op.indexAddr 24 (Go.Operand.tmp 105) (Go.Operand.tmp 107), type := 0, pos := "law.go:199", after := #[{ on := 6, ground := Go.Ground.data }, { on := 8, ground := Go.Ground.data }, { on := 4, ground := Go.Ground.guard }], guard := some (4, false) }, { dst := some 109, op := Go.Op.load 23 (Go.Operand.tmp 108), type := 23, pos := "law.go:199", after := #[{ on := 9, ground := Go.Ground.data }, { on := 4, ground := Go.Ground.guard }], guard := some (4, false) }, { dst := some 110, op := Go.Op.call { callee := Go.Callee.value (Go.Operand.func 13), args := #[Go.Operand.tmp 104, Go.Operand.tmp 109], argTypes := #[23, 23] }, type := 4, pos := "law.go:199", after := #[{ on := 5, ground := Go.Ground.data }, { on := 10, ground := Go.Ground.data }, { on := 4, ground := Go.Ground.chain }, { on := 4, ground := Go.Ground.guard }], guard := some (4, false) }, { dst := some 111, op := Go.Op.unOp Go.UnOp.not 4 (Go.Operand.tmp 110), type := 4, pos := "law.go:199", after := #[{ on := 11, ground := Go.Ground.data }, { on := 4, ground := Go.Ground.guard }], guard := some (4, false) }, { dst := some 112, op := Go.Op.pick (Go.Operand.tmp 103) (Go.Operand.const (Go.Value.bool true)) (Go.Operand.tmp 111), type := 4, pos := "law.go:199", after := #[{ on := 4, ground := Go.Ground.data }, { on := 12, ground := Go.Ground.data }], guard := none }] false).seq (Go.Code.cond (Go.Operand.tmp 112) ((Go.Code.region 30 #[{ dst := none, op := Go.Op.store 4 (Go.Operand.tmp 4) (Go.Operand.const (Go.Value.bool false)), type := 0, pos := "law.go:200", after := #[], guard := none }] false).seq Go.Code.ret) Go.Code.skip))))))))).wpIn Fence.wide n Try.prog Q { tmps := #[v0, v1, v2, .pointer (some ⟨mb, 0, none⟩), .pointer (some ⟨rb, 0, none⟩), .pointer (some ⟨wb, 0, none⟩), v6, .pointer (some ⟨sb, 0, none⟩), .pointer (some ⟨nb, 0, none⟩), v9, v10, v11, v12, v13, v14, v15, v16, v17, v18, v19, v20, v21, v22, v23, v24, v25, v26, v27, v28, v29, v30, v31, v32, v33, v34, v35, v36, v37, v38, v39, v40, v41, v42, v43, v44, v45, v46, v47, v48, v49, v50, v51, v52, v53, v54, v55, v56, v57, .func (.func 26) #[] #[.pointer (some ⟨lo, 0, none⟩)], v59, v60, v61, v62, v63, v64, v65, v66, v67, v68, v69, v70, v71, v72, v73, v74, v75, v76, v77, v78, v79, v80, v81, v82, v83, v84, v85, v86, v87, v88, v89, v90, v91, v92, v93, v94, v95, v96, v97, v98, v99, v100, v101, v102, v103, v104, v105, v106, v107, v108, v109, v110, v111, v112, v113, v114, v115, v116], defers := a0.defers } w := by
  have hkb : nb < w.heap.size := (Array.getElem?_eq_some_iff.1 hk).1
  have HWF := Lib.hid hwf
  have HRB := Lib.hid hrb
  have HMB := Lib.hid hmb
  have HSB := Lib.hid hsb
  have HOW := Lib.hid hown
  have HBX := Lib.hid hbox
  have HDL := Lib.hid hDl
  refine rf_lawG (F := Fence.wide) rfl (by omega) (gf := 26) (lb := #[.pointer (some ⟨lo, 0, none⟩)]) rfl trivial (enters_of Try.func26 (by kernel_rfl) rfl)
    (up1_seq 2 (n - 1) (by omega) w lo nb bb Ao co D hbox hown hlo hD hDl)
    (fun pre x W o o' h1 h2 hg => ⟨hg.1, gu_put hg.2 h1 h2⟩)
    (fun A B j o hr2 h1 h2 _ => (hr2.block j h1).trans h2) KM.trans (fun W o o' h1 h2 => KM.putObj W _ o o' (by omega) h1 h2) (fun _ => rfl)
    (fun pre W => Boxed W nb 3 (.int .i64 (pre.length : Int)) ∧ FR nb w W) (fun cd pre W => False)
    (fun s A B row hs hg2 hr2 => ⟨hs.1.kept hg2 (fun e => by have := (hr2 _ e.symm).1; omega), hs.2.grown hg2 (fun r e => (hr2 r e).1)⟩)
    (fun s A B hs hr2 => ⟨(hr2.block nb (by omega)).trans hs.1, hs.2.below (by omega) hr2⟩)
    (fun cd s A B row hs _ _ => hs) (fun cd s A B hs _ => hs)
    ⟨hk, FR.refl _ _⟩
    (fun x => { tmps := #[v0, v1, v2, .pointer (some ⟨mb, 0, none⟩), .pointer (some ⟨rb, 0, none⟩), .pointer (some ⟨wb, 0, none⟩), v6, .pointer (some ⟨sb, 0, none⟩), .pointer (some ⟨nb, 0, none⟩), v9, x.v, v11, v12, v13, v14, v15, v16, v17, v18, v19, v20, v21, v22, v23, v24, v25, v26, v27, v28, v29, v30, v31, v32, v33, v34, v35, v36, v37, v38, v39, v40, v41, v42, v43, v44, v45, v46, v47, v48, v49, v50, v51, v52, v53, v54, v55, v56, v57, .func (.func 26) #[] #[.pointer (some ⟨lo, 0, none⟩)], x.v, v60, v61, v62, v63, v64, v65, v66, v67, v68, v69, v70, v71, v72, v73, v74, v75, v76, v77, v78, v79, v80, v81, v82, v83, v84, v85, v86, v87, v88, v89, v90, v91, v92, v93, v94, v95, v96, v97, v98, v99, v100, v101, v102, v103, v104, v105, v106, v107, v108, v109, v110, v111, v112, v113, v114, v115, v116], defers := [] }) ?assign ?body ?done ?stop
  case assign =>
    intro l2 x W K hK
    gi_wp2
    exact hK
  case body =>
    rintro l2 pre ⟨xv, xl⟩ W hl2 hrec ⟨hkW, hF⟩ hlt ⟨hxl, hxR⟩
    simp only at hxl hxR
    rw [hxl] at hxR
    obtain ⟨Ax, cx, hxv⟩ := Kd.R_slice hxR
    subst hxv
    have hW2 := HWF.out.fr hF hkp hne1 hne3
    have sm := hW2.same pre.length hlt _ Ax _ cx hxR hD HDL.out
    rw [show (D.drop pre.length).length = D.length - pre.length from List.length_drop] at sm
    have SM := Lib.hid sm
    have HXR := Lib.hid hxR
    clear sm
    have hc := hkW.cell
    have hf := hkW.frozen
    have hcw := hW2.want.cell
    have hcm := (hF.box HMB.out hne4).cell
    have ce := hW2.cell pre.length hlt
    have hge : ¬ (((D.length + 1 : Nat) : Int) ≤ (pre.length : Int)) := by omega
    have hge' : ¬ ((D.length : Int) + 1 ≤ (pre.length : Int)) := by omega
    obtain ⟨z, hz⟩ : ∃ z : Int, z = (pre.length : Int) + 1 := ⟨_, rfl⟩
    have hwk : IntKind.i64.wrap ((pre.length : Int) + 1) = z := by rw [hz]; exact IntWalk.i64_in _ (by omega)
    have HZ := Lib.hid hz
    clear hz
    have HFB := Lib.hid hF
    have HKW := Lib.hid hkW
    have HW2 := Lib.hid hW2
    have HREC := Lib.hid hrec
    clear hF hxR hW2 hxl hrec
    have hch : cutH A D.length c pre.length = .slice (if c = pre.length then A else A.map (·.add (pre.length * 1))) (D.length - pre.length) (c - pre.length) := rfl
    rw [hch] at ce SM
    generalize (if c = pre.length then A else A.map (·.add (pre.length * 1))) = Aw at ce SM hch
    have HCH := Lib.hid hch
    clear hch
    have hB0 : ∀ n1, Below W.heap.size W (W.drewN n1) := fun n1 => pw_below_drewN (Below.refl _ _) n1
    gi_wp2
    refine ⟨trivial, fun h => by simp [Fence.wide, Fence.inRound] at h, (calls_any SM.out).mono ?_⟩
    rintro e _ ⟨rfl, ⟨n1, rfl⟩⟩
    by_cases h1 : z = 1
    · have h1b : (z != 1) = false := by rw [h1]; rfl
      clear h1
      have hbx : Boxed (W.drewN n1) nb 3 (.int .i64 (pre.length : Int)) := HKW.out
      have hbV := hbx.set (.int .i64 z)
      have csV : (((W.drewN n1).setCell ⟨nb, 0, none⟩ (.int .i64 z)).alloc (.cells #[.int .i64 0] 3)).cell? ⟨sb, 0, none⟩ = some (.func (.func 26) #[] #[.pointer (some ⟨lo, 0, none⟩)]) := ((Boxed.other (show Boxed (W.drewN n1) sb 28 _ from HFB.out.box HSB.out hne5) hne5 _).alloc (.cells #[.int .i64 0] 3)).cell
      gi_wp2
      obtain ⟨V, hV⟩ : ∃ V, V = ((W.drewN n1).setCell ⟨nb, 0, none⟩ (.int .i64 z)) := ⟨_, rfl⟩
      rw [← hV] at hbV ⊢
      clear csV
      have hVs : V.heap.size = W.heap.size := by rw [hV, World.size_setCell]; rfl
      have hVF : FR nb W V := by rw [hV]; exact (below_fr (FR.refl nb W) (hB0 n1)).set _
      have hwV := HFB.out.trans hVF
      have hWs : w.heap.size ≤ W.heap.size := HFB.out.size
      have HWV := Lib.hid (HWF.out.fr hwV hkp hne1 hne3)
      have bxV := hwV.box HBX.out hlo
      have brV := hwV.box HRB.out hne2
      have ownV : Kd.R kD 44 V bb (fun k => k ≠ nb ∧ k < w.heap.size) (.slice Ao D.length co) D := Kd.R_mono (Kd.R_move (Kd.R_bound HOW.out) (fun j hj => hwV.block j hj.2.2.1 hj.1)) (fun k hk => ⟨hk.1, hk.2.2.1⟩)
      have xV : Kd.R kD 44 V (w.heap.size + 2) (fun _ => True) (.slice Ax (D.length - pre.length) cx) (D.drop pre.length) := by
        have h9 := HXR.out
        rw [show (D.drop pre.length).length = D.length - pre.length from List.length_drop] at h9
        exact Kd.R_mono (Kd.R_move (Kd.R_bound h9) (fun j hj => hVF.block j hj.2.2.1 (by omega))) (fun _ _ => trivial)
      have hkfV : KeepsFrom w.heap.size W V := by rw [hV]; exact below_kf (hB0 n1) hbx _
      have hkmV : KM (w.heap.size + 2) nb W V := by rw [hV]; exact below_km (hB0 n1) hbx _
      have HVX := Lib.hid (And.intro hVs (And.intro hVF (And.intro hwV hbV)))
      have HKK := Lib.hid (And.intro hkfV hkmV)
      clear hkfV hkmV
      have hB1 : Below V.heap.size V (V.alloc (.cells #[.int .i64 0] 3)) := (Below.refl _ V).alloc (Nat.le_refl _) _
      obtain ⟨r0, hrec0⟩ := HREC.out
      have hrecV : V.heap[l2]? = some (.loop r0) := (hVF.block l2 (Array.getElem?_eq_some_iff.1 hrec0).1 (fun e => by rw [e, show W.heap[nb]? = _ from HKW.out] at hrec0; cases hrec0)).trans hrec0
      have l1 := (Array.getElem?_eq_some_iff.1 hrecV).1
      have l2' := (Array.getElem?_eq_some_iff.1 bxV).1
      have l3 := (Array.getElem?_eq_some_iff.1 brV).1
      have l4 := (Array.getElem?_eq_some_iff.1 HWV.out.want).1
      have l5 := (Array.getElem?_eq_some_iff.1 HWV.out.row).1
      have hpV := HWV.out.par.size
      have hVs2 := hVs
      have bn := Boxed.new V 3 (.int .i64 0)
      rw [hVs2] at bn
      clear hV hVs hVF hwV hbx
      refine inner_range (n - 1 - 1) l2 (by omega) r0 lo W.heap.size rb bb c wb gw cw co A Ao D hs rv { tmps := #[], defers := [] } wp _ _ ((hB1.block l2 l1).trans hrecV) (HWV.out.on hB1) (bxV.alloc _) (Kd.R_mono (Kd.R_move ownV (fun j hj => hB1.block j (by have := HVX.out.1; omega))) (fun k hk => by have := HVX.out.1; omega)) bn (brV.alloc _) (by omega) (by omega) (by omega) (by omega) (by omega) hD HDL.out ?_
      intro W' hF2 hk2
      have hB' : Below V.heap.size V W' := fr_old (by rw [hVs2]; exact hF2)
      have hnb' : Boxed W' nb 3 (.int .i64 z) := (hB'.block nb (Array.getElem?_eq_some_iff.1 HVX.out.2.2.2).1).trans HVX.out.2.2.2
      have hwf' := HWV.out.on hB'
      have x' : Kd.R kD 44 W' (w.heap.size + 2) (fun _ => True) (.slice Ax (D.length - pre.length) cx) (D.drop pre.length) := Kd.R_below xV hB'
      have sm2 := hwf'.same pre.length hlt _ Ax _ cx x' hD HDL.out
      have ce' := hwf'.cell pre.length hlt
      rw [HCH.out] at sm2 ce'
      have SM2 := Lib.hid sm2
      have hc' := hnb'.cell
      have hck' := hk2.cell
      have hcw' := hwf'.want.cell
      have hws : IntKind.i64.wrap (z - 1) = (pre.length : Int) := by rw [HZ.out, show (pre.length : Int) + 1 - 1 = (pre.length : Int) by omega, IntWalk.i64_in _ (by omega)]
      have hltw : (pre.length : Int) < ((D.length + 1 : Nat) : Int) := by omega
      have HFIN := Lib.hid (And.intro hB' hnb')
      clear hB' hF2 hk2 hnb' hwf' x' sm2
      gi_wp2
      refine ⟨trivial, fun h => by simp [Fence.wide, Fence.inRound] at h, (calls_any SM2.out).mono ?_⟩
      rintro e _ ⟨rfl, ⟨n2, rfl⟩⟩
      gi_wp2
      have hB2 : Below W'.heap.size W' (W'.drewN n2) := pw_below_drewN (Below.refl _ _) n2
      have hB3 : Below V.heap.size V (W'.drewN n2) := HFIN.out.1.trans (hB2.mono HFIN.out.1.size)
      refine ⟨?_, ?_, by rw [len1, ← HZ.out]; exact (hB2.block nb (Array.getElem?_eq_some_iff.1 HFIN.out.2).1).trans HFIN.out.2, below_fr HVX.out.2.2.1 hB3⟩
      · exact HKK.out.1.trans (kf_below hB3)
      · exact HKK.out.2.trans (km_below hB3)
    · have h1b : (z != 1) = true := by simpa using h1
      by_cases heq : z = st
      · have hbeq : (z != st) = false := by rw [heq]; exact bne_self_eq_false st
        clear heq
        have hbx : Boxed (W.drewN n1) nb 3 (.int .i64 (pre.length : Int)) := HKW.out
        have hbV := hbx.set (.int .i64 z)
        have csV : (((W.drewN n1).setCell ⟨nb, 0, none⟩ (.int .i64 z)).alloc (.cells #[.int .i64 0] 3)).cell? ⟨sb, 0, none⟩ = some (.func (.func 26) #[] #[.pointer (some ⟨lo, 0, none⟩)]) := ((Boxed.other (show Boxed (W.drewN n1) sb 28 _ from HFB.out.box HSB.out hne5) hne5 _).alloc (.cells #[.int .i64 0] 3)).cell
        gi_wp2
        obtain ⟨V, hV⟩ : ∃ V, V = ((W.drewN n1).setCell ⟨nb, 0, none⟩ (.int .i64 z)) := ⟨_, rfl⟩
        rw [← hV] at hbV ⊢
        clear csV
        have hVs : V.heap.size = W.heap.size := by rw [hV, World.size_setCell]; rfl
        have hVF : FR nb W V := by rw [hV]; exact (below_fr (FR.refl nb W) (hB0 n1)).set _
        have hwV := HFB.out.trans hVF
        have hWs : w.heap.size ≤ W.heap.size := HFB.out.size
        have HWV := Lib.hid (HWF.out.fr hwV hkp hne1 hne3)
        have bxV := hwV.box HBX.out hlo
        have brV := hwV.box HRB.out hne2
        have ownV : Kd.R kD 44 V bb (fun k => k ≠ nb ∧ k < w.heap.size) (.slice Ao D.length co) D := Kd.R_mono (Kd.R_move (Kd.R_bound HOW.out) (fun j hj => hwV.block j hj.2.2.1 hj.1)) (fun k hk => ⟨hk.1, hk.2.2.1⟩)
        have xV : Kd.R kD 44 V (w.heap.size + 2) (fun _ => True) (.slice Ax (D.length - pre.length) cx) (D.drop pre.length) := by
          have h9 := HXR.out
          rw [show (D.drop pre.length).length = D.length - pre.length from List.length_drop] at h9
          exact Kd.R_mono (Kd.R_move (Kd.R_bound h9) (fun j hj => hVF.block j hj.2.2.1 (by omega))) (fun _ _ => trivial)
        have hkfV : KeepsFrom w.heap.size W V := by rw [hV]; exact below_kf (hB0 n1) hbx _
        have hkmV : KM (w.heap.size + 2) nb W V := by rw [hV]; exact below_km (hB0 n1) hbx _
        have HVX := Lib.hid (And.intro hVs (And.intro hVF (And.intro hwV hbV)))
        have HKK := Lib.hid (And.intro hkfV hkmV)
        clear hkfV hkmV
        have hB1 : Below V.heap.size V (V.alloc (.cells #[.int .i64 0] 3)) := (Below.refl _ V).alloc (Nat.le_refl _) _
        obtain ⟨r0, hrec0⟩ := HREC.out
        have hrecV : V.heap[l2]? = some (.loop r0) := (hVF.block l2 (Array.getElem?_eq_some_iff.1 hrec0).1 (fun e => by rw [e, show W.heap[nb]? = _ from HKW.out] at hrec0; cases hrec0)).trans hrec0
        have l1 := (Array.getElem?_eq_some_iff.1 hrecV).1
        have l2' := (Array.getElem?_eq_some_iff.1 bxV).1
        have l3 := (Array.getElem?_eq_some_iff.1 brV).1
        have l4 := (Array.getElem?_eq_some_iff.1 HWV.out.want).1
        have l5 := (Array.getElem?_eq_some_iff.1 HWV.out.row).1
        have hpV := HWV.out.par.size
        have hVs2 := hVs
        have bn := Boxed.new V 3 (.int .i64 0)
        rw [hVs2] at bn
        clear hV hVs hVF hwV hbx
        refine inner_range (n - 1 - 1) l2 (by omega) r0 lo W.heap.size rb bb c wb gw cw co A Ao D hs rv { tmps := #[], defers := [] } wp _ _ ((hB1.block l2 l1).trans hrecV) (HWV.out.on hB1) (bxV.alloc _) (Kd.R_mono (Kd.R_move ownV (fun j hj => hB1.block j (by have := HVX.out.1; omega))) (fun k hk => by have := HVX.out.1; omega)) bn (brV.alloc _) (by omega) (by omega) (by omega) (by omega) (by omega) hD HDL.out ?_
        intro W' hF2 hk2
        have hB' : Below V.heap.size V W' := fr_old (by rw [hVs2]; exact hF2)
        have hnb' : Boxed W' nb 3 (.int .i64 z) := (hB'.block nb (Array.getElem?_eq_some_iff.1 HVX.out.2.2.2).1).trans HVX.out.2.2.2
        have hwf' := HWV.out.on hB'
        have x' : Kd.R kD 44 W' (w.heap.size + 2) (fun _ => True) (.slice Ax (D.length - pre.length) cx) (D.drop pre.length) := Kd.R_below xV hB'
        have sm2 := hwf'.same pre.length hlt _ Ax _ cx x' hD HDL.out
        have ce' := hwf'.cell pre.length hlt
        rw [HCH.out] at sm2 ce'
        have SM2 := Lib.hid sm2
        have hc' := hnb'.cell
        have hck' := hk2.cell
        have hcw' := hwf'.want.cell
        have hws : IntKind.i64.wrap (z - 1) = (pre.length : Int) := by rw [HZ.out, show (pre.length : Int) + 1 - 1 = (pre.length : Int) by omega, IntWalk.i64_in _ (by omega)]
        have hltw : (pre.length : Int) < ((D.length + 1 : Nat) : Int) := by omega
        have HFIN := Lib.hid (And.intro hB' hnb')
        clear hB' hF2 hk2 hnb' hwf' x' sm2
        gi_wp2
        refine ⟨trivial, fun h => by simp [Fence.wide, Fence.inRound] at h, (calls_any SM2.out).mono ?_⟩
        rintro e _ ⟨rfl, ⟨n2, rfl⟩⟩
        gi_wp2
        have hB2 : Below W'.heap.size W' (W'.drewN n2) := pw_below_drewN (Below.refl _ _) n2
        have hB3 : Below V.heap.size V (W'.drewN n2) := HFIN.out.1.trans (hB2.mono HFIN.out.1.size)
        refine ⟨?_, ?_, by rw [len1, ← HZ.out]; exact (hB2.block nb (Array.getElem?_eq_some_iff.1 HFIN.out.2).1).trans HFIN.out.2, below_fr HVX.out.2.2.1 hB3⟩
        · exact HKK.out.1.trans (kf_below hB3)
        · exact HKK.out.2.trans (km_below hB3)
      · have hbeq : (z != st) = true := by simpa using heq
        gi_wp2
        have hbx : Boxed (W.drewN n1) nb 3 (.int .i64 (pre.length : Int)) := HKW.out
        have hb2 := hbx.set (.int .i64 z)
        exact ⟨below_kf (hB0 n1) hbx _, below_km (hB0 n1) hbx _, by rw [len1, ← HZ.out]; exact hb2, (below_fr HFB.out (hB0 n1)).set _⟩
  case done =>
    rintro D' xs W hD' hxs ⟨h2, h3⟩ hK
    rw [ups_all hxs] at h2
    exact hQ D' W h3 h2 hK hD'
  case stop =>
    rintro D' cd pre W hD' hp h hK
    exact h.elim
end Go.Proofs.Ytdkohenilbkmkaa.UpW

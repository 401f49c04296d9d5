/- Joined: what the laws stand on. For every world. -/
import Derived.Test.YtnogmaljcocfjaaDoorPkE
import Derived.Test.YtnogmaljcocfjaaDoorPkC
import Derived.Test.YtnogmaljcocfjaaDoorXK2
import Derived.Test.YtnogmaljcocfjaaDoorXK3
import Derived.Test.YtnogmaljcocfjaaDoorXK0
import Derived.OpenShut
set_option linter.unusedVariables false
set_option linter.unusedSimpArgs false
set_option linter.unusedSectionVars false
namespace Go.Proofs.YtnogmaljcocfjaaDoor.DitMeth
open Go Go.Maps Go.RowKit Go.Shelf Go.Proofs.YtnogmaljcocfjaaDoor.RFun Go.Proofs.YtnogmaljcocfjaaDoor.RGen Go.Proofs.YtnogmaljcocfjaaDoor.XK Go.Proofs.YtnogmaljcocfjaaDoor.Blk Go.Proofs.YtnogmaljcocfjaaDoor.DitTab Go.Proofs.YtnogmaljcocfjaaDoor.DitRow Go.Proofs.YtnogmaljcocfjaaDoor.DitTerm Go.Proofs.YtnogmaljcocfjaaDoor.DitMap Go.Proofs.YtnogmaljcocfjaaDoor.DitCheck Go.Proofs.YtnogmaljcocfjaaDoor.DitCopy Go.Proofs.YtnogmaljcocfjaaDoor.DitPure Go.Proofs.YtnogmaljcocfjaaDoor.DitSort Go.Proofs.YtnogmaljcocfjaaDoor.DitBuild Go.Proofs.YtnogmaljcocfjaaDoor.Keys Go.Proofs.YtnogmaljcocfjaaDoorW.PrintWords Go.Proofs.YtnogmaljcocfjaaDoorW.PrintLast Go.Proofs.YtnogmaljcocfjaaDoorW.PrintMore
attribute [local go_sem] Oper.semAt_some
set_option maxRecDepth 100000 in
theorem und64 : ∃ a b c, Tryd.prog.underlying 64 = some (.func a b c) := ⟨_, _, _, rfl⟩
theorem run_func_nil (fn : Fn) (f c : Array Value) (w : World) : (binOp .eql 64 (.func fn f c) .nilFunc).run Tryd.prog w = .ok (.bool false) w := by
  obtain ⟨a, b, cc, hu⟩ := und64
  have h2 : ∀ d, (Op.equalIn (d + 1) 64 (.func fn f c) .nilFunc).run Tryd.prog w = .ok false w := fun d => by
    simp [Op.equalIn, run_underlying hu]
  have h3 : (Op.equal 64 (.func fn f c) .nilFunc).run Tryd.prog w = .ok false w := h2 9999
  simp [binOp, h3]
theorem upcall_as (w : World) (tb : Nat) (x : Int) : Calls Tryd.prog 38 #[TP tb, .int .i64 x] w fun e w' => e = .returned (.func (.func 55) #[] #[.pointer (some ⟨w.heap.size + 1, 0, none⟩), .pointer (some ⟨w.heap.size, 0, none⟩)]) ∧ w' = (w.alloc (.cells #[TP tb] 32)).alloc (.cells #[.int .i64 x] 3) := by
  go_enter Tryd.func38, Tryd.ntmps38
  go_wp2
  go_ret
  exact ⟨by simp, rfl⟩
theorem scopecall_as (w : World) (tb : Nat) (x s : Int) : Calls Tryd.prog 36 #[TP tb, .int .i64 x, .int .i64 s] w fun e w' => e = .returned (.func (.func 53) #[] #[.pointer (some ⟨w.heap.size, 0, none⟩), .pointer (some ⟨w.heap.size + 1, 0, none⟩), .pointer (some ⟨w.heap.size + 1 + 1, 0, none⟩)]) ∧ w' = ((w.alloc (.cells #[TP tb] 32)).alloc (.cells #[.int .i64 x] 3)).alloc (.cells #[.int .i64 s] 66) := by
  go_enter Tryd.func36, Tryd.ntmps36
  go_wp2
  go_ret
  exact ⟨by simp, rfl⟩
theorem own_low {W : World} {base base' : Nat} {e : TypeId} {size : Nat} {v : Value} {n : Nat} {xs : List Value} (h : W.ownsRow base e size v n xs) (hb : base' ≤ base) : W.ownsRow base' e size v n xs := by
  obtain ⟨h1, h2 | ⟨g, cap, cur, e1, e2, e3⟩⟩ := h
  · exact ⟨h1, .inl h2⟩
  · exact ⟨h1, .inr ⟨g, cap, cur, e1, Nat.le_trans hb e2, e3⟩⟩
/-- The first of a list; all, if stop is below 0. -/
def takeR (stop : Int) (l : List Int) : List Int := if 0 ≤ stop then l.take stop.toNat else l
theorem und23 : Tryd.prog.underlying 23 = some (.slice 3) := Tryd.underlying23
/-- An append to the list that box b holds: its row alone, and the box, have turned. -/
theorem app_keep {W w1 : World} {m₀ n₀ b m : Nat} {v v' : Value} {xs ys : List Value} {tmp : Obj} (hv : Boxed W b 23 v) (hrow : W.ownsRow n₀ 3 1 v m xs) (hown : w1.ownsRow n₀ 3 1 v' (m + 1) ys) (hg : (W.alloc tmp).grownBy w1 v.ownBlock) (hb : m₀ ≤ b) (hn : b < n₀) (hW : n₀ ≤ W.heap.size) :
    Boxed w1 b 23 v ∧ Boxed (w1.setCell ⟨b, 0, none⟩ v') b 23 v' ∧ (w1.setCell ⟨b, 0, none⟩ v').ownsRow n₀ 3 1 v' (m + 1) ys ∧ KeepsOthers W (w1.setCell ⟨b, 0, none⟩ v') ∧ KC m₀ n₀ b W (w1.setCell ⟨b, 0, none⟩ v') ∧ W.heap.size ≤ (w1.setCell ⟨b, 0, none⟩ v').heap.size ∧
    (∀ j, j < n₀ → j ≠ b → (w1.setCell ⟨b, 0, none⟩ v').heap[j]? = W.heap[j]?) := by
  have hv1 : Boxed w1 b 23 v := (hv.alloc tmp).kept hg (hv.not_row (by decide) hrow)
  have hz : (W.alloc tmp).heap.size = W.heap.size + 1 := World.size_alloc _ _
  have hzs : (w1.setCell ⟨b, 0, none⟩ v').heap.size = w1.heap.size := by simp [World.setCell]
  have hs := hg.size
  have hrowb : ∀ j, some j = v.ownBlock → n₀ ≤ j ∧ ∃ cs, W.heap[j]? = some (.cells cs 3 (0, 0)) := fun j e => by
    rcases hrow.2 with ⟨rfl, _⟩ | ⟨g, cap, cur, rfl, h3, h4, _⟩
    · simp [Value.ownBlock] at e
    · obtain rfl : j = g := by simpa [Value.ownBlock] using e
      exact ⟨h3, _, h4⟩
  have k1 : ∀ j, j < W.heap.size → j ≠ b → some j ≠ v.ownBlock → (w1.setCell ⟨b, 0, none⟩ v').heap[j]? = W.heap[j]? := fun j h1 h2 h3 => by
    rw [Below.heap_setCell _ _ _ _ h2, hg.block j (by omega) h3]
    exact Below.heap_alloc _ _ _ h1
  have k2 : ∀ j, j < n₀ → j ≠ b → (w1.setCell ⟨b, 0, none⟩ v').heap[j]? = W.heap[j]? := fun j h1 h2 => k1 j (by omega) h2 (fun e => by have := (hrowb j e).1; omega)
  refine ⟨hv1, hv1.set v', hown.kept (grownBy_setCell' w1 b v') (.inr (hv1.not_row (by decide) hown).symm), ⟨by omega, fun j o hj ho => ?_⟩, ⟨⟨hg.os, hg.tape, hg.output, by omega, fun j hj => k2 j (by omega) (by omega)⟩, fun j cs t f hj h2 h3 => ?_⟩, by omega, k2⟩
  · have hlt := (Array.getElem?_eq_some_iff.1 hj).1
    refine (k1 j hlt (fun e => ?_) (fun e => ?_)).trans hj
    · subst e; rw [show W.heap[j]? = _ from hv] at hj; cases hj; cases ho
    · obtain ⟨_, cs, h4⟩ := hrowb j e
      rw [h4] at hj; cases hj; cases ho
  · exact (k2 j h2 h3).trans hj
/-- Between two rounds: the list so far. -/
def TI (w : World) (n₀ : Nat) (stop : Int) (pre : List Int) (W : World) : Prop :=
  (∃ v, Boxed W (w.heap.size + 1) 23 v ∧ W.ownsRow n₀ 3 1 v pre.length (pre.map (Value.int .i64))) ∧ Boxed W w.heap.size 3 (.int .i64 stop) ∧ n₀ ≤ W.heap.size ∧ Below w.heap.size w W
theorem TI.app {w W w1 : World} {n₀ : Nat} {stop x : Int} {pre : List Int} {v v' : Value} {tmp : Obj} (hn : w.heap.size + 2 ≤ n₀) (hv : Boxed W (w.heap.size + 1) 23 v) (hrow : W.ownsRow n₀ 3 1 v pre.length (pre.map (Value.int .i64))) (hkb : Boxed W w.heap.size 3 (.int .i64 stop)) (hz : n₀ ≤ W.heap.size) (hB : Below w.heap.size w W)
    (hown : w1.ownsRow n₀ 3 1 v' (pre.length + 1) (pre.map (Value.int .i64) ++ [.int .i64 x])) (hg : (W.alloc tmp).grownBy w1 v.ownBlock) : KeepsFrom n₀ W (w1.setCell ⟨w.heap.size + 1, 0, none⟩ v') ∧ KC w.heap.size n₀ (w.heap.size + 1) W (w1.setCell ⟨w.heap.size + 1, 0, none⟩ v') ∧ TI w n₀ stop (pre ++ [x]) (w1.setCell ⟨w.heap.size + 1, 0, none⟩ v') := by
  obtain ⟨a1, a2, a3, a4, a5, a6, a7⟩ := app_keep (m₀ := w.heap.size) hv hrow hown hg (by omega) (by omega) hz
  refine ⟨a4.from _, a5, ⟨v', a2, ?_⟩, (a7 _ (by omega) (by omega)).trans hkb, Nat.le_trans hz a6, hB.trans a5.low⟩
  rw [List.length_append, List.map_append]
  exact a3
theorem TI.own (w : World) (n₀ : Nat) (stop : Int) (hn : w.heap.size + 2 ≤ n₀) : OwnFrom n₀ (TI w n₀ stop) := by
  intro s A B row hs hg hr
  obtain ⟨hv, hk, hz, hb⟩ := hs
  have hr' : ∀ r, row = some r → ∃ o : Obj, A.heap[r]? = some o ∧ o.isCells = false := fun r e => (hr r e).2
  refine ⟨?_, hk.kept hg (fun e => ?_), Nat.le_trans hz hg.size, hb.grown hg hb.size (fun j e => by have := (hr j e).1; omega)⟩
  · have := holdsRow_own n₀ (w.heap.size + 1) 23 3 1 (fun pre : List Int => pre.length) (fun pre => pre.map (Value.int .i64)) (fun _ _ => True) s A B row (by obtain ⟨v, h1, h2⟩ := hv; exact ⟨v, h1, h2, trivial⟩) hg hr'
    obtain ⟨v, h1, h2, _⟩ := this
    exact ⟨v, h1, h2⟩
  · have := (hr _ e.symm).1; omega
theorem TI.calm (w : World) (n₀ : Nat) (stop : Int) : Clos Calm (TI w n₀ stop) := by
  rintro s A B ⟨⟨v, h1, h2⟩, hk, hz, hb⟩ hp
  exact ⟨⟨v, box_on h1 hp, own_below h2 hp⟩, box_on hk hp, Nat.le_trans hz hp.size, hb.trans (hp.mono hb.size)⟩
/-- A list of its own. -/
def GotI (w : World) (l : List Int) (e : Ending) (w' : World) : Prop := ∃ v, e = .returned v ∧ w'.ownsRow w.heap.size 3 1 v l.length (l.map (Value.int .i64)) ∧ Below w.heap.size w w'
section
variable {es : List S45} {p : List Nat} {nn tb : Nat} {PI : Nat → Nat}
set_option maxRecDepth 100000 in
set_option maxHeartbeats 4000000 in
theorem upward_in (n : Nat) (hn : 6 ≤ n) (w : World) (hT : TreeAt es p nn PI tb w) (hnn : nn ≤ 1048576) (hpl : p.length = nn) (hS : TS (keyS es p)) (hP : Par (keyS es p) PI) (x stop : Int) (hlen : (upI nn PI x).length ≤ 1048576) :
    CallsIn Fence.wide n Tryd.prog 29 #[TP tb, .int .i64 x, .int .i64 stop] w (GotI w (takeR stop (upI nn PI x))) := by
  have h1 : 1 ≤ n := by omega
  obtain ⟨i0, hi, hz0, hz1, hz2⟩ := info_parts info3
  have hnil := fun a b c w => run_func_nil a b c w
  have HT := Lib.hid hT
  have HS := Lib.hid hS
  have HP := Lib.hid hP
  have HLEN := Lib.hid hlen
  clear hT hS hP hlen
  refine callsIn_of_wp_marks Tryd.func29 rfl trivial ?_ rfl
  simp only [Tryd.ntmps29, List.size_toArray, List.length_cons, List.length_nil, Nat.reduceAdd, Nat.reduceSub, Array.replicate_succ, Array.replicate_zero, List.push_toArray, List.append_toArray, List.nil_append, List.cons_append]
  by_cases hs0 : stop = 0
  · subst hs0
    gi_wp2
    refine ⟨_, results_tmp rfl _ _ _, .slice none 0 0, rfl, ?_, ?_⟩
    · have : takeR 0 (upI nn PI x) = [] := rfl
      rw [this]
      exact World.ownsRow_nil _ _ _ _
    · exact below_alloc (below_alloc (Below.refl _ _) _) _
  · gi_wp2_with (first
      | (refine ⟨trivial, ?_⟩; gi_at_call 38; refine (callsIn_wide.2 (upcall_as _ tb x)).mono ?_; rintro e W3 ⟨rfl, hW3⟩; subst hW3))
    obtain ⟨W3, hW3⟩ : ∃ W3, (((w.alloc (.cells #[.int .i64 stop] 3)).alloc (.cells #[.slice none 0 0] 23)).alloc (.cells #[TP tb] 32)).alloc (.cells #[.int .i64 x] 3) = W3 := ⟨_, rfl⟩
    rw [hW3]
    have hz1' : W3.heap.size = w.heap.size + 4 := by rw [← hW3]; simp only [World.size_alloc]
    have hB3 : Below w.heap.size w W3 := by rw [← hW3]; repeat (first | exact Below.refl _ _ | refine below_alloc ?_ _)
    have hbx : BxU tb (w.heap.size + 1 + 1 + 1) (w.heap.size + 1 + 1) x W3 := by
      rw [← hW3]
      refine ⟨?_, ?_⟩
      · have := Boxed.new (((w.alloc (.cells #[.int .i64 stop] 3)).alloc (.cells #[.slice none 0 0] 23)).alloc (.cells #[TP tb] 32)) 3 (.int .i64 x)
        simpa only [World.size_alloc] using this
      · have := Boxed.new ((w.alloc (.cells #[.int .i64 stop] 3)).alloc (.cells #[.slice none 0 0] 23)) 32 (TP tb)
        rw [World.size_alloc, World.size_alloc] at this
        exact this.alloc _
    have hI0 : TI w W3.heap.size stop [] W3 := by
      refine ⟨⟨.slice none 0 0, ?_, World.ownsRow_nil _ _ _ _⟩, ?_, Nat.le_refl _, hB3⟩
      · have b0 := Boxed.new (w.alloc (.cells #[.int .i64 stop] 3)) 23 (.slice none 0 0)
        rw [World.size_alloc] at b0
        rw [← hW3]
        repeat (first | exact b0 | refine Boxed.alloc ?_ _)
      · have b0 := Boxed.new w 3 (.int .i64 stop)
        rw [← hW3]
        repeat (first | exact b0 | refine Boxed.alloc ?_ _)
    have hw5 : w.heap.size + 2 ≤ W3.heap.size := by omega
    have HI := Lib.hid hI0
    clear hW3 hI0
    refine rf_lawG (F := Fence.wide) rfl h1 (gf := 55) (lb := #[.pointer (some ⟨w.heap.size + 1 + 1 + 1, 0, none⟩), .pointer (some ⟨w.heap.size + 1 + 1, 0, none⟩)]) rfl trivial (enters_of Tryd.func55 (by kernel_rfl) rfl)
      (up_seq 2 (n - 1) (by omega) W3 (w.heap.size + 1 + 1 + 1) (w.heap.size + 1 + 1) (w.heap.size + 1) x HT.out HS.out HP.out (by rw [keyS_len]; exact hpl) hB3 hbx (by omega) (by omega)) (fun _ _ _ _ _ _ _ h => h)
      (fun A B k o hr _ h2 _ => (hr.block k (Array.getElem?_eq_some_iff.1 h2).1).trans h2) KC.trans (fun W o o' h2 h3 => KC.putObj W _ o o' (by omega) h2 h3) (fun _ => rfl)
      (fun pre W => TI w W3.heap.size stop pre W ∧ (0 ≤ stop → (pre.length : Int) < stop)) (fun c pre W => c = .exit 0 ∧ TI w W3.heap.size stop pre W ∧ (pre.length : Int) = stop)
      (fun s A B row h => fun hg hr => ⟨TI.own w _ stop hw5 s A B row h.1 hg hr, h.2⟩) (fun s A B h k => ⟨TI.calm w _ stop s A B h.1 k, h.2⟩)
      (fun c s A B row h => fun hg hr => ⟨h.1, TI.own w _ stop hw5 s A B row h.2.1 hg hr, h.2.2⟩) (fun c s A B h k => ⟨h.1, TI.calm w _ stop s A B h.2.1 k, h.2.2⟩) ⟨HI.out, fun h => by show (0 : Int) < stop; omega⟩
      (fun y => { tmps := #[TP tb, .int .i64 x, .int .i64 stop, undef, undef, .pointer (some ⟨w.heap.size, 0, none⟩), .slice none 0 0, .pointer (some ⟨w.heap.size + 1, 0, none⟩), .func (.func 55) #[] #[.pointer (some ⟨w.heap.size + 1 + 1 + 1, 0, none⟩), .pointer (some ⟨w.heap.size + 1 + 1, 0, none⟩)], .int .i64 y, .int .i64 stop, .bool false, undef, TP tb, .int .i64 x, .func (.func 55) #[] #[.pointer (some ⟨w.heap.size + 1 + 1 + 1, 0, none⟩), .pointer (some ⟨w.heap.size + 1 + 1, 0, none⟩)], .func (.func 55) #[] #[.pointer (some ⟨w.heap.size + 1 + 1 + 1, 0, none⟩), .pointer (some ⟨w.heap.size + 1 + 1, 0, none⟩)], .bool false, undef, .func (.func 55) #[] #[.pointer (some ⟨w.heap.size + 1 + 1 + 1, 0, none⟩), .pointer (some ⟨w.heap.size + 1 + 1, 0, none⟩)], .int .i64 y, undef, undef, undef, undef, undef, undef, undef, undef, undef], defers := [] }) ?assign ?body ?done ?stop
    case assign =>
      intro l y W K hK
      gi_wp2
      exact hK
    case body =>
      rintro l pre y W _ _ ⟨⟨⟨v, hv, hrow⟩, hkb, hzW, hB⟩, hst⟩ hlt _
      have hc := hv.cell
      have hck := hkb.cell
      have hpl2 : pre.length < 1048576 := Nat.lt_of_lt_of_le hlt HLEN.out
      have hml : pre.length + 1 ≤ maxLen := by simp only [maxLen]; omega
      have HST := Lib.hid hst
      clear hst hlt
      by_cases hkx : (pre.length : Int) + 1 = stop
      · have hkx' : ((pre.length : Int) + 1 == stop) = true := by simpa using hkx
        have HKX := Lib.hid hkx
        clear hkx
        gi_wp2_with (gi_at_builtin; (refine wpListIn_append_own _ rfl _ _ 23 rfl W3.heap.size 3 i0 (.int .i64 0) 1 8 Tryd.underlying23 hi hz0 hz1 hz2 rfl (by decide) _ _ _ rfl (hrow.alloc _) ⟨W.heap.size, 0, none⟩ 1 1 [.int .i64 y] rfl rfl (cell_one_new _ _ _) (by simp [Value.oneCell']) (by omega) (by omega) (by simp; omega) ?_; intro v' w1 hown' hgrow _; obtain ⟨g', cap', rfl⟩ := ownsRow_succ hown'; have hap := Lib.hid (TI.app (x := y) hw5 hv hrow hkb hzW hB hown' hgrow); have hc1 := (app_keep (m₀ := w.heap.size) hv hrow hown' hgrow (by omega) (by omega) hzW).1.cell; have hf1 := (app_keep (m₀ := w.heap.size) hv hrow hown' hgrow (by omega) (by omega) hzW).1.frozen; have hc2 := (app_keep (m₀ := w.heap.size) hv hrow hown' hgrow (by omega) (by omega) hzW).2.1.cell; have hk2 := hap.out.2.2.2.1.cell))
        exact ⟨hap.out.1, rfl, hap.out.2.2, by rw [List.length_append, List.length_singleton]; have := HKX.out; omega⟩
      · have hkx' : ((pre.length : Int) + 1 == stop) = false := by simpa using hkx
        have HKX := Lib.hid hkx
        clear hkx
        gi_wp2_with (gi_at_builtin; (refine wpListIn_append_own _ rfl _ _ 23 rfl W3.heap.size 3 i0 (.int .i64 0) 1 8 Tryd.underlying23 hi hz0 hz1 hz2 rfl (by decide) _ _ _ rfl (hrow.alloc _) ⟨W.heap.size, 0, none⟩ 1 1 [.int .i64 y] rfl rfl (cell_one_new _ _ _) (by simp [Value.oneCell']) (by omega) (by omega) (by simp; omega) ?_; intro v' w1 hown' hgrow _; obtain ⟨g', cap', rfl⟩ := ownsRow_succ hown'; have hap := Lib.hid (TI.app (x := y) hw5 hv hrow hkb hzW hB hown' hgrow); have hc1 := (app_keep (m₀ := w.heap.size) hv hrow hown' hgrow (by omega) (by omega) hzW).1.cell; have hf1 := (app_keep (m₀ := w.heap.size) hv hrow hown' hgrow (by omega) (by omega) hzW).1.frozen; have hc2 := (app_keep (m₀ := w.heap.size) hv hrow hown' hgrow (by omega) (by omega) hzW).2.1.cell; have hk2 := hap.out.2.2.2.1.cell))
        exact ⟨hap.out.1, hap.out.2.1, hap.out.2.2, fun h => by rw [List.length_append, List.length_singleton]; have := HKX.out; have := HST.out h; omega⟩
    case done =>
      rintro D ys W hD hys ⟨⟨⟨v, hv, hrow⟩, hkb, hzW, hB⟩, hst⟩ hK
      have hc := hv.cell
      have HYS := Lib.hid hys
      have HST := Lib.hid hst
      clear hys hst
      gi_wp2
      refine ⟨by simp, .inl ⟨_, _, rfl, run_takeDeferred hK, ?_⟩⟩
      refine ⟨_, results_tmp rfl _ _ _, v, rfl, ?_, ?_⟩
      · have e : takeR stop (upI nn PI x) = ys := by
          rw [← HYS.out]
          unfold takeR
          split
          · rename_i h0
            have := HST.out h0
            exact List.take_of_length_le (by omega)
          · rfl
        rw [e]
        exact own_low (ownsRow_putObj hrow (.deferred none) hK rfl) (by omega)
      · exact hB.trans ⟨rfl, rfl, rfl, by simp, fun j hj => World.putObj_heap_other (by omega)⟩
    case stop =>
      rintro D c pre W hD hpre ⟨rfl, ⟨⟨v, hv, hrow⟩, hkb, hzW, hB⟩, hst⟩ hK
      have hc := hv.cell
      have HYS := Lib.hid hpre
      have HST := Lib.hid hst
      clear hpre hst
      gi_wp2
      refine ⟨by simp, .inl ⟨_, _, rfl, run_takeDeferred hK, ?_⟩⟩
      refine ⟨_, results_tmp rfl _ _ _, v, rfl, ?_, ?_⟩
      · have e : takeR stop (upI nn PI x) = pre := by
          have h1 := HST.out
          unfold takeR
          rw [if_pos (by omega), ← h1, Int.toNat_natCast]
          exact (List.prefix_iff_eq_take.1 HYS.out).symm
        rw [e]
        exact own_low (ownsRow_putObj hrow (.deferred none) hK rfl) (by omega)
      · exact hB.trans ⟨rfl, rfl, rfl, by simp, fun j hj => World.putObj_heap_other (by omega)⟩
set_option maxRecDepth 100000 in
set_option maxHeartbeats 4000000 in
theorem scoped_in (n : Nat) (hn : 6 ≤ n) (w : World) (hT : TreeAt es p nn PI tb w) (hnn : nn ≤ 1048576) (hpl : p.length = nn) (hS : TS (keyS es p)) (hP : Par (keyS es p) PI) (x s stop : Int) (hlen : (scopeI es p nn PI x s).length ≤ 1048576) :
    CallsIn Fence.wide n Tryd.prog 34 #[TP tb, .int .i64 x, .int .i64 s, .int .i64 stop] w (GotI w (takeR stop (scopeI es p nn PI x s))) := by
  have h1 : 1 ≤ n := by omega
  obtain ⟨i0, hi, hz0, hz1, hz2⟩ := info_parts info3
  have hnil := fun a b c w => run_func_nil a b c w
  have HT := Lib.hid hT
  have HS := Lib.hid hS
  have HP := Lib.hid hP
  have HLEN := Lib.hid hlen
  clear hT hS hP hlen
  refine callsIn_of_wp_marks Tryd.func34 rfl trivial ?_ rfl
  simp only [Tryd.ntmps34, List.size_toArray, List.length_cons, List.length_nil, Nat.reduceAdd, Nat.reduceSub, Array.replicate_succ, Array.replicate_zero, List.push_toArray, List.append_toArray, List.nil_append, List.cons_append]
  by_cases hs0 : stop = 0
  · subst hs0
    gi_wp2
    refine ⟨_, results_tmp rfl _ _ _, .slice none 0 0, rfl, ?_, ?_⟩
    · have : takeR 0 (scopeI es p nn PI x s) = [] := rfl
      rw [this]
      exact World.ownsRow_nil _ _ _ _
    · exact below_alloc (below_alloc (Below.refl _ _) _) _
  · gi_wp2_with (first
      | (refine ⟨trivial, ?_⟩; gi_at_call 36; refine (callsIn_wide.2 (scopecall_as _ tb x s)).mono ?_; rintro e W3 ⟨rfl, hW3⟩; subst hW3))
    obtain ⟨W3, hW3⟩ : ∃ W3, ((((w.alloc (.cells #[.int .i64 stop] 3)).alloc (.cells #[.slice none 0 0] 23)).alloc (.cells #[TP tb] 32)).alloc (.cells #[.int .i64 x] 3)).alloc (.cells #[.int .i64 s] 66) = W3 := ⟨_, rfl⟩
    rw [hW3]
    have hz1' : W3.heap.size = w.heap.size + 5 := by rw [← hW3]; simp only [World.size_alloc]
    have hB3 : Below w.heap.size w W3 := by rw [← hW3]; repeat (first | exact Below.refl _ _ | refine below_alloc ?_ _)
    have hbx : BxS tb (w.heap.size + 1 + 1) (w.heap.size + 1 + 1 + 1) (w.heap.size + 1 + 1 + 1 + 1) x s W3 := by
      rw [← hW3]
      refine ⟨?_, ?_, ?_⟩
      · have := Boxed.new ((w.alloc (.cells #[.int .i64 stop] 3)).alloc (.cells #[.slice none 0 0] 23)) 32 (TP tb)
        rw [World.size_alloc, World.size_alloc] at this
        exact (this.alloc _).alloc _
      · have := Boxed.new (((w.alloc (.cells #[.int .i64 stop] 3)).alloc (.cells #[.slice none 0 0] 23)).alloc (.cells #[TP tb] 32)) 3 (.int .i64 x)
        simp only [World.size_alloc] at this
        exact this.alloc _
      · have := Boxed.new ((((w.alloc (.cells #[.int .i64 stop] 3)).alloc (.cells #[.slice none 0 0] 23)).alloc (.cells #[TP tb] 32)).alloc (.cells #[.int .i64 x] 3)) 66 (.int .i64 s)
        simpa only [World.size_alloc] using this
    have hI0 : TI w W3.heap.size stop [] W3 := by
      refine ⟨⟨.slice none 0 0, ?_, World.ownsRow_nil _ _ _ _⟩, ?_, Nat.le_refl _, hB3⟩
      · have b0 := Boxed.new (w.alloc (.cells #[.int .i64 stop] 3)) 23 (.slice none 0 0)
        rw [World.size_alloc] at b0
        rw [← hW3]
        repeat (first | exact b0 | refine Boxed.alloc ?_ _)
      · have b0 := Boxed.new w 3 (.int .i64 stop)
        rw [← hW3]
        repeat (first | exact b0 | refine Boxed.alloc ?_ _)
    have hw5 : w.heap.size + 2 ≤ W3.heap.size := by omega
    have HI := Lib.hid hI0
    clear hW3 hI0
    refine rf_lawG (F := Fence.wide) rfl h1 (gf := 53) (lb := #[.pointer (some ⟨w.heap.size + 1 + 1, 0, none⟩), .pointer (some ⟨w.heap.size + 1 + 1 + 1, 0, none⟩), .pointer (some ⟨w.heap.size + 1 + 1 + 1 + 1, 0, none⟩)]) rfl trivial (enters_of Tryd.func53 (by kernel_rfl) rfl)
      (scope_seq 2 (n - 1) (by omega) W3 (w.heap.size + 1 + 1) (w.heap.size + 1 + 1 + 1) (w.heap.size + 1 + 1 + 1 + 1) (w.heap.size + 1) x s HT.out hnn hpl hB3 hbx (by omega) (by omega) (by omega)) (fun _ _ _ _ _ _ _ h => h)
      (fun A B k o hr _ h2 _ => (hr.block k (Array.getElem?_eq_some_iff.1 h2).1).trans h2) KC.trans (fun W o o' h2 h3 => KC.putObj W _ o o' (by omega) h2 h3) (fun _ => rfl)
      (fun pre W => TI w W3.heap.size stop pre W ∧ (0 ≤ stop → (pre.length : Int) < stop)) (fun c pre W => c = .exit 0 ∧ TI w W3.heap.size stop pre W ∧ (pre.length : Int) = stop)
      (fun s A B row h => fun hg hr => ⟨TI.own w _ stop hw5 s A B row h.1 hg hr, h.2⟩) (fun s A B h k => ⟨TI.calm w _ stop s A B h.1 k, h.2⟩)
      (fun c s A B row h => fun hg hr => ⟨h.1, TI.own w _ stop hw5 s A B row h.2.1 hg hr, h.2.2⟩) (fun c s A B h k => ⟨h.1, TI.calm w _ stop s A B h.2.1 k, h.2.2⟩) ⟨HI.out, fun h => by show (0 : Int) < stop; omega⟩
      (fun y => { tmps := #[TP tb, .int .i64 x, .int .i64 s, .int .i64 stop, undef, undef, undef, .pointer (some ⟨w.heap.size, 0, none⟩), .slice none 0 0, .pointer (some ⟨w.heap.size + 1, 0, none⟩), .func (.func 53) #[] #[.pointer (some ⟨w.heap.size + 1 + 1, 0, none⟩), .pointer (some ⟨w.heap.size + 1 + 1 + 1, 0, none⟩), .pointer (some ⟨w.heap.size + 1 + 1 + 1 + 1, 0, none⟩)], .int .i64 y, .int .i64 stop, .bool false, undef, TP tb, .int .i64 x, .int .i64 s, .func (.func 53) #[] #[.pointer (some ⟨w.heap.size + 1 + 1, 0, none⟩), .pointer (some ⟨w.heap.size + 1 + 1 + 1, 0, none⟩), .pointer (some ⟨w.heap.size + 1 + 1 + 1 + 1, 0, none⟩)], .func (.func 53) #[] #[.pointer (some ⟨w.heap.size + 1 + 1, 0, none⟩), .pointer (some ⟨w.heap.size + 1 + 1 + 1, 0, none⟩), .pointer (some ⟨w.heap.size + 1 + 1 + 1 + 1, 0, none⟩)], .bool false, undef, .func (.func 53) #[] #[.pointer (some ⟨w.heap.size + 1 + 1, 0, none⟩), .pointer (some ⟨w.heap.size + 1 + 1 + 1, 0, none⟩), .pointer (some ⟨w.heap.size + 1 + 1 + 1 + 1, 0, none⟩)], .int .i64 y, undef, undef, undef, undef, undef, undef, undef, undef, undef], defers := [] }) ?assign ?body ?done ?stop
    case assign =>
      intro l y W K hK
      gi_wp2
      exact hK
    case body =>
      rintro l pre y W _ _ ⟨⟨⟨v, hv, hrow⟩, hkb, hzW, hB⟩, hst⟩ hlt _
      have hc := hv.cell
      have hck := hkb.cell
      have hpl2 : pre.length < 1048576 := Nat.lt_of_lt_of_le hlt HLEN.out
      have hml : pre.length + 1 ≤ maxLen := by simp only [maxLen]; omega
      have HST := Lib.hid hst
      clear hst hlt
      by_cases hkx : (pre.length : Int) + 1 = stop
      · have hkx' : ((pre.length : Int) + 1 == stop) = true := by simpa using hkx
        have HKX := Lib.hid hkx
        clear hkx
        gi_wp2_with (gi_at_builtin; (refine wpListIn_append_own _ rfl _ _ 23 rfl W3.heap.size 3 i0 (.int .i64 0) 1 8 Tryd.underlying23 hi hz0 hz1 hz2 rfl (by decide) _ _ _ rfl (hrow.alloc _) ⟨W.heap.size, 0, none⟩ 1 1 [.int .i64 y] rfl rfl (cell_one_new _ _ _) (by simp [Value.oneCell']) (by omega) (by omega) (by simp; omega) ?_; intro v' w1 hown' hgrow _; obtain ⟨g', cap', rfl⟩ := ownsRow_succ hown'; have hap := Lib.hid (TI.app (x := y) hw5 hv hrow hkb hzW hB hown' hgrow); have hc1 := (app_keep (m₀ := w.heap.size) hv hrow hown' hgrow (by omega) (by omega) hzW).1.cell; have hf1 := (app_keep (m₀ := w.heap.size) hv hrow hown' hgrow (by omega) (by omega) hzW).1.frozen; have hc2 := (app_keep (m₀ := w.heap.size) hv hrow hown' hgrow (by omega) (by omega) hzW).2.1.cell; have hk2 := hap.out.2.2.2.1.cell))
        exact ⟨hap.out.1, rfl, hap.out.2.2, by rw [List.length_append, List.length_singleton]; have := HKX.out; omega⟩
      · have hkx' : ((pre.length : Int) + 1 == stop) = false := by simpa using hkx
        have HKX := Lib.hid hkx
        clear hkx
        gi_wp2_with (gi_at_builtin; (refine wpListIn_append_own _ rfl _ _ 23 rfl W3.heap.size 3 i0 (.int .i64 0) 1 8 Tryd.underlying23 hi hz0 hz1 hz2 rfl (by decide) _ _ _ rfl (hrow.alloc _) ⟨W.heap.size, 0, none⟩ 1 1 [.int .i64 y] rfl rfl (cell_one_new _ _ _) (by simp [Value.oneCell']) (by omega) (by omega) (by simp; omega) ?_; intro v' w1 hown' hgrow _; obtain ⟨g', cap', rfl⟩ := ownsRow_succ hown'; have hap := Lib.hid (TI.app (x := y) hw5 hv hrow hkb hzW hB hown' hgrow); have hc1 := (app_keep (m₀ := w.heap.size) hv hrow hown' hgrow (by omega) (by omega) hzW).1.cell; have hf1 := (app_keep (m₀ := w.heap.size) hv hrow hown' hgrow (by omega) (by omega) hzW).1.frozen; have hc2 := (app_keep (m₀ := w.heap.size) hv hrow hown' hgrow (by omega) (by omega) hzW).2.1.cell; have hk2 := hap.out.2.2.2.1.cell))
        exact ⟨hap.out.1, hap.out.2.1, hap.out.2.2, fun h => by rw [List.length_append, List.length_singleton]; have := HKX.out; have := HST.out h; omega⟩
    case done =>
      rintro D ys W hD hys ⟨⟨⟨v, hv, hrow⟩, hkb, hzW, hB⟩, hst⟩ hK
      have hc := hv.cell
      have HYS := Lib.hid hys
      have HST := Lib.hid hst
      clear hys hst
      gi_wp2
      refine ⟨by simp, .inl ⟨_, _, rfl, run_takeDeferred hK, ?_⟩⟩
      refine ⟨_, results_tmp rfl _ _ _, v, rfl, ?_, ?_⟩
      · have e : takeR stop (scopeI es p nn PI x s) = ys := by
          rw [← HYS.out]
          unfold takeR
          split
          · rename_i h0
            have := HST.out h0
            exact List.take_of_length_le (by omega)
          · rfl
        rw [e]
        exact own_low (ownsRow_putObj hrow (.deferred none) hK rfl) (by omega)
      · exact hB.trans ⟨rfl, rfl, rfl, by simp, fun j hj => World.putObj_heap_other (by omega)⟩
    case stop =>
      rintro D c pre W hD hpre ⟨rfl, ⟨⟨v, hv, hrow⟩, hkb, hzW, hB⟩, hst⟩ hK
      have hc := hv.cell
      have HYS := Lib.hid hpre
      have HST := Lib.hid hst
      clear hpre hst
      gi_wp2
      refine ⟨by simp, .inl ⟨_, _, rfl, run_takeDeferred hK, ?_⟩⟩
      refine ⟨_, results_tmp rfl _ _ _, v, rfl, ?_, ?_⟩
      · have e : takeR stop (scopeI es p nn PI x s) = pre := by
          have h1 := HST.out
          unfold takeR
          rw [if_pos (by omega), ← h1, Int.toNat_natCast]
          exact (List.prefix_iff_eq_take.1 HYS.out).symm
        rw [e]
        exact own_low (ownsRow_putObj hrow (.deferred none) hK rfl) (by omega)
      · exact hB.trans ⟨rfl, rfl, rfl, by simp, fun j hj => World.putObj_heap_other (by omega)⟩
end
end Go.Proofs.YtnogmaljcocfjaaDoor.DitMeth
namespace Go.Proofs.YtnogmaljcocfjaaDoor.DitEv
open Go.RowKit Go.Proofs.YtnogmaljcocfjaaDoor.XK Go.Proofs.YtnogmaljcocfjaaDoor.XE Go.Proofs.YtnogmaljcocfjaaDoor.XV Go.Proofs.YtnogmaljcocfjaaDoor.Keys Go.Proofs.YtnogmaljcocfjaaDoorW.PrintWords Go.Proofs.YtnogmaljcocfjaaDoorW.PrintLast Go.Proofs.YtnogmaljcocfjaaDoorW.PrintMore
theorem wrp_nat {i : Nat} (h : i < 4611686018427387904) : wrap64 ((i : Int) + 1) = ((i + 1 : Nat) : Int) := by rw [wrp_id _ (by omega) (by omega)]; rfl
theorem texts_ev (x y : List ByteArray) (hx : x.length ≤ 2097152) : Ev (fun k => rosterlaw09_sameTexts.f k x y) (decide (x = y)) := by
  have h := same_ev x y hx
  have e : decide (kl x = kl y) = decide (x = y) := by
    by_cases h : x = y
    · subst h; simp
    · rw [decide_eq_false h, decide_eq_false (fun e => h (kl_inj e))]
  rwa [e] at h
theorem texts_true (x : List ByteArray) (hx : x.length ≤ 2097152) : Ev (fun k => rosterlaw09_sameTexts.f k x x) true := by
  have := texts_ev x x hx
  simpa using this
theorem ints_loop (x : List Int) (hx : x.length ≤ 4611686018427387) (d : Nat) : ∀ i : Nat, i + d = x.length → Ev (fun k => rosterlaw09_sameInts.l0 k x x (i : Int)) true := by
  induction d with
  | zero =>
    intro i hi
    refine ev_round ?_
    simp only [rosterlaw09_sameInts.l0]
    exact ev_neg (by omega) (ev_eq rfl)
  | succ d ih =>
    intro i hi
    refine ev_round ?_
    simp only [rosterlaw09_sameInts.l0]
    refine ev_pos (by omega) (ev_pos (by omega) (ev_pos (by omega) (ev_pos trivial ?_)))
    rw [wrp_nat (by omega)]
    exact ih (i + 1) (by omega)
theorem ints_true (x : List Int) (hx : x.length ≤ 4611686018427387) : Ev (fun k => rosterlaw09_sameInts.f k x x) true := by
  unfold rosterlaw09_sameInts.f
  exact ev_pos rfl (ints_loop x hx x.length 0 (by omega))
theorem ahead_loop (x y : List ByteArray) (hx : x.length ≤ 2097152) (d : Nat) : ∀ i : Nat, i + d = x.length → i ≤ y.length → cmpK ((kl x).drop i) ((kl y).drop i) < 0 → Ev (fun k => rosterlaw09_ahead.l0 k x y (i : Int)) true := by
  induction d with
  | zero =>
    intro i hi hy hc
    obtain rfl : i = x.length := by omega
    refine ev_round ?_
    simp only [rosterlaw09_ahead.l0]
    refine ev_neg (by omega) ?_
    refine ev_round ?_
    simp only [rosterlaw09_ahead.j1]
    refine ev_neg (by simp) (ev_eq ?_)
    rw [List.drop_of_length_le (by rw [kl_length]; omega)] at hc
    by_cases h : x.length < y.length
    · simp [h]
    · rw [List.drop_of_length_le (by rw [kl_length]; omega)] at hc
      exact absurd hc (by decide)
  | succ d ih =>
    intro i hi hy hc
    refine ev_round ?_
    simp only [rosterlaw09_ahead.l0]
    refine ev_pos (by omega) ?_
    rw [kl_at x i (by omega)] at hc
    by_cases h : i < y.length
    · rw [kl_at y i h] at hc
      refine ev_round ?_
      simp only [rosterlaw09_ahead.j1]
      refine ev_pos (by simp; omega) (ev_pos (by omega) (ev_pos (by omega) (ev_pos (by omega) ?_)))
      simp only [cmpK, beq_iff_eq] at hc
      by_cases h1 : Op.bytesLess (rdOf ByteArray.empty x (i : Int)).toList (rdOf ByteArray.empty y (i : Int)).toList = true
      · by_cases h2 : (rdOf ByteArray.empty x (i : Int)).toList = (rdOf ByteArray.empty y (i : Int)).toList
        · rw [if_pos h1] at hc
          refine ev_pos h2 ?_
          rw [h2] at h1
          have := Keys.less_irrefl (rdOf ByteArray.empty y (i : Int)).toList
          rw [this] at h1
          cases h1
        · refine ev_neg h2 (ev_eq ?_)
          exact h1
      · rw [if_neg h1] at hc
        by_cases h2 : (rdOf ByteArray.empty x (i : Int)).toList = (rdOf ByteArray.empty y (i : Int)).toList
        · rw [if_pos h2] at hc
          refine ev_pos h2 ?_
          rw [wrp_nat (by omega)]
          exact ih (i + 1) (by omega) (by omega) hc
        · rw [if_neg h2] at hc
          omega
    · rw [List.drop_of_length_le (show (kl y).length ≤ i by rw [kl_length]; omega)] at hc
      exact absurd hc (by simp [cmpK])
theorem ahead_true (x y : List ByteArray) (hx : x.length ≤ 2097152) (h : cmpK (kl x) (kl y) < 0) : Ev (fun k => rosterlaw09_ahead.f k x y) true := by
  unfold rosterlaw09_ahead.f
  exact ahead_loop x y hx x.length 0 (by omega) (by omega) (by simpa using h)
theorem front_ev (x y : List ByteArray) (hx : x.length ≤ 2097152) : Ev (fun k => rosterlaw09_front.f k x y) (decide (x <+: y)) := by
  unfold rosterlaw09_front.f
  by_cases h : x.length ≤ y.length
  · refine ev_pos (by omega) (ev_pos (by omega) (ev_bindsome ?_))
    have := texts_ev x (y.take x.length) hx
    rw [Int.toNat_natCast]
    have e : decide (x = y.take x.length) = decide (x <+: y) := by
      by_cases hf : x <+: y
      · rw [decide_eq_true hf, decide_eq_true (List.prefix_iff_eq_take.1 hf)]
      · rw [decide_eq_false hf, decide_eq_false (fun e => hf (List.prefix_iff_eq_take.2 e))]
    rwa [e] at this
  · refine ev_neg (by omega) (ev_eq ?_)
    rw [decide_eq_false (fun hf => h hf.length_le)]
def amongR (l : List S45) (key : List ByteArray) : Int := match l.findIdx? (fun e => decide (e.f2 = key)) with | some i => (i : Int) | none => -1
theorem among_loop (l : List S45) (key : List ByteArray) (hk : key.length ≤ 2097152) (hl : l.length ≤ 2097152) (hx : ∀ e ∈ l, e.f2.length ≤ 2097152) (d : Nat) : ∀ i : Nat, i + d = l.length → (∀ j, j < i → (l.getD j z45).f2 ≠ key) → Ev (fun k => rosterlaw09_among.l0 k l key (i : Int)) (amongR l key) := by
  induction d with
  | zero =>
    intro i hi hn
    refine ev_round ?_
    simp only [rosterlaw09_among.l0]
    refine ev_neg (by omega) (ev_eq ?_)
    unfold amongR
    have : l.findIdx? (fun e => decide (e.f2 = key)) = none := by
      rw [List.findIdx?_eq_none_iff]
      intro e he
      obtain ⟨j, hj, e2⟩ := List.mem_iff_getElem.1 he
      have := hn j (by omega)
      rw [List.getD_eq_getElem?_getD, List.getElem?_eq_getElem hj] at this
      simp only [Option.getD_some, e2] at this
      exact decide_eq_false this
    rw [this]
  | succ d ih =>
    intro i hi hn
    refine ev_round ?_
    simp only [rosterlaw09_among.l0]
    refine ev_pos (by omega) (ev_pos (by omega) ?_)
    have hil : i < l.length := by omega
    have hrd : rd_T45 l (i : Int) = l[i] := by simp [rd_T45, List.getD_eq_getElem?_getD, List.getElem?_eq_getElem hil]
    rw [hrd]
    refine Ev.bind (texts_ev _ key (hx _ (List.getElem_mem hil))) ?_
    by_cases h : l[i].f2 = key
    · refine ev_pos (by simpa using h) (ev_eq ?_)
      unfold amongR
      have : l.findIdx? (fun e => decide (e.f2 = key)) = some i := by
        rw [List.findIdx?_eq_some_iff_getElem]
        refine ⟨hil, by simpa using h, fun j hj => ?_⟩
        have := hn j hj
        rw [List.getD_eq_getElem?_getD, List.getElem?_eq_getElem (by omega)] at this
        simpa using this
      rw [this]
    · refine ev_neg (by simpa using h) ?_
      rw [wrp_nat (by omega)]
      refine ih (i + 1) (by omega) (fun j hj => ?_)
      by_cases e : j = i
      · subst e
        rw [List.getD_eq_getElem?_getD, List.getElem?_eq_getElem hil]
        exact h
      · exact hn j (by omega)
theorem among_ev (l : List S45) (key : List ByteArray) (hk : key.length ≤ 2097152) (hl : l.length ≤ 2097152) (hx : ∀ e ∈ l, e.f2.length ≤ 2097152) : Ev (fun k => rosterlaw09_among.f k l key) (amongR l key) := by
  unfold rosterlaw09_among.f
  exact among_loop l key hk hl hx l.length 0 (by omega) (fun j hj => by omega)
theorem among_neg {l : List S45} {key : List ByteArray} : amongR l key < 0 ↔ key ∉ l.map S45.f2 := by
  unfold amongR
  cases h : l.findIdx? (fun e => decide (e.f2 = key)) with
  | none =>
    rw [List.findIdx?_eq_none_iff] at h
    refine ⟨fun _ hm => ?_, fun _ => by decide⟩
    obtain ⟨e, he, e2⟩ := List.mem_map.1 hm
    have := h e he
    simp [e2] at this
  | some i =>
    rw [List.findIdx?_eq_some_iff_getElem] at h
    obtain ⟨hi, h1, _⟩ := h
    refine ⟨fun h => by have h : (i : Int) < 0 := h; omega, fun h => ?_⟩
    exact absurd (List.mem_map.2 ⟨l[i], List.getElem_mem hi, by simpa using h1⟩) h
theorem among_some {l : List S45} {key : List ByteArray} (hnd : (l.map S45.f2).Nodup) {i : Nat} (hi : i < l.length) (he : (l.getD i z45).f2 = key) : amongR l key = (i : Int) := by
  unfold amongR
  have : l.findIdx? (fun e => decide (e.f2 = key)) = some i := by
    rw [List.findIdx?_eq_some_iff_getElem]
    rw [List.getD_eq_getElem?_getD, List.getElem?_eq_getElem hi] at he
    refine ⟨hi, by simpa using he, fun j hj => ?_⟩
    simp only [decide_eq_true_eq]
    intro e
    have h1 := List.pairwise_iff_getElem.1 hnd j i (by simpa using (by omega : j < l.length)) (by simpa using hi) hj
    rw [List.getElem_map, List.getElem_map] at h1
    exact h1 (by rw [e]; exact he.symm)
  rw [this]
theorem longer_f (k : List ByteArray) (p : ByteArray) (h : k.length < 8796093022208) : rosterlaw09_longer.f k p = some (k ++ [p]) := by
  unfold rosterlaw09_longer.f
  simp [h]
theorem attrs_loop (f0 : Int) (f1 : ByteArray) (f2 : List ByteArray) (at_ : List S74) (ha : at_.length ≤ 1048576) (hv : ∀ a ∈ at_, a.f2.length ≤ 1048576) (d : Nat) : ∀ i : Nat, i + d = at_.length → Ev (fun k => rosterlaw09_sameEntry.l0 k (i : Int) f0 f1 f2 at_ f0 f1 f2 at_) true := by
  induction d with
  | zero =>
    intro i hi
    refine ev_round ?_
    simp only [rosterlaw09_sameEntry.l0]
    exact ev_neg (by omega) (ev_eq rfl)
  | succ d ih =>
    intro i hi
    refine ev_round ?_
    simp only [rosterlaw09_sameEntry.l0]
    have hil : i < at_.length := by omega
    have hrd : rd_T74 at_ (i : Int) = at_[i] := by simp [rd_T74, List.getD_eq_getElem?_getD, List.getElem?_eq_getElem hil]
    refine ev_pos (by omega) (ev_pos (by omega) (ev_pos (by omega) (ev_pos trivial (ev_pos trivial ?_))))
    rw [hrd]
    refine Ev.bind (texts_true _ (by have := hv _ (List.getElem_mem hil); omega)) (ev_pos rfl ?_)
    rw [wrp_nat (by omega)]
    exact ih (i + 1) (by omega)
theorem entry_true (f0 : Int) (f1 : ByteArray) (f2 : List ByteArray) (at_ : List S74) (hk : f2.length ≤ 2097152) (ha : at_.length ≤ 1048576) (hv : ∀ a ∈ at_, a.f2.length ≤ 1048576) : Ev (fun k => rosterlaw09_sameEntry.f k f0 f1 f2 at_ f0 f1 f2 at_) true := by
  unfold rosterlaw09_sameEntry.f
  refine ev_pos rfl (ev_pos rfl (Ev.bind (texts_true _ hk) (ev_pos rfl ?_)))
  refine ev_round ?_
  simp only [rosterlaw09_sameEntry.j0]
  refine ev_neg (by simp) ?_
  exact attrs_loop f0 f1 f2 at_ ha hv at_.length 0 (by omega)
theorem copied_loop (f0 : Int) (f1 : ByteArray) (f2 : List ByteArray) (at_ : List S74) (ha : at_.length ≤ 1048576) (hv : ∀ a ∈ at_, a.f2.length ≤ 1048576) (d : Nat) : ∀ i : Nat, i + d = at_.length → Ev (fun k => rosterlaw09_copied.l0 k (i : Int) f0 f1 f2 at_ f0 f1 f2 (at_.take i)) (f0, f1, f2, at_) := by
  induction d with
  | zero =>
    intro i hi
    refine ev_round ?_
    simp only [rosterlaw09_copied.l0]
    refine ev_neg (by omega) (ev_eq ?_)
    rw [List.take_of_length_le (by omega)]
  | succ d ih =>
    intro i hi
    refine ev_round ?_
    simp only [rosterlaw09_copied.l0]
    have hil : i < at_.length := by omega
    have hrd : rd_T74 at_ (i : Int) = at_[i] := by simp [rd_T74, List.getD_eq_getElem?_getD, List.getElem?_eq_getElem hil]
    have hvl := hv _ (List.getElem_mem hil)
    rw [hrd]
    refine ev_pos (by omega) (ev_pos (by omega) (ev_pos (by simp only [List.length_nil]; omega) (ev_pos (by rw [List.length_take]; omega) ?_)))
    rw [wrp_nat (by omega)]
    have e : at_.take i ++ [(⟨at_[i].f0, at_[i].f1, [] ++ at_[i].f2⟩ : S74)] = at_.take (i + 1) := by
      rw [List.take_add_one, List.getElem?_eq_getElem hil]
      rfl
    rw [e]
    exact ih (i + 1) (by omega)
theorem copied_ev (f0 : Int) (f1 : ByteArray) (f2 : List ByteArray) (at_ : List S74) (hk : f2.length ≤ 2097152) (ha : at_.length ≤ 1048576) (hv : ∀ a ∈ at_, a.f2.length ≤ 1048576) : Ev (fun k => rosterlaw09_copied.f k f0 f1 f2 at_) (f0, f1, f2, at_) := by
  unfold rosterlaw09_copied.f
  refine ev_pos (by simp only [List.length_nil]; omega) ?_
  have := copied_loop f0 f1 f2 at_ ha hv at_.length 0 (by omega)
  simpa using this
theorem copies_loop (l : List S45) (hl : l.length ≤ 2097152) (hk : ∀ e ∈ l, e.f2.length ≤ 2097152) (ha : ∀ e ∈ l, e.f3.length ≤ 1048576 ∧ ∀ a ∈ e.f3, a.f2.length ≤ 1048576) (d : Nat) : ∀ i : Nat, i + d = l.length → Ev (fun k => rosterlaw09_copies.l0 k l (l.take i) (i : Int)) l := by
  induction d with
  | zero =>
    intro i hi
    refine ev_round ?_
    simp only [rosterlaw09_copies.l0]
    refine ev_neg (by omega) (ev_eq ?_)
    rw [List.take_of_length_le (by omega)]
  | succ d ih =>
    intro i hi
    refine ev_round ?_
    simp only [rosterlaw09_copies.l0]
    have hil : i < l.length := by omega
    have hrd : rd_T45 l (i : Int) = l[i] := by simp [rd_T45, List.getD_eq_getElem?_getD, List.getElem?_eq_getElem hil]
    have hm := List.getElem_mem hil
    rw [hrd]
    refine ev_pos (by omega) (ev_pos (by omega) ?_)
    refine Ev.bind (copied_ev _ _ _ _ (hk _ hm) (ha _ hm).1 (ha _ hm).2) ?_
    refine ev_pos (by rw [List.length_take]; omega) ?_
    rw [wrp_nat (by omega)]
    have e : l.take i ++ [(⟨l[i].f0, l[i].f1, l[i].f2, l[i].f3⟩ : S45)] = l.take (i + 1) := by
      rw [List.take_add_one, List.getElem?_eq_getElem hil]
      rfl
    rw [e]
    exact ih (i + 1) (by omega)
theorem copies_ev (l : List S45) (hl : l.length ≤ 2097152) (hk : ∀ e ∈ l, e.f2.length ≤ 2097152) (ha : ∀ e ∈ l, e.f3.length ≤ 1048576 ∧ ∀ a ∈ e.f3, a.f2.length ≤ 1048576) : Ev (fun k => rosterlaw09_copies.f k l) l := by
  unfold rosterlaw09_copies.f
  exact copies_loop l hl hk ha l.length 0 (by omega)
end Go.Proofs.YtnogmaljcocfjaaDoor.DitEv
namespace Go.Proofs.YtnogmaljcocfjaaDoor.XK
open Go.RowKit Go.Proofs.YtnogmaljcocfjaaDoorW.PrintWords Go.Proofs.YtnogmaljcocfjaaDoorW.PrintLast Go.Proofs.YtnogmaljcocfjaaDoorW.PrintMore
structure S86 where
  f0 : Int
  f1 : ByteArray
def z86 : S86 := ⟨(0 : Int), (⟨#[]⟩ : ByteArray)⟩
def k86 : Kd S86 := Kd.iso (Kd.pair (Kd.int .i64) Kd.string) (fun x : S86 => (x.f0, x.f1))
theorem k86_open {w : World} {x : S86} {cs : List Value} (h : k86.K w x cs) : cs = [.int .i64 x.f0, .string x.f1] := by
  obtain ⟨_, _, rfl, rfl, rfl⟩ := h
  rfl
theorem k86_openM {w : World} {base : Nat} {ok : Nat → Prop} {x : S86} {cs : List Value} (h : k86.M w base ok x cs) : cs = [.int .i64 x.f0, .string x.f1] := by
  obtain ⟨_, _, rfl, rfl, rfl⟩ := h
  rfl
theorem k86_mk (w : World) (x : S86) : k86.K w x [.int .i64 x.f0, .string x.f1] := ⟨[.int .i64 x.f0], [.string x.f1], rfl, rfl, rfl⟩
theorem k86_mkM (w : World) (base : Nat) (ok : Nat → Prop) (x : S86) : k86.M w base ok x [.int .i64 x.f0, .string x.f1] := ⟨[.int .i64 x.f0], [.string x.f1], rfl, rfl, rfl⟩
def rd_T86 (xs : List S86) (i : Int) : S86 := xs.getD i.toNat z86
theorem at_T86 {w : World} {A : Option Addr} {n : Nat} {xs : List S86} (h : Kd.C k86 w A n xs) (i : Int) (h0 : 0 ≤ i) (h1 : i < n) : ∃ ad, A = some ad ∧ w.cell? (ad.add (i.toNat * 2)) = some (.int .i64 (rd_T86 xs i).f0) ∧ w.cell? ⟨(ad.add (i.toNat * 2)).block, (ad.add (i.toNat * 2)).off + 1, none⟩ = some (.string (rd_T86 xs i).f1) := by
  obtain ⟨ad, c, e, _, hK, hc0⟩ := Kd.C_get h z86 i h0 h1
  have hc : ∀ j u, c[j]? = some u → w.cell? (ad.add (i.toNat * 2 + j)) = some u := hc0
  obtain rfl := k86_open hK
  exact ⟨ad, e, hc 0 _ rfl, by rw [← add_field _ _ 1 (by omega)]; exact hc 1 _ rfl⟩
end Go.Proofs.YtnogmaljcocfjaaDoor.XK
namespace Go.Proofs.YtnogmaljcocfjaaDoor.DitGr
open Go.RowKit Go.Proofs.YtnogmaljcocfjaaDoor.XK Go.Proofs.YtnogmaljcocfjaaDoor.DitTerm Go.Proofs.YtnogmaljcocfjaaDoor.DitCheck Go.Proofs.YtnogmaljcocfjaaDoor.DitBuild Go.Proofs.YtnogmaljcocfjaaDoor.DitMeth
def under (u : Int) : Int := if u < 0 then -(u + 1) else u
/-- Under which entry. -/
def whichE (u : Int) (n : Nat) : Nat := (under u).toNat % n
def nameN : ByteArray := ⟨#[110]⟩
def cnB : ByteArray := ⟨#[99, 110]⟩
def firstE (root : List ByteArray) : S45 := ⟨0, nameN, root, []⟩
def keyG (out : List S45) (k : S86) : List ByteArray := (ent out (whichE k.f0 out.length)).f2 ++ [k.f1]
def entG (out : List S45) (i : Nat) (k : S86) : S45 := ⟨(i : Int) + 2, k.f1, keyG out k, [⟨cnB, cnB, [k.f1]⟩]⟩
noncomputable def stepG (out : List S45) (i : Nat) (k : S86) : List S45 := if keyG out k ∈ Keys out then out else out ++ [entG out i k]
noncomputable def grownN (root : List ByteArray) (kids : List S86) : Nat → List S45
  | 0 => [firstE root]
  | i + 1 => stepG (grownN root kids i) i (kids.getD i z86)
noncomputable def grownL (root : List ByteArray) (kids : List S86) : List S45 := grownN root kids kids.length
/-- Bounds on what comes in. -/
structure InOK (root : List ByteArray) (kids : List S86) : Prop where
  len : root.length + kids.length ≤ 1048574
  bulk : bulkK root + (kids.map fun k => k.f1.size + 22).sum ≤ 29360128
  rootp : ∀ q ∈ root, q.size ≤ 1048576
  kidp : ∀ k ∈ kids, k.f1.size ≤ 1048576
  kidu : ∀ k ∈ kids, wfi k.f0
section
variable {root : List ByteArray} {kids : List S86}
theorem grownN_pos (i : Nat) : 0 < (grownN root kids i).length := by
  induction i with
  | zero => exact Nat.one_pos
  | succ i ih =>
    show 0 < (stepG _ _ _).length
    unfold stepG
    split
    · exact ih
    · rw [List.length_append]; omega
theorem whichE_lt (u : Int) {n : Nat} (h : 0 < n) : whichE u n < n := Nat.mod_lt _ h
theorem bulkK_app (a b : List ByteArray) : bulkK (a ++ b) = bulkK a + bulkK b := by unfold bulkK; rw [List.map_append, List.sum_append]
/-- What is known of the list behind i kids. -/
structure GN (root : List ByteArray) (kids : List S86) (i : Nat) (l : List S45) : Prop where
  good : DitBuild.Good (Keys l)
  len : l.length ≤ i + 1
  base : (ent l 0).f2 = root
  key : ∀ e ∈ l, e.f2.length ≤ root.length + i ∧ bulkK e.f2 ≤ bulkK root + ((kids.take i).map fun k => k.f1.size + 22).sum ∧ (∀ q ∈ e.f2, q.size ≤ 1048576) ∧ root <+: e.f2
  att : ∀ e ∈ l, e.f3.length ≤ 1 ∧ ∀ a ∈ e.f3, a.f2.length ≤ 1
theorem ent_mem {l : List S45} {q : Nat} (h : q < l.length) : ent l q ∈ l := DitPure.getD_mem l z45 h
theorem keys_at {l : List S45} {i : Nat} (h : i < l.length) : (Keys l).getD i [] = (ent l i).f2 := by
  unfold ent Keys
  rw [List.getD_eq_getElem?_getD, List.getElem?_map, List.getElem?_eq_getElem h, List.getD_eq_getElem?_getD, List.getElem?_eq_getElem h]
  rfl
theorem good_snoc {K : List (List ByteArray)} (h : DitBuild.Good K) {p : List ByteArray} {x : ByteArray} (hp : p ∈ K) (hn : p ++ [x] ∉ K) : DitBuild.Good (K ++ [p ++ [x]]) := by
  refine ⟨by rw [List.length_append]; have := h.pos; omega, ?_, fun i h0 hi => ?_⟩
  · refine List.nodup_append.2 ⟨h.nd, by simp, fun a ha b hb => ?_⟩
    rw [List.mem_singleton] at hb
    subst hb
    rintro rfl
    exact hn ha
  · rw [List.length_append, List.length_singleton] at hi
    by_cases hil : i < K.length
    · obtain ⟨h1, h2⟩ := h.par i h0 hil
      have e : (K ++ [p ++ [x]]).getD i [] = K.getD i [] := by rw [List.getD_eq_getElem?_getD, List.getElem?_append_left hil, List.getD_eq_getElem?_getD]
      have e2 : (K ++ [p ++ [x]]).take i = K.take i := by rw [List.take_append_of_le_length (by omega)]
      rw [e, e2]
      exact ⟨h1, h2⟩
    · obtain rfl : i = K.length := by omega
      have e : (K ++ [p ++ [x]]).getD K.length [] = p ++ [x] := by rw [List.getD_eq_getElem?_getD, List.getElem?_append_right (Nat.le_refl _)]; simp
      have e2 : (K ++ [p ++ [x]]).take K.length = K := by rw [List.take_append_of_le_length (Nat.le_refl _), List.take_length]
      rw [e, e2, List.dropLast_concat]
      exact ⟨by simp, hp⟩
theorem grown_gn (h : InOK root kids) : ∀ i, i ≤ kids.length → GN root kids i (grownN root kids i) := by
  intro i
  induction i with
  | zero =>
    intro _
    refine ⟨⟨Nat.one_pos, by simp [grownN, Keys], fun j h0 hj => ?_⟩, Nat.le_refl _, rfl, fun e he => ?_, fun e he => ?_⟩
    · have : j < 1 := hj
      omega
    · have : e = firstE root := by simpa [grownN] using he
      subst this
      exact ⟨Nat.le_refl _, by simp [firstE], h.rootp, List.prefix_refl _⟩
    · have : e = firstE root := by simpa [grownN] using he
      subst this
      exact ⟨Nat.zero_le _, fun a ha => by cases ha⟩
  | succ i ih =>
    intro hi
    have g := ih (by omega)
    have hpos := grownN_pos (root := root) (kids := kids) i
    show GN root kids (i + 1) (stepG (grownN root kids i) i (kids.getD i z86))
    have hkm : kids.getD i z86 ∈ kids := DitPure.getD_mem kids z86 (by omega)
    have hsum : ((kids.take (i + 1)).map fun k => k.f1.size + 22).sum = ((kids.take i).map fun k => k.f1.size + 22).sum + ((kids.getD i z86).f1.size + 22) := by
      rw [List.take_add_one, List.getElem?_eq_getElem (by omega), Option.toList_some, List.map_append, List.sum_append]
      simp [List.getD_eq_getElem?_getD, List.getElem?_eq_getElem (show i < kids.length by omega)]
    generalize grownN root kids i = l at g hpos
    generalize kids.getD i z86 = k at hkm hsum
    unfold stepG
    by_cases hm : keyG l k ∈ Keys l
    · rw [if_pos hm]
      exact ⟨g.good, Nat.le_succ_of_le g.len, g.base, fun e he => by obtain ⟨a, b, c, d⟩ := g.key e he; exact ⟨by omega, by omega, c, d⟩, g.att⟩
    · rw [if_neg hm]
      have hq := whichE_lt k.f0 hpos
      have hqm := ent_mem hq
      obtain ⟨a, b, c, d⟩ := g.key _ hqm
      have hk : Keys (l ++ [entG l i k]) = Keys l ++ [(ent l (whichE k.f0 l.length)).f2 ++ [k.f1]] := by unfold Keys; rw [List.map_append]; rfl
      refine ⟨?_, by rw [List.length_append, List.length_singleton]; have := g.len; omega, ?_, fun e he => ?_, fun e he => ?_⟩
      · rw [hk]
        exact good_snoc g.good (List.mem_map_of_mem hqm) hm
      · have : ent (l ++ [entG l i k]) 0 = ent l 0 := by unfold ent; rw [List.getD_eq_getElem?_getD, List.getElem?_append_left hpos, List.getD_eq_getElem?_getD]
        rw [this]
        exact g.base
      · rcases List.mem_append.1 he with he | he
        · obtain ⟨a, b, c, d⟩ := g.key e he
          exact ⟨by omega, by omega, c, d⟩
        · rw [List.mem_singleton] at he
          subst he
          show (keyG l k).length ≤ _ ∧ bulkK (keyG l k) ≤ _ ∧ (∀ q ∈ keyG l k, q.size ≤ 1048576) ∧ root <+: keyG l k
          unfold keyG
          refine ⟨by rw [List.length_append, List.length_singleton]; omega, by rw [bulkK_app, show bulkK [k.f1] = k.f1.size + 22 by simp [bulkK]]; omega, fun q hq => ?_, d.trans (List.prefix_append _ _)⟩
          rcases List.mem_append.1 hq with hq | hq
          · exact c q hq
          · rw [List.mem_singleton] at hq
            subst hq
            exact h.kidp _ hkm
      · rcases List.mem_append.1 he with he | he
        · exact g.att e he
        · rw [List.mem_singleton] at he
          subst he
          refine ⟨Nat.le_refl _, fun a ha => ?_⟩
          have : a = ⟨cnB, cnB, [k.f1]⟩ := by simpa [entG] using ha
          subst this
          exact Nat.le_refl _
theorem take_sum (h : InOK root kids) (i : Nat) : ((kids.take i).map fun k => k.f1.size + 22).sum ≤ (kids.map fun k => k.f1.size + 22).sum := by
  have h1 : kids.map (fun k => k.f1.size + 22) = (kids.take i).map (fun k => k.f1.size + 22) ++ (kids.drop i).map (fun k => k.f1.size + 22) := by rw [← List.map_append, List.take_append_drop]
  rw [h1, List.sum_append]
  omega
theorem GN.keyOK (h : InOK root kids) {i : Nat} (hi : i ≤ kids.length) {l : List S45} (g : GN root kids i l) {e : S45} (he : e ∈ l) : KeyOK e.f2 := by
  obtain ⟨a, b, c, _⟩ := g.key e he
  have := h.len
  have := h.bulk
  have := take_sum h i
  exact ⟨by omega, by omega, c⟩
theorem GN.fit (h : InOK root kids) {i : Nat} (hi : i ≤ kids.length) {l : List S45} (g : GN root kids i l) : Fit l := by
  refine ⟨by have := g.len; have := h.len; omega, fun e he => ?_, fun e he => ?_⟩
  · have := GN.keyOK h hi g he
    exact ⟨this.len, this.bulk, this.part⟩
  · obtain ⟨a, b⟩ := g.att e he
    exact ⟨by omega, fun x hx => by have := b x hx; omega⟩
end
end Go.Proofs.YtnogmaljcocfjaaDoor.DitGr
namespace Go.Proofs.YtnogmaljcocfjaaDoor.DitGr
open Go Go.RowKit Go.Proofs.YtnogmaljcocfjaaDoor.XK Go.Proofs.YtnogmaljcocfjaaDoor.Blk Go.Proofs.YtnogmaljcocfjaaDoor.DitTab Go.Proofs.YtnogmaljcocfjaaDoor.DitRow Go.Proofs.YtnogmaljcocfjaaDoor.DitTerm Go.Proofs.YtnogmaljcocfjaaDoor.DitCheck Go.Proofs.YtnogmaljcocfjaaDoor.DitCopy Go.Proofs.YtnogmaljcocfjaaDoor.DitBuild Go.Proofs.YtnogmaljcocfjaaDoor.DitMeth Go.Proofs.YtnogmaljcocfjaaDoorW.PrintWords Go.Proofs.YtnogmaljcocfjaaDoorW.PrintLast Go.Proofs.YtnogmaljcocfjaaDoorW.PrintMore
theorem kids_at {w : World} {A : Option Addr} {ks : List S86} (h : Kd.C k86 w A ks.length ks) (hp : 0 < ks.length) : ∃ b o, A = some ⟨b, o, none⟩ ∧ b < w.heap.size ∧ ∀ j, j < ks.length → w.cell? ⟨b, o + j * 2, none⟩ = some (.int .i64 (ks.getD j z86).f0) ∧ w.cell? ⟨b, o + j * 2 + 1, none⟩ = some (.string (ks.getD j z86).f1) := by
  have key : ∀ i : Nat, i < ks.length → ∃ ad, A = some ad ∧ (∀ m u, ([.int .i64 (ks.getD i z86).f0, .string (ks.getD i z86).f1] : List Value)[m]? = some u → w.cell? (ad.add (i * 2 + m)) = some u) := fun i hi => by
    obtain ⟨ad, cs, e, _, hK, hc0⟩ := Kd.C_get h z86 (i : Int) (by omega) (by omega)
    rw [Int.toNat_natCast] at hK hc0
    obtain rfl := k86_open hK
    exact ⟨ad, e, hc0⟩
  obtain ⟨⟨b, o, sp⟩, rfl, h0⟩ := key 0 hp
  have h00 := h0 0 _ rfl
  have hsp : sp = none := by
    cases sp with
    | none => rfl
    | some k =>
      simp [Addr.add, World.cell?] at h00
      split at h00 <;> simp at h00
  subst hsp
  rw [add_off] at h00
  refine ⟨b, o, rfl, World.block_lt_of_cell? w _ h00, fun j hj => ?_⟩
  obtain ⟨ad, e, hc⟩ := key j hj
  obtain rfl := Option.some.inj e
  have c0 := hc 0 _ rfl
  have c1 := hc 1 _ rfl
  rw [add_off] at c0 c1
  exact ⟨c0, by rw [Nat.add_assoc]; exact c1⟩
structure GW (w : World) (root : List ByteArray) (kids : List S86) (i : Nat) (v : Value) (wr : World) : Prop where
  below : Below w.heap.size w wr
  own : Kd.R k45 45 wr w.heap.size (fun _ => True) v (grownN root kids i)
theorem gw_start {w w2 : World} {root : List ByteArray} {kids : List S86} {A2 : Option Addr} {c2 : Nat} (hb : Below w.heap.size w w2) (ho : Kd.R Kd.string 9 w2 w.heap.size (fun _ => True) (.slice A2 root.length c2) root) :
    GW w root kids 0 (.slice (some ⟨w2.heap.size + 1, 0, none⟩) 1 1) ((w2.alloc (.cells #[.int .i64 0, .string ⟨#[110]⟩, .slice A2 root.length c2, .slice none 0 0] 45)).alloc (.cells #[.int .i64 0, .string ⟨#[110]⟩, .slice A2 root.length c2, .slice none 0 0] 45)) := by
  have hz : (w2.alloc (.cells #[.int .i64 0, .string ⟨#[110]⟩, .slice A2 root.length c2, .slice none 0 0] 45)).heap.size = w2.heap.size + 1 := World.size_alloc _ _
  have hs := hb.size
  refine ⟨(hb.alloc (by omega) _).alloc (by rw [hz]; omega) _, fun _ _ => trivial, [.int .i64 0, .string ⟨#[110]⟩, .slice A2 root.length c2, .slice none 0 0], ?_, ?_⟩
  · have h2 := World.ownsRow_lit (base := w.heap.size) (e := 45) (size := 4) (w2.alloc (.cells #[.int .i64 0, .string ⟨#[110]⟩, .slice A2 root.length c2, .slice none 0 0] 45)) #[.int .i64 0, .string ⟨#[110]⟩, .slice A2 root.length c2, .slice none 0 0] 1 (by rw [hz]; omega) (by decide) rfl
    rw [hz] at h2
    exact h2
  · refine (Reps.none _ _).snoc ?_ rfl
    refine k45_mkM _ _ _ (x := firstE root) ?_ (Kd.R_nil _ _ _ _ _)
    have h3 := Kd.R_below (Kd.R_below (Kd.R_mono (Kd.R_bound ho) (ok' := fun k => True ∧ some k ≠ (Value.slice (some ⟨w2.heap.size + 1, 0, none⟩) 1 1).ownBlock) (fun k hk => ⟨trivial, fun e => ?_⟩)) (below_alloc (Below.refl w2.heap.size w2) (.cells #[.int .i64 0, .string ⟨#[110]⟩, .slice A2 root.length c2, .slice none 0 0] 45))) (below_alloc (Below.refl _ _) (.cells #[.int .i64 0, .string ⟨#[110]⟩, .slice A2 root.length c2, .slice none 0 0] 45))
    · exact h3
    · have := hk.2.2.1
      have e : k = w2.heap.size + 1 := Option.some.inj e
      omega
theorem part_own {W8 : World} {base m : Nat} (hb : base ≤ W8.heap.size) (hm : m ≤ W8.heap.size) (x : ByteArray) : Kd.R Kd.string 9 ((W8.alloc (.cells #[.string x] 9)).alloc (.cells #[.string ⟨#[99, 110]⟩, .string ⟨#[99, 110]⟩, .slice (some ⟨W8.heap.size, 0, none⟩) 1 1] 74)) base (fun q => m ≤ q) (.slice (some ⟨W8.heap.size, 0, none⟩) 1 1) [x] := by
  have h : Kd.R Kd.string 9 (W8.alloc (.cells #[.string x] 9)) base (fun q => m ≤ q) (.slice (some ⟨W8.heap.size, 0, none⟩) 1 1) [x] :=
    ⟨fun q hq => by have e : W8.heap.size = q := Option.some.inj hq; show m ≤ q; omega, [.string x], World.ownsRow_lit (base := base) (e := 9) (size := 1) W8 #[.string x] 1 hb (by decide) rfl, (Reps.none _ _).snoc rfl rfl⟩
  exact Kd.R_below h (below_alloc (Below.refl _ _) _)
theorem attr_cells (W8 : World) (x : ByteArray) : ((W8.alloc (.cells #[.string x] 9)).alloc (.cells #[.string ⟨#[99, 110]⟩, .string ⟨#[99, 110]⟩, .slice (some ⟨W8.heap.size, 0, none⟩) 1 1] 74)).cell? ⟨W8.heap.size + 1, 0, none⟩ = some (.string ⟨#[99, 110]⟩) ∧
    ((W8.alloc (.cells #[.string x] 9)).alloc (.cells #[.string ⟨#[99, 110]⟩, .string ⟨#[99, 110]⟩, .slice (some ⟨W8.heap.size, 0, none⟩) 1 1] 74)).cell? ⟨W8.heap.size + 1, 1, none⟩ = some (.string ⟨#[99, 110]⟩) ∧
    ((W8.alloc (.cells #[.string x] 9)).alloc (.cells #[.string ⟨#[99, 110]⟩, .string ⟨#[99, 110]⟩, .slice (some ⟨W8.heap.size, 0, none⟩) 1 1] 74)).cell? ⟨W8.heap.size + 1, 2, none⟩ = some (.slice (some ⟨W8.heap.size, 0, none⟩) 1 1) := by
  have h := At.fresh (W8.alloc (.cells #[.string x] 9)) [.string ⟨#[99, 110]⟩, .string ⟨#[99, 110]⟩, .slice (some ⟨W8.heap.size, 0, none⟩) 1 1] 74
  rw [World.size_alloc] at h
  exact ⟨h.get 0 _ rfl, h.get 1 _ rfl, h.get 2 _ rfl⟩
theorem entry_own {w wr W9 V : World} {l : List S45} {i : Nat} {k : S86} {ky : List ByteArray} {A7 : Option Addr} {c7 g1 : Nat} (hk : keyG l k = ky) (hb : w.heap.size ≤ wr.heap.size) (ho : Kd.R Kd.string 9 W9 wr.heap.size (fun _ => True) (.slice A7 ky.length c7) ky) (hx : Kd.R Kd.string 9 W9 w.heap.size (fun q => wr.heap.size ≤ q) (.slice (some ⟨g1, 0, none⟩) 1 1) [k.f1]) (hz : wr.heap.size ≤ W9.heap.size) (hV : Below W9.heap.size W9 V) (hVz : V.heap.size = W9.heap.size) :
    k45.M (V.alloc (.cells #[.string ⟨#[99, 110]⟩, .string ⟨#[99, 110]⟩, .slice (some ⟨g1, 0, none⟩) 1 1] 74)) w.heap.size (fun q => wr.heap.size ≤ q) (entG l i k) [.int .i64 ((i : Int) + 2), .string k.f1, .slice A7 ky.length c7, .slice (some ⟨W9.heap.size, 0, none⟩) 1 1] := by
  have hB : Below W9.heap.size W9 (V.alloc (.cells #[.string ⟨#[99, 110]⟩, .string ⟨#[99, 110]⟩, .slice (some ⟨g1, 0, none⟩) 1 1] 74)) := hV.alloc hV.size _
  refine k45_mkM _ _ _ (x := entG l i k) ?_ ?_
  · show Kd.string.R 9 _ _ _ _ (keyG l k)
    rw [hk]
    exact Kd.R_below (Kd.R_lower (Kd.R_mono (Kd.R_bound ho) (fun q hq => hq.2.1)) hb) hB
  · refine ⟨fun q hq => by have e : W9.heap.size = q := Option.some.inj hq; show wr.heap.size ≤ q; omega, [.string ⟨#[99, 110]⟩, .string ⟨#[99, 110]⟩, .slice (some ⟨g1, 0, none⟩) 1 1], ?_, ?_⟩
    · have := World.ownsRow_lit (base := w.heap.size) (e := 74) (size := 3) V #[.string ⟨#[99, 110]⟩, .string ⟨#[99, 110]⟩, .slice (some ⟨g1, 0, none⟩) 1 1] 1 (by omega) (by decide) rfl
      rw [hVz] at this
      exact this
    · refine (Reps.none _ _).snoc ?_ rfl
      exact k74_mkM _ _ _ (x := ⟨cnB, cnB, [k.f1]⟩) (Kd.R_below (Kd.R_mono (Kd.R_bound hx) (ok' := fun q => wr.heap.size ≤ q ∧ some q ≠ (Value.slice (some ⟨W9.heap.size, 0, none⟩) 1 1).ownBlock) (fun q hq => ⟨hq.1, fun e => by have := hq.2.2.1; have e : q = W9.heap.size := Option.some.inj e; omega⟩)) hB)
theorem wf_range {x : Int} (h : wfi x) : -9223372036854775808 ≤ x ∧ x ≤ 9223372036854775807 := bounds_i64 h
theorem under_nonneg (u : Int) : 0 ≤ under u := by unfold under; split <;> omega
set_option maxHeartbeats 8000000 in
set_option maxRecDepth 100000 in
theorem grown_as (w : World) (A B : Option Addr) (c d : Nat) (root : List ByteArray) (kids : List S86) (hr : Kd.C Kd.string w A root.length root) (hk : Kd.C k86 w B kids.length kids) (hI : InOK root kids) :
    Calls Tryd.prog 20 #[.slice A root.length c, .slice B kids.length d] w fun e w' => ∃ v, e = .returned v ∧ Kd.R k45 45 w' w.heap.size (fun _ => True) v (grownL root kids) ∧ Below w.heap.size w w' := by
  have HR0 := Lib.hid hr
  have HK := Lib.hid hk
  have HI := Lib.hid hI
  have hlen := hI.len
  have HB := Lib.hid (Below.refl w.heap.size w)
  clear hr hk hI
  go_enter Tryd.func20, Tryd.ntmps20
  go_wp2_with (first
    | ((with_reducible refine gate_dst (N := 11) rfl ?_); go_loud (refine Kd.R_lit Kd.string _ 9 ?hg (N := 11) ?hd (xs := ([] : List ByteArray)) (inner := []) (ok := fun _ => True) (okp := fun _ => True) ?hr ?hp (fun _ hk => hk) trivial (Below.refl _ _) (Nat.le_refl _) (by simp) ?_; (case hd => rfl); (case hg => rfl); (case hr => first | (go_simp; done) | (go_simp; rfl)); (case hp => exact (Reps.none _ _)); intro v1 w1 ho1 hb1 _ _; have HO1 := Lib.hid ho1; have HB1 := Lib.hid hb1; clear ho1 hb1))
    | ((with_reducible refine gate_builtin (b := .append) (xs := #[.tmp 11, .tmp 12]) rfl ?_); at_builtin; go_loud (refine Kd.R_append_rows Kd.string (w0 := w) w.heap.size rfl (.tmp 11) (.tmp 12) 39 9 (.string ⟨#[]⟩) 16 rfl Tryd.underlying39 XK.info9 rfl (by decide) (by omega) v1 [] root _ _ _ (fun _ => True) (fun _ => False) rfl rfl HO1.out ?aR (fun _ _ h => h) (fun _ h => h.elim) (fun _ _ => trivial) HB1.out (by have := HB1.out.size; omega) (by simp only [List.length_nil]; omega) ?_; (case aR => exact (Kd.C_below HR0.out HB1.out)); intro v2 w2 ho2 hb2 _ _; rw [List.nil_append] at ho2; obtain ⟨A2, c2, hv2, hl2, hC2⟩ := Kd.R_reads ho2; subst hv2; have HO2 := Lib.hid ho2; have HB2 := Lib.hid hb2; clear ho2 hb2 hC2))
    | go_in)
  have HG0 := Lib.hid (gw_start (kids := kids) HB2.out HO2.out)
  go_loopw [6, 7] (fun v6 v7 wr => ∃ i : Nat, i ≤ kids.length ∧ v7 = .int .i64 (i : Nat) ∧ Hid (GW w root kids i v6 wr)) (fun _ v _ => kids.length - (intOf v).toNat)
  case atStart => exact ⟨0, Nat.zero_le _, rfl, HG0⟩
  case round =>
    clear HG0 HO1 HB1 HO2 HB2
    obtain ⟨i, hi, rfl, HW⟩ := hrel
    by_cases hin : i < kids.length
    · have hlt : (i : Int) < (kids.length : Int) := by omega
      have hwi : IntKind.i64.wrap ((i : Int) + 1) = ((i + 1 : Nat) : Int) := by rw [IntWalk.i64_in _ (by omega)]; rfl
      have hwi2 : IntKind.i64.wrap ((i : Int) + 2) = (i : Int) + 2 := IntWalk.i64_in _ (by omega)
      have hgn := grown_gn HI.out i (by omega)
      have hpos := grownN_pos (root := root) (kids := kids) i
      have hsucc : grownN root kids (i + 1) = stepG (grownN root kids i) i (kids.getD i z86) := rfl
      have hkm : kids.getD i z86 ∈ kids := DitPure.getD_mem kids z86 hin
      have hku := HI.out.kidu _ hkm
      obtain ⟨kb, ko, hBe, hkb, hkc⟩ := kids_at HK.out (by omega)
      subst hBe
      obtain ⟨c0', c1'⟩ := hkc i hin
      have ku : wr.cell? ⟨kb, ko + i * 2, none⟩ = some (.int .i64 (kids.getD i z86).f0) := (HW.out.below.cell (p := ⟨kb, ko + i * 2, none⟩) hkb).trans c0'
      have kp : wr.cell? ⟨kb, ko + i * 2 + 1, none⟩ = some (.string (kids.getD i z86).f1) := (HW.out.below.cell (p := ⟨kb, ko + i * 2 + 1, none⟩) hkb).trans c1'
      have hkbw : kb < wr.heap.size := Nat.lt_of_lt_of_le hkb HW.out.below.size
      obtain ⟨AO, cO, hvO, hcO, hCO⟩ := Kd.R_reads HW.out.own
      have HGN := Lib.hid hgn
      have HOW := Lib.hid HW.out.own
      have HBW := Lib.hid HW.out.below
      have HSU := Lib.hid hsucc
      clear hkc c0' c1' hsucc HW
      generalize kids.getD i z86 = k at ku kp hku HSU
      generalize grownN root kids i = l at hvO hcO hCO HGN HOW HSU hpos
      subst hvO
      have hkw := wf_range hku
      obtain ⟨ob, oo, hAe, hob, hoc⟩ := ents_at hCO hpos
      subst hAe
      have hql := whichE_lt k.f0 hpos
      have hEq := hoc _ hql
      obtain ⟨A2, d2, q2, A3, d3, e2, _, hr2, _, _⟩ := hEq.more
      have hkey := GN.keyOK HI.out (by omega) HGN.out (ent_mem hql)
      have hlen1 := HGN.out.len
      have HFK := Lib.hid (show ∀ e ∈ l, KeyOK e.f2 from fun e he => GN.keyOK HI.out (by omega) HGN.out he)
      have hlenp : (0 : Int) < (l.length : Int) := by omega
      have hlen0 : ¬ (l.length : Int) = 0 := by omega
      have hlnil : ¬ l = [] := fun e => by rw [e] at hpos; exact absurd hpos (by decide)
      obtain ⟨uu, huu⟩ : ∃ uu, uu = under k.f0 := ⟨_, rfl⟩
      have hrm : Int.tmod uu (l.length : Int) = (whichE k.f0 l.length : Int) := by
        have h0 := under_nonneg k.f0
        rw [← huu] at h0
        unfold whichE
        rw [← huu, Int.tmod_eq_emod_of_nonneg h0, Int.natCast_emod, Int.toNat_of_nonneg h0]
      have hqi : (whichE k.f0 l.length : Int) < (l.length : Int) := by omega
      obtain ⟨kq, hkq⟩ : ∃ kq, kq = (ent l (whichE k.f0 l.length)).f2 := ⟨_, rfl⟩
      obtain ⟨ky, hky⟩ : ∃ ky, ky = kq ++ [k.f1] := ⟨_, rfl⟩
      have hkq' : keyG l k = ky := by rw [hky, hkq]; rfl
      rw [← hkq] at e2 hr2 hkey
      generalize whichE k.f0 l.length = q at hql hrm hqi e2
      have HKQ := Lib.hid hkq'
      have HR2 := Lib.hid hr2
      have HKY := Lib.hid hkey
      have HCO := Lib.hid hCO
      have hobw : ob < wr.heap.size := hob
      have hlf : rosterlaw09_longer.f kq k.f1 = some ky := by rw [hky]; exact DitEv.longer_f _ _ (by have := hkey.len; omega)
      have HLF := Lib.hid hlf
      obtain ⟨am, ham⟩ : ∃ am, am = DitEv.amongR l ky := ⟨_, rfl⟩
      obtain ⟨ka, hka⟩ := Ev.rounds (DitEv.among_ev l ky (by rw [hky, List.length_append, List.length_singleton]; have := hkey.len; omega) (by omega) (fun e he => by have := (HFK.out e he).len; omega))
      rw [← ham] at hka
      have HKA := Lib.hid hka
      have hamc : (am < 0 ∧ stepG l i k = l ++ [entG l i k]) ∨ (¬ am < 0 ∧ stepG l i k = l) := by
        unfold stepG
        rw [hkq', ham, DitEv.among_neg]
        by_cases hm : ky ∈ Keys l
        · exact .inr ⟨fun h => h hm, if_pos hm⟩
        · exact .inl ⟨hm, if_neg hm⟩
      have hcO' := hcO
      clear hEq hkey hr2 hkq hkq' hCO hoc hgn hlf hky hka ham
      by_cases hneg : k.f0 < 0
      · have hw1 : IntKind.i64.wrap (k.f0 + 1) = k.f0 + 1 := IntWalk.i64_in _ (by omega)
        have hw2 : IntKind.i64.wrap (-(k.f0 + 1)) = uu := by rw [IntWalk.i64_in _ (by omega), huu, under, if_pos hneg]
        clear huu
        go_wp2
        refine start_ (n := 15) (S := fun w' => w'.cell? ⟨ob, oo + q * 4 + 2, none⟩ = some (.slice A2 kq.length d2) ∧ w'.cell? ⟨kb, ko + i * 2 + 1, none⟩ = some (.string k.f1)) (ds := []) #[false, false, false, false, false, false, false, false, false, false, false, false, false, false, false] (by kernel_rfl) rfl rfl ⟨e2, kp⟩ (fun hHeld => ?_)
        refine pure_ (i := 0) (N := some 33) (v := ?_) (a' := ?_) #[true, false, false, false, false, false, false, false, false, false, false, false, false, false, false] rfl rfl (by kernel_rfl) (fun _ _ _ h => h) (Or.inl ⟨by rfl, ?_⟩) ?_ ?_
        rotate_left
        · intro w'
          go_simp
          with_reducible rfl
        rotate_left
        · simp only [Act.put, List.setIfInBounds_toArray, List.set_cons_zero, List.set_cons_succ, i64_w, i32_w]
          rfl
        refine pure_ (i := 1) (N := some 34) (v := ?_) (a' := ?_) #[true, true, false, false, false, false, false, false, false, false, false, false, false, false, false] rfl rfl (by kernel_rfl) (fun _ _ _ h => h) (Or.inl ⟨by rfl, ?_⟩) ?_ ?_
        rotate_left
        · intro w'
          go_simp
          with_reducible rfl
        rotate_left
        · simp only [Act.put, List.setIfInBounds_toArray, List.set_cons_zero, List.set_cons_succ, i64_w, i32_w]
          rfl
        refine pure_ (i := 2) (N := some 35) (v := ?_) (a' := ?_) #[true, true, true, false, false, false, false, false, false, false, false, false, false, false, false] rfl rfl (by kernel_rfl) (fun _ _ _ h => h) (Or.inl ⟨by rfl, ?_⟩) ?_ ?_
        rotate_left
        · intro w'
          go_simp
          with_reducible rfl
        rotate_left
        · simp only [Act.put, List.setIfInBounds_toArray, List.set_cons_zero, List.set_cons_succ, i64_w, i32_w]
          rfl
        refine pure_ (i := 3) (N := some 36) (v := ?_) (a' := ?_) #[true, true, true, true, false, false, false, false, false, false, false, false, false, false, false] rfl rfl (by kernel_rfl) (fun _ _ _ h => h) (Or.inl ⟨by rfl, ?_⟩) ?_ ?_
        rotate_left
        · intro w'
          go_simp
          with_reducible rfl
        rotate_left
        · simp only [Act.put, List.setIfInBounds_toArray, List.set_cons_zero, List.set_cons_succ, i64_w, i32_w]
          rfl
        refine pure_ (i := 4) (N := some 37) (v := ?_) (a' := ?_) #[true, true, true, true, true, false, false, false, false, false, false, false, false, false, false] rfl rfl (by kernel_rfl) (fun _ _ _ h => h) (Or.inl ⟨by rfl, ?_⟩) ?_ ?_
        rotate_left
        · intro w'
          go_simp
          with_reducible rfl
        rotate_left
        · simp only [Act.put, List.setIfInBounds_toArray, List.set_cons_zero, List.set_cons_succ, i64_w, i32_w]
          rfl
        refine pure_ (i := 5) (N := some 38) (v := ?_) (a' := ?_) #[true, true, true, true, true, true, false, false, false, false, false, false, false, false, false] rfl rfl (by kernel_rfl) (fun _ _ _ h => h) (Or.inl ⟨by rfl, ?_⟩) ?_ ?_
        rotate_left
        · intro w'
          go_simp
          with_reducible rfl
        rotate_left
        · simp only [Act.put, List.setIfInBounds_toArray, List.set_cons_zero, List.set_cons_succ, i64_w, i32_w]
          rfl
        refine pure_ (i := 6) (N := some 39) (v := ?_) (a' := ?_) #[true, true, true, true, true, true, true, false, false, false, false, false, false, false, false] rfl rfl (by kernel_rfl) (fun _ _ _ h => h) (Or.inl ⟨by rfl, ?_⟩) ?_ ?_
        rotate_left
        · intro w'
          go_simp
          with_reducible rfl
        rotate_left
        · simp only [Act.put, List.setIfInBounds_toArray, List.set_cons_zero, List.set_cons_succ, i64_w, i32_w]
          rfl
        refine pure_ (i := 8) (N := some 41) (v := ?_) (a' := ?_) #[true, true, true, true, true, true, true, false, true, false, false, false, false, false, false] rfl rfl (by kernel_rfl) (fun _ _ _ h => h) (Or.inl ⟨by rfl, ?_⟩) ?_ ?_
        rotate_left
        · intro w'
          go_simp
          with_reducible rfl
        rotate_left
        · simp only [Act.put, List.setIfInBounds_toArray, List.set_cons_zero, List.set_cons_succ, i64_w, i32_w]
          rfl
        refine pure_ (i := 9) (N := some 42) (v := ?_) (a' := ?_) #[true, true, true, true, true, true, true, false, true, true, false, false, false, false, false] rfl rfl (by kernel_rfl) (fun _ _ _ h => h) (Or.inl ⟨by rfl, ?_⟩) ?_ ?_
        rotate_left
        · intro w'
          go_simp
          with_reducible rfl
        rotate_left
        · simp only [Act.put, List.setIfInBounds_toArray, List.set_cons_zero, List.set_cons_succ, i64_w, i32_w]
          rfl
        refine pure_ (i := 10) (N := some 43) (v := ?_) (a' := ?_) #[true, true, true, true, true, true, true, false, true, true, true, false, false, false, false] rfl rfl (by kernel_rfl) (fun _ _ _ h => h) (Or.inl ⟨by rfl, ?_⟩) ?_ ?_
        rotate_left
        · intro w'
          go_simp
          with_reducible rfl
        rotate_left
        · simp only [Act.put, List.setIfInBounds_toArray, List.set_cons_zero, List.set_cons_succ, i64_w, i32_w]
          rfl
        refine pure_ (i := 11) (N := some 44) (v := ?_) (a' := ?_) #[true, true, true, true, true, true, true, false, true, true, true, true, false, false, false] rfl rfl (by kernel_rfl) (fun _ _ _ h => h) (Or.inl ⟨by rfl, ?_⟩) ?_ ?_
        rotate_left
        · intro w'
          go_simp
          with_reducible rfl
        rotate_left
        · simp only [Act.put, List.setIfInBounds_toArray, List.set_cons_zero, List.set_cons_succ, i64_w, i32_w]
          rfl
        refine take_ (i := 7) (N := some 40) (v := ?_) (a' := ?_) #[true, true, true, true, true, true, true, true, true, true, true, true, false, false, false] rfl rfl (by kernel_rfl) (fun _ _ _ h => h) (Or.inl ⟨by rfl, ?_⟩) hHeld ?_ ?_
        rotate_left
        · rintro w' ⟨s0, s1⟩
          go_simp
          with_reducible rfl
        rotate_left
        · simp only [Act.put, List.setIfInBounds_toArray, List.set_cons_zero, List.set_cons_succ, i64_w, i32_w]
          rfl
        refine take_ (i := 12) (N := some 45) (v := ?_) (a' := ?_) #[true, true, true, true, true, true, true, true, true, true, true, true, true, false, false] rfl rfl (by kernel_rfl) (fun _ _ _ h => h) (Or.inl ⟨by rfl, ?_⟩) hHeld ?_ ?_
        rotate_left
        · rintro w' ⟨s0, s1⟩
          go_simp
          with_reducible rfl
        rotate_left
        · simp only [Act.put, List.setIfInBounds_toArray, List.set_cons_zero, List.set_cons_succ, i64_w, i32_w]
          rfl
        refine one_ (i := 13) (N := some 46) #[true, true, true, true, true, true, true, true, true, true, true, true, true, true, false] rfl rfl (by kernel_rfl) (by decide) (fun K hK => ?_)
        refine goes_ Tryd.func23 (by kernel_rfl) rfl #[.slice A2 kq.length d2, .string k.f1] (by rfl) rfl rfl (by simp only [List.map_toArray, List.map_cons, List.map_nil]; rfl) ?_
        with_reducible refine (rosterlaw09_longer.calls A2 d2 kq k.f1 ky _ (by exact CS_of_row (HR2.out.on (fun _ => rfl)) (by have := HKY.out.len; omega)) HR2.out.cap HLF.out).mono ?_
        rintro e W7 ⟨v7, rfl, ho, hb⟩
        obtain ⟨A7, c7, rfl⟩ := Kd.R_slice ho
        have HB7 : Hid (Below wr.heap.size wr W7) := Lib.hid (by repeat (first | exact hb | apply undrewN | apply undrew1))
        have HO7 : Hid (Kd.R Kd.string 9 W7 wr.heap.size (fun _ => True) (.slice A7 ky.length c7) ky) := Lib.hid ho
        clear ho hb
        refine ⟨_, rfl, ?_⟩
        refine hK.out _ _ ⟨(HB7.out.cell (p := ⟨ob, oo + q * 4 + 2, none⟩) hobw).trans e2, (HB7.out.cell (p := ⟨kb, ko + i * 2 + 1, none⟩) hkbw).trans kp⟩ (fun hHeld => ?_)
        clear hK K
        refine norm_ (a' := ?_) ?_ ?_
        rotate_left
        · show Act.put _ (some 46) _ = _
          simp only [Act.put, List.setIfInBounds_toArray, List.set_cons_zero, List.set_cons_succ, i64_w, i32_w]
          rfl
        refine pure_ (i := 14) (N := some 9) (v := ?_) (a' := ?_) #[true, true, true, true, true, true, true, true, true, true, true, true, true, true, true] rfl rfl (by kernel_rfl) (fun _ _ _ h => h) (Or.inl ⟨by rfl, ?_⟩) ?_ ?_
        rotate_left
        · intro w'
          go_simp
          with_reducible rfl
        rotate_left
        · simp only [Act.put, List.setIfInBounds_toArray, List.set_cons_zero, List.set_cons_succ, i64_w, i32_w]
          rfl
        refine done_ (by kernel_rfl) ?_
        rcases hamc with ⟨hlt8, hst⟩ | ⟨hlt8, hst⟩
        · have HST := Lib.hid hst
          clear hst
          go_wp2_with (first
            | (go_at_call 24; go_loud ((with_reducible refine (rosterlaw09_among.calls ka (some ⟨ob, oo, none⟩) cO l A7 c7 ky am W7 (Kd.C_below HCO.out HB7.out) hcO' (Kd.R_reads' HO7.out).2.2 (Kd.R_reads' HO7.out).2.1 HKA.out).mono ?_); rintro e W8 ⟨rfl, hd⟩; have HB8 : Hid (Below wr.heap.size wr W8) := Lib.hid (HB7.out.trans (hd.below.mono HB7.out.size)); have HO8 : Hid (Kd.R Kd.string 9 W8 wr.heap.size (fun _ => True) (.slice A7 ky.length c7) ky) := Lib.hid (Kd.R_below HO7.out hd.below); have kp8 := (HB8.out.cell (p := ⟨kb, ko + i * 2 + 1, none⟩) hkbw).trans kp; clear hd))
            | go_in)
          obtain ⟨W9, eW9⟩ : ∃ W, W = (W8.alloc (.cells #[.string k.f1] 9)).alloc (.cells #[.string ⟨#[99, 110]⟩, .string ⟨#[99, 110]⟩, .slice (some ⟨W8.heap.size, 0, none⟩) 1 1] 74) := ⟨_, rfl⟩
          have HB9 : Hid (Below W8.heap.size W8 W9) := Lib.hid (by rw [eW9]; exact below_alloc (below_alloc (Below.refl _ _) _) _)
          have HX9 : Hid (Kd.R Kd.string 9 W9 w.heap.size (fun q => wr.heap.size ≤ q) (.slice (some ⟨W8.heap.size, 0, none⟩) 1 1) [k.f1]) := Lib.hid (by rw [eW9]; exact part_own (Nat.le_trans HBW.out.size HB8.out.size) HB8.out.size _)
          have cA := attr_cells W8 k.f1
          rw [← eW9] at cA ⊢
          obtain ⟨a0, a1, a2⟩ := cA
          have kp9 := (HB9.out.cell (p := ⟨kb, ko + i * 2 + 1, none⟩) (World.block_lt_of_cell? W8 _ kp8)).trans kp8
          have HB90 : Hid (Below wr.heap.size wr W9) := Lib.hid (HB8.out.trans (HB9.out.mono HB8.out.size))
          have g2lt := World.block_lt_of_cell? W9 _ a0
          have kblt : kb < W9.heap.size := World.block_lt_of_cell? W9 _ kp9
          obtain ⟨g1, hg1⟩ : ∃ g, g = W8.heap.size := ⟨_, rfl⟩
          rw [← hg1] at a0 a1 a2 HX9 g2lt ⊢
          clear eW9 hg1
          go_wp2
          refine start_ (n := 15) (S := fun w' => w'.cell? ⟨kb, ko + i * 2 + 1, none⟩ = some (.string k.f1) ∧ w'.cell? ⟨g1 + 1, 0, none⟩ = some (.string ⟨#[99, 110]⟩) ∧ w'.cell? ⟨g1 + 1, 1, none⟩ = some (.string ⟨#[99, 110]⟩) ∧ w'.cell? ⟨g1 + 1, 2, none⟩ = some (.slice (some ⟨g1, 0, none⟩) 1 1)) (ds := [13]) #[false, false, false, false, false, false, false, false, false, false, false, false, false, false, false] (by kernel_rfl) rfl rfl ⟨kp9, a0, a1, a2⟩ (fun hHeld => ?_)
          refine pure_ (i := 0) (N := some 58) (v := ?_) (a' := ?_) #[true, false, false, false, false, false, false, false, false, false, false, false, false, false, false] rfl rfl (by kernel_rfl) (fun _ _ _ h => h) (Or.inl ⟨by rfl, ?_⟩) ?_ ?_
          rotate_left
          · intro w'
            go_simp
            with_reducible rfl
          rotate_left
          · simp only [Act.put, List.setIfInBounds_toArray, List.set_cons_zero, List.set_cons_succ, i64_w, i32_w]
            rfl
          refine pure_ (i := 1) (N := some 59) (v := ?_) (a' := ?_) #[true, true, false, false, false, false, false, false, false, false, false, false, false, false, false] rfl rfl (by kernel_rfl) (fun _ _ _ h => h) (Or.inl ⟨by rfl, ?_⟩) ?_ ?_
          rotate_left
          · intro w'
            go_simp
            with_reducible rfl
          rotate_left
          · simp only [Act.put, List.setIfInBounds_toArray, List.set_cons_zero, List.set_cons_succ, i64_w, i32_w]
            rfl
          refine pure_ (i := 2) (N := some 60) (v := ?_) (a' := ?_) #[true, true, true, false, false, false, false, false, false, false, false, false, false, false, false] rfl rfl (by kernel_rfl) (fun _ _ _ h => h) (Or.inl ⟨by rfl, ?_⟩) ?_ ?_
          rotate_left
          · intro w'
            go_simp
            with_reducible rfl
          rotate_left
          · simp only [Act.put, List.setIfInBounds_toArray, List.set_cons_zero, List.set_cons_succ, i64_w, i32_w]
            rfl
          refine pure_ (i := 3) (N := some 61) (v := ?_) (a' := ?_) #[true, true, true, true, false, false, false, false, false, false, false, false, false, false, false] rfl rfl (by kernel_rfl) (fun _ _ _ h => h) (Or.inl ⟨by rfl, ?_⟩) ?_ ?_
          rotate_left
          · intro w'
            go_simp
            with_reducible rfl
          rotate_left
          · simp only [Act.put, List.setIfInBounds_toArray, List.set_cons_zero, List.set_cons_succ, i64_w, i32_w]
            rfl
          refine pure_ (i := 4) (N := some 62) (v := ?_) (a' := ?_) #[true, true, true, true, true, false, false, false, false, false, false, false, false, false, false] rfl rfl (by kernel_rfl) (fun _ _ _ h => h) (Or.inl ⟨by rfl, ?_⟩) ?_ ?_
          rotate_left
          · intro w'
            go_simp
            with_reducible rfl
          rotate_left
          · simp only [Act.put, List.setIfInBounds_toArray, List.set_cons_zero, List.set_cons_succ, i64_w, i32_w]
            rfl
          refine pure_ (i := 5) (N := some 63) (v := ?_) (a' := ?_) #[true, true, true, true, true, true, false, false, false, false, false, false, false, false, false] rfl rfl (by kernel_rfl) (fun _ _ _ h => h) (Or.inl ⟨by rfl, ?_⟩) ?_ ?_
          rotate_left
          · intro w'
            go_simp
            with_reducible rfl
          rotate_left
          · simp only [Act.put, List.setIfInBounds_toArray, List.set_cons_zero, List.set_cons_succ, i64_w, i32_w]
            rfl
          refine pure_ (i := 6) (N := some 64) (v := ?_) (a' := ?_) #[true, true, true, true, true, true, true, false, false, false, false, false, false, false, false] rfl rfl (by kernel_rfl) (fun _ _ _ h => h) (Or.inl ⟨by rfl, ?_⟩) ?_ ?_
          rotate_left
          · intro w'
            go_simp
            with_reducible rfl
          rotate_left
          · simp only [Act.put, List.setIfInBounds_toArray, List.set_cons_zero, List.set_cons_succ, i64_w, i32_w]
            rfl
          refine pure_ (i := 8) (N := some 66) (v := ?_) (a' := ?_) #[true, true, true, true, true, true, true, false, true, false, false, false, false, false, false] rfl rfl (by kernel_rfl) (fun _ _ _ h => h) (Or.inl ⟨by rfl, ?_⟩) ?_ ?_
          rotate_left
          · intro w'
            go_simp
            with_reducible rfl
          rotate_left
          · simp only [Act.put, List.setIfInBounds_toArray, List.set_cons_zero, List.set_cons_succ, i64_w, i32_w]
            rfl
          refine take_ (i := 7) (N := some 65) (v := ?_) (a' := ?_) #[true, true, true, true, true, true, true, true, true, false, false, false, false, false, false] rfl rfl (by kernel_rfl) (fun _ _ _ h => h) (Or.inl ⟨by rfl, ?_⟩) hHeld ?_ ?_
          rotate_left
          · rintro w' ⟨s0, s1, s2, s3⟩
            go_simp
            with_reducible rfl
          rotate_left
          · simp only [Act.put, List.setIfInBounds_toArray, List.set_cons_zero, List.set_cons_succ, i64_w, i32_w]
            rfl
          refine take_ (i := 9) (N := some 67) (v := ?_) (a' := ?_) #[true, true, true, true, true, true, true, true, true, true, false, false, false, false, false] rfl rfl (by kernel_rfl) (fun _ _ _ h => h) (Or.inl ⟨by rfl, ?_⟩) hHeld ?_ ?_
          rotate_left
          · rintro w' ⟨s0, s1, s2, s3⟩
            go_simp
            with_reducible rfl
          rotate_left
          · simp only [Act.put, List.setIfInBounds_toArray, List.set_cons_zero, List.set_cons_succ, i64_w, i32_w]
            rfl
          refine one_ (i := 10) (N := some 68) #[true, true, true, true, true, true, true, true, true, true, true, false, false, false, false] rfl rfl (by kernel_rfl) (by decide) (fun K hK => ?_)
          refine value_ (w1 := ?_) (v := ?_) (by rfl) rfl ?_ ?_
          rotate_left 2
          · go_simp
            constructor
            · rfl
            · rfl
          refine hK.out _ _ ⟨((by repeat (first | exact Below.refl _ _ | apply below_alloc | apply pw_below_drewN | apply below_drew1) : Below W9.heap.size W9 _).cell (p := ⟨kb, ko + i * 2 + 1, none⟩) kblt).trans kp9, ((by repeat (first | exact Below.refl _ _ | apply below_alloc | apply pw_below_drewN | apply below_drew1) : Below W9.heap.size W9 _).cell (p := ⟨g1 + 1, 0, none⟩) g2lt).trans a0, ((by repeat (first | exact Below.refl _ _ | apply below_alloc | apply pw_below_drewN | apply below_drew1) : Below W9.heap.size W9 _).cell (p := ⟨g1 + 1, 1, none⟩) g2lt).trans a1, ((by repeat (first | exact Below.refl _ _ | apply below_alloc | apply pw_below_drewN | apply below_drew1) : Below W9.heap.size W9 _).cell (p := ⟨g1 + 1, 2, none⟩) g2lt).trans a2⟩ (fun hHeld => ?_)
          clear hK K
          refine norm_ (a' := ?_) ?_ ?_
          rotate_left
          · show Act.put _ (some 68) _ = _
            simp only [Act.put, List.setIfInBounds_toArray, List.set_cons_zero, List.set_cons_succ, i64_w, i32_w]
            rfl
          refine pure_ (i := 11) (N := some 69) (v := ?_) (a' := ?_) #[true, true, true, true, true, true, true, true, true, true, true, true, false, false, false] rfl rfl (by kernel_rfl) (fun _ _ _ h => h) (Or.inl ⟨by rfl, ?_⟩) ?_ ?_
          rotate_left
          · intro w'
            go_simp
            with_reducible rfl
          rotate_left
          · simp only [Act.put, List.setIfInBounds_toArray, List.set_cons_zero, List.set_cons_succ, i64_w, i32_w]
            rfl
          refine one_ (i := 12) (N := some 70) #[true, true, true, true, true, true, true, true, true, true, true, true, true, false, false] rfl rfl (by kernel_rfl) (by decide) (fun K hK => ?_)
          refine value_ (w1 := ?_) (v := ?_) (by rfl) rfl ?_ ?_
          rotate_left 2
          · go_simp
            constructor
            · rfl
            · rfl
          refine hK.out _ _ ⟨((by repeat (first | exact Below.refl _ _ | apply below_alloc | apply pw_below_drewN | apply below_drew1) : Below W9.heap.size W9 _).cell (p := ⟨kb, ko + i * 2 + 1, none⟩) kblt).trans kp9, ((by repeat (first | exact Below.refl _ _ | apply below_alloc | apply pw_below_drewN | apply below_drew1) : Below W9.heap.size W9 _).cell (p := ⟨g1 + 1, 0, none⟩) g2lt).trans a0, ((by repeat (first | exact Below.refl _ _ | apply below_alloc | apply pw_below_drewN | apply below_drew1) : Below W9.heap.size W9 _).cell (p := ⟨g1 + 1, 1, none⟩) g2lt).trans a1, ((by repeat (first | exact Below.refl _ _ | apply below_alloc | apply pw_below_drewN | apply below_drew1) : Below W9.heap.size W9 _).cell (p := ⟨g1 + 1, 2, none⟩) g2lt).trans a2⟩ (fun hHeld => ?_)
          clear hK K
          refine norm_ (a' := ?_) ?_ ?_
          rotate_left
          · show Act.put _ (some 70) _ = _
            simp only [Act.put, List.setIfInBounds_toArray, List.set_cons_zero, List.set_cons_succ, i64_w, i32_w]
            rfl
          refine last_ (i := 13) (N := some 71) #[true, true, true, true, true, true, true, true, true, true, true, true, true, true, false] rfl rfl (by kernel_rfl) (by decide) (fun K hK => ?_)
          refine Kd.R_append_step k45 (w0 := w) (W := (W9.alloc (.cells #[.string ⟨#[99, 110]⟩, .string ⟨#[99, 110]⟩, .slice (some ⟨g1, 0, none⟩) 1 1] 74)).drew) w.heap.size (by rfl) (.tmp 58) (.tmp 70) 22 45 (.agg #[(.int .i64 0), (.string ⟨#[]⟩), (.slice none 0 0), (.slice none 0 0)]) 72 rfl Tryd.underlying22 info45 rfl (by decide) (by decide) (.slice (some ⟨ob, oo, none⟩) l.length cO) l (entG l i k) [.int .i64 ((i : Int) + 2), .string k.f1, .slice A7 ky.length c7, .slice (some ⟨W9.heap.size, 0, none⟩) 1 1] (fun _ => True) (fun q => wr.heap.size ≤ q) rfl (by rw [show ((W9.alloc (.cells #[.string ⟨#[99, 110]⟩, .string ⟨#[99, 110]⟩, .slice (some ⟨g1, 0, none⟩) 1 1] 74)).drew).heap.size = W9.heap.size + 1 from World.size_alloc _ _]; rfl) ?aP ?aK (fun _ _ => trivial) ?aO ?aB ?aS ?aL ?_
          case aP => exact entry_own (V := W9.drew) HKQ.out HBW.out.size (Kd.R_below HO8.out HB9.out) HX9.out HB90.out.size (below_drew1 (Below.refl _ _)) rfl
          case aK => exact (fun y hy => ⟨trivial, fun e => by have e : y = ob := Option.some.inj e; omega⟩)
          case aO => exact Kd.R_below HOW.out (HB90.out.trans ((by repeat (first | exact Below.refl _ _ | apply below_alloc | apply pw_below_drewN | apply below_drew1) : Below W9.heap.size W9 _).mono HB90.out.size))
          case aB => exact HBW.out.trans ((HB90.out.trans ((by repeat (first | exact Below.refl _ _ | apply below_alloc | apply pw_below_drewN | apply below_drew1) : Below W9.heap.size W9 _).mono HB90.out.size)).mono HBW.out.size)
          case aS => exact Nat.le_trans (Nat.le_trans HBW.out.size HB90.out.size) (by repeat (first | exact Below.refl _ _ | apply below_alloc | apply pw_below_drewN | apply below_drew1) : Below W9.heap.size W9 _).size
          case aL => omega
          intro v1 w1 ho hb hg hat
          have HN : Hid (GW w root kids (i + 1) v1 w1) := Lib.hid ⟨hb, by rw [HSU.out, HST.out]; exact ho⟩
          clear ho hb hg hat
          refine hK.out _ _ ?_
          clear hK K
          refine norm_ (a' := ?_) ?_ ?_
          rotate_left
          · show Act.put _ (some 71) _ = _
            simp only [Act.put, List.setIfInBounds_toArray, List.set_cons_zero, List.set_cons_succ, i64_w, i32_w]
            rfl
          refine pure_ (i := 14) (N := some 6) (v := ?_) (a' := ?_) #[true, true, true, true, true, true, true, true, true, true, true, true, true, true, true] rfl rfl (by kernel_rfl) (fun _ _ _ h => h) (Or.inl ⟨by rfl, ?_⟩) ?_ ?_
          rotate_left
          · intro w'
            go_simp
            with_reducible rfl
          rotate_left
          · simp only [Act.put, List.setIfInBounds_toArray, List.set_cons_zero, List.set_cons_succ, i64_w, i32_w]
            rfl
          refine done_ (by kernel_rfl) ?_
          go_wp2
          go_roundw
          case rel => exact ⟨i + 1, by omega, by go_num, HN⟩
          case measure => simp [intOf]; omega
        · go_wp2_with (first
            | (go_at_call 24; go_loud ((with_reducible refine (rosterlaw09_among.calls ka (some ⟨ob, oo, none⟩) cO l A7 c7 ky am W7 (Kd.C_below HCO.out HB7.out) hcO' (Kd.R_reads' HO7.out).2.2 (Kd.R_reads' HO7.out).2.1 HKA.out).mono ?_); rintro e W8 ⟨rfl, hd⟩; have HB8 : Hid (Below wr.heap.size wr W8) := Lib.hid (HB7.out.trans (hd.below.mono HB7.out.size)); have HO8 : Hid (Kd.R Kd.string 9 W8 wr.heap.size (fun _ => True) (.slice A7 ky.length c7) ky) := Lib.hid (Kd.R_below HO7.out hd.below); have kp8 := (HB8.out.cell (p := ⟨kb, ko + i * 2 + 1, none⟩) hkbw).trans kp; clear hd))
            | go_in)
          have HN : Hid (GW w root kids (i + 1) (.slice (some ⟨ob, oo, none⟩) l.length cO) W8) := Lib.hid ⟨HBW.out.trans (HB8.out.mono HBW.out.size), by rw [HSU.out, hst]; exact Kd.R_below HOW.out HB8.out⟩
          go_roundw
          case rel => exact ⟨i + 1, by omega, by go_num, HN⟩
          case measure => simp [intOf]; omega
      · have hw2 : uu = k.f0 := by rw [huu, under, if_neg hneg]
        rw [hw2] at hrm
        clear huu
        clear hw2
        go_wp2
        refine start_ (n := 15) (S := fun w' => w'.cell? ⟨ob, oo + q * 4 + 2, none⟩ = some (.slice A2 kq.length d2) ∧ w'.cell? ⟨kb, ko + i * 2 + 1, none⟩ = some (.string k.f1)) (ds := []) #[false, false, false, false, false, false, false, false, false, false, false, false, false, false, false] (by kernel_rfl) rfl rfl ⟨e2, kp⟩ (fun hHeld => ?_)
        refine pure_ (i := 0) (N := some 33) (v := ?_) (a' := ?_) #[true, false, false, false, false, false, false, false, false, false, false, false, false, false, false] rfl rfl (by kernel_rfl) (fun _ _ _ h => h) (Or.inl ⟨by rfl, ?_⟩) ?_ ?_
        rotate_left
        · intro w'
          go_simp
          with_reducible rfl
        rotate_left
        · simp only [Act.put, List.setIfInBounds_toArray, List.set_cons_zero, List.set_cons_succ, i64_w, i32_w]
          rfl
        refine pure_ (i := 1) (N := some 34) (v := ?_) (a' := ?_) #[true, true, false, false, false, false, false, false, false, false, false, false, false, false, false] rfl rfl (by kernel_rfl) (fun _ _ _ h => h) (Or.inl ⟨by rfl, ?_⟩) ?_ ?_
        rotate_left
        · intro w'
          go_simp
          with_reducible rfl
        rotate_left
        · simp only [Act.put, List.setIfInBounds_toArray, List.set_cons_zero, List.set_cons_succ, i64_w, i32_w]
          rfl
        refine pure_ (i := 2) (N := some 35) (v := ?_) (a' := ?_) #[true, true, true, false, false, false, false, false, false, false, false, false, false, false, false] rfl rfl (by kernel_rfl) (fun _ _ _ h => h) (Or.inl ⟨by rfl, ?_⟩) ?_ ?_
        rotate_left
        · intro w'
          go_simp
          with_reducible rfl
        rotate_left
        · simp only [Act.put, List.setIfInBounds_toArray, List.set_cons_zero, List.set_cons_succ, i64_w, i32_w]
          rfl
        refine pure_ (i := 3) (N := some 36) (v := ?_) (a' := ?_) #[true, true, true, true, false, false, false, false, false, false, false, false, false, false, false] rfl rfl (by kernel_rfl) (fun _ _ _ h => h) (Or.inl ⟨by rfl, ?_⟩) ?_ ?_
        rotate_left
        · intro w'
          go_simp
          with_reducible rfl
        rotate_left
        · simp only [Act.put, List.setIfInBounds_toArray, List.set_cons_zero, List.set_cons_succ, i64_w, i32_w]
          rfl
        refine pure_ (i := 4) (N := some 37) (v := ?_) (a' := ?_) #[true, true, true, true, true, false, false, false, false, false, false, false, false, false, false] rfl rfl (by kernel_rfl) (fun _ _ _ h => h) (Or.inl ⟨by rfl, ?_⟩) ?_ ?_
        rotate_left
        · intro w'
          go_simp
          with_reducible rfl
        rotate_left
        · simp only [Act.put, List.setIfInBounds_toArray, List.set_cons_zero, List.set_cons_succ, i64_w, i32_w]
          rfl
        refine pure_ (i := 5) (N := some 38) (v := ?_) (a' := ?_) #[true, true, true, true, true, true, false, false, false, false, false, false, false, false, false] rfl rfl (by kernel_rfl) (fun _ _ _ h => h) (Or.inl ⟨by rfl, ?_⟩) ?_ ?_
        rotate_left
        · intro w'
          go_simp
          with_reducible rfl
        rotate_left
        · simp only [Act.put, List.setIfInBounds_toArray, List.set_cons_zero, List.set_cons_succ, i64_w, i32_w]
          rfl
        refine pure_ (i := 6) (N := some 39) (v := ?_) (a' := ?_) #[true, true, true, true, true, true, true, false, false, false, false, false, false, false, false] rfl rfl (by kernel_rfl) (fun _ _ _ h => h) (Or.inl ⟨by rfl, ?_⟩) ?_ ?_
        rotate_left
        · intro w'
          go_simp
          with_reducible rfl
        rotate_left
        · simp only [Act.put, List.setIfInBounds_toArray, List.set_cons_zero, List.set_cons_succ, i64_w, i32_w]
          rfl
        refine pure_ (i := 8) (N := some 41) (v := ?_) (a' := ?_) #[true, true, true, true, true, true, true, false, true, false, false, false, false, false, false] rfl rfl (by kernel_rfl) (fun _ _ _ h => h) (Or.inl ⟨by rfl, ?_⟩) ?_ ?_
        rotate_left
        · intro w'
          go_simp
          with_reducible rfl
        rotate_left
        · simp only [Act.put, List.setIfInBounds_toArray, List.set_cons_zero, List.set_cons_succ, i64_w, i32_w]
          rfl
        refine pure_ (i := 9) (N := some 42) (v := ?_) (a' := ?_) #[true, true, true, true, true, true, true, false, true, true, false, false, false, false, false] rfl rfl (by kernel_rfl) (fun _ _ _ h => h) (Or.inl ⟨by rfl, ?_⟩) ?_ ?_
        rotate_left
        · intro w'
          go_simp
          with_reducible rfl
        rotate_left
        · simp only [Act.put, List.setIfInBounds_toArray, List.set_cons_zero, List.set_cons_succ, i64_w, i32_w]
          rfl
        refine pure_ (i := 10) (N := some 43) (v := ?_) (a' := ?_) #[true, true, true, true, true, true, true, false, true, true, true, false, false, false, false] rfl rfl (by kernel_rfl) (fun _ _ _ h => h) (Or.inl ⟨by rfl, ?_⟩) ?_ ?_
        rotate_left
        · intro w'
          go_simp
          with_reducible rfl
        rotate_left
        · simp only [Act.put, List.setIfInBounds_toArray, List.set_cons_zero, List.set_cons_succ, i64_w, i32_w]
          rfl
        refine pure_ (i := 11) (N := some 44) (v := ?_) (a' := ?_) #[true, true, true, true, true, true, true, false, true, true, true, true, false, false, false] rfl rfl (by kernel_rfl) (fun _ _ _ h => h) (Or.inl ⟨by rfl, ?_⟩) ?_ ?_
        rotate_left
        · intro w'
          go_simp
          with_reducible rfl
        rotate_left
        · simp only [Act.put, List.setIfInBounds_toArray, List.set_cons_zero, List.set_cons_succ, i64_w, i32_w]
          rfl
        refine take_ (i := 7) (N := some 40) (v := ?_) (a' := ?_) #[true, true, true, true, true, true, true, true, true, true, true, true, false, false, false] rfl rfl (by kernel_rfl) (fun _ _ _ h => h) (Or.inl ⟨by rfl, ?_⟩) hHeld ?_ ?_
        rotate_left
        · rintro w' ⟨s0, s1⟩
          go_simp
          with_reducible rfl
        rotate_left
        · simp only [Act.put, List.setIfInBounds_toArray, List.set_cons_zero, List.set_cons_succ, i64_w, i32_w]
          rfl
        refine take_ (i := 12) (N := some 45) (v := ?_) (a' := ?_) #[true, true, true, true, true, true, true, true, true, true, true, true, true, false, false] rfl rfl (by kernel_rfl) (fun _ _ _ h => h) (Or.inl ⟨by rfl, ?_⟩) hHeld ?_ ?_
        rotate_left
        · rintro w' ⟨s0, s1⟩
          go_simp
          with_reducible rfl
        rotate_left
        · simp only [Act.put, List.setIfInBounds_toArray, List.set_cons_zero, List.set_cons_succ, i64_w, i32_w]
          rfl
        refine one_ (i := 13) (N := some 46) #[true, true, true, true, true, true, true, true, true, true, true, true, true, true, false] rfl rfl (by kernel_rfl) (by decide) (fun K hK => ?_)
        refine goes_ Tryd.func23 (by kernel_rfl) rfl #[.slice A2 kq.length d2, .string k.f1] (by rfl) rfl rfl (by simp only [List.map_toArray, List.map_cons, List.map_nil]; rfl) ?_
        with_reducible refine (rosterlaw09_longer.calls A2 d2 kq k.f1 ky _ (by exact CS_of_row (HR2.out.on (fun _ => rfl)) (by have := HKY.out.len; omega)) HR2.out.cap HLF.out).mono ?_
        rintro e W7 ⟨v7, rfl, ho, hb⟩
        obtain ⟨A7, c7, rfl⟩ := Kd.R_slice ho
        have HB7 : Hid (Below wr.heap.size wr W7) := Lib.hid (by repeat (first | exact hb | apply undrewN | apply undrew1))
        have HO7 : Hid (Kd.R Kd.string 9 W7 wr.heap.size (fun _ => True) (.slice A7 ky.length c7) ky) := Lib.hid ho
        clear ho hb
        refine ⟨_, rfl, ?_⟩
        refine hK.out _ _ ⟨(HB7.out.cell (p := ⟨ob, oo + q * 4 + 2, none⟩) hobw).trans e2, (HB7.out.cell (p := ⟨kb, ko + i * 2 + 1, none⟩) hkbw).trans kp⟩ (fun hHeld => ?_)
        clear hK K
        refine norm_ (a' := ?_) ?_ ?_
        rotate_left
        · show Act.put _ (some 46) _ = _
          simp only [Act.put, List.setIfInBounds_toArray, List.set_cons_zero, List.set_cons_succ, i64_w, i32_w]
          rfl
        refine pure_ (i := 14) (N := some 9) (v := ?_) (a' := ?_) #[true, true, true, true, true, true, true, true, true, true, true, true, true, true, true] rfl rfl (by kernel_rfl) (fun _ _ _ h => h) (Or.inl ⟨by rfl, ?_⟩) ?_ ?_
        rotate_left
        · intro w'
          go_simp
          with_reducible rfl
        rotate_left
        · simp only [Act.put, List.setIfInBounds_toArray, List.set_cons_zero, List.set_cons_succ, i64_w, i32_w]
          rfl
        refine done_ (by kernel_rfl) ?_
        rcases hamc with ⟨hlt8, hst⟩ | ⟨hlt8, hst⟩
        · have HST := Lib.hid hst
          clear hst
          go_wp2_with (first
            | (go_at_call 24; go_loud ((with_reducible refine (rosterlaw09_among.calls ka (some ⟨ob, oo, none⟩) cO l A7 c7 ky am W7 (Kd.C_below HCO.out HB7.out) hcO' (Kd.R_reads' HO7.out).2.2 (Kd.R_reads' HO7.out).2.1 HKA.out).mono ?_); rintro e W8 ⟨rfl, hd⟩; have HB8 : Hid (Below wr.heap.size wr W8) := Lib.hid (HB7.out.trans (hd.below.mono HB7.out.size)); have HO8 : Hid (Kd.R Kd.string 9 W8 wr.heap.size (fun _ => True) (.slice A7 ky.length c7) ky) := Lib.hid (Kd.R_below HO7.out hd.below); have kp8 := (HB8.out.cell (p := ⟨kb, ko + i * 2 + 1, none⟩) hkbw).trans kp; clear hd))
            | go_in)
          obtain ⟨W9, eW9⟩ : ∃ W, W = (W8.alloc (.cells #[.string k.f1] 9)).alloc (.cells #[.string ⟨#[99, 110]⟩, .string ⟨#[99, 110]⟩, .slice (some ⟨W8.heap.size, 0, none⟩) 1 1] 74) := ⟨_, rfl⟩
          have HB9 : Hid (Below W8.heap.size W8 W9) := Lib.hid (by rw [eW9]; exact below_alloc (below_alloc (Below.refl _ _) _) _)
          have HX9 : Hid (Kd.R Kd.string 9 W9 w.heap.size (fun q => wr.heap.size ≤ q) (.slice (some ⟨W8.heap.size, 0, none⟩) 1 1) [k.f1]) := Lib.hid (by rw [eW9]; exact part_own (Nat.le_trans HBW.out.size HB8.out.size) HB8.out.size _)
          have cA := attr_cells W8 k.f1
          rw [← eW9] at cA ⊢
          obtain ⟨a0, a1, a2⟩ := cA
          have kp9 := (HB9.out.cell (p := ⟨kb, ko + i * 2 + 1, none⟩) (World.block_lt_of_cell? W8 _ kp8)).trans kp8
          have HB90 : Hid (Below wr.heap.size wr W9) := Lib.hid (HB8.out.trans (HB9.out.mono HB8.out.size))
          have g2lt := World.block_lt_of_cell? W9 _ a0
          have kblt : kb < W9.heap.size := World.block_lt_of_cell? W9 _ kp9
          obtain ⟨g1, hg1⟩ : ∃ g, g = W8.heap.size := ⟨_, rfl⟩
          rw [← hg1] at a0 a1 a2 HX9 g2lt ⊢
          clear eW9 hg1
          go_wp2
          refine start_ (n := 15) (S := fun w' => w'.cell? ⟨kb, ko + i * 2 + 1, none⟩ = some (.string k.f1) ∧ w'.cell? ⟨g1 + 1, 0, none⟩ = some (.string ⟨#[99, 110]⟩) ∧ w'.cell? ⟨g1 + 1, 1, none⟩ = some (.string ⟨#[99, 110]⟩) ∧ w'.cell? ⟨g1 + 1, 2, none⟩ = some (.slice (some ⟨g1, 0, none⟩) 1 1)) (ds := [13]) #[false, false, false, false, false, false, false, false, false, false, false, false, false, false, false] (by kernel_rfl) rfl rfl ⟨kp9, a0, a1, a2⟩ (fun hHeld => ?_)
          refine pure_ (i := 0) (N := some 58) (v := ?_) (a' := ?_) #[true, false, false, false, false, false, false, false, false, false, false, false, false, false, false] rfl rfl (by kernel_rfl) (fun _ _ _ h => h) (Or.inl ⟨by rfl, ?_⟩) ?_ ?_
          rotate_left
          · intro w'
            go_simp
            with_reducible rfl
          rotate_left
          · simp only [Act.put, List.setIfInBounds_toArray, List.set_cons_zero, List.set_cons_succ, i64_w, i32_w]
            rfl
          refine pure_ (i := 1) (N := some 59) (v := ?_) (a' := ?_) #[true, true, false, false, false, false, false, false, false, false, false, false, false, false, false] rfl rfl (by kernel_rfl) (fun _ _ _ h => h) (Or.inl ⟨by rfl, ?_⟩) ?_ ?_
          rotate_left
          · intro w'
            go_simp
            with_reducible rfl
          rotate_left
          · simp only [Act.put, List.setIfInBounds_toArray, List.set_cons_zero, List.set_cons_succ, i64_w, i32_w]
            rfl
          refine pure_ (i := 2) (N := some 60) (v := ?_) (a' := ?_) #[true, true, true, false, false, false, false, false, false, false, false, false, false, false, false] rfl rfl (by kernel_rfl) (fun _ _ _ h => h) (Or.inl ⟨by rfl, ?_⟩) ?_ ?_
          rotate_left
          · intro w'
            go_simp
            with_reducible rfl
          rotate_left
          · simp only [Act.put, List.setIfInBounds_toArray, List.set_cons_zero, List.set_cons_succ, i64_w, i32_w]
            rfl
          refine pure_ (i := 3) (N := some 61) (v := ?_) (a' := ?_) #[true, true, true, true, false, false, false, false, false, false, false, false, false, false, false] rfl rfl (by kernel_rfl) (fun _ _ _ h => h) (Or.inl ⟨by rfl, ?_⟩) ?_ ?_
          rotate_left
          · intro w'
            go_simp
            with_reducible rfl
          rotate_left
          · simp only [Act.put, List.setIfInBounds_toArray, List.set_cons_zero, List.set_cons_succ, i64_w, i32_w]
            rfl
          refine pure_ (i := 4) (N := some 62) (v := ?_) (a' := ?_) #[true, true, true, true, true, false, false, false, false, false, false, false, false, false, false] rfl rfl (by kernel_rfl) (fun _ _ _ h => h) (Or.inl ⟨by rfl, ?_⟩) ?_ ?_
          rotate_left
          · intro w'
            go_simp
            with_reducible rfl
          rotate_left
          · simp only [Act.put, List.setIfInBounds_toArray, List.set_cons_zero, List.set_cons_succ, i64_w, i32_w]
            rfl
          refine pure_ (i := 5) (N := some 63) (v := ?_) (a' := ?_) #[true, true, true, true, true, true, false, false, false, false, false, false, false, false, false] rfl rfl (by kernel_rfl) (fun _ _ _ h => h) (Or.inl ⟨by rfl, ?_⟩) ?_ ?_
          rotate_left
          · intro w'
            go_simp
            with_reducible rfl
          rotate_left
          · simp only [Act.put, List.setIfInBounds_toArray, List.set_cons_zero, List.set_cons_succ, i64_w, i32_w]
            rfl
          refine pure_ (i := 6) (N := some 64) (v := ?_) (a' := ?_) #[true, true, true, true, true, true, true, false, false, false, false, false, false, false, false] rfl rfl (by kernel_rfl) (fun _ _ _ h => h) (Or.inl ⟨by rfl, ?_⟩) ?_ ?_
          rotate_left
          · intro w'
            go_simp
            with_reducible rfl
          rotate_left
          · simp only [Act.put, List.setIfInBounds_toArray, List.set_cons_zero, List.set_cons_succ, i64_w, i32_w]
            rfl
          refine pure_ (i := 8) (N := some 66) (v := ?_) (a' := ?_) #[true, true, true, true, true, true, true, false, true, false, false, false, false, false, false] rfl rfl (by kernel_rfl) (fun _ _ _ h => h) (Or.inl ⟨by rfl, ?_⟩) ?_ ?_
          rotate_left
          · intro w'
            go_simp
            with_reducible rfl
          rotate_left
          · simp only [Act.put, List.setIfInBounds_toArray, List.set_cons_zero, List.set_cons_succ, i64_w, i32_w]
            rfl
          refine take_ (i := 7) (N := some 65) (v := ?_) (a' := ?_) #[true, true, true, true, true, true, true, true, true, false, false, false, false, false, false] rfl rfl (by kernel_rfl) (fun _ _ _ h => h) (Or.inl ⟨by rfl, ?_⟩) hHeld ?_ ?_
          rotate_left
          · rintro w' ⟨s0, s1, s2, s3⟩
            go_simp
            with_reducible rfl
          rotate_left
          · simp only [Act.put, List.setIfInBounds_toArray, List.set_cons_zero, List.set_cons_succ, i64_w, i32_w]
            rfl
          refine take_ (i := 9) (N := some 67) (v := ?_) (a' := ?_) #[true, true, true, true, true, true, true, true, true, true, false, false, false, false, false] rfl rfl (by kernel_rfl) (fun _ _ _ h => h) (Or.inl ⟨by rfl, ?_⟩) hHeld ?_ ?_
          rotate_left
          · rintro w' ⟨s0, s1, s2, s3⟩
            go_simp
            with_reducible rfl
          rotate_left
          · simp only [Act.put, List.setIfInBounds_toArray, List.set_cons_zero, List.set_cons_succ, i64_w, i32_w]
            rfl
          refine one_ (i := 10) (N := some 68) #[true, true, true, true, true, true, true, true, true, true, true, false, false, false, false] rfl rfl (by kernel_rfl) (by decide) (fun K hK => ?_)
          refine value_ (w1 := ?_) (v := ?_) (by rfl) rfl ?_ ?_
          rotate_left 2
          · go_simp
            constructor
            · rfl
            · rfl
          refine hK.out _ _ ⟨((by repeat (first | exact Below.refl _ _ | apply below_alloc | apply pw_below_drewN | apply below_drew1) : Below W9.heap.size W9 _).cell (p := ⟨kb, ko + i * 2 + 1, none⟩) kblt).trans kp9, ((by repeat (first | exact Below.refl _ _ | apply below_alloc | apply pw_below_drewN | apply below_drew1) : Below W9.heap.size W9 _).cell (p := ⟨g1 + 1, 0, none⟩) g2lt).trans a0, ((by repeat (first | exact Below.refl _ _ | apply below_alloc | apply pw_below_drewN | apply below_drew1) : Below W9.heap.size W9 _).cell (p := ⟨g1 + 1, 1, none⟩) g2lt).trans a1, ((by repeat (first | exact Below.refl _ _ | apply below_alloc | apply pw_below_drewN | apply below_drew1) : Below W9.heap.size W9 _).cell (p := ⟨g1 + 1, 2, none⟩) g2lt).trans a2⟩ (fun hHeld => ?_)
          clear hK K
          refine norm_ (a' := ?_) ?_ ?_
          rotate_left
          · show Act.put _ (some 68) _ = _
            simp only [Act.put, List.setIfInBounds_toArray, List.set_cons_zero, List.set_cons_succ, i64_w, i32_w]
            rfl
          refine pure_ (i := 11) (N := some 69) (v := ?_) (a' := ?_) #[true, true, true, true, true, true, true, true, true, true, true, true, false, false, false] rfl rfl (by kernel_rfl) (fun _ _ _ h => h) (Or.inl ⟨by rfl, ?_⟩) ?_ ?_
          rotate_left
          · intro w'
            go_simp
            with_reducible rfl
          rotate_left
          · simp only [Act.put, List.setIfInBounds_toArray, List.set_cons_zero, List.set_cons_succ, i64_w, i32_w]
            rfl
          refine one_ (i := 12) (N := some 70) #[true, true, true, true, true, true, true, true, true, true, true, true, true, false, false] rfl rfl (by kernel_rfl) (by decide) (fun K hK => ?_)
          refine value_ (w1 := ?_) (v := ?_) (by rfl) rfl ?_ ?_
          rotate_left 2
          · go_simp
            constructor
            · rfl
            · rfl
          refine hK.out _ _ ⟨((by repeat (first | exact Below.refl _ _ | apply below_alloc | apply pw_below_drewN | apply below_drew1) : Below W9.heap.size W9 _).cell (p := ⟨kb, ko + i * 2 + 1, none⟩) kblt).trans kp9, ((by repeat (first | exact Below.refl _ _ | apply below_alloc | apply pw_below_drewN | apply below_drew1) : Below W9.heap.size W9 _).cell (p := ⟨g1 + 1, 0, none⟩) g2lt).trans a0, ((by repeat (first | exact Below.refl _ _ | apply below_alloc | apply pw_below_drewN | apply below_drew1) : Below W9.heap.size W9 _).cell (p := ⟨g1 + 1, 1, none⟩) g2lt).trans a1, ((by repeat (first | exact Below.refl _ _ | apply below_alloc | apply pw_below_drewN | apply below_drew1) : Below W9.heap.size W9 _).cell (p := ⟨g1 + 1, 2, none⟩) g2lt).trans a2⟩ (fun hHeld => ?_)
          clear hK K
          refine norm_ (a' := ?_) ?_ ?_
          rotate_left
          · show Act.put _ (some 70) _ = _
            simp only [Act.put, List.setIfInBounds_toArray, List.set_cons_zero, List.set_cons_succ, i64_w, i32_w]
            rfl
          refine last_ (i := 13) (N := some 71) #[true, true, true, true, true, true, true, true, true, true, true, true, true, true, false] rfl rfl (by kernel_rfl) (by decide) (fun K hK => ?_)
          refine Kd.R_append_step k45 (w0 := w) (W := (W9.alloc (.cells #[.string ⟨#[99, 110]⟩, .string ⟨#[99, 110]⟩, .slice (some ⟨g1, 0, none⟩) 1 1] 74)).drew) w.heap.size (by rfl) (.tmp 58) (.tmp 70) 22 45 (.agg #[(.int .i64 0), (.string ⟨#[]⟩), (.slice none 0 0), (.slice none 0 0)]) 72 rfl Tryd.underlying22 info45 rfl (by decide) (by decide) (.slice (some ⟨ob, oo, none⟩) l.length cO) l (entG l i k) [.int .i64 ((i : Int) + 2), .string k.f1, .slice A7 ky.length c7, .slice (some ⟨W9.heap.size, 0, none⟩) 1 1] (fun _ => True) (fun q => wr.heap.size ≤ q) rfl (by rw [show ((W9.alloc (.cells #[.string ⟨#[99, 110]⟩, .string ⟨#[99, 110]⟩, .slice (some ⟨g1, 0, none⟩) 1 1] 74)).drew).heap.size = W9.heap.size + 1 from World.size_alloc _ _]; rfl) ?aP ?aK (fun _ _ => trivial) ?aO ?aB ?aS ?aL ?_
          case aP => exact entry_own (V := W9.drew) HKQ.out HBW.out.size (Kd.R_below HO8.out HB9.out) HX9.out HB90.out.size (below_drew1 (Below.refl _ _)) rfl
          case aK => exact (fun y hy => ⟨trivial, fun e => by have e : y = ob := Option.some.inj e; omega⟩)
          case aO => exact Kd.R_below HOW.out (HB90.out.trans ((by repeat (first | exact Below.refl _ _ | apply below_alloc | apply pw_below_drewN | apply below_drew1) : Below W9.heap.size W9 _).mono HB90.out.size))
          case aB => exact HBW.out.trans ((HB90.out.trans ((by repeat (first | exact Below.refl _ _ | apply below_alloc | apply pw_below_drewN | apply below_drew1) : Below W9.heap.size W9 _).mono HB90.out.size)).mono HBW.out.size)
          case aS => exact Nat.le_trans (Nat.le_trans HBW.out.size HB90.out.size) (by repeat (first | exact Below.refl _ _ | apply below_alloc | apply pw_below_drewN | apply below_drew1) : Below W9.heap.size W9 _).size
          case aL => omega
          intro v1 w1 ho hb hg hat
          have HN : Hid (GW w root kids (i + 1) v1 w1) := Lib.hid ⟨hb, by rw [HSU.out, HST.out]; exact ho⟩
          clear ho hb hg hat
          refine hK.out _ _ ?_
          clear hK K
          refine norm_ (a' := ?_) ?_ ?_
          rotate_left
          · show Act.put _ (some 71) _ = _
            simp only [Act.put, List.setIfInBounds_toArray, List.set_cons_zero, List.set_cons_succ, i64_w, i32_w]
            rfl
          refine pure_ (i := 14) (N := some 6) (v := ?_) (a' := ?_) #[true, true, true, true, true, true, true, true, true, true, true, true, true, true, true] rfl rfl (by kernel_rfl) (fun _ _ _ h => h) (Or.inl ⟨by rfl, ?_⟩) ?_ ?_
          rotate_left
          · intro w'
            go_simp
            with_reducible rfl
          rotate_left
          · simp only [Act.put, List.setIfInBounds_toArray, List.set_cons_zero, List.set_cons_succ, i64_w, i32_w]
            rfl
          refine done_ (by kernel_rfl) ?_
          go_wp2
          go_roundw
          case rel => exact ⟨i + 1, by omega, by go_num, HN⟩
          case measure => simp [intOf]; omega
        · go_wp2_with (first
            | (go_at_call 24; go_loud ((with_reducible refine (rosterlaw09_among.calls ka (some ⟨ob, oo, none⟩) cO l A7 c7 ky am W7 (Kd.C_below HCO.out HB7.out) hcO' (Kd.R_reads' HO7.out).2.2 (Kd.R_reads' HO7.out).2.1 HKA.out).mono ?_); rintro e W8 ⟨rfl, hd⟩; have HB8 : Hid (Below wr.heap.size wr W8) := Lib.hid (HB7.out.trans (hd.below.mono HB7.out.size)); have HO8 : Hid (Kd.R Kd.string 9 W8 wr.heap.size (fun _ => True) (.slice A7 ky.length c7) ky) := Lib.hid (Kd.R_below HO7.out hd.below); have kp8 := (HB8.out.cell (p := ⟨kb, ko + i * 2 + 1, none⟩) hkbw).trans kp; clear hd))
            | go_in)
          have HN : Hid (GW w root kids (i + 1) (.slice (some ⟨ob, oo, none⟩) l.length cO) W8) := Lib.hid ⟨HBW.out.trans (HB8.out.mono HBW.out.size), by rw [HSU.out, hst]; exact Kd.R_below HOW.out HB8.out⟩
          go_roundw
          case rel => exact ⟨i + 1, by omega, by go_num, HN⟩
          case measure => simp [intOf]; omega
    · have hlt : ¬ (i : Int) < (kids.length : Int) := by omega
      obtain rfl : i = kids.length := by omega
      go_wp2
      go_ret
      exact ⟨_, rfl, HW.out.own, HW.out.below⟩
end Go.Proofs.YtnogmaljcocfjaaDoor.DitGr
namespace Go.Proofs.YtnogmaljcocfjaaDoor.DitLaw
open Go Go.Maps Go.RowKit Go.Proofs.YtnogmaljcocfjaaDoor.XK Go.Proofs.YtnogmaljcocfjaaDoor.Blk Go.Proofs.YtnogmaljcocfjaaDoor.DitTab Go.Proofs.YtnogmaljcocfjaaDoor.DitRow Go.Proofs.YtnogmaljcocfjaaDoor.DitTerm Go.Proofs.YtnogmaljcocfjaaDoor.DitMap Go.Proofs.YtnogmaljcocfjaaDoor.DitCheck Go.Proofs.YtnogmaljcocfjaaDoor.DitCopy Go.Proofs.YtnogmaljcocfjaaDoor.DitPure Go.Proofs.YtnogmaljcocfjaaDoor.DitSort Go.Proofs.YtnogmaljcocfjaaDoor.DitBuild Go.Proofs.YtnogmaljcocfjaaDoor.DitMeth Go.Proofs.YtnogmaljcocfjaaDoor.DitGr Go.Proofs.YtnogmaljcocfjaaDoor.Keys Go.Proofs.YtnogmaljcocfjaaDoorW.PrintWords Go.Proofs.YtnogmaljcocfjaaDoorW.PrintLast Go.Proofs.YtnogmaljcocfjaaDoorW.PrintMore
/-- A list with its tree, in plain words. -/
structure PT (l : List S45) (p : List Nat) (PI : Nat → Nat) : Prop where
  good : DitBuild.Good (DitCheck.Keys l)
  fit : Fit l
  sorted : Sorted l p
  par : Par (keyS l p) PI
section
variable {l : List S45} {p : List Nat} {PI : Nat → Nat}
theorem PT.len (h : PT l p PI) : p.length = l.length := by simpa using h.sorted.perm.length_eq
theorem PT.slen (h : PT l p PI) : (keyS l p).length = l.length := by rw [keyS_len, h.len]
theorem PT.ts (h : PT l p PI) : TS (keyS l p) := (sorted_ts h.sorted h.good).1
theorem PT.pos (h : PT l p PI) : 0 < l.length := by have := h.good.pos; simpa using this
theorem PT.mem (h : PT l p PI) {j : Nat} (hj : j < l.length) : p.getD j 0 < l.length := by
  have := h.sorted.perm.mem_iff.1 (DitPure.getD_mem p 0 (by rw [h.len]; exact hj))
  simpa using this
theorem PT.nd (h : PT l p PI) : p.Nodup := h.sorted.perm.nodup_iff.2 List.nodup_range
theorem PT.inj (h : PT l p PI) {i j : Nat} (hi : i < l.length) (hj : j < l.length) (e : p.getD i 0 = p.getD j 0) : i = j := by
  rw [List.getD_eq_getElem?_getD, List.getD_eq_getElem?_getD, List.getElem?_eq_getElem (by rw [h.len]; exact hi), List.getElem?_eq_getElem (by rw [h.len]; exact hj)] at e
  exact nodup_inj h.nd (by rw [h.len]; exact hi) (by rw [h.len]; exact hj) (by simpa using e)
theorem PT.key (h : PT l p PI) {j : Nat} (hj : j < l.length) : (keyS l p).getD j [] = DitEv.kl (ent l (p.getD j 0)).f2 := by
  rw [kx_keyS l p (by rw [h.len]; exact hj)]
  rfl
theorem PT.zero (h : PT l p PI) : p.getD 0 0 = 0 := by
  have h0 := (sorted_ts h.sorted h.good).2
  rw [h.key h.pos] at h0
  have h1 : (keyK l).getD 0 [] = DitEv.kl (ent l 0).f2 := by
    unfold keyK
    rw [map_kl_at, keys_at h.pos]
  rw [h1] at h0
  have h2 := DitEv.kl_inj h0
  have hm := h.mem h.pos
  have hk := h.good.nd
  have e1 := keys_at hm
  have e2 := keys_at h.pos
  rw [h2, ← e2] at e1
  have a1 : p.getD 0 0 < (DitCheck.Keys l).length := by rw [List.length_map]; exact hm
  have a2 : 0 < (DitCheck.Keys l).length := by rw [List.length_map]; exact h.pos
  have hg : ∀ i (hi : i < (DitCheck.Keys l).length), (DitCheck.Keys l).getD i [] = (DitCheck.Keys l)[i] := fun i hi => by
    rw [List.getD_eq_getElem?_getD, List.getElem?_eq_getElem hi]
    rfl
  rw [hg _ a1, hg _ a2] at e1
  exact nodup_inj hk a1 a2 e1
theorem PT.place (h : PT l p PI) {j : Nat} (hj : j < l.length) : placeR p l.length (j : Int) = ((p.getD j 0 : Nat) : Int) := by
  unfold placeR
  rw [isIn_true (by omega) (by omega), if_pos rfl, Int.toNat_natCast]
theorem PT.entry (h : PT l p PI) {j : Nat} (hj : j < l.length) : entryR l p l.length (j : Int) = ent l (p.getD j 0) := by
  unfold entryR
  rw [isIn_true (by omega) (by omega), if_pos rfl, Int.toNat_natCast]
theorem PT.kl1 (h : PT l p PI) (q : Nat) : (ent l q).f2.length ≤ 1048576 := (fit_ent h.fit q).1
theorem PT.ups_len (h : PT l p PI) (x : Int) : (upI l.length PI x).length ≤ 1048576 := by
  unfold upI
  split
  · rename_i hx
    obtain ⟨j, rfl, hj⟩ := isIn_nat hx
    rw [List.length_map, Int.toNat_natCast]
    have := DitPure.ups_len h.ts h.par j (by rw [h.slen]; exact hj)
    have := h.fit.len
    omega
  · exact Nat.zero_le _
theorem childL_len (n : Nat) (PI : Nat → Nat) (x : Int) : (childL n PI x).length ≤ n := by
  unfold childL
  rw [List.length_map]
  have := List.length_filter_le (fun j => decide (0 < j) && decide ((PI j : Int) = x)) (List.range n)
  simpa using this
theorem PT.scope_len (h : PT l p PI) (x s : Int) (hE : ∃ e : Nat → Nat, ∀ m, m < l.length → IsEnd (keyS l p) m (e m)) : (scopeI l p l.length PI x s).length ≤ 1048576 := by
  have hf := h.fit.len
  unfold scopeI
  split
  · rename_i hx
    obtain ⟨j, rfl, hj⟩ := isIn_nat hx
    split
    · simp
    · split
      · have := childL_len l.length PI (j : Int); omega
      · split
        · rw [List.length_map, List.length_range, Int.toNat_natCast]
          obtain ⟨e, he⟩ := hE
          have h1 := he j hj
          rw [endR_eq h1]
          have := h1.2.1
          rw [h.slen] at this
          omega
        · exact Nat.zero_le _
  · exact Nat.zero_le _
end
theorem TreeAt.ends {es : List S45} {p : List Nat} {n tb : Nat} {PI : Nat → Nat} {W : World} (h : TreeAt es p n PI tb W) : ∃ e : Nat → Nat, ∀ m, m < n → IsEnd (keyS es p) m (e m) := by
  obtain ⟨L, eg, ec, g, cap, pc, e, V, Z, a1, a2, a3, a4, a5, a6, a7, _, a9, a10, a11, a12, _⟩ := h
  exact ⟨e, a12⟩
/-- A list with its tree, in memory. -/
structure LT (l : List S45) (p : List Nat) (PI : Nat → Nat) (tb : Nat) (A : Option Addr) (W : World) : Prop where
  list : Kd.C k45 W A l.length l
  tree : TreeAt l p l.length PI tb W
  tabs : Tabs W
theorem LT.calm {l : List S45} {p : List Nat} {PI : Nat → Nat} {tb : Nat} {A : Option Addr} {W W' : World} (h : LT l p PI tb A W) (k : DitMeth.Calm W W') : LT l p PI tb A W' :=
  ⟨Kd.C_below h.list k, h.tree.below k, Tabs_at h.tabs k⟩
theorem upward_as {w : World} {l : List S45} {p : List Nat} {PI : Nat → Nat} {tb : Nat} (h : PT l p PI) (hT : TreeAt l p l.length PI tb w) (x stop : Int) :
    Calls Tryd.prog 29 #[TP tb, .int .i64 x, .int .i64 stop] w (GotI w (takeR stop (upI l.length PI x))) :=
  callsIn_wide.1 (upward_in 6 (Nat.le_refl _) w hT h.fit.len h.len h.ts h.par x stop (h.ups_len x))
theorem scoped_as {w : World} {l : List S45} {p : List Nat} {PI : Nat → Nat} {tb : Nat} (h : PT l p PI) (hT : TreeAt l p l.length PI tb w) (x s stop : Int) :
    Calls Tryd.prog 34 #[TP tb, .int .i64 x, .int .i64 s, .int .i64 stop] w (GotI w (takeR stop (scopeI l p l.length PI x s))) :=
  callsIn_wide.1 (scoped_in 6 (Nat.le_refl _) w hT h.fit.len h.len h.ts h.par x s stop (h.scope_len x s (TreeAt.ends hT)))
theorem field45 (a : Int) (b : ByteArray) (A C : Option Addr) (n c m d : Nat) (w : World) : (Instr.field 45 (.agg #[.int .i64 a, .string b, .slice A n c, .slice C m d]) 2).run Tryd.prog w = .ok (.slice A n c) w := by kernel_rfl
theorem takeR_all (l : List Int) : takeR (-1) l = l := rfl
/-- A copy that was handed out, as it is met. -/
structure EC (W : World) (x : S45) (B2 : Option Addr) (d2 : Nat) (B3 : Option Addr) (d3 : Nat) : Prop where
  key : Kd.C Kd.string W B2 x.f2.length x.f2
  kc : x.f2.length ≤ d2
  att : Kd.C k74 W B3 x.f3.length x.f3
  ac : x.f3.length ≤ d3
theorem EC.calm {W W' : World} {x : S45} {B2 B3 : Option Addr} {d2 d3 : Nat} (h : EC W x B2 d2 B3 d3) (k : DitMeth.Calm W W') : EC W' x B2 d2 B3 d3 := ⟨Kd.C_below h.key k, h.kc, Kd.C_below h.att k, h.ac⟩
theorem EC.of {w W : World} {x : S45} {e : Ending} (h : CopyQ w x e W) : ∃ B2 d2 B3 d3, e = .returned (.agg #[.int .i64 x.f0, .string x.f1, .slice B2 x.f2.length d2, .slice B3 x.f3.length d3]) ∧ EC W x B2 d2 B3 d3 ∧ Below w.heap.size w W := by
  obtain ⟨B2, d2, B3, d3, rfl, c2, c3, rd, hb⟩ := h
  obtain ⟨h1, h2⟩ := rd W (fun _ _ _ => rfl)
  exact ⟨B2, d2, B3, d3, rfl, ⟨h1, c2, h2, c3⟩, hb⟩
theorem EC.ent {w : World} {b o : Nat} {x : S45} (h : EntAt w b o x) : ∃ A2 d2 A3 d3, w.cell? ⟨b, o + 2, none⟩ = some (.slice A2 x.f2.length d2) ∧ w.cell? ⟨b, o + 3, none⟩ = some (.slice A3 x.f3.length d3) ∧ (x.f2.length ≤ 9223372036854775807 → EC w x A2 d2 A3 d3) := by
  obtain ⟨A2, d2, q2, A3, d3, e2, e3, r, h3, h4⟩ := h.more
  exact ⟨A2, d2, A3, d3, e2, e3, fun hl => ⟨CS_of_row r hl, r.cap, h4, h3⟩⟩
theorem entryC {w : World} {l : List S45} {p : List Nat} {PI : Nat → Nat} {tb : Nat} (h : PT l p PI) (hT : TreeAt l p l.length PI tb w) {j : Nat} (hj : j < l.length) :
    Calls Tryd.prog 27 #[TP tb, .int .i64 (j : Int)] w fun e w' => ∃ B2 d2 B3 d3, e = .returned (.agg #[.int .i64 (ent l (p.getD j 0)).f0, .string (ent l (p.getD j 0)).f1, .slice B2 (ent l (p.getD j 0)).f2.length d2, .slice B3 (ent l (p.getD j 0)).f3.length d3]) ∧ EC w' (ent l (p.getD j 0)) B2 d2 B3 d3 ∧ DitMeth.Calm w w' := by
  have := entry_as hT h.fit (j : Int)
  rw [h.entry hj] at this
  exact this.mono fun e w' hq => EC.of hq
set_option maxRecDepth 100000 in
theorem built_law (w : World) (A : Option Addr) (c : Nat) (l : List S45) (h : Kd.C k45 w A l.length l) (hc : l.length ≤ c) (hF : Fit l) (ht : Tabs w) (hok : DitBuild.Good (DitCheck.Keys l)) :
    Calls Tryd.prog 21 #[.slice A l.length c] w fun e w' => ∃ tb p PI, e = .returned (TP tb) ∧ PT l p PI ∧ TreeAt l p l.length PI tb w' ∧ DitMeth.Calm w w' := by
  have HF := Lib.hid hF
  have HT := Lib.hid ht
  have HO := Lib.hid hok
  obtain ⟨kc, hkc⟩ := Ev.rounds (DitEv.copies_ev l (by have := hF.len; omega) (fun e he => by have := (hF.key e he).1; omega) (fun e he => hF.att e he))
  have CC := Lib.hid (rosterlaw09_copies.calls kc A c l l w h hc hkc)
  clear h hF ht hok hkc hc
  go_enter Tryd.func21, Tryd.ntmps21
  go_wp2_with (first
    | (go_at_call 12; go_loud ((with_reducible refine CC.out.mono ?_); rintro e W1 ⟨v1, rfl, ho, hb⟩; obtain ⟨A2, c2, hv1, hl2, hC2⟩ := Kd.R_reads ho; subst hv1; have HB1 : Hid (DitMeth.Calm w W1) := Lib.hid hb; have HC2 := Lib.hid hC2; clear ho hb hC2))
    | (go_at_call 16; go_loud ((with_reducible refine (built_as W1 A2 c2 l HC2.out HF.out (Tabs_at HT.out HB1.out) HO.out).mono ?_); rintro e W2 ⟨tb, p, rfl, hq⟩; have HQ := Lib.hid hq; clear hq))
    | (go_at_call 19; go_loud ((with_reducible refine (len_as HQ.out.tree.choose_spec.1).mono ?_); rintro e W3 ⟨rfl, rfl⟩))
    | go_in)
  go_ret
  obtain ⟨PI, hT, hP⟩ := HQ.out.tree
  exact ⟨tb, p, PI, rfl, ⟨HO.out, HF.out, HQ.out.sorted, fun j h0 hj => hP j h0 (by rw [keyS_len] at hj; have := HQ.out.sorted.perm.length_eq; rw [List.length_range] at this; omega)⟩, hT, HB1.out.trans (HQ.out.below.mono HB1.out.size)⟩
end Go.Proofs.YtnogmaljcocfjaaDoor.DitLaw
namespace Go.Proofs.YtnogmaljcocfjaaDoor.DitLaw
open Go Go.Maps Go.RowKit Go.Proofs.YtnogmaljcocfjaaDoor.XK Go.Proofs.YtnogmaljcocfjaaDoor.Blk Go.Proofs.YtnogmaljcocfjaaDoor.DitTab Go.Proofs.YtnogmaljcocfjaaDoor.DitRow Go.Proofs.YtnogmaljcocfjaaDoor.DitTerm Go.Proofs.YtnogmaljcocfjaaDoor.DitMap Go.Proofs.YtnogmaljcocfjaaDoor.DitCheck Go.Proofs.YtnogmaljcocfjaaDoor.DitCopy Go.Proofs.YtnogmaljcocfjaaDoor.DitPure Go.Proofs.YtnogmaljcocfjaaDoor.DitSort Go.Proofs.YtnogmaljcocfjaaDoor.DitBuild Go.Proofs.YtnogmaljcocfjaaDoor.DitMeth Go.Proofs.YtnogmaljcocfjaaDoor.DitGr Go.Proofs.YtnogmaljcocfjaaDoor.Keys Go.Proofs.YtnogmaljcocfjaaDoorW.PrintWords Go.Proofs.YtnogmaljcocfjaaDoorW.PrintLast Go.Proofs.YtnogmaljcocfjaaDoorW.PrintMore
/-- The key of number j. -/
abbrev keyN (l : List S45) (p : List Nat) (j : Nat) : List ByteArray := (ent l (p.getD j 0)).f2
theorem kl_prefix {a b : List ByteArray} : DitEv.kl a <+: DitEv.kl b ↔ a <+: b := by
  refine ⟨fun h => ?_, fun ⟨c, hc⟩ => ⟨DitEv.kl c, by rw [← hc]; unfold DitEv.kl; rw [List.map_append]⟩⟩
  have h1 := List.prefix_iff_eq_take.1 h
  rw [DitEv.kl_length] at h1
  have h2 : DitEv.kl a = DitEv.kl (b.take a.length) := by
    rw [h1]
    unfold DitEv.kl
    rw [List.map_take]
  exact List.prefix_iff_eq_take.2 (DitEv.kl_inj h2)
section
variable {l : List S45} {p : List Nat} {PI : Nat → Nat}
theorem PT.front (h : PT l p PI) {i j : Nat} (hi : i < l.length) (hj : j < l.length) : (keyS l p).getD i [] <+: (keyS l p).getD j [] ↔ keyN l p i <+: keyN l p j := by
  rw [h.key hi, h.key hj]
  exact kl_prefix
theorem PT.met (h : PT l p PI) {m x : Nat} (hm : m < l.length) (hx : x < l.length) : (m : Int) ∈ upI l.length PI (x : Int) ↔ keyN l p m <+: keyN l p x := by
  unfold upI
  rw [isIn_true (by omega) (by omega), if_pos rfl, Int.toNat_natCast]
  have h1 := ups_mem h.ts h.par x (by rw [h.slen]; exact hx) m
  rw [h.slen, h.front hm hx] at h1
  rw [← (show m ∈ ups PI x ↔ keyN l p m <+: keyN l p x from h1.trans ⟨fun q => q.2, fun q => ⟨hm, q⟩⟩)]
  simp only [List.mem_map]
  exact ⟨fun ⟨a, ha, e⟩ => by rw [← show a = m by omega]; exact ha, fun ha => ⟨m, ha, rfl⟩⟩
theorem span_eq (m n : Nat) (h : m < n) : spanR l p n (m : Int) = ((m : Int), (endR (keyS l p) m : Int)) := by
  unfold spanR
  rw [isIn_true (by omega) (by omega), if_pos rfl, Int.toNat_natCast]
theorem PT.span (h : PT l p PI) (hE : ∃ e : Nat → Nat, ∀ m, m < l.length → IsEnd (keyS l p) m (e m)) {m : Nat} (hm : m < l.length) : m < endR (keyS l p) m ∧ endR (keyS l p) m ≤ l.length ∧ ∀ x, x < l.length → (keyN l p m <+: keyN l p x ↔ m ≤ x ∧ x < endR (keyS l p) m) := by
  obtain ⟨e, he⟩ := hE
  rw [endR_eq (he m hm)]
  obtain ⟨h1, h2, h3⟩ := he m hm
  rw [h.slen] at h2 h3
  refine ⟨h1, h2, fun x hx => ?_⟩
  rw [← h.front hm hx]
  exact h3 x hx
end
end Go.Proofs.YtnogmaljcocfjaaDoor.DitLaw
namespace Go.Proofs.YtnogmaljcocfjaaDoor.DitGr
open Go.RowKit Go.Proofs.YtnogmaljcocfjaaDoor.XK Go.Proofs.YtnogmaljcocfjaaDoor.DitTerm Go.Proofs.YtnogmaljcocfjaaDoor.DitCheck Go.Proofs.YtnogmaljcocfjaaDoor.DitBuild Go.Proofs.YtnogmaljcocfjaaDoor.DitMeth
theorem sum_mem {α : Type} (f : α → Nat) {l : List α} {x : α} (h : x ∈ l) : f x ≤ (l.map f).sum := by
  induction l with
  | nil => simp at h
  | cons y l ih =>
    simp only [List.map_cons, List.sum_cons]
    rcases List.mem_cons.1 h with rfl | h
    · omega
    · have := ih h; omega
theorem sum_len {α : Type} (f : α → Nat) (l : List α) (h : ∀ x, 1 ≤ f x) : l.length ≤ (l.map f).sum := by
  induction l with
  | nil => simp
  | cons y l ih => simp only [List.map_cons, List.sum_cons, List.length_cons]; have := h y; omega
theorem sum_mul {α : Type} (f g : α → Nat) (l : List α) (h : ∀ x, f x ≤ 22 * g x) : (l.map f).sum ≤ 22 * (l.map g).sum := by
  induction l with
  | nil => simp
  | cons y l ih => simp only [List.map_cons, List.sum_cons]; have := h y; omega
theorem bulk_le (k : List ByteArray) : bulkK k ≤ 22 * (k.map fun x_ => x_.size + 1).sum := by
  unfold bulkK
  exact sum_mul _ _ k (fun x => by omega)
theorem inok {l0 : List ByteArray} {l1 : List S86} (hw : ∀ x ∈ l1, wfi x.f0) {m : Nat} (hm : m ≤ 1048574) (hb : (l0.map fun x_ => x_.size + 1).sum + (l1.map fun x_ => 1 + (x_.f1.size + 1) + 1).sum ≤ m) : InOK l0 l1 := by
  have a1 := sum_len (fun x_ : ByteArray => x_.size + 1) l0 (fun _ => by omega)
  have a2 := sum_len (fun x_ : S86 => 1 + (x_.f1.size + 1) + 1) l1 (fun _ => by omega)
  have a3 := bulk_le l0
  have a4 := sum_mul (fun k : S86 => k.f1.size + 22) (fun x_ : S86 => 1 + (x_.f1.size + 1) + 1) l1 (fun x => by omega)
  refine ⟨by omega, by omega, fun q hq => ?_, fun k hk => ?_, hw⟩
  · have := sum_mem (fun x_ : ByteArray => x_.size + 1) hq
    omega
  · have := sum_mem (fun x_ : S86 => 1 + (x_.f1.size + 1) + 1) hk
    omega
end Go.Proofs.YtnogmaljcocfjaaDoor.DitGr

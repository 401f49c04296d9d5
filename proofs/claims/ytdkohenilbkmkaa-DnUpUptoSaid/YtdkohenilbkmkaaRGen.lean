/- What rounds of ranges over functions do to a world; the marks. Over any program. -/
import Derived.Test.YtdkohenilbkmkaaRFunG
import Derived.Test.YtdkohenilbkmkaaWMore
set_option linter.unusedVariables false
set_option linter.unusedSimpArgs false
namespace Go.Proofs.Ytdkohenilbkmkaa.RGen
open Go Go.RowKit Go.Proofs.Ytdkohenilbkmkaa.RFun Go.Proofs.YtdkohenilbkmkaaW.PrintWords Go.Proofs.YtdkohenilbkmkaaW.PrintLast Go.Proofs.YtdkohenilbkmkaaW.PrintMore
/-- What a round may do: block b alone turns, and blocks that are no cells ahead of n₀. -/
structure KM (n₀ b : Nat) (A B : World) : Prop where
  size : A.heap.size ≤ B.heap.size
  cell : ∀ j cs t f, A.heap[j]? = some (.cells cs t f) → j ≠ b → B.heap[j]? = some (.cells cs t f)
  own : ∀ j o, n₀ ≤ j → A.heap[j]? = some o → o.isCells = false → B.heap[j]? = some o
theorem KM.trans {n₀ b : Nat} {A B C : World} (h : KM n₀ b A B) (k : KM n₀ b B C) : KM n₀ b A C :=
  ⟨Nat.le_trans h.size k.size, fun j cs t f h1 h2 => k.cell j cs t f (h.cell j cs t f h1 h2) h2, fun j o h1 h2 h3 => k.own j o h1 (h.own j o h1 h2 h3) h3⟩
theorem KM.putObj {n₀ b : Nat} (W : World) (l : Nat) (o o' : Obj) (hl : l < n₀) (h : W.heap[l]? = some o) (ho : o.isCells = false) : KM n₀ b W (W.putObj l o') :=
  ⟨by simp, fun j cs t f h1 _ => (World.putObj_heap_other (fun e => by subst e; rw [h] at h1; cases h1; cases ho)).trans h1, fun j p h1 h2 _ => (World.putObj_heap_other (fun e => by omega)).trans h2⟩
theorem KM.from {n₀ b n1 : Nat} {A B : World} (h : KM n₀ b A B) (hn : n₀ ≤ n1) : KeepsFrom n1 A B := ⟨h.size, fun j o h1 h2 h3 => h.own j o (Nat.le_trans hn h1) h2 h3⟩
theorem round_any {n m l' l : Nat} {P : Program} {f : FuncId} {tmps : Array Value} {assign body : Code} {w : World} {R : Ending → World → Prop} (h : RoundIn Fence.wide n P l f tmps assign body w R) : RoundIn (Fence.wide.inRound l') m P l f tmps assign body w R :=
  ⟨h.1, fun c cs _ => h.2 c cs (room_wide _)⟩
theorem calls_any {n l' : Nat} {P : Program} {f : FuncId} {args : Array Value} {w : World} {R : Ending → World → Prop} (h : Calls P f args w R) : CallsIn (Fence.wide.inRound l') n P f args w R := (callsIn_wide (n := n)).2 h
theorem grown_to_below {n₀ : Nat} {A B : World} {row : Option Nat} (hg : A.grownBy B row) (hr : ∀ k, row = some k → n₀ ≤ k) (hs : n₀ ≤ A.heap.size) : Below n₀ A B :=
  ⟨hg.os, hg.tape, hg.output, hg.size, fun j hj => hg.block j (by omega) (fun e => by have := hr j e.symm; omega)⟩
/-- Block b alone has turned. -/
structure FR (b : Nat) (A B : World) : Prop where
  os : B.os = A.os
  tape : B.tape = A.tape
  output : B.output = A.output
  size : A.heap.size ≤ B.heap.size
  block : ∀ j, j < A.heap.size → j ≠ b → B.heap[j]? = A.heap[j]?
theorem FR.refl (b : Nat) (A : World) : FR b A A := ⟨rfl, rfl, rfl, Nat.le_refl _, fun _ _ _ => rfl⟩
theorem FR.trans {b : Nat} {A B C : World} (h : FR b A B) (k : FR b B C) : FR b A C :=
  ⟨k.os.trans h.os, k.tape.trans h.tape, k.output.trans h.output, Nat.le_trans h.size k.size, fun j h1 h2 => (k.block j (Nat.lt_of_lt_of_le h1 h.size) h2).trans (h.block j h1 h2)⟩
theorem FR.below {b n₀ : Nat} {A B C : World} (h : FR b A B) (hn : A.heap.size ≤ n₀) (k : Below n₀ B C) : FR b A C :=
  ⟨k.os.trans h.os, k.tape.trans h.tape, k.output.trans h.output, Nat.le_trans h.size k.size, fun j h1 h2 => (k.block j (by omega)).trans (h.block j h1 h2)⟩
theorem FR.grown {b : Nat} {A B C : World} {row : Option Nat} (h : FR b A B) (k : B.grownBy C row) (hr : ∀ r, row = some r → A.heap.size ≤ r) : FR b A C :=
  ⟨k.os.trans h.os, k.tape.trans h.tape, k.output.trans h.output, Nat.le_trans h.size k.size, fun j h1 h2 => (k.block j (Nat.lt_of_lt_of_le h1 h.size) (fun e => by have := hr j e.symm; omega)).trans (h.block j h1 h2)⟩
theorem FR.set {b : Nat} {A B : World} (h : FR b A B) (u : Value) : FR b A (B.setCell ⟨b, 0, none⟩ u) :=
  ⟨h.os, h.tape, h.output, by rw [World.size_setCell]; exact h.size, fun j h1 h2 => (Below.heap_setCell _ _ _ _ h2).trans (h.block j h1 h2)⟩
theorem FR.box {b c : Nat} {A B : World} {t : TypeId} {v : Value} (h : FR b A B) (hv : Boxed A c t v) (hne : c ≠ b) : Boxed B c t v := (h.block c (Array.getElem?_eq_some_iff.1 hv).1 hne).trans hv
theorem FR.cell {b : Nat} {A B : World} {a : Addr} {v : Value} (h : FR b A B) (hc : A.cell? a = some v) (hne : a.block ≠ b) : B.cell? a = some v :=
  (World.cell?_of_block (h.block a.block (World.block_lt_of_cell? A _ hc) hne)).trans hc
theorem km_set {n₀ b : Nat} {W : World} {t : TypeId} {v : Value} (h : Boxed W b t v) (u : Value) : KM n₀ b W (W.setCell ⟨b, 0, none⟩ u) :=
  ⟨by simp, fun j cs t f h1 h2 => (Below.heap_setCell _ _ _ _ h2).trans h1, fun j o _ h2 h3 => (Below.heap_setCell _ _ _ _ (fun e => by subst e; rw [show W.heap[j]? = _ from h] at h2; cases h2; cases h3)).trans h2⟩
theorem kf_set {B b : Nat} {W : World} {t : TypeId} {v : Value} (h : Boxed W b t v) (u : Value) : KeepsFrom B W (W.setCell ⟨b, 0, none⟩ u) :=
  ⟨by simp, fun j o _ h2 h3 => (Below.heap_setCell _ _ _ _ (fun e => by subst e; rw [show W.heap[j]? = _ from h] at h2; cases h2; cases h3)).trans h2⟩
theorem below_km {n₀ b : Nat} {W W' : World} {t : TypeId} {v : Value} (hB : Below W.heap.size W W') (h : Boxed W' b t v) (u : Value) : KM n₀ b W (W'.setCell ⟨b, 0, none⟩ u) :=
  (KM.mk (n₀ := n₀) (b := b) hB.size (fun j cs t f h1 _ => (hB.block j (Array.getElem?_eq_some_iff.1 h1).1).trans h1) (fun j o _ h2 _ => (hB.block j (Array.getElem?_eq_some_iff.1 h2).1).trans h2)).trans (km_set h u)
theorem below_kf {B b : Nat} {W W' : World} {t : TypeId} {v : Value} (hB : Below W.heap.size W W') (h : Boxed W' b t v) (u : Value) : KeepsFrom B W (W'.setCell ⟨b, 0, none⟩ u) :=
  (KeepsFrom.mk (B := B) hB.size (fun j o _ h2 _ => (hB.block j (Array.getElem?_eq_some_iff.1 h2).1).trans h2)).trans (kf_set h u)
theorem fr_old {W W' : World} {o : Obj} (h : FR W.heap.size (W.alloc o) W') : Below W.heap.size W W' :=
  ⟨h.os, h.tape, h.output, by have := h.size; rw [World.size_alloc] at this; omega, fun j hj => (h.block j (by rw [World.size_alloc]; omega) (by omega)).trans (Below.heap_alloc _ _ _ hj)⟩
theorem below_fr {b : Nat} {A W W' : World} (h : FR b A W) (hB : Below W.heap.size W W') : FR b A W' := h.below h.size hB
/-- The marks that ranges have left, the last on top. -/
def Marks (b : Nat) : Nat → List Deferred → World → Prop
  | _, [], _ => True
  | u, d :: ds, w => ∃ D, d = { target := .collected D, args := #[] } ∧ b ≤ D ∧ D < u ∧ w.heap[D]? = some (.deferred (some [])) ∧ Marks b D ds w
theorem Marks.mono {b : Nat} {ds : List Deferred} {w w' : World} : ∀ {u u' : Nat}, u ≤ u' → (∀ j, b ≤ j → j < u → w.heap[j]? = some (.deferred (some [])) → w'.heap[j]? = some (.deferred (some []))) → Marks b u ds w → Marks b u' ds w' := by
  induction ds with
  | nil => intro _ _ _ _ _; trivial
  | cons d ds ih =>
    rintro u u' hu hk ⟨D, h1, h2, h3, h4, h5⟩
    exact ⟨D, h1, h2, by omega, hk D h2 h3 h4, ih (Nat.le_refl _) (fun j a b' c => hk j a (by omega) c) h5⟩
/-- The marks taken: cells stay, and all ahead of b. -/
structure Took (b : Nat) (A B : World) : Prop where
  os : B.os = A.os
  tape : B.tape = A.tape
  output : B.output = A.output
  size : A.heap.size ≤ B.heap.size
  block : ∀ j, j < A.heap.size → j < b → B.heap[j]? = A.heap[j]?
  cell : ∀ (j : Nat) (cs : Array Value) (t : TypeId) (f : Nat × Nat), A.heap[j]? = some (Obj.cells cs t f) → B.heap[j]? = some (Obj.cells cs t f)
theorem marks_leave {F : Fence} {n b : Nat} {P : Program} {fn : Func} {tmps : Array Value} {R : Ending → World → Prop} {ds : List Deferred} : ∀ {u : Nat} {w : World}, Marks b u ds w → (∀ w', Took b w w' → ∃ v, (results fn tmps).run P w' = .ok v w' ∧ R (.returned v) w') → LeavesInM F n P fn tmps R ds .returning w := by
  induction ds with
  | nil =>
    intro u w _ h
    exact h w ⟨rfl, rfl, rfl, Nat.le_refl _, fun _ _ _ => rfl, fun _ _ _ _ h => h⟩
  | cons d ds ih =>
    rintro u w ⟨D, rfl, h2, h3, h4, h5⟩ h
    refine ⟨by simp, .inl ⟨D, _, rfl, run_takeDeferred h4, ih (Marks.mono (Nat.le_refl _) (fun j _ hj hd => (World.putObj_heap_other (by omega)).trans hd) h5) (fun w' k => h w' ⟨k.os, k.tape, k.output, ?_, fun j hj hb => (k.block j (by simpa using hj) hb).trans (World.putObj_heap_other (by omega)), fun j cs t f hj => k.cell j cs t f ((World.putObj_heap_other (fun e => ?_)).trans hj)⟩)⟩⟩
    · have := k.size
      simpa using this
    · subst e
      rw [h4] at hj
      cases hj
theorem res_cell {P : Program} {fn : Func} {p : Tmp} {ty : TypeId} (h : fn.results = #[.cell p ty]) (tmps : Array Value) (w : World) (g : Nat) (v : Value) (hp : tmps.getD p undef = .pointer (some ⟨g, 0, none⟩)) (hc : w.cell? ⟨g, 0, none⟩ = some v) (hu : (isAgg ty).run P w = .ok false w) : (results fn tmps).run P w = .ok v w := by
  have hp' : tmps[p]?.getD undef = .pointer (some ⟨g, 0, none⟩) := by simpa using hp
  have hl : (load ⟨g, 0, none⟩).run P w = .ok v w := by simp [go_sem, hc]
  simp [results, h, hp', asAddr, loadVar, Sem.run_bind, hu, hl, Result.andThen]
end Go.Proofs.Ytdkohenilbkmkaa.RGen

/- A range over a function whose iterator keeps cells of its own between two rounds: the caller's law. R: what the iterator does to the heap between two rounds. Over any program. -/
import Derived.RangeFuncNested
import Derived.RangeFuncBound
import Derived.RangeFuncCalls
import Derived.RangeFuncLeaves
import Derived.RangeFuncBox
set_option linter.unusedVariables false
set_option linter.unusedSimpArgs false
namespace Go.Proofs.Ytnflokhffmfifaa.RFun
open Go Go.RowKit
/-- What J says, it says on behind the iterator's own steps. -/
def Clos {β : Type} (R : World → World → Prop) (J : β → World → Prop) : Prop := ∀ s A B, J s A → R A B → J s B
/-- An iterator's contract: gf with lb captured hands out what S tells, or a part that Sp tells. -/
def SeqR {α : Type} (F : Fence) (n : Nat) (P : Program) (gf : Nat) (lb : Array Value) (encs : α → Array Value) (Kp R : World → World → Prop) (S Sp : List α → Prop) (N : Nat) (w : World) : Prop :=
  ∀ (l : Nat) (J Jx : List α → World → Prop) (W : World), W.heap.size = w.heap.size + 2 → Below w.heap.size w W → Clos R J → Clos R Jx →
    (∀ pre x W1, J pre W1 → pre.length < N → YieldAt F (n - 1) P l (encs x) W1 fun e W' => (e = .returned (.bool true) ∧ J (pre ++ [x]) W' ∧ Kp W1 W') ∨ (e = .returned (.bool false) ∧ Jx (pre ++ [x]) W')) →
    J [] W → CallsIn F n P gf (#[.func (.yield l) #[] #[]] ++ lb) W fun e W' => (∃ v, e = .returned v) ∧ ((∃ xs, S xs ∧ J xs W') ∨ (∃ pre, Sp pre ∧ Jx pre W'))
/-- The two blocks that the loop lays for itself: the rounds' deferred calls, and the loop's record. -/
def Books (D : Nat) (r : Loop) (W : World) : Prop := W.heap[D]? = some (.deferred (some [])) ∧ W.heap[D + 1]? = some (.loop r)
theorem Books.turn {D : Nat} {r r' : Loop} {W : World} (h : Books D r W) : Books D r' (W.putObj (D + 1) (.loop r')) :=
  ⟨(World.putObj_heap_other (by omega)).trans h.1, World.putObj_heap_same (Array.getElem?_eq_some_iff.1 h.2).1⟩
theorem Books.from {D : Nat} {r : Loop} {W W' : World} (h : Books D r W) (k : KeepsFrom D W W') : Books D r W' := ⟨k.same _ _ (Nat.le_refl _) h.1 rfl, k.same _ _ (by omega) h.2 rfl⟩
variable {F : Fence} {n : Nat} {P : Program}
theorem rf_law {α : Type} {g : Operand} {ps : Array Tmp} {assign body : Code} {Q : Exit → Act → World → Prop} {a : Act} {w : World} (hro : F.round = none) (h1 : 1 ≤ n) {gf : Nat} {lb : Array Value} (hg : a.eval g = .func (.func gf) #[] lb) (hFg : F.fn gf) (eg : ∀ args w, (callFunc gf args).run P w = .ok (.enter gf args) w)
    {encs : α → Array Value} {Kp R : World → World → Prop} {S Sp : List α → Prop} {N : Nat} (hseq : SeqR F (n - 1) P gf lb encs Kp R S Sp N w)
    (hRk : ∀ A B k o, R A B → k < w.heap.size + 2 → A.heap[k]? = some o → o.isCells = false → B.heap[k]? = some o)
    (hKt : ∀ {A B C : World}, Kp A B → Kp B C → Kp A C) (hKb : ∀ (W : World) (l : Nat) (o o' : Obj), w.heap.size ≤ l → W.heap[l]? = some o → o.isCells = false → Kp W (W.putObj l o')) (hps : ∀ x, (encs x).size = ps.size)
    (I : List α → World → Prop) (Ix : Code → List α → World → Prop) (hI : OwnFrom w.heap.size I) (hIR : Clos R I) (hIx : ∀ c, OwnFrom w.heap.size (Ix c)) (hIxR : ∀ c, Clos R (Ix c)) (h0 : I [] w) (a₁ : α → Act)
    (hassign : ∀ (l : Nat) (x : α) (W : World) (K : Act → World → Prop), K (a₁ x) W → assign.wpIn (F.inRound l) (n - 1 - 1) P (Exit.then K (fun _ _ _ => False)) { tmps := (ps.zip (encs x)).foldl (fun t (p, v) => t.setIfInBounds p v) a.tmps, defers := [] } W)
    (hbody : ∀ (l : Nat) (pre : List α) (x : α) (W : World), I pre W → pre.length < N → body.wpIn (F.inRound l) (n - 1 - 1) P (ownPostG w.heap.size Kp I Ix (pre ++ [x]) W) (a₁ x) W)
    (hdone : ∀ (D : Nat) (xs : List α) (W : World), w.heap.size ≤ D → S xs → I xs W → W.heap[D]? = some (.deferred (some [])) → Q .normal { a with defers := { target := .collected D, args := #[] } :: a.defers } W)
    (hstop : ∀ (D : Nat) (c : Code) (pre : List α) (W : World), w.heap.size ≤ D → Sp pre → Ix c pre W → W.heap[D]? = some (.deferred (some [])) → c.wpIn F n P Q { a with defers := { target := .collected D, args := #[] } :: a.defers } W) :
    (Code.rangeFunc g ps assign body).wpIn F n P Q a w := by
  refine wpIn_rangeFunc fun fn hfn => ?_
  rw [hro]
  have hzD : ∀ W : World, (W.alloc (.deferred (some []))).heap.size = W.heap.size + 1 := fun W => World.size_alloc _ _
  let R0 : LoopState → Option Code → Loop := fun st pe => { state := st, pending := pe, fn, tmps := a.tmps, params := ps, assign, body, defers := w.heap.size }
  have hb0 : Books w.heap.size (R0 .ready none) ((w.alloc (.deferred (some []))).alloc (.loop (R0 .ready none))) := by
    refine ⟨(Below.heap_alloc _ _ _ (by rw [hzD]; omega)).trans (World.alloc_heap_new w _), ?_⟩
    have := World.alloc_heap_new (w.alloc (.deferred (some []))) (.loop (R0 .ready none))
    rwa [hzD] at this
  have hw0 : Below w.heap.size w ((w.alloc (.deferred (some []))).alloc (.loop (R0 .ready none))) := ((Below.refl _ w).alloc (Nat.le_refl _) _).alloc (by rw [hzD]; omega) _
  have hi0 : I [] ((w.alloc (.deferred (some []))).alloc (.loop (R0 .ready none))) := hI.alloc _ (hI.alloc _ h0)
  have hz0 : ((w.alloc (.deferred (some []))).alloc (.loop (R0 .ready none))).heap.size = w.heap.size + 2 := by rw [World.size_alloc, hzD]
  refine ⟨w.heap.size + 1, _, ((w.alloc (.deferred (some []))).alloc (.loop (R0 .ready none))), { target := .fn (.func gf) lb, args := #[.func (.yield (w.heap.size + 1)) #[] #[]] }, ((w.alloc (.deferred (some []))).alloc (.loop (R0 .ready none))), gf, #[.func (.yield (w.heap.size + 1)) #[] #[]] ++ lb, ((w.alloc (.deferred (some []))).alloc (.loop (R0 .ready none))), run_enterLoop_outer fn a.tmps ps assign body, ?_, ?_, ?_, fun _ => h1, ?_⟩
  · simp only [resolve, hg]
    simp [go_sem]
  · intro f' hf'
    simp [Target.leads] at hf'
    subst hf'
    exact hFg
  · simp [invoke, go_sem, eg]
  have closB : ∀ {r : Loop} {A B : World}, Books w.heap.size r A → R A B → Books w.heap.size r B := fun hb hr => ⟨hRk _ _ _ _ hr (by omega) hb.1 rfl, hRk _ _ _ _ hr (by omega) hb.2 rfl⟩
  refine (hseq (w.heap.size + 1) (fun pre W => I pre W ∧ Books w.heap.size (R0 .ready none) W) (fun pre W => ∃ c, Ix c pre W ∧ Books w.heap.size (R0 .done (some c)) W) _ hz0 hw0
    (fun s A B hs hr => ⟨hIR s A B hs.1 hr, closB hs.2 hr⟩) (fun s A B hs hr => by obtain ⟨c, hc, hb⟩ := hs; exact ⟨c, hIxR c s A B hc hr, closB hb hr⟩) ?_ ⟨hi0, hb0⟩).mono ?_
  · rintro pre x W ⟨hi, hb⟩ hlen
    refine ⟨fn, _, assign, body, run_yield hb.2 (hps x), roundIn_of_wpIn hfn (hassign _ x W _ ⟨_, run_beginRound hb.2 rfl, ?_⟩)⟩
    have hb2 : Books w.heap.size (R0 .busy none) (W.putObj (w.heap.size + 1) (.loop (R0 .busy none))) := hb.turn
    refine wpIn_mono (hbody _ pre x _ (hI.putObj _ hi (by omega) hb.2 rfl) hlen) ?_
    have leave : ∀ (c : Code) (W3 : World), KeepsFrom w.heap.size (W.putObj (w.heap.size + 1) (.loop (R0 .busy none))) W3 → Ix c (pre ++ [x]) W3 →
        ∃ v W4, (Instr.endRound (w.heap.size + 1) (some c)).run P W3 = .ok v W4 ∧ ((Ending.returned v = .returned (.bool true) ∧ (I (pre ++ [x]) W4 ∧ Books w.heap.size (R0 .ready none) W4) ∧ Kp W W4) ∨ (Ending.returned v = .returned (.bool false) ∧ ∃ c, Ix c (pre ++ [x]) W4 ∧ Books w.heap.size (R0 .done (some c)) W4)) := fun c W3 hk hx => by
      have hb3 := hb2.from hk
      exact ⟨_, _, run_endRound (some c) hb3.2, .inr ⟨rfl, c, (hIx c).putObj _ hx (by omega) hb3.2 rfl, hb3.turn⟩⟩
    rintro e a3 W3 hp
    cases e with
    | normal =>
      obtain ⟨hk, hkp, hi3⟩ := hp
      have hb3 := hb2.from hk
      exact ⟨_, _, run_endRound none hb3.2, .inl ⟨rfl, ⟨hI.putObj _ hi3 (by omega) hb3.2 rfl, hb3.turn⟩, hKt (hKt (hKb _ _ _ _ (by omega) hb.2 rfl) hkp) (hKb _ _ _ _ (by omega) hb3.2 rfl)⟩⟩
    | ret => exact leave _ _ hp.1 hp.2
    | exit id => exact leave _ _ hp.1 hp.2
    | goto t => exact leave _ _ hp.1 hp.2
    | panic ch => exact hp.elim
    | outgrown => exact hp.elim
  · rintro e W2 ⟨⟨v, rfl⟩, (⟨xs, hS, hi, hb⟩ | ⟨pre, hSp, c, hi, hb⟩)⟩
    · exact ⟨none, _, run_endLoop hb.2 (by simp [R0]), hdone _ xs _ (Nat.le_refl _) hS (hI.putObj _ hi (by omega) hb.2 rfl) (Books.turn (r' := { R0 .ready none with state := .exhausted }) hb).1⟩
    · exact ⟨some c, _, run_endLoop hb.2 (by simp [R0]), hstop _ c pre _ (Nat.le_refl _) hSp ((hIx c).putObj _ hi (by omega) hb.2 rfl) (Books.turn (r' := { R0 .done (some c) with state := .exhausted }) hb).1⟩
end Go.Proofs.Ytnflokhffmfifaa.RFun

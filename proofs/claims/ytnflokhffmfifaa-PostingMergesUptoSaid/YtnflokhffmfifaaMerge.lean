/- PostingMerges: RFunM, MergeA, KeptA, MergeB, MergeC, MergeD, MergeE, MergeF, MergeL joined. -/
import Derived.Test.YtnflokhffmfifaaRFun
import Derived.Test.YtnflokhffmfifaaAtLeastW
import Derived.Test.YtnflokhffmfifaaPostAlg
import Derived.Test.YtnflokhffmfifaaSetOps
import Derived.Deep.Upon
import Derived.Lib.Builder
import Derived.Lib.ConvBytes
import Derived.Test.YtnflokhffmfifaaSetsR
import Derived.Laws.EntriesVeiled
set_option linter.unusedVariables false
set_option linter.unusedSimpArgs false
namespace Go.Proofs.Ytnflokhffmfifaa.RFun
open Go Go.RowKit
/-- An iterator's contract: gf with lb captured hands out what S tells, or a part that Sp tells; d blocks are laid ahead of the call. -/
def SeqM {α : Type} (F : Fence) (d n : Nat) (P : Program) (gf : Nat) (lb : Array Value) (encs : α → Array Value) (Kp R : World → World → Prop) (S Sp : List α → Prop) (N : Nat) (w : World) : Prop :=
  ∀ (l : Nat) (J Jx : List α → World → Prop) (W : World), W.heap.size = w.heap.size + d → Below w.heap.size w W → Clos R J → Clos R Jx →
    (∀ pre x W1, J pre W1 → pre.length < N → YieldAt F (n - 1) P l (encs x) W1 fun e W' => (e = .returned (.bool true) ∧ J (pre ++ [x]) W' ∧ Kp W1 W') ∨ (e = .returned (.bool false) ∧ Jx (pre ++ [x]) W' ∧ KeepsFrom (w.heap.size + d) W1 W')) →
    J [] W → CallsIn F n P gf (#[.func (.yield l) #[] #[]] ++ lb) W fun e W' => (∃ v, e = .returned v) ∧ ((∃ xs, S xs ∧ J xs W') ∨ (∃ pre, Sp pre ∧ Jx pre W'))
theorem kf_mono {B B' : Nat} {W W' : World} (h : KeepsFrom B W W') (hb : B ≤ B') : KeepsFrom B' W W' := ⟨h.size, fun k o h1 h2 h3 => h.same k o (Nat.le_trans hb h1) h2 h3⟩
theorem kf_put {B l : Nat} (W : World) (o : Obj) (h : l < B) : KeepsFrom B W (W.putObj l o) := KeepsFrom.of_grownBy (grownBy_putObj' W l o) (fun j e => by cases e; exact h)
variable {F : Fence} {n : Nat} {P : Program}
theorem rf_lawM {α : Type} {g : Operand} {ps : Array Tmp} {assign body : Code} {Q : Exit → Act → World → Prop} {a : Act} {w : World} (hro : F.round = none) (h1 : 1 ≤ n) {gf : Nat} {lb : Array Value} (hg : a.eval g = .func (.func gf) #[] lb) (hFg : F.fn gf) (eg : ∀ args w, (callFunc gf args).run P w = .ok (.enter gf args) w)
    {encs : α → Array Value} {Kp R : World → World → Prop} {S Sp : List α → Prop} {N : Nat} (hseq : SeqM F 2 (n - 1) P gf lb encs Kp R S Sp N w)
    (hRk : ∀ A B k o, R A B → k < w.heap.size + 2 → A.heap[k]? = some o → o.isCells = false → B.heap[k]? = some o)
    (hKt : ∀ {A B C : World}, Kp A B → Kp B C → Kp A C) (hKb : ∀ (W : World) (o o' : Obj), W.heap[w.heap.size + 1]? = some o → o.isCells = false → Kp W (W.putObj (w.heap.size + 1) o')) (hps : ∀ x, (encs x).size = ps.size)
    (I : List α → World → Prop) (Ix : Code → List α → World → Prop) (hI : OwnFrom w.heap.size I) (hIR : Clos R I) (hIx : ∀ c, OwnFrom w.heap.size (Ix c)) (hIxR : ∀ c, Clos R (Ix c)) (h0 : I [] w) (a₁ : α → Act)
    (hassign : ∀ (l : Nat) (x : α) (W : World) (K : Act → World → Prop), K (a₁ x) W → assign.wpIn (F.inRound l) (n - 1 - 1) P (Exit.then K (fun _ _ _ => False)) { tmps := (ps.zip (encs x)).foldl (fun t (p, v) => t.setIfInBounds p v) a.tmps, defers := [] } W)
    (hbody : ∀ (l : Nat) (pre : List α) (x : α) (W : World), l = w.heap.size + 1 → (∃ r, W.heap[l]? = some (.loop r)) → I pre W → pre.length < N → body.wpIn (F.inRound l) (n - 1 - 1) P (ownPostG w.heap.size Kp I Ix (pre ++ [x]) W) (a₁ x) W)
    (hdone : ∀ (D : Nat) (xs : List α) (W : World), w.heap.size ≤ D → S xs → I xs W → W.heap[D]? = some (.deferred (some [])) → Q .normal { a with defers := { target := .collected D, args := #[] } :: a.defers } W)
    (hstop : ∀ (D : Nat) (c : Code) (pre : List α) (W : World), w.heap.size ≤ D → Sp pre → Ix c pre W → W.heap[D]? = some (.deferred (some [])) → c.wpIn F n P Q { a with defers := { target := .collected D, args := #[] } :: a.defers } W) :
    (Code.rangeFunc g ps assign body).wpIn F n P Q a w := by
  refine wpIn_rangeFunc fun fn hfn => ?_
  rw [hro]
  have hzD : ∀ W : World, (W.alloc (.deferred (some []))).heap.size = W.heap.size + 1 := fun W => World.size_alloc _ _
  let R0 : LoopState → Option Code → Loop := fun st pe => { state := st, pending := pe, fn, tmps := a.tmps, params := ps, assign, body, defers := w.heap.size }
  have hb0 : Books w.heap.size (R0 .ready none) ((w.alloc (.deferred (some []))).alloc (.loop (R0 .ready none))) := by
    refine ⟨(Below.heap_alloc _ _ _ (by rw [hzD]; omega)).trans (World.alloc_heap_new w _), ?_⟩
    have := World.alloc_heap_new (w.alloc (.deferred (some []))) (.loop (R0 .ready none))
    rwa [hzD] at this
  have hw0 : Below w.heap.size w ((w.alloc (.deferred (some []))).alloc (.loop (R0 .ready none))) := ((Below.refl _ w).alloc (Nat.le_refl _) _).alloc (by rw [hzD]; omega) _
  have hi0 : I [] ((w.alloc (.deferred (some []))).alloc (.loop (R0 .ready none))) := hI.alloc _ (hI.alloc _ h0)
  have hz0 : ((w.alloc (.deferred (some []))).alloc (.loop (R0 .ready none))).heap.size = w.heap.size + 2 := by rw [World.size_alloc, hzD]
  refine ⟨w.heap.size + 1, _, ((w.alloc (.deferred (some []))).alloc (.loop (R0 .ready none))), { target := .fn (.func gf) lb, args := #[.func (.yield (w.heap.size + 1)) #[] #[]] }, ((w.alloc (.deferred (some []))).alloc (.loop (R0 .ready none))), gf, #[.func (.yield (w.heap.size + 1)) #[] #[]] ++ lb, ((w.alloc (.deferred (some []))).alloc (.loop (R0 .ready none))), run_enterLoop_outer fn a.tmps ps assign body, ?_, ?_, ?_, fun _ => h1, ?_⟩
  · simp only [resolve, hg]
    simp [go_sem]
  · intro f' hf'
    simp [Target.leads] at hf'
    subst hf'
    exact hFg
  · simp [invoke, go_sem, eg]
  have closB : ∀ {r : Loop} {A B : World}, Books w.heap.size r A → R A B → Books w.heap.size r B := fun hb hr => ⟨hRk _ _ _ _ hr (by omega) hb.1 rfl, hRk _ _ _ _ hr (by omega) hb.2 rfl⟩
  refine (hseq (w.heap.size + 1) (fun pre W => I pre W ∧ Books w.heap.size (R0 .ready none) W) (fun pre W => ∃ c, Ix c pre W ∧ Books w.heap.size (R0 .done (some c)) W) _ hz0 hw0
    (fun s A B hs hr => ⟨hIR s A B hs.1 hr, closB hs.2 hr⟩) (fun s A B hs hr => by obtain ⟨c, hc, hb⟩ := hs; exact ⟨c, hIxR c s A B hc hr, closB hb hr⟩) ?_ ⟨hi0, hb0⟩).mono ?_
  · rintro pre x W ⟨hi, hb⟩ hlen
    refine ⟨fn, _, assign, body, run_yield hb.2 (hps x), roundIn_of_wpIn hfn (hassign _ x W _ ⟨_, run_beginRound hb.2 rfl, ?_⟩)⟩
    have hb2 : Books w.heap.size (R0 .busy none) (W.putObj (w.heap.size + 1) (.loop (R0 .busy none))) := hb.turn
    refine wpIn_mono (hbody _ pre x _ rfl ⟨_, hb2.2⟩ (hI.putObj _ hi (by omega) hb.2 rfl) hlen) ?_
    have leave : ∀ (c : Code) (W3 : World), KeepsFrom w.heap.size (W.putObj (w.heap.size + 1) (.loop (R0 .busy none))) W3 → Ix c (pre ++ [x]) W3 →
        ∃ v W4, (Instr.endRound (w.heap.size + 1) (some c)).run P W3 = .ok v W4 ∧ ((Ending.returned v = .returned (.bool true) ∧ (I (pre ++ [x]) W4 ∧ Books w.heap.size (R0 .ready none) W4) ∧ Kp W W4) ∨ (Ending.returned v = .returned (.bool false) ∧ (∃ c, Ix c (pre ++ [x]) W4 ∧ Books w.heap.size (R0 .done (some c)) W4) ∧ KeepsFrom (w.heap.size + 2) W W4)) := fun c W3 hk hx => by
      have hb3 := hb2.from hk
      exact ⟨_, _, run_endRound (some c) hb3.2, .inr ⟨rfl, ⟨c, (hIx c).putObj _ hx (by omega) hb3.2 rfl, hb3.turn⟩, (KeepsFrom.trans (kf_put W _ (by omega)) (kf_mono hk (by omega))).trans (kf_put W3 _ (by omega))⟩⟩
    rintro e a3 W3 hp
    cases e with
    | normal =>
      obtain ⟨hk, hkp, hi3⟩ := hp
      have hb3 := hb2.from hk
      exact ⟨_, _, run_endRound none hb3.2, .inl ⟨rfl, ⟨hI.putObj _ hi3 (by omega) hb3.2 rfl, hb3.turn⟩, hKt (hKt (hKb _ _ _ hb.2 rfl) hkp) (hKb _ _ _ hb3.2 rfl)⟩⟩
    | ret => exact leave _ _ hp.1 hp.2
    | exit id => exact leave _ _ hp.1 hp.2
    | goto t => exact leave _ _ hp.1 hp.2
    | panic ch => exact hp.elim
    | outgrown => exact hp.elim
  · rintro e W2 ⟨⟨v, rfl⟩, (⟨xs, hS, hi, hb⟩ | ⟨pre, hSp, c, hi, hb⟩)⟩
    · exact ⟨none, _, run_endLoop hb.2 (by simp [R0]), hdone _ xs _ (Nat.le_refl _) hS (hI.putObj _ hi (by omega) hb.2 rfl) (Books.turn (r' := { R0 .ready none with state := .exhausted }) hb).1⟩
    · exact ⟨some c, _, run_endLoop hb.2 (by simp [R0]), hstop _ c pre _ (Nat.le_refl _) hSp ((hIx c).putObj _ hi (by omega) hb.2 rfl) (Books.turn (r' := { R0 .done (some c) with state := .exhausted }) hb).1⟩
/-- An iterator's contract goes into a round as it is. -/
theorem SeqM.inRound {α : Type} {d gf : Nat} {lb : Array Value} {encs : α → Array Value} {Kp Rr : World → World → Prop} {S Sp : List α → Prop} {N : Nat} {w : World} (l : Nat) (h : SeqM F d n P gf lb encs Kp Rr S Sp N w) : SeqM (F.inRound l) d n P gf lb encs Kp Rr S Sp N w := h
/-- The same, within a round of loop l₀. -/
theorem rf_lawN {α : Type} {g : Operand} {ps : Array Tmp} {assign body : Code} {Q : Exit → Act → World → Prop} {a : Act} {w : World} {l₀ : Nat} {r₀ : Loop} (hro : F.round = some l₀) (hl₀ : w.heap[l₀]? = some (.loop r₀)) (h1 : 1 ≤ n) {gf : Nat} {lb : Array Value} (hg : a.eval g = .func (.func gf) #[] lb) (hFg : F.fn gf) (eg : ∀ args w, (callFunc gf args).run P w = .ok (.enter gf args) w)
    {encs : α → Array Value} {Kp R : World → World → Prop} {S Sp : List α → Prop} {N : Nat} (hseq : SeqM F 1 (n - 1) P gf lb encs Kp R S Sp N w)
    (hRk : ∀ A B k o, R A B → k < w.heap.size + 1 → A.heap[k]? = some o → o.isCells = false → B.heap[k]? = some o)
    (hKt : ∀ {A B C : World}, Kp A B → Kp B C → Kp A C) (hKb : ∀ (W : World) (o o' : Obj), W.heap[w.heap.size]? = some o → o.isCells = false → Kp W (W.putObj w.heap.size o')) (hps : ∀ x, (encs x).size = ps.size)
    (I : List α → World → Prop) (Ix : Code → List α → World → Prop) (hI : OwnFrom w.heap.size I) (hIR : Clos R I) (hIx : ∀ c, OwnFrom w.heap.size (Ix c)) (hIxR : ∀ c, Clos R (Ix c)) (h0 : I [] w) (a₁ : α → Act)
    (hassign : ∀ (l : Nat) (x : α) (W : World) (K : Act → World → Prop), K (a₁ x) W → assign.wpIn (F.inRound l) (n - 1 - 1) P (Exit.then K (fun _ _ _ => False)) { tmps := (ps.zip (encs x)).foldl (fun t (p, v) => t.setIfInBounds p v) a.tmps, defers := [] } W)
    (hbody : ∀ (l : Nat) (pre : List α) (x : α) (W : World), (∃ r, W.heap[l]? = some (.loop r)) → I pre W → pre.length < N → body.wpIn (F.inRound l) (n - 1 - 1) P (ownPostG w.heap.size Kp I Ix (pre ++ [x]) W) (a₁ x) W)
    (hdone : ∀ (xs : List α) (W : World), S xs → I xs W → Q .normal a W)
    (hstop : ∀ (c : Code) (pre : List α) (W : World), Sp pre → Ix c pre W → c.wpIn F n P Q a W) :
    (Code.rangeFunc g ps assign body).wpIn F n P Q a w := by
  refine wpIn_rangeFunc fun fn hfn => ?_
  rw [hro]
  obtain ⟨rec, hrec⟩ : ∃ rec : LoopState → Option Code → Loop, rec = fun st pe => { state := st, pending := pe, fn, tmps := a.tmps, params := ps, assign, body, defers := r₀.defers } := ⟨_, rfl⟩
  obtain ⟨W1, hW1⟩ : ∃ W1, w.alloc (.loop (rec .ready none)) = W1 := ⟨_, rfl⟩
  have hL1 : W1.heap[w.heap.size]? = some (.loop (rec .ready none)) := by rw [← hW1]; exact World.alloc_heap_new w _
  have hI1 : I [] W1 := by rw [← hW1]; exact hI.alloc _ h0
  have hw1 : Below w.heap.size w W1 := by rw [← hW1]; exact (Below.refl _ w).alloc (Nat.le_refl _) _
  have hz1 : W1.heap.size = w.heap.size + 1 := by rw [← hW1, World.size_alloc]
  refine ⟨w.heap.size, [], W1, { target := .fn (.func gf) lb, args := #[.func (.yield w.heap.size) #[] #[]] }, W1, gf, #[.func (.yield w.heap.size) #[] #[]] ++ lb, W1, ?_, ?_, ?_, ?_, fun _ => h1, ?_⟩
  · rw [← hW1, hrec]; exact run_enterLoop_inner hl₀ _ _ _ _ _
  · simp only [resolve, hg]
    simp [go_sem]
  · intro f' hf'; simp [Target.leads] at hf'; subst hf'; exact hFg
  · simp [invoke, go_sem, eg]
  have clos : ∀ {r : Loop} {A B : World}, A.heap[w.heap.size]? = some (.loop r) → R A B → B.heap[w.heap.size]? = some (.loop r) := fun hb hr => hRk _ _ _ _ hr (by omega) hb rfl
  refine (hseq w.heap.size (fun pre W => I pre W ∧ W.heap[w.heap.size]? = some (.loop (rec .ready none))) (fun pre W => ∃ c, Ix c pre W ∧ W.heap[w.heap.size]? = some (.loop (rec .done (some c)))) W1 hz1 hw1
    (fun s A B hs hr => ⟨hIR s A B hs.1 hr, clos hs.2 hr⟩) (fun s A B hs hr => by obtain ⟨c, hc, hb⟩ := hs; exact ⟨c, hIxR c s A B hc hr, clos hb hr⟩) ?_ ⟨hI1, hL1⟩).mono ?_
  · rintro pre x W ⟨hi, hl⟩ hlen
    have hlt : w.heap.size < W.heap.size := (Array.getElem?_eq_some_iff.1 hl).1
    have hy := run_yield (P := P) (args := encs x) hl (by rw [hrec]; exact hps x)
    rw [hrec] at hy
    refine ⟨fn, _, assign, body, hy, roundIn_of_wpIn hfn (hassign _ x W _ ⟨_, run_beginRound hl (by rw [hrec]), ?_⟩)⟩
    clear hy
    have hl2 : (W.putObj w.heap.size (.loop { rec .ready none with state := .busy })).heap[w.heap.size]? = some (.loop { rec .ready none with state := .busy }) := World.putObj_heap_same hlt
    have hw2 : Kp W (W.putObj w.heap.size (.loop { rec .ready none with state := .busy })) := hKb _ _ _ hl rfl
    refine wpIn_mono (hbody _ pre x _ ⟨_, hl2⟩ (hI.putObj _ hi (Nat.le_refl _) hl rfl) hlen) ?_
    have fin : ∀ (jump : Option Code) (W3 : World), KeepsFrom w.heap.size (W.putObj w.heap.size (.loop { rec .ready none with state := .busy })) W3 →
        (Instr.endRound w.heap.size jump).run P W3 = .ok (.bool jump.isNone) (W3.putObj w.heap.size (.loop (rec (if jump.isNone then .ready else .done) jump))) ∧
        W3.heap[w.heap.size]? = some (.loop { rec .ready none with state := .busy }) ∧
        (W3.putObj w.heap.size (.loop (rec (if jump.isNone then .ready else .done) jump))).heap[w.heap.size]? = some (.loop (rec (if jump.isNone then .ready else .done) jump)) := fun jump W3 hk3 => by
      have hl3 := hk3.same _ _ (Nat.le_refl _) hl2 rfl
      have := run_endRound (P := P) jump hl3
      rw [hrec] at this ⊢
      exact ⟨this, by rw [hrec] at hl3; exact hl3, World.putObj_heap_same (Array.getElem?_eq_some_iff.1 hl3).1⟩
    have leave : ∀ (c : Code) (W3 : World), KeepsFrom w.heap.size (W.putObj w.heap.size (.loop { rec .ready none with state := .busy })) W3 → Ix c (pre ++ [x]) W3 →
        ∃ v W4, (Instr.endRound w.heap.size (some c)).run P W3 = .ok v W4 ∧ ((Ending.returned v = .returned (.bool true) ∧ (I (pre ++ [x]) W4 ∧ W4.heap[w.heap.size]? = some (.loop (rec .ready none))) ∧ Kp W W4) ∨ (Ending.returned v = .returned (.bool false) ∧ (∃ c, Ix c (pre ++ [x]) W4 ∧ W4.heap[w.heap.size]? = some (.loop (rec .done (some c)))) ∧ KeepsFrom (w.heap.size + 1) W W4)) := fun c W3 hk hx => by
      obtain ⟨hr, hl3, hl4⟩ := fin (some c) W3 hk
      exact ⟨_, _, hr, .inr ⟨rfl, ⟨c, (hIx c).putObj _ hx (Nat.le_refl _) hl3 rfl, hl4⟩, (KeepsFrom.trans (kf_put W _ (by omega)) (kf_mono hk (by omega))).trans (kf_put W3 _ (by omega))⟩⟩
    rintro e a3 W3 hp
    cases e with
    | normal =>
      obtain ⟨hk3, hkp3, hi3⟩ := hp
      obtain ⟨hr, hl3, hl4⟩ := fin none W3 hk3
      exact ⟨_, _, hr, .inl ⟨rfl, ⟨hI.putObj _ hi3 (Nat.le_refl _) hl3 rfl, hl4⟩, hKt (hKt hw2 hkp3) (hKb _ _ _ hl3 rfl)⟩⟩
    | ret => exact leave _ _ hp.1 hp.2
    | exit id => exact leave _ _ hp.1 hp.2
    | goto t => exact leave _ _ hp.1 hp.2
    | panic ch => exact hp.elim
    | outgrown => exact hp.elim
  · rintro e W2 ⟨⟨v, rfl⟩, (⟨xs, hS, hi, hl⟩ | ⟨pre, hSp, c, hi, hl⟩)⟩
    · exact ⟨none, _, by have := run_endLoop (P := P) hl (by rw [hrec]; simp); rw [hrec] at this; exact this, hdone xs _ hS (hI.putObj _ hi (Nat.le_refl _) hl rfl)⟩
    · exact ⟨some c, _, by have := run_endLoop (P := P) hl (by rw [hrec]; simp); rw [hrec] at this; exact this, hstop c pre _ hSp ((hIx c).putObj _ hi (Nat.le_refl _) hl rfl)⟩
end Go.Proofs.Ytnflokhffmfifaa.RFun
namespace Go.Proofs.Ytnflokhffmfifaa.CountW
open Go.RowKit Go.Shelf Go.Proofs.Ytnflokhffmfifaa.Blk Go.Proofs.Ytnflokhffmfifaa.Ris Go.Proofs.Ytnflokhffmfifaa.Cur Go.Proofs.Ytnflokhffmfifaa.OfW Go.Proofs.Ytnflokhffmfifaa.HeapPure Go.Proofs.Ytnflokhffmfifaa.HeapW Go.Proofs.Ytnflokhffmfifaa.CountPure Go.Proofs.Ytnflokhffmfifaa.RFun Go.Proofs.YtnflokhffmfifaaW.PrintWords Go.Proofs.YtnflokhffmfifaaW.PrintLast Go.Proofs.YtnflokhffmfifaaW.PrintMore
attribute [local go_sem] Oper.semAt_some
/-- What a round may do: block b alone turns, and blocks that are no cells ahead of n₀. -/
structure KM (n₀ b : Nat) (A B : World) : Prop where
  size : A.heap.size ≤ B.heap.size
  cell : ∀ j cs t f, A.heap[j]? = some (.cells cs t f) → j ≠ b → B.heap[j]? = some (.cells cs t f)
  own : ∀ j o, n₀ ≤ j → A.heap[j]? = some o → o.isCells = false → B.heap[j]? = some o
theorem KM.trans {n₀ b : Nat} {A B C : World} (h : KM n₀ b A B) (k : KM n₀ b B C) : KM n₀ b A C :=
  ⟨Nat.le_trans h.size k.size, fun j cs t f h1 h2 => k.cell j cs t f (h.cell j cs t f h1 h2) h2, fun j o h1 h2 h3 => k.own j o h1 (h.own j o h1 h2 h3) h3⟩
theorem KM.putObj {n₀ b : Nat} (W : World) (l : Nat) (o o' : Obj) (hl : l < n₀) (h : W.heap[l]? = some o) (ho : o.isCells = false) : KM n₀ b W (W.putObj l o') :=
  ⟨by simp, fun j cs t f h1 _ => (World.putObj_heap_other (fun e => by subst e; rw [h] at h1; cases h1; cases ho)).trans h1, fun j p h1 h2 _ => (World.putObj_heap_other (fun e => by omega)).trans h2⟩
theorem KM.keep {n₀ b n1 : Nat} {A B : World} (h : KM n₀ b A B) : Keep n1 b A B := ⟨h.size, fun j cs t f h1 h2 _ => h.cell j cs t f h1 h2⟩
theorem KM.from {n₀ b n1 : Nat} {A B : World} (h : KM n₀ b A B) (hn : n₀ ≤ n1) : KeepsFrom n1 A B := ⟨h.size, fun j o h1 h2 h3 => h.own j o (Nat.le_trans hn h1) h2 h3⟩
theorem round_any {n m l' l : Nat} {P : Program} {f : FuncId} {tmps : Array Value} {assign body : Code} {w : World} {R : Ending → World → Prop} (h : RoundIn Fence.wide n P l f tmps assign body w R) : RoundIn (Fence.wide.inRound l') m P l f tmps assign body w R :=
  ⟨h.1, fun c cs _ => h.2 c cs (room_wide _)⟩
theorem calls_any {n l' : Nat} {P : Program} {f : FuncId} {args : Array Value} {w : World} {R : Ending → World → Prop} (h : Calls P f args w R) : CallsIn (Fence.wide.inRound l') n P f args w R := (callsIn_wide (n := n)).2 h
theorem below_priv0 {n₀ n1 : Nat} {A B : World} (hn : n₀ ≤ n1) (k : Priv n1 A B) (hs : n₀ ≤ A.heap.size) : Below n₀ A B :=
  ⟨k.os, k.tape, k.output, k.size, fun j hj => by
    have e := Array.getElem?_eq_getElem (Nat.lt_of_lt_of_le hj hs)
    rw [k.block j _ e (.inl (by omega)), ← e]⟩
theorem grown_to_below {n₀ : Nat} {A B : World} {row : Option Nat} (hg : A.grownBy B row) (hr : ∀ k, row = some k → n₀ ≤ k) (hs : n₀ ≤ A.heap.size) : Below n₀ A B :=
  ⟨hg.os, hg.tape, hg.output, hg.size, fun j hj => hg.block j (by omega) (fun e => by have := hr j e.symm; omega)⟩
/-- The union, as the counts' firsts. -/
def firsts (Ds : List Hd) : List Int := (counts ltI (Ds.map Hd.l)).map Prod.fst
set_option maxRecDepth 100000 in
set_option maxHeartbeats 2000000 in
theorem merge1_seq (d n : Nat) (hn : 6 ≤ n) (w : World) (lo b c : Nat) (L : Option Addr) (Ds : List Hd) (hm : Ds.length ≤ 1048576) (hx : w.cell? ⟨lo, 0, none⟩ = some (.slice L Ds.length c)) (hh : Heads w L Ds) (hl : ∀ d ∈ Ds, 0 < d.l.length → d.g ≠ b) (hr : ∀ d ∈ Ds, Ris ltI d.l) (hb : b < w.heap.size) :
    SeqM Fence.wide d n Try.prog 57 #[.pointer (some ⟨lo, 0, none⟩)] (fun x : Int => #[.int .i64 x]) (KM (w.heap.size + d) b) (fun A B => Below (w.heap.size + d) A B) (fun xs => xs = firsts Ds) (fun pre => pre <+: firsts Ds) (firsts Ds).length w := by
  intro l J Jx W hz hB hJ hJx hY h0
  have h1 : 1 ≤ n := by omega
  have hx' : W.cell? ⟨lo, 0, none⟩ = some (.slice L Ds.length c) := (hB.cell (p := ⟨lo, 0, none⟩) (World.block_lt_of_cell? w _ hx)).trans hx
  have hh' : Heads W L Ds := ⟨fun j hj => by
    obtain ⟨r, o, e, hc⟩ := hh.head j hj
    exact ⟨r, o, e, (hB.cell (p := ⟨r, o + j, none⟩) (World.block_lt_of_cell? w _ hc)).trans hc⟩, fun d hd => (hh.row d hd).on (fun hp => hB.block _ (Row.lt (hh.row d hd) hp))⟩
  refine callsIn_of_wp_marks Try.func57 rfl trivial ?_ rfl
  simp only [Try.ntmps57, List.size_toArray, List.length_cons, List.length_nil, Nat.reduceAdd, Nat.reduceSub, Array.replicate_succ, Array.replicate_zero, List.push_toArray, List.append_toArray, List.nil_append, List.cons_append]
  have hx2 : (W.alloc (.cells #[.func (.yield l) #[] #[]] 78)).cell? ⟨lo, 0, none⟩ = some (.slice L Ds.length c) := (((Below.refl _ W).alloc (Nat.le_refl _) _).cell (p := ⟨lo, 0, none⟩) (World.block_lt_of_cell? W _ hx')).trans hx'
  have HZ := Lib.hid hz
  clear hz
  gi_wp2_with (first
    | (refine ⟨trivial, ?_⟩; gi_at_call 58; refine (callsIn_wide.2 (counted_as _ _ _ _)).mono ?_; rintro e W3 ⟨rfl, hW3⟩; subst hW3))
  obtain ⟨W2, hW2⟩ : ∃ W2, (W.alloc (.cells #[.func (.yield l) #[] #[]] 78)).alloc (.cells #[.slice L Ds.length c] 42) = W2 := ⟨_, rfl⟩
  rw [hW2]
  have hz1 : (W.alloc (.cells #[.func (.yield l) #[] #[]] 78)).heap.size = W.heap.size + 1 := World.size_alloc _ _
  have hz2 : W2.heap.size = W.heap.size + 2 := by rw [← hW2, World.size_alloc, hz1]
  have hb2 : Below W.heap.size W W2 := by rw [← hW2]; exact ((Below.refl _ W).alloc (Nat.le_refl _) _).alloc (by rw [hz1]; omega) _
  have hbox : Boxed W2 W.heap.size 78 (.func (.yield l) #[] #[]) := by rw [← hW2]; exact (Boxed.new W 78 (.func (.yield l) #[] #[])).alloc _
  have hx3 : W2.cell? ⟨W.heap.size + 1, 0, none⟩ = some (.slice L Ds.length c) := by
    have := (Boxed.new (W.alloc (.cells #[.func (.yield l) #[] #[]] 78)) 42 (.slice L Ds.length c)).cell
    rw [hW2, hz1] at this
    exact this
  have hh2 : Heads W2 L Ds := ⟨fun j hj => by
    obtain ⟨r, o, e, hc⟩ := hh'.head j hj
    exact ⟨r, o, e, (hb2.cell (p := ⟨r, o + j, none⟩) (World.block_lt_of_cell? W _ hc)).trans hc⟩, fun d hd => (hh'.row d hd).on (fun hp => hb2.block _ (Row.lt (hh'.row d hd) hp))⟩
  have hJ2 : J [] W2 := hJ _ _ _ h0 (hb2.mono (by rw [HZ.out]; exact Nat.le_refl _))
  have hNN : (counts ltI (Ds.map Hd.l)).length = (firsts Ds).length := by unfold firsts; rw [List.length_map]
  have hle2 : w.heap.size + d ≤ W2.heap.size := by have := HZ.out; omega
  have HY := Lib.hid hY
  clear hY hx hx' hx2 hh hh'
  refine rf_law (F := Fence.wide) rfl h1 (gf := 69) (lb := #[.pointer (some ⟨W.heap.size + 1, 0, none⟩)]) rfl trivial (enters_of Try.func69 (by kernel_rfl) rfl)
    (counted_seq (n - 1) (by omega) W2 (W.heap.size + 1) b c L Ds hm hx3 hh2 hl hr (by have := HZ.out; omega))
    (fun A B j o hr _ h2 h3 => hr.block j o h2 (.inr (.inl h3))) Keep.trans (fun W l o o' _ h2 h3 => Keep.putObj W l o o' h2 h3) (fun _ => rfl)
    (fun pre V => (J (pre.map Prod.fst) V ∧ w.heap.size + d ≤ V.heap.size) ∧ Boxed V W.heap.size 78 (.func (.yield l) #[] #[]))
    (fun cd pre V => cd = .ret ∧ Jx (pre.map Prod.fst) V ∧ w.heap.size + d ≤ V.heap.size)
    (fun s A B row hs hg hr => ⟨⟨hJ _ _ _ hs.1.1 (grown_to_below hg (fun k e => Nat.le_trans hle2 (hr k e).1) hs.1.2), Nat.le_trans hs.1.2 hg.size⟩, hs.2.kept hg (fun e => by have := (hr _ e.symm).1; omega)⟩)
    (fun s A B hs hr => ⟨⟨hJ _ _ _ hs.1.1 (below_priv0 hle2 hr hs.1.2), Nat.le_trans hs.1.2 hr.size⟩, boxed_priv hs.2 (by omega) hr⟩)
    (fun cd s A B row hs hg hr => ⟨hs.1, hJx _ _ _ hs.2.1 (grown_to_below hg (fun k e => Nat.le_trans hle2 (hr k e).1) hs.2.2), Nat.le_trans hs.2.2 hg.size⟩)
    (fun cd s A B hs hr => ⟨hs.1, hJx _ _ _ hs.2.1 (below_priv0 hle2 hr hs.2.2), Nat.le_trans hs.2.2 hr.size⟩)
    ⟨⟨hJ2, hle2⟩, hbox⟩
    (fun x => { tmps := #[.func (.yield l) #[] #[], .pointer (some ⟨lo, 0, none⟩), .pointer (some ⟨W.heap.size, 0, none⟩), .int .i64 x.1, .slice L Ds.length c, .func (.func 69) #[] #[.pointer (some ⟨W.heap.size + 1, 0, none⟩)], .int .i64 x.1, .int .i64 (x.2 : Int), undef, undef, undef, undef], defers := [] }) ?assign ?body ?done ?stop
  case assign =>
    intro l x W K hK
    gi_wp2
    exact hK
  case body =>
    rintro l2 pre x V ⟨⟨hj, hs⟩, hv⟩ hlt
    have hc := hv.cell
    have hp : (pre.map Prod.fst).length < (firsts Ds).length := by rw [List.length_map, ← hNN]; exact hlt
    obtain ⟨fn, tmps, assign, body, hy, hR⟩ := HY.out (pre.map Prod.fst) x.1 V hj hp
    have HR := Lib.hid hR
    clear hR hlt hp
    gi_wp2
    refine ⟨fun h => by simp [Fence.wide] at h, (round_any HR.out).mono ?_⟩
    rintro e V3 (⟨rfl, hj3, hk3⟩ | ⟨rfl, hj3, hk3⟩)
    · have hbx3 : Boxed V3 W.heap.size 78 (.func (.yield l) #[] #[]) := hk3.cell _ _ _ _ hv (by have := HZ.out; omega)
      gi_wp2
      refine ⟨hk3.from hle2, hk3.keep, ⟨by rw [List.map_append]; exact hj3, Nat.le_trans hs hk3.size⟩, hbx3⟩
    · gi_wp2
      exact ⟨kf_mono hk3 hle2, rfl, by rw [List.map_append]; exact hj3, Nat.le_trans hs hk3.size⟩
  case done =>
    rintro D ys V hD rfl ⟨⟨hj, hs⟩, hv⟩ hK
    gi_wp2
    refine ⟨by simp, .inl ⟨_, _, rfl, run_takeDeferred hK, ?_⟩⟩
    exact ⟨_, results_none rfl _ _ _, ⟨_, rfl⟩, .inl ⟨_, rfl, hJ _ _ _ hj (grown_to_below (grownBy_putObj' V D _) (fun k e => by cases e; omega) hs)⟩⟩
  case stop =>
    rintro D cd pre V hD hp ⟨rfl, hj, hs⟩ hK
    gi_wp2
    refine ⟨by simp, .inl ⟨_, _, rfl, run_takeDeferred hK, ?_⟩⟩
    refine ⟨_, results_none rfl _ _ _, ⟨_, rfl⟩, .inr ⟨_, ?_, hJx _ _ _ hj (grown_to_below (grownBy_putObj' V D _) (fun k e => by cases e; omega) hs)⟩⟩
    obtain ⟨t, ht⟩ := hp
    exact ⟨t.map Prod.fst, by unfold firsts; rw [← ht, List.map_append]⟩
end Go.Proofs.Ytnflokhffmfifaa.CountW
namespace Go.Proofs.Ytnflokhffmfifaa.KeptW
open Go.RowKit Go.Proofs.Ytnflokhffmfifaa.Blk Go.Proofs.Ytnflokhffmfifaa.Ris Go.Proofs.Ytnflokhffmfifaa.Cur Go.Proofs.Ytnflokhffmfifaa.OfW Go.Proofs.YtnflokhffmfifaaW.PrintWords Go.Proofs.YtnflokhffmfifaaW.PrintLast Go.Proofs.YtnflokhffmfifaaW.PrintMore
/-- The first n of the row at A are m. -/
def AllM (W : World) (A : Option Addr) (n : Nat) (m : Int) : Prop := 0 < n → ∃ g cs, A = some ⟨g, 0, none⟩ ∧ At W g cs 2 ∧ ∀ j, j < n → cs[j]? = some (.int .i64 m)
theorem AllM.on {W W' : World} {A : Option Addr} {n : Nat} {m : Int} (h : AllM W A n m) (hk : ∀ (g : Nat), A = some ⟨g, 0, none⟩ → g < W.heap.size → W'.heap[g]? = W.heap[g]?) : AllM W' A n m := fun hp => by
  obtain ⟨g, cs, e, ha, hc⟩ := h hp
  exact ⟨g, cs, e, (hk g e ha.lt).trans ha, hc⟩
theorem AllM.below {W W' : World} {A : Option Addr} {n : Nat} {m : Int} (h : AllM W A n m) (hb : Below W.heap.size W W') : AllM W' A n m := h.on (fun g _ hg => hb.block g hg)
theorem AllM.read {W : World} {A : Option Addr} {n : Nat} {m : Int} (h : AllM W A n m) (hn : n ≤ 9223372036854775807) : Kd.C (Kd.int .i64) W A (List.replicate n m).length (List.replicate n m) := by
  rw [List.length_replicate]
  refine ⟨List.length_replicate, hn, fun hp => ?_⟩
  obtain ⟨g, cs, e, ha, hc⟩ := h hp
  refine ⟨_, e, fun j p hj => ⟨[.int .i64 p], rfl, rfl, fun i u hu => ?_⟩⟩
  have hjn : j < n := by have := (List.getElem?_eq_some_iff.1 hj).1; simpa using this
  have hp2 : p = m := by
    rw [List.getElem?_replicate, if_pos hjn] at hj
    exact (Option.some.inj hj).symm
  have hi : i = 0 := by
    have := (List.getElem?_eq_some_iff.1 hu).1
    simpa using this
  subst hi hp2
  rw [add_off]
  show W.cell? ⟨g, 0 + (j * 1 + 0), none⟩ = _
  rw [Nat.zero_add, Nat.mul_one, Nat.add_zero, ha.cell, hc j hjn]
  simpa using hu
theorem app_run (W : World) (A : Option Addr) (n c : Nat) (m : Int) (xb : Nat) (hn : n ≤ 16777216)
    (hA : (A = none ∧ n = 0 ∧ c = 0) ∨ ∃ g cs, A = some ⟨g, 0, none⟩ ∧ At W g cs 2 ∧ n ≤ c ∧ c ≤ cs.length ∧ xb ≠ g ∧ ∀ j, j < n → cs[j]? = some (.int .i64 m)) (hx : At W xb [.int .i64 m] 2) :
    ∃ A2 c2 W', (Builtin.append_ #[22, 22] 22 #[.slice A n c, .slice (some ⟨xb, 0, none⟩) 1 1]).run Try.prog W = .ok (.slice A2 (n + 1) c2) W' ∧ AllM W' A n m ∧ AllM W' A2 (n + 1) m ∧ n + 1 ≤ c2 ∧ W.grownBy W' (A.map (·.block)) ∧ ∀ g2, A2 = some ⟨g2, 0, none⟩ → A = some ⟨g2, 0, none⟩ ∨ W.heap.size ≤ g2 := by
  obtain ⟨i0, hi, hz0, hz1, hz2⟩ := info_parts info2
  have hsrc : Src Try.prog i0.size 22 (.slice (some ⟨xb, 0, none⟩) 1 1) 1 [.int .i64 m] W := by
    rw [hz1]
    refine Src.ofSlice W Try.underlying22 ⟨xb, 0, none⟩ 1 1 [.int .i64 m] rfl (fun j u hj => ?_) (by simp [Value.oneCell'])
    have hj0 : j = 0 := by have := (List.getElem?_eq_some_iff.1 hj).1; simpa using this
    subst hj0
    rw [add_off]
    exact hx.get 0 u hj
  have grow : ∀ (olds : List Value), (Builtin.firstCells i0.size n (.slice A n c)).run Try.prog W.drew = .ok olds.toArray W.drew → olds.length = n → (∀ j, j < n → olds[j]? = some (.int .i64 m)) → c < n + 1 → (∀ g, A = some ⟨g, 0, none⟩ → g < W.heap.size) → AllM W A n m →
      ∃ A2 c2 W', (Builtin.append_ #[22, 22] 22 #[.slice A n c, .slice (some ⟨xb, 0, none⟩) 1 1]).run Try.prog W = .ok (.slice A2 (n + 1) c2) W' ∧ AllM W' A n m ∧ AllM W' A2 (n + 1) m ∧ n + 1 ≤ c2 ∧ W.grownBy W' (A.map (·.block)) ∧ ∀ g2, A2 = some ⟨g2, 0, none⟩ → A = some ⟨g2, 0, none⟩ ∨ W.heap.size ≤ g2 := by
    intro olds hold hol hom hc hg hall
    have hfit : Builtin.nextslicecap (n + 1) c * i0.bytes ≤ 281474976710656 := by rw [hz2]; exact growslice_fits (by omega) (by omega)
    have hge := grownCap_ge W (n + 1) c 2
    refine ⟨_, _, _, run_append_grow_src W 22 22 22 2 i0 (.int .i64 0) Try.underlying22 hi hz0 A n c olds hold _ 1 [.int .i64 m] hsrc hc (by omega) hfit, hall.on (fun g _ h2 => Lib.alloc_old W.drew _ g h2), fun _ => ⟨W.heap.size, ((olds ++ [Value.int .i64 m]).toArray ++ Builtin.zeroCells (Value.int .i64 0).cells (grownCap W (n + 1) c 2 - (n + 1))).toList, rfl, ?_, fun j hj => ?_⟩, hge, ⟨rfl, rfl, rfl, by simp, fun k hk _ => Lib.alloc_old W.drew _ k hk⟩, fun g2 e => ?_⟩
    · unfold At
      rw [Array.toArray_toList]
      exact heap_alloc_new W.drew _
    · rw [Array.toList_append, List.getElem?_append_left (by simp [hol]; omega)]
      show (olds ++ [Value.int .i64 m])[j]? = _
      rcases Nat.lt_or_ge j n with h1 | h1
      · rw [List.getElem?_append_left (by omega)]
        exact hom j h1
      · rw [List.getElem?_append_right (by omega), hol, show j - n = 0 by omega]
        rfl
    · injection e with e
      injection e with e
      right; omega
  rcases hA with ⟨rfl, rfl, rfl⟩ | ⟨g, cs, rfl, ha, h1, h2, hne, hall⟩
  · exact grow [] (run_firstCells_none W.drew i0.size 0 0 0) rfl (fun j hj => absurd hj (Nat.not_lt_zero _)) (by omega) (fun g e => by cases e) (fun h => absurd h (Nat.lt_irrefl _))
  · by_cases hroom : n + 1 ≤ c
    · have hcell : W.cell? ⟨g, n, none⟩ = cs[n]? := ha.cell n
      have hr := run_append_room_src W 22 22 22 2 i0 Try.underlying22 hi g 0 n c (.slice (some ⟨xb, 0, none⟩) 1 1) 1 [.int .i64 m] hsrc hroom (fun j hj => by
        have hj0 : j = 0 := by simpa using hj
        subst hj0
        rw [hz1, Nat.zero_add, Nat.mul_one, Nat.add_zero, hcell, List.getElem?_eq_getElem (by omega)]
        rfl) (fun j hj => ha.free _)
      rw [hz1, Nat.zero_add, Nat.mul_one] at hr
      have ha2 : At (W.setCells g n [.int .i64 m]) g (cs.set n (.int .i64 m)) 2 := ha.set n _
      refine ⟨_, _, _, hr, fun _ => ⟨g, _, rfl, ha2, fun j hj => ?_⟩, fun _ => ⟨g, _, rfl, ha2, fun j hj => ?_⟩, hroom, grown_set (grown_refl W (some g)) n _, fun g2 e => .inl e⟩
      · rw [List.getElem?_set_ne (by omega)]; exact hall j hj
      · rcases Nat.lt_or_ge j n with h3 | h3
        · rw [List.getElem?_set_ne (by omega)]; exact hall j h3
        · rw [show j = n by omega, List.getElem?_set_self (by omega)]
    · refine grow (cs.take n) ?_ (by rw [List.length_take]; omega) (fun j hj => by rw [List.getElem?_take_of_lt hj]; exact hall j hj) (by omega) (fun g' e => by injection e with e; injection e with e; rw [← e]; exact ha.lt) (fun _ => ⟨g, cs, rfl, ha, hall⟩)
      refine run_firstCells_some W.drew i0.size n ⟨g, 0, none⟩ n c (cs.take n) (by rw [hz1, List.length_take]; omega) (fun j u hu => ?_)
      rw [add_off, Nat.zero_add]
      have hj : j < n := by have := (List.getElem?_eq_some_iff.1 hu).1; rw [List.length_take] at this; omega
      rw [List.getElem?_take_of_lt hj] at hu
      exact (ha.drew).get j u hu
section
variable {P : Program} {ops : Array Oper} {rest : List Oper} {o : Oper} {a : Act} {Q : Exit → Act → World → Prop}
theorem wp_app {W W' : World} (hgd : o.guard = none) (s x : Operand) (t tx : TypeId)
    (ho : o.op = .call { callee := .builtin .append, args := #[s, x], argTypes := #[t, tx] })
    (v xv v' : Value) (hv : a.eval s = v) (hx : a.eval x = xv) (hr : (Builtin.append_ #[t, tx] o.type #[v, xv]).run P W = .ok v' W') (hk : wpList P ops Q rest (a.put o.dst v') W') : wpList P ops Q (o :: rest) a W := by
  refine wpList_plain hgd fun K hK => ?_
  unfold Oper.wp execOp
  simp only [ho, resolve, invoke, builtin, Sem.run_bind, Sem.run_pure, Result.andThen_ok, List.map_toArray, List.map_cons, List.map_nil, hv, hx, hr]
  exact hK _ _ hk
end
section
variable {P : Program} {ops : Array Oper} {o : Oper} {a : Act} {Q : Exit → Act → World → Prop} {Kc : Act → World → Prop}
theorem step_app {W W' : World} (hw : Region.wanted o (yielded ops a.tmps) = true) (s x : Operand) (t tx : TypeId)
    (ho : o.op = .call { callee := .builtin .append, args := #[s, x], argTypes := #[t, tx] })
    (v xv v' : Value) (hv : a.eval s = v) (hx : a.eval x = xv) (hr : (Builtin.append_ #[t, tx] o.type #[v, xv]).run P W = .ok v' W') (hk : Kc (a.put o.dst v') W') :
    if Region.wanted o (yielded ops a.tmps) = true then Oper.wp P o a W Kc Q else Kc (a.put o.dst undef) W := by
  refine value_ (w1 := W') (v := v') hw rfl ?_ hk
  unfold execOp
  simp only [ho, resolve, invoke, builtin, Sem.run_bind, Sem.run_pure, Result.andThen_ok, List.map_toArray, List.map_cons, List.map_nil, hv, hx, hr]
end
end Go.Proofs.Ytnflokhffmfifaa.KeptW
namespace Go.Proofs.Ytnflokhffmfifaa.CountW
open Go.RowKit Go.Proofs.Ytnflokhffmfifaa.Blk Go.Proofs.Ytnflokhffmfifaa.Ris Go.Proofs.Ytnflokhffmfifaa.Cur Go.Proofs.Ytnflokhffmfifaa.OfW Go.Proofs.Ytnflokhffmfifaa.HeapPure Go.Proofs.Ytnflokhffmfifaa.HeapW Go.Proofs.Ytnflokhffmfifaa.KeptW Go.Proofs.YtnflokhffmfifaaW.PrintWords Go.Proofs.YtnflokhffmfifaaW.PrintLast Go.Proofs.YtnflokhffmfifaaW.PrintMore
/-- Merge's own lists, k of them made. -/
structure MG (W : World) (Es : List Hd) (k : Nat) (ds : List Hd) (cur : List Value) (wr : World) : Prop where
  row : Blk.At wr W.heap.size cur 22
  len : cur.length = Es.length
  vals : cur.take k = ds.map Hd.v
  box : Boxed wr (W.heap.size + 1) 42 (.slice (some ⟨W.heap.size, 0, none⟩) k Es.length)
  rows : ∀ d ∈ ds, Row wr d.g d.A d.c d.l ∧ (0 < d.l.length → W.heap.size + 2 ≤ d.g)
  maps : ds.map Hd.l = (Es.take k).map fun d => setL ltI d.l
  below : Below W.heap.size W wr
theorem MG.app {W wr W2 : World} {Es ds : List Hd} {k : Nat} {cur : List Value} (h : MG W Es k ds cur wr) (hk : k < Es.length) (hm : Es.length ≤ 1048576) (hb : Below wr.heap.size wr W2) (d : Hd) (hd : Row W2 d.g d.A d.c d.l) (hd2 : 0 < d.l.length → wr.heap.size ≤ d.g) (he : d.l = setL ltI (Es.getD k default).l) :
    ∃ W4, (Builtin.append_ #[42, 42] 42 #[.slice (some ⟨W.heap.size, 0, none⟩) k Es.length, .slice (some ⟨W2.heap.size, 0, none⟩) 1 1]).run Try.prog (W2.alloc (.cells #[d.v] 22)) = .ok (.slice (some ⟨W.heap.size, 0, none⟩) (k + 1) Es.length) W4 ∧ W4.cell? ⟨W.heap.size + 1, 0, none⟩ = some (.slice (some ⟨W.heap.size, 0, none⟩) k Es.length) ∧ W4.frozen? ⟨W.heap.size + 1, 0, none⟩ = false ∧ MG W Es (k + 1) (ds ++ [d]) (cur.set k d.v) (W4.setCell ⟨W.heap.size + 1, 0, none⟩ (.slice (some ⟨W.heap.size, 0, none⟩) (k + 1) Es.length)) := by
  obtain ⟨i0, hi, hz0, hz1, hz2⟩ := info_parts info22
  have hxat : Blk.At (W2.alloc (.cells #[d.v] 22)) W2.heap.size [d.v] 22 := Blk.At.fresh W2 [d.v] 22
  have hsrc : Src Try.prog i0.size 42 (.slice (some ⟨W2.heap.size, 0, none⟩) 1 1) 1 [d.v] (W2.alloc (.cells #[d.v] 22)) := by
    rw [hz1]
    refine Src.ofSlice _ Try.underlying42 ⟨W2.heap.size, 0, none⟩ 1 1 [d.v] rfl (fun j u hj => ?_) (by simp [Value.oneCell', Hd.v])
    have hj0 : j = 0 := by have := (List.getElem?_eq_some_iff.1 hj).1; simpa using this
    subst hj0
    rw [add_off]
    exact hxat.get 0 u hj
  have hlr := h.row.lt
  have hlb : W.heap.size + 1 < wr.heap.size := (Array.getElem?_eq_some_iff.1 h.box).1
  have hs := hb.size
  have hrow2 : Blk.At (W2.alloc (.cells #[d.v] 22)) W.heap.size cur 22 := Blk.At.alloc ((hb.block _ hlr).trans h.row) _
  have hbox2 : Boxed (W2.alloc (.cells #[d.v] 22)) (W.heap.size + 1) 42 (.slice (some ⟨W.heap.size, 0, none⟩) k Es.length) := Boxed.alloc (show Boxed W2 _ _ _ from (hb.block _ hlb).trans h.box) _
  have hr := run_append_room_src (W2.alloc (.cells #[d.v] 22)) 42 42 42 22 i0 Try.underlying42 hi W.heap.size 0 k Es.length (.slice (some ⟨W2.heap.size, 0, none⟩) 1 1) 1 [d.v] hsrc (by omega) (fun j hj => by
    have hj0 : j = 0 := by simpa using hj
    subst hj0
    rw [hz1, Nat.zero_add, Nat.mul_one, Nat.add_zero, hrow2.cell k, List.getElem?_eq_getElem (by have := h.len; omega)]
    rfl) (fun j hj => hrow2.free _)
  rw [hz1, Nat.zero_add, Nat.mul_one] at hr
  have hbox3 : Boxed ((W2.alloc (.cells #[d.v] 22)).setCells W.heap.size k [d.v]) (W.heap.size + 1) 42 (.slice (some ⟨W.heap.size, 0, none⟩) k Es.length) := (Below.heap_setCell _ _ _ _ (by show W.heap.size + 1 ≠ W.heap.size; omega)).trans hbox2
  refine ⟨_, hr, hbox3.cell, hbox3.frozen, ?_⟩
  have keep : ∀ (g : Nat), g ≠ W.heap.size → g ≠ W.heap.size + 1 → g < W2.heap.size → (((W2.alloc (.cells #[d.v] 22)).setCells W.heap.size k [d.v]).setCell ⟨W.heap.size + 1, 0, none⟩ (.slice (some ⟨W.heap.size, 0, none⟩) (k + 1) Es.length)).heap[g]? = W2.heap[g]? := fun g h1 h2 h3 => by
    rw [Below.heap_setCell _ _ _ _ h2]
    exact (Below.heap_setCell _ _ _ _ h1).trans (Below.heap_alloc _ _ _ h3)
  have hrow4 : Blk.At (((W2.alloc (.cells #[d.v] 22)).setCells W.heap.size k [d.v]).setCell ⟨W.heap.size + 1, 0, none⟩ (.slice (some ⟨W.heap.size, 0, none⟩) (k + 1) Es.length)) W.heap.size (cur.set k d.v) 22 := Blk.At.other (hrow2.set k d.v) _ _ (by show W.heap.size ≠ W.heap.size + 1; omega)
  have hsz : (((W2.alloc (.cells #[d.v] 22)).setCells W.heap.size k [d.v]).setCell ⟨W.heap.size + 1, 0, none⟩ (.slice (some ⟨W.heap.size, 0, none⟩) (k + 1) Es.length)).heap.size = W2.heap.size + 1 := by
    rw [World.size_setCell]
    exact (World.size_setCell _ _ _).trans (World.size_alloc _ _)
  have hbs := h.below.size
  refine ⟨hrow4, by rw [List.length_set]; exact h.len, ?_, hbox3.set _, fun e he' => ?_, ?_, ?_⟩
  · rw [List.take_add_one, List.take_set_of_le (Nat.le_refl k), h.vals, List.getElem?_set_self (by have := h.len; omega), List.map_append]
    rfl
  · rcases List.mem_append.1 he' with he' | he'
    · obtain ⟨r1, r2⟩ := h.rows e he'
      exact ⟨r1.on (fun hp => (keep _ (by have := r2 hp; omega) (by have := r2 hp; omega) (by have := Row.lt r1 hp; omega)).trans (hb.block _ (Row.lt r1 hp))), r2⟩
    · rw [List.mem_singleton] at he'
      subst he'
      exact ⟨hd.on (fun hp => keep _ (by have := hd2 hp; omega) (by have := hd2 hp; omega) (Row.lt hd hp)), fun hp => by have := hd2 hp; omega⟩
  · rw [take_snoc Es hk, List.map_append, List.map_append, h.maps, List.map_cons, List.map_nil, he]; rfl
  · have hbw := h.below.trans (hb.mono hbs)
    exact ⟨hbw.os, hbw.tape, hbw.output, by omega, fun j hj => by
      have hjw := hbw.size
      exact (keep j (by omega) (by omega) (by omega)).trans (hbw.block j hj)⟩
/-- What Merge hands out: the iterator with lists of its own. -/
def MergeQ (w : World) (Es : List Hd) (e : Ending) (w' : World) : Prop := ∃ (lo : Nat) (L : Option Addr) (c : Nat) (Ds : List Hd), e = .returned (.func (.func 57) #[] #[.pointer (some ⟨lo, 0, none⟩)]) ∧ w.heap.size ≤ lo ∧ lo < w'.heap.size ∧ w'.cell? ⟨lo, 0, none⟩ = some (.slice L Ds.length c) ∧ Heads w' L Ds ∧ (∀ r o, L = some ⟨r, o, none⟩ → w.heap.size ≤ r ∧ r < w'.heap.size) ∧ (∀ d ∈ Ds, 0 < d.l.length → w.heap.size ≤ d.g) ∧ Ds.map Hd.l = (Es.map fun d => setL ltI d.l) ∧ Below w.heap.size w w'
set_option maxHeartbeats 2000000 in
set_option maxRecDepth 100000 in
theorem merge_as (W : World) (c : Nat) (L : Option Addr) (Es : List Hd) (h : Heads W L Es) (hm : Es.length ≤ 1048576) (hn : ∀ d ∈ Es, d.l.length ≤ 1048576) : Calls Try.prog 26 #[.slice L Es.length c] W (MergeQ W Es) := by
  obtain ⟨i0, hi, hz0, hz1, hz2⟩ := info_parts info22
  have hmk : ∀ w : World, (Instr.makeSlice 42 (.int .i64 0) (.int .i64 (Es.length : Int))).run Try.prog w = .ok (.slice (some ⟨w.heap.size, 0, none⟩) 0 Es.length) (w.alloc (.cells (madeCells (Value.slice none 0 0).cells (Es.length * 1)) 22)) := fun w => by
    have := run_make (P := Try.prog) w 42 22 i0 (.slice none 0 0) Try.underlying42 hi hz0 .i64 .i64 0 (Es.length : Int) (Int.le_refl _) (by omega) (by rw [hz2]; omega) (by omega)
    rw [hz1] at this
    simpa using this
  have hS : MG W Es 0 [] (madeCells (Value.slice none 0 0).cells (Es.length * 1)).toList ((W.alloc (.cells (madeCells (Value.slice none 0 0).cells (Es.length * 1)) 22)).alloc (.cells #[.slice (some ⟨W.heap.size, 0, none⟩) 0 Es.length] 42)) := by
    have hz : (W.alloc (.cells (madeCells (Value.slice none 0 0).cells (Es.length * 1)) 22)).heap.size = W.heap.size + 1 := World.size_alloc _ _
    refine ⟨?_, ?_, rfl, ?_, fun d hd => by simp at hd, rfl, ((Below.refl _ W).alloc (Nat.le_refl _) _).alloc (by rw [hz]; omega) _⟩
    · refine Blk.At.alloc ?_ _
      unfold Blk.At
      rw [Array.toArray_toList]
      exact World.alloc_heap_new W _
    · rw [Array.length_toList, size_madeCells]; simp [Value.cells]
    · have := Boxed.new (W.alloc (.cells (madeCells (Value.slice none 0 0).cells (Es.length * 1)) 22)) 42 (.slice (some ⟨W.heap.size, 0, none⟩) 0 Es.length)
      rwa [hz] at this
  generalize madeCells (Value.slice none 0 0).cells (Es.length * 1) = mc at hmk hS
  have HS := Lib.hid hS
  have HH := Lib.hid h
  have HN := Lib.hid hn
  clear hS h hn
  go_enter Try.func26, Try.ntmps26
  go_wp2
  go_loopw [5, 11] (fun v5 v11 wr => ∃ (k : Nat) (ds : List Hd) (cur : List Value), k ≤ Es.length ∧ v11 = .int .i64 (k : Nat) ∧ Hid (MG W Es k ds cur wr)) (fun _ v _ => Es.length - (intOf v).toNat)
  case atStart => exact ⟨0, [], _, Nat.zero_le _, rfl, HS⟩
  case round =>
    clear HS
    obtain ⟨k, ds, cur, hk, rfl, HW⟩ := hrel
    by_cases hin : k < Es.length
    · have hlt : (k : Int) < (Es.length : Int) := by omega
      have hwk : IntKind.i64.wrap ((k : Int) + 1) = ((k + 1 : Nat) : Int) := by rw [IntWalk.i64_in _ (by omega)]; rfl
      obtain ⟨lr, lo, rfl, hc⟩ := HH.out.head k hin
      have hcw := (HW.out.below.cell (p := ⟨lr, lo + k, none⟩) (World.block_lt_of_cell? W _ hc)).trans hc
      have hmem : Es.getD k default ∈ Es := by rw [← getElem_getD _ _ hin]; exact List.getElem_mem hin
      have hrow : Row wr (Es.getD k default).g (Es.getD k default).A (Es.getD k default).c (Es.getD k default).l := (HH.out.row _ hmem).on (fun hp => HW.out.below.block _ (Row.lt (HH.out.row _ hmem) hp))
      have hlen := HN.out _ hmem
      have cO := HW.out.box.cell
      obtain ⟨⟨Ae, ce, ge, le⟩, he⟩ : ∃ e, e = Es.getD k default := ⟨_, rfl⟩
      rw [← he] at hcw hrow hlen
      change wr.cell? ⟨lr, lo + k, none⟩ = some (.slice Ae le.length ce) at hcw
      have HE := Lib.hid he
      have HR := Lib.hid hrow
      have hlen : le.length ≤ 1048576 := hlen
      clear hc hmem hrow he
      go_wp2
      refine start_ (n := 6) (S := fun w' => w'.cell? ⟨W.heap.size + 1, 0, none⟩ = some (.slice (some ⟨W.heap.size, 0, none⟩) k Es.length)) (ds := [4, 5]) #[false, false, false, false, false, false] (by kernel_rfl) rfl rfl (cO) (fun hHeld => ?_)
      refine pure_ (i := 1) (N := some 16) (v := ?_) (a' := ?_) #[false, true, false, false, false, false] rfl rfl (by kernel_rfl) (fun _ _ _ h => h) (Or.inl ⟨by rfl, ?_⟩) ?_ ?_
      rotate_left
      · intro w'
        go_simp
        with_reducible rfl
      rotate_left
      · simp only [Act.put, List.setIfInBounds_toArray, List.set_cons_zero, List.set_cons_succ, i64_w, i32_w]
        rfl
      refine take_ (i := 0) (N := some 15) (v := ?_) (a' := ?_) #[true, true, false, false, false, false] rfl rfl (by kernel_rfl) (fun _ _ _ h => h) (Or.inl ⟨by rfl, ?_⟩) hHeld ?_ ?_
      rotate_left
      · intro w' s0
        go_simp
        with_reducible rfl
      rotate_left
      · simp only [Act.put, List.setIfInBounds_toArray, List.set_cons_zero, List.set_cons_succ, i64_w, i32_w]
        rfl
      refine one_ (i := 2) (N := some 17) #[true, true, true, false, false, false] rfl rfl (by kernel_rfl) (by decide) (fun K hK => ?_)
      refine goes_ Try.func22 (by kernel_rfl) rfl #[.slice Ae le.length ce] (by rfl) rfl rfl (by simp only [List.map_toArray, List.map_cons, List.map_nil]; rfl) ?_
      with_reducible refine (of_got wr.drew ge Ae ce le (HR.out.below (below_drew1 (Below.refl _ _))) hlen).mono ?_
      rintro e W2 ⟨g2, B2, c2, rfl, q1, q2, hb0⟩
      have hb : Below wr.heap.size wr W2 := undrew1 hb0
      obtain ⟨W4, hr4, cB4, fB4, hq⟩ := HW.out.app hin hm hb ⟨B2, c2, g2, setL ltI le⟩ q1 (fun hp => (q2 hp).1) (by rw [← HE.out])
      have HQ := Lib.hid hq
      have HR4 := Lib.hid hr4
      have cO2 := (hb.cell (p := ⟨W.heap.size + 1, 0, none⟩) (World.block_lt_of_cell? wr _ cO)).trans cO
      have cO3 := ((Below.refl W2.heap.size W2).alloc (Nat.le_refl _) (.cells #[.slice B2 (setL ltI le).length c2] 22)).cell (p := ⟨W.heap.size + 1, 0, none⟩) (World.block_lt_of_cell? W2 _ cO2) |>.trans cO2
      clear hb hb0 q1 q2 hq hr4
      refine ⟨_, rfl, ?_⟩
      refine hK.out _ _ (cO2) (fun hHeld => ?_)
      clear hK K
      refine norm_ (a' := ?_) ?_ ?_
      rotate_left
      · show Act.put _ (some 17) _ = _
        simp only [Act.put, List.setIfInBounds_toArray, List.set_cons_zero, List.set_cons_succ, i64_w, i32_w]
        rfl
      refine one_ (i := 3) (N := some 18) #[true, true, true, true, false, false] rfl rfl (by kernel_rfl) (by decide) (fun K hK => ?_)
      refine value_ (w1 := ?_) (v := ?_) (by rfl) rfl ?_ ?_
      rotate_left 2
      · go_simp
        constructor
        · rfl
        · rfl
      refine hK.out _ _ (cO3) (fun hHeld => ?_)
      clear hK K
      refine norm_ (a' := ?_) ?_ ?_
      rotate_left
      · show Act.put _ (some 18) _ = _
        simp only [Act.put, List.setIfInBounds_toArray, List.set_cons_zero, List.set_cons_succ, i64_w, i32_w]
        rfl
      refine last_ (i := 4) (N := some 19) #[true, true, true, true, true, false] rfl rfl (by kernel_rfl) (by decide) (fun K hK => ?_)
      refine step_app (by rfl) (.tmp 15) (.tmp 18) 42 42 rfl _ _ _ rfl rfl HR4.out ?_
      refine hK.out _ _ ?_
      clear hK K
      refine norm_ (a' := ?_) ?_ ?_
      rotate_left
      · show Act.put _ (some 19) _ = _
        simp only [Act.put, List.setIfInBounds_toArray, List.set_cons_zero, List.set_cons_succ, i64_w, i32_w]
        rfl
      refine last_ (i := 5) (N := none) #[true, true, true, true, true, true] rfl rfl (by kernel_rfl) (by decide) (fun K hK => ?_)
      refine skip_ (w1 := ?_) (by rfl) rfl ?_ ?_
      rotate_left
      · go_simp
        rfl
      refine hK.out _ _ ?_
      clear hK K
      refine done_ (by kernel_rfl) ?_
      go_wp2
      go_roundw
      case rel => exact ⟨k + 1, _, _, by omega, by go_num, HQ⟩
      case measure => simp [intOf]; omega
    · have hlt : ¬ ((k : Int) < (Es.length : Int)) := by omega
      obtain rfl : k = Es.length := by omega
      go_wp2
      go_ret
      have hle : ds.length = Es.length := by have := congrArg List.length HW.out.maps; simpa using this
      have hvl := HW.out.vals
      rw [List.take_of_length_le (by have := HW.out.len; omega)] at hvl
      have hat : ∀ j, j < ds.length → wr.cell? ⟨W.heap.size, 0 + j, none⟩ = some (ds.getD j default).v := fun j hj => by
        rw [Nat.zero_add, HW.out.row.cell j, hvl, List.getElem?_map, List.getElem?_eq_getElem hj]
        simp [List.getD_eq_getElem?_getD, List.getElem?_eq_getElem hj]
      refine ⟨W.heap.size + 1, some ⟨W.heap.size, 0, none⟩, Es.length, ds, rfl, by omega, (Array.getElem?_eq_some_iff.1 HW.out.box).1, ?_, ⟨fun j hj => ⟨W.heap.size, 0, rfl, hat j hj⟩, fun d hd => (HW.out.rows d hd).1⟩, fun r o e => by injection e with e; injection e with e1 _ _; rw [← e1]; exact ⟨Nat.le_refl _, HW.out.row.lt⟩, fun d hd hp => by have := (HW.out.rows d hd).2 hp; omega, ?_, HW.out.below⟩
      · rw [hle]; exact HW.out.box.cell
      · have := HW.out.maps
        rwa [List.take_of_length_le (Nat.le_refl _)] at this
end Go.Proofs.Ytnflokhffmfifaa.CountW
namespace Go.Proofs.Ytnflokhffmfifaa.CountW
open Go.RowKit Go.Shelf Go.Proofs.Ytnflokhffmfifaa.Blk Go.Proofs.Ytnflokhffmfifaa.Ris Go.Proofs.Ytnflokhffmfifaa.Cur Go.Proofs.Ytnflokhffmfifaa.OfW Go.Proofs.Ytnflokhffmfifaa.HeapPure Go.Proofs.Ytnflokhffmfifaa.HeapW Go.Proofs.Ytnflokhffmfifaa.CountPure Go.Proofs.Ytnflokhffmfifaa.RFun Go.Proofs.YtnflokhffmfifaaW.PrintWords Go.Proofs.YtnflokhffmfifaaW.PrintLast Go.Proofs.YtnflokhffmfifaaW.PrintMore
attribute [local go_sem] Oper.semAt_some
/-- Block b alone has turned. -/
structure FR (b : Nat) (A B : World) : Prop where
  os : B.os = A.os
  tape : B.tape = A.tape
  output : B.output = A.output
  size : A.heap.size ≤ B.heap.size
  block : ∀ j, j < A.heap.size → j ≠ b → B.heap[j]? = A.heap[j]?
theorem FR.refl (b : Nat) (A : World) : FR b A A := ⟨rfl, rfl, rfl, Nat.le_refl _, fun _ _ _ => rfl⟩
theorem FR.trans {b : Nat} {A B C : World} (h : FR b A B) (k : FR b B C) : FR b A C :=
  ⟨k.os.trans h.os, k.tape.trans h.tape, k.output.trans h.output, Nat.le_trans h.size k.size, fun j h1 h2 => (k.block j (Nat.lt_of_lt_of_le h1 h.size) h2).trans (h.block j h1 h2)⟩
theorem FR.below {b n₀ : Nat} {A B C : World} (h : FR b A B) (hn : A.heap.size ≤ n₀) (k : Below n₀ B C) : FR b A C :=
  ⟨k.os.trans h.os, k.tape.trans h.tape, k.output.trans h.output, Nat.le_trans h.size k.size, fun j h1 h2 => (k.block j (by omega)).trans (h.block j h1 h2)⟩
theorem FR.grown {b : Nat} {A B C : World} {row : Option Nat} (h : FR b A B) (k : B.grownBy C row) (hr : ∀ r, row = some r → A.heap.size ≤ r) : FR b A C :=
  ⟨k.os.trans h.os, k.tape.trans h.tape, k.output.trans h.output, Nat.le_trans h.size k.size, fun j h1 h2 => (k.block j (Nat.lt_of_lt_of_le h1 h.size) (fun e => by have := hr j e.symm; omega)).trans (h.block j h1 h2)⟩
theorem FR.set {b : Nat} {A B : World} (h : FR b A B) (u : Value) : FR b A (B.setCell ⟨b, 0, none⟩ u) :=
  ⟨h.os, h.tape, h.output, by rw [World.size_setCell]; exact h.size, fun j h1 h2 => (Below.heap_setCell _ _ _ _ h2).trans (h.block j h1 h2)⟩
theorem FR.box {b c : Nat} {A B : World} {t : TypeId} {v : Value} (h : FR b A B) (hv : Boxed A c t v) (hne : c ≠ b) : Boxed B c t v := (h.block c (Array.getElem?_eq_some_iff.1 hv).1 hne).trans hv
theorem FR.row {b : Nat} {A B : World} {g c : Nat} {L : Option Addr} {l : List Int} (h : FR b A B) (hr : Row A g L c l) (hne : 0 < l.length → g ≠ b) : Row B g L c l := hr.on (fun hp => h.block g (Row.lt hr hp) (hne hp))
theorem FR.cell {b : Nat} {A B : World} {a : Addr} {v : Value} (h : FR b A B) (hc : A.cell? a = some v) (hne : a.block ≠ b) : B.cell? a = some v :=
  (World.cell?_of_block (h.block a.block (World.block_lt_of_cell? A _ hc) hne)).trans hc
theorem km_set {n₀ b : Nat} {W : World} {t : TypeId} {v : Value} (h : Boxed W b t v) (u : Value) : KM n₀ b W (W.setCell ⟨b, 0, none⟩ u) :=
  ⟨by simp, fun j cs t f h1 h2 => (Below.heap_setCell _ _ _ _ h2).trans h1, fun j o _ h2 h3 => (Below.heap_setCell _ _ _ _ (fun e => by subst e; rw [show W.heap[j]? = _ from h] at h2; cases h2; cases h3)).trans h2⟩
theorem kf_set {B b : Nat} {W : World} {t : TypeId} {v : Value} (h : Boxed W b t v) (u : Value) : KeepsFrom B W (W.setCell ⟨b, 0, none⟩ u) :=
  ⟨by simp, fun j o _ h2 h3 => (Below.heap_setCell _ _ _ _ (fun e => by subst e; rw [show W.heap[j]? = _ from h] at h2; cases h2; cases h3)).trans h2⟩
theorem pre_next {R pre : List Int} {x : Int} (hp : pre <+: R) (hl : pre.length < R.length) : pre ++ [x] <+: R ↔ x = R.getD pre.length 0 := by
  obtain ⟨t, rfl⟩ := hp
  cases t with
  | nil => simp at hl
  | cons y t =>
    have e : (pre ++ y :: t).getD pre.length 0 = y := by simp [List.getD_eq_getElem?_getD]
    rw [e]
    constructor
    · rintro ⟨s, hs⟩
      rw [List.append_assoc] at hs
      have := List.append_cancel_left hs
      simpa using (List.cons.inj this).1
    · rintro rfl
      exact ⟨t, by simp⟩
set_option maxHeartbeats 4000000 in
set_option maxRecDepth 100000 in
theorem inner_range (n l : Nat) (hn : 12 ≤ n) (r0 : Loop) (lo wb kb rb c : Nat) (L : Option Addr) (Ds : List Hd) (R : List Int) (gR cR : Nat) (BR : Option Addr) (rv : Value) {v0 v1 v2 v3 v5 v6 v8 v9 v10 v11 v12 v13 v15 v16 v17 v18 v19 v20 v21 v22 v23 v24 v25 v26 v27 v28 v29 v30 v31 v32 v33 v34 v35 v36 v37 v38 v39 v40 v41 v42 v43 v44 v45 v46 v47 v48 v49 v50 v51 v52 v53 v54 v55 v56 v57 v58 v59 v60 v61 v62 v63 v64 v65 v66 v67 v68 v69 v70 v71 v72 v73 v74 v75 v76 v77 v78 v79 v80 v81 v82 v83 v84 v85 v86 v87 v88 v89 v90 v91 v92 v94 v95 v96 v97 v98 v99 v100 v101 v102 v103 v104 v105 v106 v107 v108 v109 v110 v111 v112 v113 v114 v115 v116 v117 v118 v119 v120 v121 v122 v123 v124 v125 v126 : Value} (a0 : Act) (w : World) (Q : Exit → Act → World → Prop)
    (hl : w.heap[l]? = some (.loop r0)) (hR : firsts Ds = R) (hm : Ds.length ≤ 1048576) (hx : w.cell? ⟨lo, 0, none⟩ = some (.slice L Ds.length c)) (hh : Heads w L Ds) (hg : ∀ d ∈ Ds, 0 < d.l.length → d.g ≠ kb) (hr : ∀ d ∈ Ds, Ris ltI d.l)
    (hw : Boxed w wb 22 (.slice BR R.length cR)) (hrow : Row w gR BR cR R) (hk : Boxed w kb 3 (.int .i64 0)) (hrb : Boxed w rb 4 rv) (hne1 : wb ≠ kb) (hne2 : rb ≠ kb) (hne3 : 0 < R.length → gR ≠ kb) (hRl : R.length ≤ 16777216)
    (hQ : ∀ W', FR kb w W' → Boxed W' kb 3 (.int .i64 (R.length : Int)) → Q .normal { tmps := #[v0, v1, v2, v3, .pointer (some ⟨rb, 0, none⟩), v5, v6, .pointer (some ⟨wb, 0, none⟩), v8, v9, v10, v11, v12, v13, .pointer (some ⟨kb, 0, none⟩), v15, v16, v17, v18, v19, v20, v21, v22, v23, v24, v25, v26, v27, v28, v29, v30, v31, v32, v33, v34, v35, v36, v37, v38, v39, v40, v41, v42, v43, v44, v45, v46, v47, v48, v49, v50, v51, v52, v53, v54, v55, v56, v57, v58, v59, v60, v61, v62, v63, v64, v65, v66, v67, v68, v69, v70, v71, v72, v73, v74, v75, v76, v77, v78, v79, v80, v81, v82, v83, v84, v85, v86, v87, v88, v89, v90, v91, v92, .func (.func 57) #[] #[.pointer (some ⟨lo, 0, none⟩)], v94, v95, v96, v97, v98, v99, v100, v101, v102, v103, v104, v105, v106, v107, v108, v109, v110, v111, v112, v113, v114, v115, v116, v117, v118, v119, v120, v121, v122, v123, v124, v125, v126], defers := a0.defers } W') :
    (Go.Code.rangeFunc (Go.Operand.tmp 93) #[94] (Go.Code.region 28 #[{ dst := some 15, op := Go.Op.assign (Go.Operand.tmp 94), type := 2, pos := "law.go:190", after := #[], guard := none }] false) (Go.Code.block 9 (((Go.Code.region 29 #[{ dst := some 95, op := Go.Op.load 3 (Go.Operand.tmp 14), type := 3, pos := "law.go:191", after := #[], guard := none }, { dst := some 96, op := Go.Op.load 22 (Go.Operand.tmp 7), type := 22, pos := "law.go:191", after := #[], guard := none }, { dst := some 97, op := Go.Op.call { callee := Go.Callee.builtin Go.Builtin.len, args := #[Go.Operand.tmp 96], argTypes := #[22] }, type := 3, pos := "law.go:191", after := #[{ on := 1, ground := Go.Ground.data }], guard := none }, { dst := some 98, op := Go.Op.binOp Go.BinOp.geq 3 (Go.Operand.tmp 95) (Go.Operand.tmp 97) 3, type := 4, pos := "law.go:191", after := #[{ on := 0, ground := Go.Ground.data }, { on := 2, ground := Go.Ground.data }], guard := none }, { dst := some 99, op := Go.Op.move (Go.Operand.tmp 98), type := 4, pos := "law.go:191", after := #[{ on := 3, ground := Go.Ground.data }], guard := none }, { dst := some 100, op := Go.Op.move (Go.Operand.tmp 15), type := 2, pos := "law.go:191", after := #[{ on := 4, ground := Go.Ground.guard }], guard := some (4, false) }, { dst := some 101, op := Go.Op.load 22 (Go.Operand.tmp 7), type := 22, pos := "law.go:191", after := #[{ on := 4, ground := Go.Ground.guard }], guard := some (4, false) }, { dst := some 102, op := Go.Op.load 3 (Go.Operand.tmp 14), type := 3, pos := "law.go:191", after := #[{ on := 4, ground := Go.Ground.guard }], guard := some (4, false) }, { dst := some 103, op := Go.Op.indexAddr 22 (Go.Operand.tmp 101) (Go.Operand.tmp 102), type := 0, pos := "law.go:191", after := #[{ on := 6, ground := Go.Ground.data }, { on := 7, ground := Go.Ground.data }, { on := 4, ground := Go.Ground.guard }], guard := some (4, false) }, { dst := some 104, op := Go.Op.load 2 (Go.Operand.tmp 103), type := 2, pos := "law.go:191", after := #[{ on := 8, ground := Go.Ground.data }, { on := 4, ground := Go.Ground.guard }], guard := some (4, false) }, { dst := some 105, op := Go.Op.binOp Go.BinOp.neq 2 (Go.Operand.tmp 100) (Go.Operand.tmp 104) 2, type := 4, pos := "law.go:191", after := #[{ on := 5, ground := Go.Ground.data }, { on := 9, ground := Go.Ground.data }, { on := 4, ground := Go.Ground.guard }], guard := some (4, false) }, { dst := some 106, op := Go.Op.pick (Go.Operand.tmp 99) (Go.Operand.const (Go.Value.bool true)) (Go.Operand.tmp 105), type := 4, pos := "law.go:191", after := #[{ on := 4, ground := Go.Ground.data }, { on := 10, ground := Go.Ground.data }], guard := none }] false).seq (Go.Code.cond (Go.Operand.tmp 106) ((Go.Code.region 30 #[{ dst := none, op := Go.Op.store 4 (Go.Operand.tmp 4) (Go.Operand.const (Go.Value.bool false)), type := 0, pos := "law.go:192", after := #[], guard := none }] false).seq Go.Code.ret) Go.Code.skip)).seq (Go.Code.region 31 #[{ dst := some 107, op := Go.Op.load 3 (Go.Operand.tmp 14), type := 3, pos := "law.go:194", after := #[], guard := none }, { dst := some 108, op := Go.Op.binOp Go.BinOp.add 3 (Go.Operand.tmp 107) (Go.Operand.const (Go.Value.int Go.IntKind.i64 1)) 3, type := 3, pos := "law.go:194", after := #[{ on := 0, ground := Go.Ground.data }], guard := none }, { dst := none, op := Go.Op.store 3 (Go.Operand.tmp 14) (Go.Operand.tmp 108), type := 0, pos := "law.go:194", after := #[{ on := 1, ground := Go.Ground.data }, { on := 0, ground := Go.Ground.phase }, { on := 1, ground := Go.Ground.phase }], guard := none }] false)))).wpIn (Fence.wide.inRound l) n Try.prog Q { tmps := #[v0, v1, v2, v3, .pointer (some ⟨rb, 0, none⟩), v5, v6, .pointer (some ⟨wb, 0, none⟩), v8, v9, v10, v11, v12, v13, .pointer (some ⟨kb, 0, none⟩), v15, v16, v17, v18, v19, v20, v21, v22, v23, v24, v25, v26, v27, v28, v29, v30, v31, v32, v33, v34, v35, v36, v37, v38, v39, v40, v41, v42, v43, v44, v45, v46, v47, v48, v49, v50, v51, v52, v53, v54, v55, v56, v57, v58, v59, v60, v61, v62, v63, v64, v65, v66, v67, v68, v69, v70, v71, v72, v73, v74, v75, v76, v77, v78, v79, v80, v81, v82, v83, v84, v85, v86, v87, v88, v89, v90, v91, v92, .func (.func 57) #[] #[.pointer (some ⟨lo, 0, none⟩)], v94, v95, v96, v97, v98, v99, v100, v101, v102, v103, v104, v105, v106, v107, v108, v109, v110, v111, v112, v113, v114, v115, v116, v117, v118, v119, v120, v121, v122, v123, v124, v125, v126], defers := a0.defers } w := by
  have hkb : kb < w.heap.size := (Array.getElem?_eq_some_iff.1 hk).1
  have HW := Lib.hid hw
  have HROW := Lib.hid hrow
  have HRB := Lib.hid hrb
  have HN3 := Lib.hid hne3
  refine rf_lawN (F := Fence.wide.inRound l) rfl hl (by omega) (gf := 57) (lb := #[.pointer (some ⟨lo, 0, none⟩)]) rfl trivial (enters_of Try.func57 (by kernel_rfl) rfl)
    ((merge1_seq 1 (n - 1) (by omega) w lo kb c L Ds hm hx hh hg hr hkb).inRound l)
    (fun A B j o hr2 h1 h2 _ => (hr2.block j h1).trans h2) KM.trans (fun W o o' h1 h2 => KM.putObj W _ o o' (by omega) h1 h2) (fun _ => rfl)
    (fun pre W => (pre <+: R ∧ Boxed W kb 3 (.int .i64 (pre.length : Int))) ∧ FR kb w W) (fun cd pre W => cd = .ret ∧ ¬ pre <+: R)
    (fun s A B row hs hg2 hr2 => ⟨⟨hs.1.1, hs.1.2.kept hg2 (fun e => by have := (hr2 _ e.symm).1; omega)⟩, hs.2.grown hg2 (fun r e => (hr2 r e).1)⟩)
    (fun s A B hs hr2 => ⟨⟨hs.1.1, (hr2.block kb (by omega)).trans hs.1.2⟩, hs.2.below (by omega) hr2⟩)
    (fun cd s A B row hs _ _ => hs) (fun cd s A B hs _ => hs)
    ⟨⟨⟨R, rfl⟩, hk⟩, FR.refl _ _⟩
    (fun x => { tmps := #[v0, v1, v2, v3, .pointer (some ⟨rb, 0, none⟩), v5, v6, .pointer (some ⟨wb, 0, none⟩), v8, v9, v10, v11, v12, v13, .pointer (some ⟨kb, 0, none⟩), .int .i64 x, v16, v17, v18, v19, v20, v21, v22, v23, v24, v25, v26, v27, v28, v29, v30, v31, v32, v33, v34, v35, v36, v37, v38, v39, v40, v41, v42, v43, v44, v45, v46, v47, v48, v49, v50, v51, v52, v53, v54, v55, v56, v57, v58, v59, v60, v61, v62, v63, v64, v65, v66, v67, v68, v69, v70, v71, v72, v73, v74, v75, v76, v77, v78, v79, v80, v81, v82, v83, v84, v85, v86, v87, v88, v89, v90, v91, v92, .func (.func 57) #[] #[.pointer (some ⟨lo, 0, none⟩)], .int .i64 x, v95, v96, v97, v98, v99, v100, v101, v102, v103, v104, v105, v106, v107, v108, v109, v110, v111, v112, v113, v114, v115, v116, v117, v118, v119, v120, v121, v122, v123, v124, v125, v126], defers := [] }) ?assign ?body ?done ?stop
  case assign =>
    intro l2 x W K hK
    gi_wp2
    exact hK
  case body =>
    rintro l2 pre x W - ⟨⟨hp, hkW⟩, hF⟩ hlt
    rw [hR] at hlt
    have hc := hkW.cell
    have hf := hkW.frozen
    have hcw := (hF.box HW.out hne1).cell
    have hrbW := hF.box HRB.out hne2
    have hcr := hrbW.cell
    have hfr := hrbW.frozen
    have hge : ¬ ((R.length : Int) ≤ (pre.length : Int)) := by omega
    have hlti : (pre.length : Int) < (R.length : Int) := by omega
    have hwk : IntKind.i64.wrap ((pre.length : Int) + 1) = ((pre.length : Int) + 1) := IntWalk.i64_in _ (by omega)
    obtain ⟨oR, hBR, hce⟩ := (hF.row HROW.out HN3.out).at_ (by omega)
    have ce := hce pre.length hlt
    clear hce
    subst hBR
    have HPN := Lib.hid (pre_next (x := x) hp hlt)
    generalize R.getD pre.length 0 = y at ce HPN
    by_cases hxy : x = y
    · subst hxy
      have HFB := Lib.hid hF
      have HKW := Lib.hid hkW
      clear hF hrbW
      gi_wp2
      have hb2 := HKW.out.set (.int .i64 ((pre.length : Int) + 1))
      exact ⟨kf_set HKW.out _, km_set HKW.out _, ⟨by first | exact HPN.out.2 rfl | exact HPN.out.2 trivial, by rw [show (((pre ++ [x]).length : Nat) : Int) = (pre.length : Int) + 1 by simp]; exact hb2⟩, HFB.out.set _⟩
    · have hxy2 : (x != y) = true := by simpa using hxy
      have HXY := Lib.hid hxy
      clear hF
      gi_wp2
      exact ⟨kf_set hrbW _, rfl, fun h => HXY.out (HPN.out.1 h)⟩
  case done =>
    rintro xs W rfl ⟨⟨_, h2⟩, h3⟩
    rw [hR] at h2
    exact hQ W h3 h2
  case stop =>
    rintro cd pre W hp ⟨_, h⟩
    rw [hR] at hp
    exact absurd hp h
theorem FR.heads {b : Nat} {A B : World} {L : Option Addr} {Ds : List Hd} (h : FR b A B) (hh : Heads A L Ds) (hne : ∀ r o, L = some ⟨r, o, none⟩ → r ≠ b) (hg : ∀ d ∈ Ds, 0 < d.l.length → d.g ≠ b) : Heads B L Ds := by
  refine ⟨fun j hj => ?_, fun d hd => h.row (hh.row d hd) (hg d hd)⟩
  obtain ⟨r, o, e, hc⟩ := hh.head j hj
  exact ⟨r, o, e, h.cell hc (hne r o e)⟩
theorem below_km {n₀ b : Nat} {W W' : World} {t : TypeId} {v : Value} (hB : Below W.heap.size W W') (h : Boxed W' b t v) (u : Value) : KM n₀ b W (W'.setCell ⟨b, 0, none⟩ u) :=
  (KM.mk (n₀ := n₀) (b := b) hB.size (fun j cs t f h1 _ => (hB.block j (Array.getElem?_eq_some_iff.1 h1).1).trans h1) (fun j o _ h2 _ => (hB.block j (Array.getElem?_eq_some_iff.1 h2).1).trans h2)).trans (km_set h u)
theorem below_kf {B b : Nat} {W W' : World} {t : TypeId} {v : Value} (hB : Below W.heap.size W W') (h : Boxed W' b t v) (u : Value) : KeepsFrom B W (W'.setCell ⟨b, 0, none⟩ u) :=
  (KeepsFrom.mk (B := B) hB.size (fun j o _ h2 _ => (hB.block j (Array.getElem?_eq_some_iff.1 h2).1).trans h2)).trans (kf_set h u)
theorem fr_old {W W' : World} {o : Obj} (h : FR W.heap.size (W.alloc o) W') : Below W.heap.size W W' :=
  ⟨h.os, h.tape, h.output, by have := h.size; rw [World.size_alloc] at this; omega, fun j hj => (h.block j (by rw [World.size_alloc]; omega) (by omega)).trans (Below.heap_alloc _ _ _ hj)⟩
theorem below_fr {b : Nat} {A W W' : World} (h : FR b A W) (hB : Below W.heap.size W W') : FR b A W' := h.below h.size hB
set_option maxHeartbeats 8000000 in
set_option maxRecDepth 100000 in
theorem outer_range (n : Nat) (hn : 20 ≤ n) (lo wb nb mb sb rb c : Nat) (L : Option Addr) (Ds : List Hd) (R : List Int) (gR cR : Nat) (BR : Option Addr) (rv : Value) (mo : Int) {v0 v1 v2 v5 v6 v9 v10 v11 v13 v14 v15 v16 v17 v18 v19 v20 v21 v22 v23 v24 v25 v26 v27 v28 v29 v30 v31 v32 v33 v34 v35 v36 v37 v38 v39 v40 v41 v42 v43 v44 v45 v46 v47 v48 v49 v50 v51 v52 v53 v54 v55 v56 v57 v58 v59 v60 v61 v62 v63 v64 v65 v66 v67 v68 v69 v70 v71 v72 v73 v74 v75 v76 v78 v79 v80 v81 v82 v83 v84 v85 v86 v87 v88 v89 v90 v91 v92 v93 v94 v95 v96 v97 v98 v99 v100 v101 v102 v103 v104 v105 v106 v107 v108 v109 v110 v111 v112 v113 v114 v115 v116 v117 v118 v119 v120 v121 v122 v123 v124 v125 v126 : Value} (a0 : Act) (w : World) (Q : Exit → Act → World → Prop)
    (hR : firsts Ds = R) (hm : Ds.length ≤ 1048576) (hx : w.cell? ⟨lo, 0, none⟩ = some (.slice L Ds.length c)) (hh : Heads w L Ds) (hg : ∀ d ∈ Ds, 0 < d.l.length → d.g ≠ nb) (hhd : ∀ r o, L = some ⟨r, o, none⟩ → r ≠ nb) (hr : ∀ d ∈ Ds, Ris ltI d.l)
    (hw : Boxed w wb 22 (.slice BR R.length cR)) (hrow : Row w gR BR cR R) (hk : Boxed w nb 3 (.int .i64 0)) (hmb : Boxed w mb 3 (.int .i64 mo)) (hsb : Boxed w sb 46 (.func (.func 57) #[] #[.pointer (some ⟨lo, 0, none⟩)])) (hrb : Boxed w rb 4 rv)
    (hne1 : wb ≠ nb) (hne2 : rb ≠ nb) (hne3 : 0 < R.length → gR ≠ nb) (hne4 : mb ≠ nb) (hne5 : sb ≠ nb) (hne6 : lo ≠ nb) (hRl : R.length ≤ 16777216) (hmo : 1 ≤ mo) (hmo2 : mo ≤ (R.length : Int) + 1)
    (hQ : ∀ (e : Exit) (D : Nat) (W' : World) (k : Int), (e = .normal ∨ e = .exit 6) → FR nb w W' → Boxed W' nb 3 (.int .i64 k) → (k = mo ∨ k = (R.length : Int)) → W'.heap[D]? = some (.deferred (some [])) → w.heap.size ≤ D → Q e { tmps := #[v0, v1, v2, .pointer (some ⟨mb, 0, none⟩), .pointer (some ⟨rb, 0, none⟩), v5, v6, .pointer (some ⟨wb, 0, none⟩), .pointer (some ⟨sb, 0, none⟩), v9, v10, v11, .pointer (some ⟨nb, 0, none⟩), v13, v14, v15, v16, v17, v18, v19, v20, v21, v22, v23, v24, v25, v26, v27, v28, v29, v30, v31, v32, v33, v34, v35, v36, v37, v38, v39, v40, v41, v42, v43, v44, v45, v46, v47, v48, v49, v50, v51, v52, v53, v54, v55, v56, v57, v58, v59, v60, v61, v62, v63, v64, v65, v66, v67, v68, v69, v70, v71, v72, v73, v74, v75, v76, .func (.func 57) #[] #[.pointer (some ⟨lo, 0, none⟩)], v78, v79, v80, v81, v82, v83, v84, v85, v86, v87, v88, v89, v90, v91, v92, v93, v94, v95, v96, v97, v98, v99, v100, v101, v102, v103, v104, v105, v106, v107, v108, v109, v110, v111, v112, v113, v114, v115, v116, v117, v118, v119, v120, v121, v122, v123, v124, v125, v126], defers := { target := .collected D, args := #[] } :: a0.defers } W') :
    (Go.Code.rangeFunc (Go.Operand.tmp 77) #[78] (Go.Code.region 22 #[{ dst := some 13, op := Go.Op.assign (Go.Operand.tmp 78), type := 2, pos := "law.go:184", after := #[], guard := none }] false) (Go.Code.block 7 (((Go.Code.region 23 #[{ dst := some 79, op := Go.Op.load 3 (Go.Operand.tmp 12), type := 3, pos := "law.go:185", after := #[], guard := none }, { dst := some 80, op := Go.Op.load 22 (Go.Operand.tmp 7), type := 22, pos := "law.go:185", after := #[], guard := none }, { dst := some 81, op := Go.Op.call { callee := Go.Callee.builtin Go.Builtin.len, args := #[Go.Operand.tmp 80], argTypes := #[22] }, type := 3, pos := "law.go:185", after := #[{ on := 1, ground := Go.Ground.data }], guard := none }, { dst := some 82, op := Go.Op.binOp Go.BinOp.geq 3 (Go.Operand.tmp 79) (Go.Operand.tmp 81) 3, type := 4, pos := "law.go:185", after := #[{ on := 0, ground := Go.Ground.data }, { on := 2, ground := Go.Ground.data }], guard := none }, { dst := some 83, op := Go.Op.move (Go.Operand.tmp 82), type := 4, pos := "law.go:185", after := #[{ on := 3, ground := Go.Ground.data }], guard := none }, { dst := some 84, op := Go.Op.move (Go.Operand.tmp 13), type := 2, pos := "law.go:185", after := #[{ on := 4, ground := Go.Ground.guard }], guard := some (4, false) }, { dst := some 85, op := Go.Op.load 22 (Go.Operand.tmp 7), type := 22, pos := "law.go:185", after := #[{ on := 4, ground := Go.Ground.guard }], guard := some (4, false) }, { dst := some 86, op := Go.Op.load 3 (Go.Operand.tmp 12), type := 3, pos := "law.go:185", after := #[{ on := 4, ground := Go.Ground.guard }], guard := some (4, false) }, { dst := some 87, op := Go.Op.indexAddr 22 (Go.Operand.tmp 85) (Go.Operand.tmp 86), type := 0, pos := "law.go:185", after := #[{ on := 6, ground := Go.Ground.data }, { on := 7, ground := Go.Ground.data }, { on := 4, ground := Go.Ground.guard }], guard := some (4, false) }, { dst := some 88, op := Go.Op.load 2 (Go.Operand.tmp 87), type := 2, pos := "law.go:185", after := #[{ on := 8, ground := Go.Ground.data }, { on := 4, ground := Go.Ground.guard }], guard := some (4, false) }, { dst := some 89, op := Go.Op.binOp Go.BinOp.neq 2 (Go.Operand.tmp 84) (Go.Operand.tmp 88) 2, type := 4, pos := "law.go:185", after := #[{ on := 5, ground := Go.Ground.data }, { on := 9, ground := Go.Ground.data }, { on := 4, ground := Go.Ground.guard }], guard := some (4, false) }, { dst := some 90, op := Go.Op.pick (Go.Operand.tmp 83) (Go.Operand.const (Go.Value.bool true)) (Go.Operand.tmp 89), type := 4, pos := "law.go:185", after := #[{ on := 4, ground := Go.Ground.data }, { on := 10, ground := Go.Ground.data }], guard := none }] false).seq (Go.Code.cond (Go.Operand.tmp 90) ((Go.Code.region 24 #[{ dst := none, op := Go.Op.store 4 (Go.Operand.tmp 4) (Go.Operand.const (Go.Value.bool false)), type := 0, pos := "law.go:186", after := #[], guard := none }] false).seq Go.Code.ret) Go.Code.skip)).seq (((Go.Code.region 25 #[{ dst := some 91, op := Go.Op.load 3 (Go.Operand.tmp 12), type := 3, pos := "law.go:188", after := #[], guard := none }, { dst := some 92, op := Go.Op.binOp Go.BinOp.lss 3 (Go.Operand.tmp 91) (Go.Operand.const (Go.Value.int Go.IntKind.i64 2)) 3, type := 4, pos := "law.go:188", after := #[{ on := 0, ground := Go.Ground.data }], guard := none }] false).seq (Go.Code.cond (Go.Operand.tmp 92) ((Go.Code.region 26 #[{ dst := some 14, op := Go.Op.alloc 3, type := 0, pos := "law.go:189", after := #[], guard := none }, { dst := none, op := Go.Op.store 3 (Go.Operand.tmp 14) (Go.Operand.const (Go.Value.int Go.IntKind.i64 0)), type := 0, pos := "law.go:189", after := #[{ on := 0, ground := Go.Ground.data }, { on := 0, ground := Go.Ground.phase }], guard := none }] false).seq (((Go.Code.region 27 #[{ dst := some 93, op := Go.Op.load 46 (Go.Operand.tmp 8), type := 46, pos := "law.go:190", after := #[], guard := none }] false).seq (Go.Code.block 8 (Go.Code.rangeFunc (Go.Operand.tmp 93) #[94] (Go.Code.region 28 #[{ dst := some 15, op := Go.Op.assign (Go.Operand.tmp 94), type := 2, pos := "law.go:190", after := #[], guard := none }] false) (Go.Code.block 9 (((Go.Code.region 29 #[{ dst := some 95, op := Go.Op.load 3 (Go.Operand.tmp 14), type := 3, pos := "law.go:191", after := #[], guard := none }, { dst := some 96, op := Go.Op.load 22 (Go.Operand.tmp 7), type := 22, pos := "law.go:191", after := #[], guard := none }, { dst := some 97, op := Go.Op.call { callee := Go.Callee.builtin Go.Builtin.len, args := #[Go.Operand.tmp 96], argTypes := #[22] }, type := 3, pos := "law.go:191", after := #[{ on := 1, ground := Go.Ground.data }], guard := none }, { dst := some 98, op := Go.Op.binOp Go.BinOp.geq 3 (Go.Operand.tmp 95) (Go.Operand.tmp 97) 3, type := 4, pos := "law.go:191", after := #[{ on := 0, ground := Go.Ground.data }, { on := 2, ground := Go.Ground.data }], guard := none }, { dst := some 99, op := Go.Op.move (Go.Operand.tmp 98), type := 4, pos := "law.go:191", after := #[{ on := 3, ground := Go.Ground.data }], guard := none }, { dst := some 100, op := Go.Op.move (Go.Operand.tmp 15), type := 2, pos := "law.go:191", after := #[{ on := 4, ground := Go.Ground.guard }], guard := some (4, false) }, { dst := some 101, op := Go.Op.load 22 (Go.Operand.tmp 7), type := 22, pos := "law.go:191", after := #[{ on := 4, ground := Go.Ground.guard }], guard := some (4, false) }, { dst := some 102, op := Go.Op.load 3 (Go.Operand.tmp 14), type := 3, pos := "law.go:191", after := #[{ on := 4, ground := Go.Ground.guard }], guard := some (4, false) }, { dst := some 103, op := Go.Op.indexAddr 22 (Go.Operand.tmp 101) (Go.Operand.tmp 102), type := 0, pos := "law.go:191", after := #[{ on := 6, ground := Go.Ground.data }, { on := 7, ground := Go.Ground.data }, { on := 4, ground := Go.Ground.guard }], guard := some (4, false) }, { dst := some 104, op := Go.Op.load 2 (Go.Operand.tmp 103), type := 2, pos := "law.go:191", after := #[{ on := 8, ground := Go.Ground.data }, { on := 4, ground := Go.Ground.guard }], guard := some (4, false) }, { dst := some 105, op := Go.Op.binOp Go.BinOp.neq 2 (Go.Operand.tmp 100) (Go.Operand.tmp 104) 2, type := 4, pos := "law.go:191", after := #[{ on := 5, ground := Go.Ground.data }, { on := 9, ground := Go.Ground.data }, { on := 4, ground := Go.Ground.guard }], guard := some (4, false) }, { dst := some 106, op := Go.Op.pick (Go.Operand.tmp 99) (Go.Operand.const (Go.Value.bool true)) (Go.Operand.tmp 105), type := 4, pos := "law.go:191", after := #[{ on := 4, ground := Go.Ground.data }, { on := 10, ground := Go.Ground.data }], guard := none }] false).seq (Go.Code.cond (Go.Operand.tmp 106) ((Go.Code.region 30 #[{ dst := none, op := Go.Op.store 4 (Go.Operand.tmp 4) (Go.Operand.const (Go.Value.bool false)), type := 0, pos := "law.go:192", after := #[], guard := none }] false).seq Go.Code.ret) Go.Code.skip)).seq (Go.Code.region 31 #[{ dst := some 107, op := Go.Op.load 3 (Go.Operand.tmp 14), type := 3, pos := "law.go:194", after := #[], guard := none }, { dst := some 108, op := Go.Op.binOp Go.BinOp.add 3 (Go.Operand.tmp 107) (Go.Operand.const (Go.Value.int Go.IntKind.i64 1)) 3, type := 3, pos := "law.go:194", after := #[{ on := 0, ground := Go.Ground.data }], guard := none }, { dst := none, op := Go.Op.store 3 (Go.Operand.tmp 14) (Go.Operand.tmp 108), type := 0, pos := "law.go:194", after := #[{ on := 1, ground := Go.Ground.data }, { on := 0, ground := Go.Ground.phase }, { on := 1, ground := Go.Ground.phase }], guard := none }] false)))))).seq ((Go.Code.region 32 #[{ dst := some 109, op := Go.Op.load 3 (Go.Operand.tmp 14), type := 3, pos := "law.go:196", after := #[], guard := none }, { dst := some 110, op := Go.Op.load 22 (Go.Operand.tmp 7), type := 22, pos := "law.go:196", after := #[], guard := none }, { dst := some 111, op := Go.Op.call { callee := Go.Callee.builtin Go.Builtin.len, args := #[Go.Operand.tmp 110], argTypes := #[22] }, type := 3, pos := "law.go:196", after := #[{ on := 1, ground := Go.Ground.data }], guard := none }, { dst := some 112, op := Go.Op.binOp Go.BinOp.neq 3 (Go.Operand.tmp 109) (Go.Operand.tmp 111) 3, type := 4, pos := "law.go:196", after := #[{ on := 0, ground := Go.Ground.data }, { on := 2, ground := Go.Ground.data }], guard := none }] false).seq (Go.Code.cond (Go.Operand.tmp 112) ((Go.Code.region 33 #[{ dst := none, op := Go.Op.store 4 (Go.Operand.tmp 4) (Go.Operand.const (Go.Value.bool false)), type := 0, pos := "law.go:197", after := #[], guard := none }] false).seq Go.Code.ret) Go.Code.skip)))) Go.Code.skip)).seq ((Go.Code.region 34 #[{ dst := some 113, op := Go.Op.load 3 (Go.Operand.tmp 12), type := 3, pos := "law.go:200", after := #[], guard := none }, { dst := some 114, op := Go.Op.binOp Go.BinOp.add 3 (Go.Operand.tmp 113) (Go.Operand.const (Go.Value.int Go.IntKind.i64 1)) 3, type := 3, pos := "law.go:200", after := #[{ on := 0, ground := Go.Ground.data }], guard := none }, { dst := none, op := Go.Op.store 3 (Go.Operand.tmp 12) (Go.Operand.tmp 114), type := 0, pos := "law.go:200", after := #[{ on := 1, ground := Go.Ground.data }, { on := 0, ground := Go.Ground.phase }, { on := 1, ground := Go.Ground.phase }], guard := none }] false).seq ((Go.Code.region 35 #[{ dst := some 115, op := Go.Op.load 3 (Go.Operand.tmp 12), type := 3, pos := "law.go:201", after := #[], guard := none }, { dst := some 116, op := Go.Op.load 3 (Go.Operand.tmp 3), type := 3, pos := "law.go:201", after := #[], guard := none }, { dst := some 117, op := Go.Op.binOp Go.BinOp.eql 3 (Go.Operand.tmp 115) (Go.Operand.tmp 116) 3, type := 4, pos := "law.go:201", after := #[{ on := 0, ground := Go.Ground.data }, { on := 1, ground := Go.Ground.data }], guard := none }] false).seq (Go.Code.cond (Go.Operand.tmp 117) (Go.Code.exit 6) Go.Code.skip))))))).wpIn Fence.wide n Try.prog Q { tmps := #[v0, v1, v2, .pointer (some ⟨mb, 0, none⟩), .pointer (some ⟨rb, 0, none⟩), v5, v6, .pointer (some ⟨wb, 0, none⟩), .pointer (some ⟨sb, 0, none⟩), v9, v10, v11, .pointer (some ⟨nb, 0, none⟩), v13, v14, v15, v16, v17, v18, v19, v20, v21, v22, v23, v24, v25, v26, v27, v28, v29, v30, v31, v32, v33, v34, v35, v36, v37, v38, v39, v40, v41, v42, v43, v44, v45, v46, v47, v48, v49, v50, v51, v52, v53, v54, v55, v56, v57, v58, v59, v60, v61, v62, v63, v64, v65, v66, v67, v68, v69, v70, v71, v72, v73, v74, v75, v76, .func (.func 57) #[] #[.pointer (some ⟨lo, 0, none⟩)], v78, v79, v80, v81, v82, v83, v84, v85, v86, v87, v88, v89, v90, v91, v92, v93, v94, v95, v96, v97, v98, v99, v100, v101, v102, v103, v104, v105, v106, v107, v108, v109, v110, v111, v112, v113, v114, v115, v116, v117, v118, v119, v120, v121, v122, v123, v124, v125, v126], defers := a0.defers } w := by
  have hkb : nb < w.heap.size := (Array.getElem?_eq_some_iff.1 hk).1
  have HW := Lib.hid hw
  have HROW := Lib.hid hrow
  have HRB := Lib.hid hrb
  have HMB := Lib.hid hmb
  have HSB := Lib.hid hsb
  have HN3 := Lib.hid hne3
  have HX := Lib.hid hx
  have HH := Lib.hid hh
  have HG := Lib.hid hg
  have HHD := Lib.hid hhd
  have HRI := Lib.hid hr
  refine rf_lawM (F := Fence.wide) rfl (by omega) (gf := 57) (lb := #[.pointer (some ⟨lo, 0, none⟩)]) rfl trivial (enters_of Try.func57 (by kernel_rfl) rfl)
    (merge1_seq 2 (n - 1) (by omega) w lo nb c L Ds hm hx hh hg hr hkb)
    (fun A B j o hr2 h1 h2 _ => (hr2.block j h1).trans h2) KM.trans (fun W o o' h1 h2 => KM.putObj W _ o o' (by omega) h1 h2) (fun _ => rfl)
    (fun pre W => ((pre <+: R ∧ (pre.length : Int) < mo) ∧ Boxed W nb 3 (.int .i64 (pre.length : Int))) ∧ FR nb w W) (fun cd pre W => (cd = .ret ∧ ¬ pre <+: R) ∨ (cd = .exit 6 ∧ Boxed W nb 3 (.int .i64 mo) ∧ FR nb w W))
    (fun s A B row hs hg2 hr2 => ⟨⟨hs.1.1, hs.1.2.kept hg2 (fun e => by have := (hr2 _ e.symm).1; omega)⟩, hs.2.grown hg2 (fun r e => (hr2 r e).1)⟩)
    (fun s A B hs hr2 => ⟨⟨hs.1.1, (hr2.block nb (by omega)).trans hs.1.2⟩, hs.2.below (by omega) hr2⟩)
    (fun cd s A B row hs hg2 hr2 => hs.imp id fun h => ⟨h.1, h.2.1.kept hg2 (fun e => by have := (hr2 _ e.symm).1; omega), h.2.2.grown hg2 (fun r e => (hr2 r e).1)⟩)
    (fun cd s A B hs hr2 => hs.imp id fun h => ⟨h.1, (hr2.block nb (by omega)).trans h.2.1, h.2.2.below (by omega) hr2⟩)
    ⟨⟨⟨⟨R, rfl⟩, by show (0 : Int) < mo; omega⟩, hk⟩, FR.refl _ _⟩
    (fun x => { tmps := #[v0, v1, v2, .pointer (some ⟨mb, 0, none⟩), .pointer (some ⟨rb, 0, none⟩), v5, v6, .pointer (some ⟨wb, 0, none⟩), .pointer (some ⟨sb, 0, none⟩), v9, v10, v11, .pointer (some ⟨nb, 0, none⟩), .int .i64 x, v14, v15, v16, v17, v18, v19, v20, v21, v22, v23, v24, v25, v26, v27, v28, v29, v30, v31, v32, v33, v34, v35, v36, v37, v38, v39, v40, v41, v42, v43, v44, v45, v46, v47, v48, v49, v50, v51, v52, v53, v54, v55, v56, v57, v58, v59, v60, v61, v62, v63, v64, v65, v66, v67, v68, v69, v70, v71, v72, v73, v74, v75, v76, .func (.func 57) #[] #[.pointer (some ⟨lo, 0, none⟩)], .int .i64 x, v79, v80, v81, v82, v83, v84, v85, v86, v87, v88, v89, v90, v91, v92, v93, v94, v95, v96, v97, v98, v99, v100, v101, v102, v103, v104, v105, v106, v107, v108, v109, v110, v111, v112, v113, v114, v115, v116, v117, v118, v119, v120, v121, v122, v123, v124, v125, v126], defers := [] }) ?assign ?body ?done ?stop
  case assign =>
    intro l2 x W K hK
    gi_wp2
    exact hK
  case body =>
    rintro l2 pre x W hl2 hrec ⟨⟨⟨hp, hpm⟩, hkW⟩, hF⟩ hlt
    rw [hR] at hlt
    have hc := hkW.cell
    have hf := hkW.frozen
    have hcw := (hF.box HW.out hne1).cell
    have hcm := (hF.box HMB.out hne4).cell
    have hcs := (hF.box HSB.out hne5).cell
    have hrbW := hF.box HRB.out hne2
    have hcr := hrbW.cell
    have hfr := hrbW.frozen
    have hge : ¬ ((R.length : Int) ≤ (pre.length : Int)) := by omega
    have hlti : (pre.length : Int) < (R.length : Int) := by omega
    have hwk : IntKind.i64.wrap ((pre.length : Int) + 1) = ((pre.length : Int) + 1) := IntWalk.i64_in _ (by omega)
    obtain ⟨oR, hBR, hce⟩ := (hF.row HROW.out HN3.out).at_ (by omega)
    have ce := hce pre.length hlt
    clear hce
    subst hBR
    have HPN := Lib.hid (pre_next (x := x) hp hlt)
    generalize R.getD pre.length 0 = y at ce HPN
    by_cases hxy : x = y
    · subst hxy
      have HFB := Lib.hid hF
      have HKW := Lib.hid hkW
      have HREC := Lib.hid hrec
      have HPM := Lib.hid (And.intro hp (And.intro hpm hl2))
      have hps : pre.length ≤ 16777216 := by omega
      clear hF hrbW hrec hp hl2
      by_cases h2 : pre.length < 2
      · have h2i : (pre.length : Int) < 2 := by omega
        have hB1 : Below W.heap.size W (W.alloc (.cells #[.int .i64 0] 3)) := (Below.refl _ W).alloc (Nat.le_refl _) _
        have hcs1 := (hB1.cell (p := ⟨sb, 0, none⟩) (World.block_lt_of_cell? W _ hcs)).trans hcs
        gi_wp2
        obtain ⟨r0, hrec⟩ := HREC.out
        have hhW := HFB.out.heads HH.out HHD.out HG.out
        have hbw := HFB.out.box HW.out hne1
        have hbr := HFB.out.box HRB.out hne2
        refine inner_range (n - 1 - 1) l2 (by omega) r0 lo wb W.heap.size rb c L Ds R gR cR (some ⟨gR, oR, none⟩) rv { tmps := #[], defers := [] } _ _ ((hB1.block l2 (Array.getElem?_eq_some_iff.1 hrec).1).trans hrec) hR hm ((hB1.cell (p := ⟨lo, 0, none⟩) (World.block_lt_of_cell? W _ (HFB.out.cell HX.out hne6))).trans (HFB.out.cell HX.out hne6)) (hhW.below hB1) (fun d hd hp => by have := Row.lt (hhW.row d hd) hp; omega) HRI.out (hbw.alloc _) ((HFB.out.row HROW.out HN3.out).below hB1) (Boxed.new W 3 (.int .i64 0)) (hbr.alloc _) (by have := (Array.getElem?_eq_some_iff.1 hbw).1; omega) (by have := (Array.getElem?_eq_some_iff.1 hbr).1; omega) (fun hp => by have := Row.lt (HFB.out.row HROW.out HN3.out) hp; omega) hRl ?_
        intro W' hF2 hk2
        have hB' := fr_old hF2
        have hnb' : Boxed W' nb 3 (.int .i64 (pre.length : Int)) := (hB'.block nb (Array.getElem?_eq_some_iff.1 HKW.out).1).trans HKW.out
        have hc' := hnb'.cell
        have hf' := hnb'.frozen
        have hck' := hk2.cell
        have hcw' := (hB'.cell (p := ⟨wb, 0, none⟩) (World.block_lt_of_cell? W _ hcw)).trans hcw
        have hcm' := (hB'.cell (p := ⟨mb, 0, none⟩) (World.block_lt_of_cell? W _ hcm)).trans hcm
        have HB' := Lib.hid hB'
        have HNB := Lib.hid hnb'
        clear hB' hF2 hk2 hnb' hhW hbw hbr hB1
        by_cases heq : (pre.length : Int) + 1 = mo
        · have hbeq : ((pre.length : Int) + 1 == mo) = true := by rw [heq]; exact beq_self_eq_true mo
          gi_wp2
          have hb2 := HNB.out.set (.int .i64 mo)
          first
            | exact ⟨below_kf HB'.out HNB.out _, .inr ⟨rfl, hb2, (below_fr HFB.out HB'.out).set _⟩⟩
            | (rw [heq]; exact ⟨below_kf HB'.out HNB.out _, .inr ⟨rfl, hb2, (below_fr HFB.out HB'.out).set _⟩⟩)
        · have hbeq : ((pre.length : Int) + 1 == mo) = false := beq_eq_false_iff_ne.mpr heq
          gi_wp2
          have hb2 := HNB.out.set (.int .i64 ((pre.length : Int) + 1))
          have hpn : pre ++ [x] <+: R := by first | exact HPN.out.2 rfl | exact HPN.out.2 trivial
          exact ⟨below_kf HB'.out HNB.out _, below_km HB'.out HNB.out _, ⟨⟨⟨hpn, by have := HPM.out.2.1; rw [List.length_append]; simp only [List.length_cons, List.length_nil]; omega⟩, by rw [show (((pre ++ [x]).length : Nat) : Int) = (pre.length : Int) + 1 by simp]; exact hb2⟩, (below_fr HFB.out HB'.out).set _⟩⟩
      · have h2i : ¬ (pre.length : Int) < 2 := by omega
        by_cases heq : (pre.length : Int) + 1 = mo
        · have hbeq : ((pre.length : Int) + 1 == mo) = true := by rw [heq]; exact beq_self_eq_true mo
          gi_wp2
          have hb2 := HKW.out.set (.int .i64 mo)
          first
            | exact ⟨kf_set HKW.out _, .inr ⟨rfl, hb2, HFB.out.set _⟩⟩
            | (rw [heq]; exact ⟨kf_set HKW.out _, .inr ⟨rfl, hb2, HFB.out.set _⟩⟩)
        · have hbeq : ((pre.length : Int) + 1 == mo) = false := beq_eq_false_iff_ne.mpr heq
          gi_wp2
          have hb2 := HKW.out.set (.int .i64 ((pre.length : Int) + 1))
          have hpn : pre ++ [x] <+: R := by first | exact HPN.out.2 rfl | exact HPN.out.2 trivial
          exact ⟨kf_set HKW.out _, km_set HKW.out _, ⟨⟨⟨hpn, by have := HPM.out.2.1; rw [List.length_append]; simp only [List.length_cons, List.length_nil]; omega⟩, by rw [show (((pre ++ [x]).length : Nat) : Int) = (pre.length : Int) + 1 by simp]; exact hb2⟩, HFB.out.set _⟩⟩
    · have hxy2 : (x != y) = true := by simpa using hxy
      have HXY := Lib.hid hxy
      clear hF
      gi_wp2
      exact ⟨kf_set hrbW _, .inl ⟨rfl, fun h => HXY.out (HPN.out.1 h)⟩⟩
  case done =>
    rintro D xs W hD rfl ⟨⟨⟨h1, h0⟩, h2⟩, h3⟩ hK
    rw [hR] at h2
    exact hQ .normal D W _ (.inl rfl) h3 h2 (.inr rfl) hK hD
  case stop =>
    rintro D cd pre W hD hp (⟨_, h⟩ | ⟨rfl, h2, h3⟩) hK
    · rw [hR] at hp
      exact absurd hp h
    · gi_wp2
      exact hQ (.exit 6) D W mo (.inr rfl) h3 h2 (.inl rfl) hK hD
end Go.Proofs.Ytnflokhffmfifaa.CountW
namespace Go.Proofs.Ytnflokhffmfifaa.CountW
open Go.RowKit Go.Proofs.Ytnflokhffmfifaa.Blk Go.Proofs.Ytnflokhffmfifaa.Ris Go.Proofs.Ytnflokhffmfifaa.Cur Go.Proofs.Ytnflokhffmfifaa.OfW Go.Proofs.Ytnflokhffmfifaa.HeapPure Go.Proofs.Ytnflokhffmfifaa.HeapW Go.Proofs.Ytnflokhffmfifaa.CountPure Go.Proofs.Ytnflokhffmfifaa.PostAlg Go.Proofs.YtnflokhffmfifaaW.PrintWords Go.Proofs.YtnflokhffmfifaaW.PrintLast Go.Proofs.YtnflokhffmfifaaW.PrintMore
set_option maxHeartbeats 4000000 in
set_option maxRecDepth 100000 in
theorem spared_own (W : World) (c : Nat) (L : Option Addr) (Es : List Hd) (h : Heads W L Es) (hl : ∀ d ∈ Es, d.l.length ≤ 1048576) (hm : Es.length ≤ 1048576) : Calls Try.prog 23 #[.slice L Es.length c] W fun e w' => ∃ L' c' Ds, e = .returned (.slice L' Ds.length c') ∧ Heads w' L' Ds ∧ (∀ d ∈ Ds, Spare W.heap.size w' d) ∧ Ds.map Hd.l = Es.map Hd.l ∧ Below W.heap.size W w' ∧ (0 < Ds.length → ∃ r hs, L' = some ⟨r, 0, none⟩ ∧ W.heap.size ≤ r ∧ Blk.At w' r hs 22 ∧ ∀ k, k < Ds.length → hs[k]? = some (Ds.getD k default).v) := by
  obtain ⟨i0, hi, hz0, hz1, hz2⟩ := info_parts info22
  have HH := Lib.hid h
  have HLN := Lib.hid hl
  have HP0 : Hid (PA W Es 0 [] (.slice none 0 0) W) := Lib.hid ⟨World.ownsRow_nil _ _ _ _, fun d hd => by simp at hd, rfl, Below.refl _ _⟩
  clear h hl
  go_enter Try.func23, Try.ntmps23
  go_wp2
  go_loopw [3, 4] (fun v3 v4 wr => ∃ (i : Nat) (ds : List Hd), i ≤ Es.length ∧ v4 = .int .i64 (i : Nat) ∧ Hid (PA W Es i ds v3 wr)) (fun _ v _ => Es.length - (intOf v).toNat)
  case atStart => exact ⟨0, [], Nat.zero_le _, rfl, HP0⟩
  case round =>
    clear HP0
    obtain ⟨i, ds, hi', rfl, HW⟩ := hrel
    by_cases hin : i < Es.length
    · have hlt : (i : Int) < (Es.length : Int) := by omega
      obtain ⟨lr, lo, rfl, hc⟩ := HH.out.head i hin
      have hbl := World.block_lt_of_cell? W _ hc
      have hcw := (HW.out.below.cell (p := ⟨lr, lo + i, none⟩) hbl).trans hc
      have hmem : Es.getD i default ∈ Es := by rw [← getElem_getD _ _ hin]; exact List.getElem_mem hin
      have hrow : Row wr (Es.getD i default).g (Es.getD i default).A (Es.getD i default).c (Es.getD i default).l := (HH.out.row _ hmem).on (fun hp => HW.out.below.block _ (Row.lt (HH.out.row _ hmem) hp))
      have hlen := HLN.out _ hmem
      obtain ⟨e, he⟩ : ∃ e, Es.getD i default = e := ⟨_, rfl⟩
      rw [he] at hcw hrow hlen hc
      unfold Hd.v at hcw hc
      have HE := Lib.hid he
      have HR := Lib.hid hrow
      have HC := Lib.hid hc
      have hsz := HW.out.below.size
      have hown := HW.out.own
      have hml : i + 1 ≤ maxLen := by simp only [maxLen]; omega
      clear hc hmem hrow he
      go_wp2_with (first
        | ((with_reducible refine gate_builtin (b := .append) (xs := #[.tmp 12, .tmp 16]) rfl ?_); at_builtin; refine Kd.R_append_rows (Kd.int .i64) (w0 := wr) wr.heap.size rfl (.tmp 12) (.tmp 16) 22 2 (.int .i64 0) 8 rfl Try.underlying22 Cur.info2 rfl (by decide) (by omega) (.slice none 0 0) ([] : List Int) e.l _ _ _ (fun _ => True) (fun _ => False) rfl rfl ?aO ?aR (fun _ _ h => h) (fun _ h => h.elim) ?aF ?aB ?aS ?aL ?_; (case aR => exact Row.nums HR.out hlen); (case aB => exact Below.refl _ _); (case aF => exact (fun _ _ => trivial)); (case aO => exact Kd.R_nil _ _ _ _ _); (case aS => exact Nat.le_refl _); (case aL => simp only [List.length_nil]; omega); intro v1 w1 ho hb hg hat; have HA1 := Lib.hid ho; have HB1 := Lib.hid hb; clear ho hb hg hat)
        | ((with_reducible refine gate_builtin (b := .append) (xs := #[.tmp 18, .tmp 19]) rfl ?_); at_builtin; refine Kd.R_append_rows (Kd.int .i64) (w0 := wr) wr.heap.size rfl (.tmp 18) (.tmp 19) 22 2 (.int .i64 0) 8 rfl Try.underlying22 Cur.info2 rfl (by decide) (by omega) v1 ([] ++ e.l) [-77] _ _ _ (fun _ => True) (fun _ => False) rfl rfl ?aO ?aR (fun _ _ h => h) (fun _ h => h.elim) ?aF ?aB ?aS ?aL ?_; (case aR => exact Row.nums (lit_row _ _) (by simp)); (case aB => exact HB1.out.alloc HB1.out.size _); (case aF => exact (fun _ _ => trivial)); (case aO => exact Kd.R_alloc HA1.out _); (case aS => rw [World.size_alloc]; have := HB1.out.size; omega); (case aL => simp only [List.length_append, List.length_cons, List.length_nil]; omega); intro v2 w2 ho hb hg hat; obtain ⟨g, cap, cur, rfl, a1, a2, a3, a4, a5, a6⟩ := own_block (l := [] ++ e.l ++ [-77]) ho (by simp); simp only [List.nil_append] at a3 a6; have HB2 := Lib.hid hb; have hll : (e.l ++ [-77]).length = e.l.length + 1 := (by simp); have hcut := cut22 (some ⟨g, 0, none⟩) (e.l.length + 1) cap e.l.length (by omega) (by simpa using a3); have c2 := ((HW.out.below.trans (hb.mono hsz)).cell (p := ⟨lr, lo + i, none⟩) hbl).trans HC.out; have HSP := Lib.hid (spare_of (l := e.l) a2 a1 a3 a5 a6); have hsz2 := hb.size; have own2 := own_below hown hb; clear ho hb hg hat a1 a2 a3 a4 a5 a6 hll)
        | (at_builtin; refine wpList_append_own _ rfl (.tmp 21) (.tmp 29) 42 rfl W.heap.size 22 i0 (.slice none 0 0) 1 24 Try.underlying42 hi hz0 hz1 hz2 rfl (by decide) _ _ _ rfl (own2.alloc _) ⟨w2.heap.size, 0, none⟩ 1 1 [.slice (some ⟨g, 0, none⟩) e.l.length cap] rfl rfl (cell_one_new _ _ _) (by simp [Value.oneCell']) hml (by omega) (by rw [World.size_alloc]; omega) ?_; intro v3 w3 own3 grow3 _; have HQ := Lib.hid (PA.next (d := ⟨some ⟨g, 0, none⟩, cap, g, e.l⟩) HW.out hin HB2.out HSP.out (by rw [HE.out]) grow3 own3); clear own3 grow3)
        | go_in)
      go_roundw
      case rel => exact ⟨i + 1, _, by omega, by go_num, HQ⟩
      case measure => simp [intOf]; omega
    · have hlt : ¬ ((i : Int) < (Es.length : Int)) := by omega
      obtain rfl : i = Es.length := by omega
      have hle : ds.length = Es.length := by have := HW.out.own.1; simpa using this
      have hmp := HW.out.maps
      rw [List.take_of_length_le (Nat.le_refl _)] at hmp
      go_wp2
      go_ret
      rcases HW.out.own.2 with ⟨rfl, h0⟩ | ⟨g, cap, cur, rfl, hg, h4, h5, h6, h7, h8⟩
      · exact ⟨none, 0, ds, by rw [hle, h0]; rfl, ⟨fun k hk => by omega, fun d hd => (HW.out.row d hd).row⟩, HW.out.row, hmp, HW.out.below, fun hp => by omega⟩
      · have hat : ∀ k, k < ds.length → cur.toList[k]? = some (ds.getD k default).v := fun k hk => by
          have h9 : (cur.toList.take (Es.length * 1))[k]? = some (ds.getD k default).v := by
            rw [h8, List.getElem?_map, List.getElem?_eq_getElem hk]
            simp [List.getD_eq_getElem?_getD, List.getElem?_eq_getElem hk]
          rwa [List.getElem?_take_of_lt (by omega)] at h9
        refine ⟨some ⟨g, 0, none⟩, cap, ds, by rw [hle]; rfl, ⟨fun k hk => ⟨g, 0, rfl, ?_⟩, fun d hd => (HW.out.row d hd).row⟩, HW.out.row, hmp, HW.out.below, fun hp => by first | exact ⟨g, rfl, hg, cur.toList, (show Blk.At wr g cur.toList 22 from h4), hat⟩ | exact ⟨g, cur.toList, rfl, hg, (show Blk.At wr g cur.toList 22 from h4), hat⟩⟩
        rw [Nat.zero_add, Blk.At.cell (cs := cur.toList) (show Blk.At wr g cur.toList 22 from h4) k]
        exact hat k hk
/-- The marks that ranges have left, the last on top. -/
def Marks (b : Nat) : Nat → List Deferred → World → Prop
  | _, [], _ => True
  | u, d :: ds, w => ∃ D, d = { target := .collected D, args := #[] } ∧ b ≤ D ∧ D < u ∧ w.heap[D]? = some (.deferred (some [])) ∧ Marks b D ds w
theorem Marks.mono {b : Nat} {ds : List Deferred} {w w' : World} : ∀ {u u' : Nat}, u ≤ u' → (∀ j, b ≤ j → j < u → w.heap[j]? = some (.deferred (some [])) → w'.heap[j]? = some (.deferred (some []))) → Marks b u ds w → Marks b u' ds w' := by
  induction ds with
  | nil => intro _ _ _ _ _; trivial
  | cons d ds ih =>
    rintro u u' hu hk ⟨D, h1, h2, h3, h4, h5⟩
    exact ⟨D, h1, h2, by omega, hk D h2 h3 h4, ih (Nat.le_refl _) (fun j a b' c => hk j a (by omega) c) h5⟩
/-- The marks taken: cells stay, and all ahead of b. -/
structure Took (b : Nat) (A B : World) : Prop where
  os : B.os = A.os
  tape : B.tape = A.tape
  output : B.output = A.output
  size : A.heap.size ≤ B.heap.size
  block : ∀ j, j < A.heap.size → j < b → B.heap[j]? = A.heap[j]?
  cell : ∀ (j : Nat) (cs : Array Value) (t : TypeId) (f : Nat × Nat), A.heap[j]? = some (Obj.cells cs t f) → B.heap[j]? = some (Obj.cells cs t f)
theorem marks_leave {F : Fence} {n b : Nat} {P : Program} {fn : Func} {tmps : Array Value} {R : Ending → World → Prop} {ds : List Deferred} : ∀ {u : Nat} {w : World}, Marks b u ds w → (∀ w', Took b w w' → ∃ v, (results fn tmps).run P w' = .ok v w' ∧ R (.returned v) w') → LeavesInM F n P fn tmps R ds .returning w := by
  induction ds with
  | nil =>
    intro u w _ h
    exact h w ⟨rfl, rfl, rfl, Nat.le_refl _, fun _ _ _ => rfl, fun _ _ _ _ h => h⟩
  | cons d ds ih =>
    rintro u w ⟨D, rfl, h2, h3, h4, h5⟩ h
    refine ⟨by simp, .inl ⟨D, _, rfl, run_takeDeferred h4, ih (Marks.mono (Nat.le_refl _) (fun j _ hj hd => (World.putObj_heap_other (by omega)).trans hd) h5) (fun w' k => h w' ⟨k.os, k.tape, k.output, ?_, fun j hj hb => (k.block j (by simpa using hj) hb).trans (World.putObj_heap_other (by omega)), fun j cs t f hj => k.cell j cs t f ((World.putObj_heap_other (fun e => ?_)).trans hj)⟩)⟩⟩
    · have := k.size
      simpa using this
    · subst e
      rw [h4] at hj
      cases hj
/-- Only blocks from B0 on and ahead of B1 have turned. -/
structure OV (B0 B1 : Nat) (A B : World) : Prop where
  os : B.os = A.os
  tape : B.tape = A.tape
  output : B.output = A.output
  size : A.heap.size ≤ B.heap.size
  block : ∀ j, j < A.heap.size → (j < B0 ∨ B1 ≤ j) → B.heap[j]? = A.heap[j]?
theorem OV.refl (B0 B1 : Nat) (A : World) : OV B0 B1 A A := ⟨rfl, rfl, rfl, Nat.le_refl _, fun _ _ _ => rfl⟩
theorem OV.set {B0 B1 g : Nat} {A B : World} (h : OV B0 B1 A B) (h0 : B0 ≤ g) (h1 : g < B1) (k : Nat) (u : Value) : OV B0 B1 A (B.setCell ⟨g, k, none⟩ u) :=
  ⟨h.os, h.tape, h.output, by rw [World.size_setCell]; exact h.size, fun j hj hb => (Below.heap_setCell _ _ _ _ (by show j ≠ g; omega)).trans (h.block j hj hb)⟩
/-- The lists being written over: from list i on the headers are as they were; all have room. -/
structure WO (B0 B1 : Nat) (W5 : World) (r : Nat) (Ds : List Hd) (i : Nat) (wr : World) : Prop where
  ov : OV B0 B1 W5 wr
  lo : B0 ≤ r
  hi : r < B1
  row : ∃ hs, Blk.At wr r hs 22 ∧ Ds.length ≤ hs.length ∧ ∀ k, i ≤ k → k < Ds.length → hs[k]? = some (Ds.getD k default).v
  each : ∀ d ∈ Ds, ∃ cs, Blk.At wr d.g cs 2 ∧ d.l.length ≤ cs.length ∧ B0 ≤ d.g ∧ d.g < B1 ∧ d.A = some ⟨d.g, 0, none⟩
theorem WO.put {B0 B1 r i : Nat} {W5 wr : World} {Ds : List Hd} (h : WO B0 B1 W5 r Ds i wr) {d : Hd} (hd : d ∈ Ds) (j : Nat) (u : Value) : WO B0 B1 W5 r Ds i (wr.setCell ⟨d.g, j, none⟩ u) := by
  obtain ⟨cs, h1, h2, h3, h4, h5⟩ := h.each d hd
  obtain ⟨hs, k1, k2, k3⟩ := h.row
  have hne : r ≠ d.g := fun e => by
    unfold Blk.At at h1 k1
    rw [← e, k1] at h1
    injection h1 with h1
    injection h1 with _ h1
    cases h1
  refine ⟨h.ov.set h3 h4 j u, h.lo, h.hi, ⟨hs, k1.other _ u hne, k2, k3⟩, fun e he => ?_⟩
  obtain ⟨cs', a1, a2, a3, a4, a5⟩ := h.each e he
  by_cases heq : e.g = d.g
  · exact ⟨cs'.set j u, by rw [heq] at a1 ⊢; exact a1.set j u, by simpa using a2, a3, a4, a5⟩
  · exact ⟨cs', a1.other _ u heq, a2, a3, a4, a5⟩
theorem WO.cell {B0 B1 r i : Nat} {W5 wr : World} {Ds : List Hd} (h : WO B0 B1 W5 r Ds i wr) {d : Hd} (hd : d ∈ Ds) {j : Nat} (hj : j < d.l.length) : ∃ old, wr.cell? ⟨d.g, j, none⟩ = some old ∧ wr.frozen? ⟨d.g, j, none⟩ = false := by
  obtain ⟨cs, h1, h2, _⟩ := h.each d hd
  exact ⟨_, h1.get j _ (List.getElem?_eq_getElem (by omega)), h1.free j⟩
theorem WO.head {B0 B1 r i : Nat} {W5 wr : World} {Ds : List Hd} (h : WO B0 B1 W5 r Ds i wr) (hi : i < Ds.length) : wr.cell? ⟨r, i, none⟩ = some (Ds.getD i default).v ∧ wr.frozen? ⟨r, i, none⟩ = false := by
  obtain ⟨hs, k1, k2, k3⟩ := h.row
  exact ⟨k1.get i _ (k3 i (Nat.le_refl _) hi), k1.free i⟩
theorem WO.next {B0 B1 r i : Nat} {W5 wr : World} {Ds : List Hd} (h : WO B0 B1 W5 r Ds i wr) (u : Value) : WO B0 B1 W5 r Ds (i + 1) (wr.setCell ⟨r, i, none⟩ u) := by
  obtain ⟨hs, k1, k2, k3⟩ := h.row
  refine ⟨h.ov.set h.lo h.hi i u, h.lo, h.hi, ⟨hs.set i u, k1.set i u, by simpa using k2, fun k h1 h2 => by rw [List.getElem?_set_ne (by omega)]; exact k3 k (by omega) h2⟩, fun e he => ?_⟩
  obtain ⟨cs', a1, a2, a3, a4, a5⟩ := h.each e he
  refine ⟨cs', a1.other _ u (fun e2 => ?_), a2, a3, a4, a5⟩
  have e2 : e.g = r := e2
  unfold Blk.At at a1 k1
  rw [e2, k1] at a1
  injection a1 with a1
  injection a1 with _ a1
  cases a1
theorem firsts_union {Ds Es : List Hd} (h : Ds.map Hd.l = Es.map fun d => setL ltI d.l) : firsts Ds = union ltI (Es.map Hd.l) := by
  unfold union
  rw [← pick_all 1 h]
  unfold firsts pick counts
  rw [List.filter_map, List.map_map, List.map_map]
  congr 1
  rw [List.filter_eq_self.2]
  intro x hx
  have h1 := (mem_setL totI x _).1 hx
  simp only [Function.comp, decide_eq_true_eq]
  obtain ⟨l, hl, hxl⟩ := List.mem_flatten.1 h1
  have : 0 < cnt (Ds.map Hd.l) x := by
    unfold cnt
    exact List.length_pos_of_mem (List.mem_filter.2 ⟨hl, by simpa using hxl⟩)
  omega
end Go.Proofs.Ytnflokhffmfifaa.CountW
namespace Go.Proofs.Ytnflokhffmfifaa.CountW
open Go.RowKit Go.Proofs.Ytnflokhffmfifaa.Blk Go.Proofs.Ytnflokhffmfifaa.Ris Go.Proofs.Ytnflokhffmfifaa.Cur Go.Proofs.Ytnflokhffmfifaa.OfW Go.Proofs.Ytnflokhffmfifaa.HeapPure Go.Proofs.Ytnflokhffmfifaa.HeapW Go.Proofs.Ytnflokhffmfifaa.CountPure Go.Proofs.Ytnflokhffmfifaa.PostAlg Go.Proofs.YtnflokhffmfifaaW.PrintWords Go.Proofs.YtnflokhffmfifaaW.PrintLast Go.Proofs.YtnflokhffmfifaaW.PrintMore
theorem res_cell {P : Program} {fn : Func} {p : Tmp} {ty : TypeId} (h : fn.results = #[.cell p ty]) (tmps : Array Value) (w : World) (g : Nat) (v : Value) (hp : tmps.getD p undef = .pointer (some ⟨g, 0, none⟩)) (hc : w.cell? ⟨g, 0, none⟩ = some v) (hu : (isAgg ty).run P w = .ok false w) : (results fn tmps).run P w = .ok v w := by
  have hp' : tmps[p]?.getD undef = .pointer (some ⟨g, 0, none⟩) := by simpa using hp
  have hl : (load ⟨g, 0, none⟩).run P w = .ok v w := by simp [go_sem, hc]
  simp [results, h, hp', asAddr, loadVar, Sem.run_bind, hu, hl, Result.andThen]
theorem OV.cell {B0 B1 : Nat} {A B : World} {a : Addr} {v : Value} (h : OV B0 B1 A B) (hc : A.cell? a = some v) (hne : a.block < B0 ∨ B1 ≤ a.block) : B.cell? a = some v :=
  (World.cell?_of_block (h.block a.block (World.block_lt_of_cell? A _ hc) hne)).trans hc
theorem OV.box {B0 B1 c : Nat} {A B : World} {t : TypeId} {v : Value} (h : OV B0 B1 A B) (hv : Boxed A c t v) (hne : c < B0 ∨ B1 ≤ c) : Boxed B c t v := (h.block c (Array.getElem?_eq_some_iff.1 hv).1 hne).trans hv
theorem OV.row {B0 B1 : Nat} {A B : World} {g c : Nat} {L : Option Addr} {l : List Int} (h : OV B0 B1 A B) (hr : Row A g L c l) (hne : 0 < l.length → g < B0 ∨ B1 ≤ g) : Row B g L c l := hr.on (fun hp => h.block g (Row.lt hr hp) (hne hp))
/-- What the rounds need. -/
structure RZ (W0 : World) (lo wb mb rb sb : Nat) (Lm : Option Addr) (cm : Nat) (Dm : List Hd) (R : List Int) (gR cR : Nat) (BR : Option Addr) (mo : Int) : Prop where
  hx : W0.cell? ⟨lo, 0, none⟩ = some (.slice Lm Dm.length cm)
  hh : Heads W0 Lm Dm
  hd : ∀ r o, Lm = some ⟨r, o, none⟩ → r < W0.heap.size
  ris : ∀ d ∈ Dm, Ris ltI d.l
  want : Boxed W0 wb 22 (.slice BR R.length cR)
  row : Row W0 gR BR cR R
  most : Boxed W0 mb 3 (.int .i64 mo)
  seq : Boxed W0 sb 46 (.func (.func 57) #[] #[.pointer (some ⟨lo, 0, none⟩)])
  res : Boxed W0 rb 4 (.bool false)
theorem arr127 (t : Array Value) (h : t.size = 127) : ∃ v : Nat → Value, t = #[v 0, v 1, v 2, v 3, v 4, v 5, v 6, v 7, v 8, v 9, v 10, v 11, v 12, v 13, v 14, v 15, v 16, v 17, v 18, v 19, v 20, v 21, v 22, v 23, v 24, v 25, v 26, v 27, v 28, v 29, v 30, v 31, v 32, v 33, v 34, v 35, v 36, v 37, v 38, v 39, v 40, v 41, v 42, v 43, v 44, v 45, v 46, v 47, v 48, v 49, v 50, v 51, v 52, v 53, v 54, v 55, v 56, v 57, v 58, v 59, v 60, v 61, v 62, v 63, v 64, v 65, v 66, v 67, v 68, v 69, v 70, v 71, v 72, v 73, v 74, v 75, v 76, v 77, v 78, v 79, v 80, v 81, v 82, v 83, v 84, v 85, v 86, v 87, v 88, v 89, v 90, v 91, v 92, v 93, v 94, v 95, v 96, v 97, v 98, v 99, v 100, v 101, v 102, v 103, v 104, v 105, v 106, v 107, v 108, v 109, v 110, v 111, v 112, v 113, v 114, v 115, v 116, v 117, v 118, v 119, v 120, v 121, v 122, v 123, v 124, v 125, v 126] := by
  refine ⟨fun i => t.getD i undef, ?_⟩
  have e : t.toList = (List.range 127).map fun i => t.getD i undef := by
    apply List.ext_getElem (by simp [h])
    intro i h1 h2
    simp at h1
    simp [Array.getD, h1]
  have := congrArg List.toArray e
  rw [Array.toArray_toList] at this
  rw [this]
  rfl
theorem arr127s (t : Array Value) (h : t.size = 127) {x3 x4 x7 x8 x11 : Value} (h3 : t[3]? = some x3) (h4 : t[4]? = some x4) (h7 : t[7]? = some x7) (h8 : t[8]? = some x8) (h11 : t[11]? = some x11) : ∃ v : Nat → Value, t = #[v 0, v 1, v 2, x3, x4, v 5, v 6, x7, x8, v 9, v 10, x11, v 12, v 13, v 14, v 15, v 16, v 17, v 18, v 19, v 20, v 21, v 22, v 23, v 24, v 25, v 26, v 27, v 28, v 29, v 30, v 31, v 32, v 33, v 34, v 35, v 36, v 37, v 38, v 39, v 40, v 41, v 42, v 43, v 44, v 45, v 46, v 47, v 48, v 49, v 50, v 51, v 52, v 53, v 54, v 55, v 56, v 57, v 58, v 59, v 60, v 61, v 62, v 63, v 64, v 65, v 66, v 67, v 68, v 69, v 70, v 71, v 72, v 73, v 74, v 75, v 76, v 77, v 78, v 79, v 80, v 81, v 82, v 83, v 84, v 85, v 86, v 87, v 88, v 89, v 90, v 91, v 92, v 93, v 94, v 95, v 96, v 97, v 98, v 99, v 100, v 101, v 102, v 103, v 104, v 105, v 106, v 107, v 108, v 109, v 110, v 111, v 112, v 113, v 114, v 115, v 116, v 117, v 118, v 119, v 120, v 121, v 122, v 123, v 124, v 125, v 126] := by
  obtain ⟨v, rfl⟩ := arr127 t h
  have e3 : v 3 = x3 := Option.some.inj h3
  have e4 : v 4 = x4 := Option.some.inj h4
  have e7 : v 7 = x7 := Option.some.inj h7
  have e8 : v 8 = x8 := Option.some.inj h8
  have e11 : v 11 = x11 := Option.some.inj h11
  exact ⟨v, by rw [e3, e4, e7, e8, e11]⟩
/-- Between two of the three rounds. -/
def LI (W0 : World) (mb rb wb sb : Nat) (a : Act) (W : World) : Prop := a.tmps.size = 127 ∧ a.tmps[3]? = some (.pointer (some ⟨mb, 0, none⟩)) ∧ a.tmps[4]? = some (.pointer (some ⟨rb, 0, none⟩)) ∧ a.tmps[7]? = some (.pointer (some ⟨wb, 0, none⟩)) ∧ a.tmps[8]? = some (.pointer (some ⟨sb, 0, none⟩)) ∧ (∃ q : Nat, q ≤ 3 ∧ a.tmps[11]? = some (.int .i64 (q : Nat))) ∧ Marks W0.heap.size W.heap.size a.defers W ∧ Below W0.heap.size W0 W
set_option maxHeartbeats 8000000 in
set_option maxRecDepth 100000 in
theorem rounds_walk (w W0 : World) (lo wb mb rb sb : Nat) (Lm : Option Addr) (cm : Nat) (Dm : List Hd) (R : List Int) (gR cR : Nat) (BR : Option Addr) (mo : Int) (hz : RZ W0 lo wb mb rb sb Lm cm Dm R gR cR BR mo) (hR : firsts Dm = R) (hm : Dm.length ≤ 1048576) (hRl : R.length ≤ 16777216) (hmo : 1 ≤ mo) (hmo2 : mo ≤ (R.length : Int) + 1) (hB : Below w.heap.size w W0) (hrb : w.heap.size ≤ rb) {v0 v1 v2 v5 v6 v9 v10 v11 v12 v13 v14 v15 v16 v17 v18 v19 v20 v21 v22 v23 v24 v25 v26 v27 v28 v29 v30 v31 v32 v33 v34 v35 v36 v37 v38 v39 v40 v41 v42 v43 v44 v45 v46 v47 v48 v49 v50 v51 v52 v53 v54 v55 v56 v57 v58 v59 v60 v61 v62 v63 v64 v65 v66 v67 v68 v69 v70 v71 v72 v73 v74 v75 v76 v77 v78 v79 v80 v81 v82 v83 v84 v85 v86 v87 v88 v89 v90 v91 v92 v93 v94 v95 v96 v97 v98 v99 v100 v101 v102 v103 v104 v105 v106 v107 v108 v109 v110 v111 v112 v113 v114 v115 v116 v117 v118 v119 v120 v121 v122 v123 v124 v125 v126 : Value} {K0 K1 : Act → World → Prop} (k0 : ∀ a u, ((Go.Code.block 4 (((Go.Code.region 18 #[{ dst := some 73, op := Go.Op.move (Go.Operand.tmp 11), type := 3, pos := "law.go:182", after := #[], guard := none }, { dst := some 74, op := Go.Op.binOp Go.BinOp.lss 3 (Go.Operand.tmp 73) (Go.Operand.const (Go.Value.int Go.IntKind.i64 3)) 3, type := 4, pos := "law.go:182", after := #[{ on := 0, ground := Go.Ground.data }], guard := none }] false).seq (Go.Code.cond (Go.Operand.tmp 74) Go.Code.skip (Go.Code.exit 4))).seq ((Go.Code.block 5 ((Go.Code.region 20 #[{ dst := some 12, op := Go.Op.alloc 3, type := 0, pos := "law.go:183", after := #[], guard := none }, { dst := none, op := Go.Op.store 3 (Go.Operand.tmp 12) (Go.Operand.const (Go.Value.int Go.IntKind.i64 0)), type := 0, pos := "law.go:183", after := #[{ on := 0, ground := Go.Ground.data }, { on := 0, ground := Go.Ground.phase }], guard := none }] false).seq (((Go.Code.region 21 #[{ dst := some 77, op := Go.Op.load 46 (Go.Operand.tmp 8), type := 46, pos := "law.go:184", after := #[], guard := none }] false).seq (Go.Code.block 6 (Go.Code.rangeFunc (Go.Operand.tmp 77) #[78] (Go.Code.region 22 #[{ dst := some 13, op := Go.Op.assign (Go.Operand.tmp 78), type := 2, pos := "law.go:184", after := #[], guard := none }] false) (Go.Code.block 7 (((Go.Code.region 23 #[{ dst := some 79, op := Go.Op.load 3 (Go.Operand.tmp 12), type := 3, pos := "law.go:185", after := #[], guard := none }, { dst := some 80, op := Go.Op.load 22 (Go.Operand.tmp 7), type := 22, pos := "law.go:185", after := #[], guard := none }, { dst := some 81, op := Go.Op.call { callee := Go.Callee.builtin Go.Builtin.len, args := #[Go.Operand.tmp 80], argTypes := #[22] }, type := 3, pos := "law.go:185", after := #[{ on := 1, ground := Go.Ground.data }], guard := none }, { dst := some 82, op := Go.Op.binOp Go.BinOp.geq 3 (Go.Operand.tmp 79) (Go.Operand.tmp 81) 3, type := 4, pos := "law.go:185", after := #[{ on := 0, ground := Go.Ground.data }, { on := 2, ground := Go.Ground.data }], guard := none }, { dst := some 83, op := Go.Op.move (Go.Operand.tmp 82), type := 4, pos := "law.go:185", after := #[{ on := 3, ground := Go.Ground.data }], guard := none }, { dst := some 84, op := Go.Op.move (Go.Operand.tmp 13), type := 2, pos := "law.go:185", after := #[{ on := 4, ground := Go.Ground.guard }], guard := some (4, false) }, { dst := some 85, op := Go.Op.load 22 (Go.Operand.tmp 7), type := 22, pos := "law.go:185", after := #[{ on := 4, ground := Go.Ground.guard }], guard := some (4, false) }, { dst := some 86, op := Go.Op.load 3 (Go.Operand.tmp 12), type := 3, pos := "law.go:185", after := #[{ on := 4, ground := Go.Ground.guard }], guard := some (4, false) }, { dst := some 87, op := Go.Op.indexAddr 22 (Go.Operand.tmp 85) (Go.Operand.tmp 86), type := 0, pos := "law.go:185", after := #[{ on := 6, ground := Go.Ground.data }, { on := 7, ground := Go.Ground.data }, { on := 4, ground := Go.Ground.guard }], guard := some (4, false) }, { dst := some 88, op := Go.Op.load 2 (Go.Operand.tmp 87), type := 2, pos := "law.go:185", after := #[{ on := 8, ground := Go.Ground.data }, { on := 4, ground := Go.Ground.guard }], guard := some (4, false) }, { dst := some 89, op := Go.Op.binOp Go.BinOp.neq 2 (Go.Operand.tmp 84) (Go.Operand.tmp 88) 2, type := 4, pos := "law.go:185", after := #[{ on := 5, ground := Go.Ground.data }, { on := 9, ground := Go.Ground.data }, { on := 4, ground := Go.Ground.guard }], guard := some (4, false) }, { dst := some 90, op := Go.Op.pick (Go.Operand.tmp 83) (Go.Operand.const (Go.Value.bool true)) (Go.Operand.tmp 89), type := 4, pos := "law.go:185", after := #[{ on := 4, ground := Go.Ground.data }, { on := 10, ground := Go.Ground.data }], guard := none }] false).seq (Go.Code.cond (Go.Operand.tmp 90) ((Go.Code.region 24 #[{ dst := none, op := Go.Op.store 4 (Go.Operand.tmp 4) (Go.Operand.const (Go.Value.bool false)), type := 0, pos := "law.go:186", after := #[], guard := none }] false).seq Go.Code.ret) Go.Code.skip)).seq (((Go.Code.region 25 #[{ dst := some 91, op := Go.Op.load 3 (Go.Operand.tmp 12), type := 3, pos := "law.go:188", after := #[], guard := none }, { dst := some 92, op := Go.Op.binOp Go.BinOp.lss 3 (Go.Operand.tmp 91) (Go.Operand.const (Go.Value.int Go.IntKind.i64 2)) 3, type := 4, pos := "law.go:188", after := #[{ on := 0, ground := Go.Ground.data }], guard := none }] false).seq (Go.Code.cond (Go.Operand.tmp 92) ((Go.Code.region 26 #[{ dst := some 14, op := Go.Op.alloc 3, type := 0, pos := "law.go:189", after := #[], guard := none }, { dst := none, op := Go.Op.store 3 (Go.Operand.tmp 14) (Go.Operand.const (Go.Value.int Go.IntKind.i64 0)), type := 0, pos := "law.go:189", after := #[{ on := 0, ground := Go.Ground.data }, { on := 0, ground := Go.Ground.phase }], guard := none }] false).seq (((Go.Code.region 27 #[{ dst := some 93, op := Go.Op.load 46 (Go.Operand.tmp 8), type := 46, pos := "law.go:190", after := #[], guard := none }] false).seq (Go.Code.block 8 (Go.Code.rangeFunc (Go.Operand.tmp 93) #[94] (Go.Code.region 28 #[{ dst := some 15, op := Go.Op.assign (Go.Operand.tmp 94), type := 2, pos := "law.go:190", after := #[], guard := none }] false) (Go.Code.block 9 (((Go.Code.region 29 #[{ dst := some 95, op := Go.Op.load 3 (Go.Operand.tmp 14), type := 3, pos := "law.go:191", after := #[], guard := none }, { dst := some 96, op := Go.Op.load 22 (Go.Operand.tmp 7), type := 22, pos := "law.go:191", after := #[], guard := none }, { dst := some 97, op := Go.Op.call { callee := Go.Callee.builtin Go.Builtin.len, args := #[Go.Operand.tmp 96], argTypes := #[22] }, type := 3, pos := "law.go:191", after := #[{ on := 1, ground := Go.Ground.data }], guard := none }, { dst := some 98, op := Go.Op.binOp Go.BinOp.geq 3 (Go.Operand.tmp 95) (Go.Operand.tmp 97) 3, type := 4, pos := "law.go:191", after := #[{ on := 0, ground := Go.Ground.data }, { on := 2, ground := Go.Ground.data }], guard := none }, { dst := some 99, op := Go.Op.move (Go.Operand.tmp 98), type := 4, pos := "law.go:191", after := #[{ on := 3, ground := Go.Ground.data }], guard := none }, { dst := some 100, op := Go.Op.move (Go.Operand.tmp 15), type := 2, pos := "law.go:191", after := #[{ on := 4, ground := Go.Ground.guard }], guard := some (4, false) }, { dst := some 101, op := Go.Op.load 22 (Go.Operand.tmp 7), type := 22, pos := "law.go:191", after := #[{ on := 4, ground := Go.Ground.guard }], guard := some (4, false) }, { dst := some 102, op := Go.Op.load 3 (Go.Operand.tmp 14), type := 3, pos := "law.go:191", after := #[{ on := 4, ground := Go.Ground.guard }], guard := some (4, false) }, { dst := some 103, op := Go.Op.indexAddr 22 (Go.Operand.tmp 101) (Go.Operand.tmp 102), type := 0, pos := "law.go:191", after := #[{ on := 6, ground := Go.Ground.data }, { on := 7, ground := Go.Ground.data }, { on := 4, ground := Go.Ground.guard }], guard := some (4, false) }, { dst := some 104, op := Go.Op.load 2 (Go.Operand.tmp 103), type := 2, pos := "law.go:191", after := #[{ on := 8, ground := Go.Ground.data }, { on := 4, ground := Go.Ground.guard }], guard := some (4, false) }, { dst := some 105, op := Go.Op.binOp Go.BinOp.neq 2 (Go.Operand.tmp 100) (Go.Operand.tmp 104) 2, type := 4, pos := "law.go:191", after := #[{ on := 5, ground := Go.Ground.data }, { on := 9, ground := Go.Ground.data }, { on := 4, ground := Go.Ground.guard }], guard := some (4, false) }, { dst := some 106, op := Go.Op.pick (Go.Operand.tmp 99) (Go.Operand.const (Go.Value.bool true)) (Go.Operand.tmp 105), type := 4, pos := "law.go:191", after := #[{ on := 4, ground := Go.Ground.data }, { on := 10, ground := Go.Ground.data }], guard := none }] false).seq (Go.Code.cond (Go.Operand.tmp 106) ((Go.Code.region 30 #[{ dst := none, op := Go.Op.store 4 (Go.Operand.tmp 4) (Go.Operand.const (Go.Value.bool false)), type := 0, pos := "law.go:192", after := #[], guard := none }] false).seq Go.Code.ret) Go.Code.skip)).seq (Go.Code.region 31 #[{ dst := some 107, op := Go.Op.load 3 (Go.Operand.tmp 14), type := 3, pos := "law.go:194", after := #[], guard := none }, { dst := some 108, op := Go.Op.binOp Go.BinOp.add 3 (Go.Operand.tmp 107) (Go.Operand.const (Go.Value.int Go.IntKind.i64 1)) 3, type := 3, pos := "law.go:194", after := #[{ on := 0, ground := Go.Ground.data }], guard := none }, { dst := none, op := Go.Op.store 3 (Go.Operand.tmp 14) (Go.Operand.tmp 108), type := 0, pos := "law.go:194", after := #[{ on := 1, ground := Go.Ground.data }, { on := 0, ground := Go.Ground.phase }, { on := 1, ground := Go.Ground.phase }], guard := none }] false)))))).seq ((Go.Code.region 32 #[{ dst := some 109, op := Go.Op.load 3 (Go.Operand.tmp 14), type := 3, pos := "law.go:196", after := #[], guard := none }, { dst := some 110, op := Go.Op.load 22 (Go.Operand.tmp 7), type := 22, pos := "law.go:196", after := #[], guard := none }, { dst := some 111, op := Go.Op.call { callee := Go.Callee.builtin Go.Builtin.len, args := #[Go.Operand.tmp 110], argTypes := #[22] }, type := 3, pos := "law.go:196", after := #[{ on := 1, ground := Go.Ground.data }], guard := none }, { dst := some 112, op := Go.Op.binOp Go.BinOp.neq 3 (Go.Operand.tmp 109) (Go.Operand.tmp 111) 3, type := 4, pos := "law.go:196", after := #[{ on := 0, ground := Go.Ground.data }, { on := 2, ground := Go.Ground.data }], guard := none }] false).seq (Go.Code.cond (Go.Operand.tmp 112) ((Go.Code.region 33 #[{ dst := none, op := Go.Op.store 4 (Go.Operand.tmp 4) (Go.Operand.const (Go.Value.bool false)), type := 0, pos := "law.go:197", after := #[], guard := none }] false).seq Go.Code.ret) Go.Code.skip)))) Go.Code.skip)).seq ((Go.Code.region 34 #[{ dst := some 113, op := Go.Op.load 3 (Go.Operand.tmp 12), type := 3, pos := "law.go:200", after := #[], guard := none }, { dst := some 114, op := Go.Op.binOp Go.BinOp.add 3 (Go.Operand.tmp 113) (Go.Operand.const (Go.Value.int Go.IntKind.i64 1)) 3, type := 3, pos := "law.go:200", after := #[{ on := 0, ground := Go.Ground.data }], guard := none }, { dst := none, op := Go.Op.store 3 (Go.Operand.tmp 12) (Go.Operand.tmp 114), type := 0, pos := "law.go:200", after := #[{ on := 1, ground := Go.Ground.data }, { on := 0, ground := Go.Ground.phase }, { on := 1, ground := Go.Ground.phase }], guard := none }] false).seq ((Go.Code.region 35 #[{ dst := some 115, op := Go.Op.load 3 (Go.Operand.tmp 12), type := 3, pos := "law.go:201", after := #[], guard := none }, { dst := some 116, op := Go.Op.load 3 (Go.Operand.tmp 3), type := 3, pos := "law.go:201", after := #[], guard := none }, { dst := some 117, op := Go.Op.binOp Go.BinOp.eql 3 (Go.Operand.tmp 115) (Go.Operand.tmp 116) 3, type := 4, pos := "law.go:201", after := #[{ on := 0, ground := Go.Ground.data }, { on := 1, ground := Go.Ground.data }], guard := none }] false).seq (Go.Code.cond (Go.Operand.tmp 117) (Go.Code.exit 6) Go.Code.skip))))))))).seq ((Go.Code.region 36 #[{ dst := some 118, op := Go.Op.load 3 (Go.Operand.tmp 12), type := 3, pos := "law.go:205", after := #[], guard := none }, { dst := some 119, op := Go.Op.load 3 (Go.Operand.tmp 3), type := 3, pos := "law.go:205", after := #[], guard := none }, { dst := some 120, op := Go.Op.binOp Go.BinOp.neq 3 (Go.Operand.tmp 118) (Go.Operand.tmp 119) 3, type := 4, pos := "law.go:205", after := #[{ on := 0, ground := Go.Ground.data }, { on := 1, ground := Go.Ground.data }], guard := none }, { dst := some 121, op := Go.Op.move (Go.Operand.tmp 120), type := 4, pos := "law.go:205", after := #[{ on := 2, ground := Go.Ground.data }], guard := none }, { dst := some 122, op := Go.Op.load 3 (Go.Operand.tmp 12), type := 3, pos := "law.go:205", after := #[{ on := 3, ground := Go.Ground.guard }], guard := some (3, true) }, { dst := some 123, op := Go.Op.load 22 (Go.Operand.tmp 7), type := 22, pos := "law.go:205", after := #[{ on := 3, ground := Go.Ground.guard }], guard := some (3, true) }, { dst := some 124, op := Go.Op.call { callee := Go.Callee.builtin Go.Builtin.len, args := #[Go.Operand.tmp 123], argTypes := #[22] }, type := 3, pos := "law.go:205", after := #[{ on := 5, ground := Go.Ground.data }, { on := 3, ground := Go.Ground.guard }], guard := some (3, true) }, { dst := some 125, op := Go.Op.binOp Go.BinOp.neq 3 (Go.Operand.tmp 122) (Go.Operand.tmp 124) 3, type := 4, pos := "law.go:205", after := #[{ on := 4, ground := Go.Ground.data }, { on := 6, ground := Go.Ground.data }, { on := 3, ground := Go.Ground.guard }], guard := some (3, true) }, { dst := some 126, op := Go.Op.pick (Go.Operand.tmp 121) (Go.Operand.tmp 125) (Go.Operand.const (Go.Value.bool false)), type := 4, pos := "law.go:205", after := #[{ on := 3, ground := Go.Ground.data }, { on := 7, ground := Go.Ground.data }], guard := none }] false).seq (Go.Code.cond (Go.Operand.tmp 126) ((Go.Code.region 37 #[{ dst := none, op := Go.Op.store 4 (Go.Operand.tmp 4) (Go.Operand.const (Go.Value.bool false)), type := 0, pos := "law.go:206", after := #[], guard := none }] false).seq Go.Code.ret) Go.Code.skip))))).seq (Go.Code.region 19 #[{ dst := some 75, op := Go.Op.move (Go.Operand.tmp 11), type := 3, pos := "law.go:182", after := #[], guard := none }, { dst := some 76, op := Go.Op.binOp Go.BinOp.add 3 (Go.Operand.tmp 75) (Go.Operand.const (Go.Value.int Go.IntKind.i64 1)) 3, type := 3, pos := "law.go:182", after := #[{ on := 0, ground := Go.Ground.data }], guard := none }, { dst := some 11, op := Go.Op.assign (Go.Operand.tmp 76), type := 3, pos := "law.go:182", after := #[{ on := 1, ground := Go.Ground.data }, { on := 0, ground := Go.Ground.phase }, { on := 1, ground := Go.Ground.phase }], guard := none }] false))).loop)).wp Try.prog (Exit.then K1 (bodyPostM Fence.wide 30 Try.prog Try.f5 (fun e w' => e = .returned (.bool true) ∧ Below w.heap.size w w'))) a u → K0 a u) (k1 : ∀ a u, (((Go.Code.region 38 #[{ dst := none, op := Go.Op.store 4 (Go.Operand.tmp 4) (Go.Operand.const (Go.Value.bool true)), type := 0, pos := "law.go:209", after := #[], guard := none }] false).seq Go.Code.ret)).wp Try.prog (bodyPostM Fence.wide 30 Try.prog Try.f5 (fun e w' => e = .returned (.bool true) ∧ Below w.heap.size w w')) a u → K1 a u) :
    ((Go.Code.region 17 #[{ dst := some 11, op := Go.Op.assign (Go.Operand.const (Go.Value.int Go.IntKind.i64 0)), type := 3, pos := "law.go:182", after := #[], guard := none }] false)).wp Try.prog (Exit.then K0 (Exit.then K1 (bodyPostM Fence.wide 30 Try.prog Try.f5 (fun e w' => e = .returned (.bool true) ∧ Below w.heap.size w w')))) { tmps := #[v0, v1, v2, .pointer (some ⟨mb, 0, none⟩), .pointer (some ⟨rb, 0, none⟩), v5, v6, .pointer (some ⟨wb, 0, none⟩), .pointer (some ⟨sb, 0, none⟩), v9, v10, v11, v12, v13, v14, v15, v16, v17, v18, v19, v20, v21, v22, v23, v24, v25, v26, v27, v28, v29, v30, v31, v32, v33, v34, v35, v36, v37, v38, v39, v40, v41, v42, v43, v44, v45, v46, v47, v48, v49, v50, v51, v52, v53, v54, v55, v56, v57, v58, v59, v60, v61, v62, v63, v64, v65, v66, v67, v68, v69, v70, v71, v72, v73, v74, v75, v76, v77, v78, v79, v80, v81, v82, v83, v84, v85, v86, v87, v88, v89, v90, v91, v92, v93, v94, v95, v96, v97, v98, v99, v100, v101, v102, v103, v104, v105, v106, v107, v108, v109, v110, v111, v112, v113, v114, v115, v116, v117, v118, v119, v120, v121, v122, v123, v124, v125, v126], defers := [] } W0 := by
  have HZ := Lib.hid hz
  clear hz
  go_wp2
  refine wp_loop (LI W0 mb rb wb sb) (fun a _ => 3 - (intOf (a.tmps.getD 11 undef)).toNat) ⟨rfl, rfl, rfl, rfl, rfl, ⟨0, by omega, rfl⟩, trivial, Below.refl _ _⟩ ?_
  rintro ⟨tmps, df⟩ W ⟨hs, h3, h4, h7, h8, ⟨q, hq, h11⟩, hmk, hbw⟩
  obtain ⟨v, rfl⟩ := arr127s tmps hs h3 h4 h7 h8 h11
  clear hs h3 h4 h7 h8 h11
  have HMK := Lib.hid hmk
  have HBW := Lib.hid hbw
  clear hmk hbw
  have hoz := HBW.out.size
  have b1 : Boxed W wb 22 (.slice BR R.length cR) := (HBW.out.block _ (Array.getElem?_eq_some_iff.1 HZ.out.want).1).trans HZ.out.want
  have b2 : Boxed W mb 3 (.int .i64 mo) := (HBW.out.block _ (Array.getElem?_eq_some_iff.1 HZ.out.most).1).trans HZ.out.most
  have b3 : Boxed W sb 46 (.func (.func 57) #[] #[.pointer (some ⟨lo, 0, none⟩)]) := (HBW.out.block _ (Array.getElem?_eq_some_iff.1 HZ.out.seq).1).trans HZ.out.seq
  have b4 : Boxed W rb 4 (.bool false) := (HBW.out.block _ (Array.getElem?_eq_some_iff.1 HZ.out.res).1).trans HZ.out.res
  by_cases hq3 : q < 3
  · have hqi : (q : Int) < 3 := by omega
    have hwq : IntKind.i64.wrap ((q : Int) + 1) = ((q + 1 : Nat) : Int) := by rw [IntWalk.i64_in _ (by omega)]; rfl
    have hB1 : Below W.heap.size W (W.alloc (.cells #[.int .i64 0] 3)) := (Below.refl _ W).alloc (Nat.le_refl _) _
    have cs1 := (b3.alloc (.cells #[.int .i64 0] 3)).cell
    go_wp2
    refine (wpIn_wide (n := 30)).1 ?_
    have hhW : Heads W Lm Dm := HZ.out.hh.below HBW.out
    have hrW := (HZ.out.row).below HBW.out
    have hlo : lo < W.heap.size := Nat.lt_of_lt_of_le (World.block_lt_of_cell? W0 _ HZ.out.hx) hoz
    have hx1 := (HBW.out.cell (p := ⟨lo, 0, none⟩) (World.block_lt_of_cell? W0 _ HZ.out.hx)).trans HZ.out.hx
    have w1 := (Array.getElem?_eq_some_iff.1 b1).1
    have w2 := (Array.getElem?_eq_some_iff.1 b2).1
    have w3 := (Array.getElem?_eq_some_iff.1 b3).1
    have w4 := (Array.getElem?_eq_some_iff.1 b4).1
    refine outer_range 30 (by omega) lo wb W.heap.size mb sb rb cm Lm Dm R gR cR BR (.bool false) mo { tmps := #[], defers := df } _ _ hR hm ((hB1.cell (p := ⟨lo, 0, none⟩) hlo).trans hx1) (hhW.below hB1) (fun d hd hp => by have := Row.lt (hhW.row d hd) hp; omega) ?hd HZ.out.ris (b1.alloc _) (hrW.below hB1) (Boxed.new W 3 (.int .i64 0)) (b2.alloc _) (b3.alloc _) (b4.alloc _) (by omega) (by omega) (fun hp => by have := Row.lt hrW hp; omega) (by omega) (by omega) (by omega) hRl hmo hmo2 ?_
    case hd => intro r o e; have := HZ.out.hd r o e; omega
    rintro e D W' k (rfl | rfl) hF hk hkk hD hD2
    · have hB2 := fr_old hF
      have hc := hk.cell
      have cm2 := (hB2.cell (p := ⟨mb, 0, none⟩) (by omega)).trans b2.cell
      have cw2 := (hB2.cell (p := ⟨wb, 0, none⟩) (by omega)).trans b1.cell
      have hDl := (Array.getElem?_eq_some_iff.1 hD).1
      have hW1 : (W.alloc (.cells #[.int .i64 0] 3)).heap.size = W.heap.size + 1 := World.size_alloc _ _
      have HMK2 : Hid (Marks W0.heap.size W'.heap.size ({ target := .collected D, args := #[] } :: df) W') := Lib.hid ⟨D, rfl, by omega, hDl, hD, Marks.mono (by omega) (fun j _ b c => (hB2.block j b).trans c) HMK.out⟩
      have HBW2 := Lib.hid (HBW.out.trans (hB2.mono hoz))
      clear hF hD hD2 hB2 hDl
      by_cases hkm : k = mo
      · subst hkm
        go_wp2
        exact ⟨⟨rfl, rfl, rfl, rfl, rfl, ⟨q + 1, by omega, by first | rfl | simp⟩, HMK2.out, HBW2.out⟩, by simp [intOf]; omega⟩
      · have hkr : k = (R.length : Int) := by omega
        subst hkr
        have hne : ((R.length : Int) != mo) = true := by simpa using hkm
        go_wp2
        exact ⟨⟨rfl, rfl, rfl, rfl, rfl, ⟨q + 1, by omega, by first | rfl | simp⟩, HMK2.out, HBW2.out⟩, by simp [intOf]; omega⟩
    · have hB2 := fr_old hF
      have hc := hk.cell
      have cm2 := (hB2.cell (p := ⟨mb, 0, none⟩) (by omega)).trans b2.cell
      have cw2 := (hB2.cell (p := ⟨wb, 0, none⟩) (by omega)).trans b1.cell
      have hDl := (Array.getElem?_eq_some_iff.1 hD).1
      have hW1 : (W.alloc (.cells #[.int .i64 0] 3)).heap.size = W.heap.size + 1 := World.size_alloc _ _
      have HMK2 : Hid (Marks W0.heap.size W'.heap.size ({ target := .collected D, args := #[] } :: df) W') := Lib.hid ⟨D, rfl, by omega, hDl, hD, Marks.mono (by omega) (fun j _ b c => (hB2.block j b).trans c) HMK.out⟩
      have HBW2 := Lib.hid (HBW.out.trans (hB2.mono hoz))
      clear hF hD hD2 hB2 hDl
      by_cases hkm : k = mo
      · subst hkm
        go_wp2
        exact ⟨⟨rfl, rfl, rfl, rfl, rfl, ⟨q + 1, by omega, by first | rfl | simp⟩, HMK2.out, HBW2.out⟩, by simp [intOf]; omega⟩
      · have hkr : k = (R.length : Int) := by omega
        subst hkr
        have hne : ((R.length : Int) != mo) = true := by simpa using hkm
        go_wp2
        exact ⟨⟨rfl, rfl, rfl, rfl, rfl, ⟨q + 1, by omega, by first | rfl | simp⟩, HMK2.out, HBW2.out⟩, by simp [intOf]; omega⟩
  · have hqi : ¬ (q : Int) < 3 := by omega
    obtain rfl : q = 3 := by omega
    have c4 := b4.cell
    have f4 := b4.frozen
    go_wp2
    have hbx := b4.set (.bool true)
    have hrl := (Array.getElem?_eq_some_iff.1 b4).1
    refine marks_leave (b := W0.heap.size) (u := W.heap.size) (Marks.mono (Nat.le_refl _) (fun j _ _ hd => (Below.heap_setCell _ _ _ _ (fun e => by rw [show j = rb from e, show W.heap[rb]? = _ from b4] at hd; cases hd)).trans hd) HMK.out) ?_
    intro w' hk
    have hbx' : Boxed w' rb 4 (.bool true) := hk.cell _ _ _ _ hbx
    refine ⟨.bool true, res_cell rfl _ _ rb _ rfl hbx'.cell rfl, rfl, ?_⟩
    have h0 := hB.size
    refine ⟨hk.os.trans (HBW.out.os.trans hB.os), hk.tape.trans (HBW.out.tape.trans hB.tape), hk.output.trans (HBW.out.output.trans hB.output), by have := hk.size; rw [World.size_setCell] at this; omega, fun j hj => ?_⟩
    refine (hk.block j (by rw [World.size_setCell]; omega) (by omega)).trans ?_
    exact (Below.heap_setCell _ _ _ _ (by show j ≠ rb; omega)).trans ((HBW.out.block j (by omega)).trans (hB.block j hj))
end Go.Proofs.Ytnflokhffmfifaa.CountW
namespace Go.Proofs.Ytnflokhffmfifaa.CountW
open Go.RowKit Go.Proofs.Ytnflokhffmfifaa.Blk Go.Proofs.Ytnflokhffmfifaa.Ris Go.Proofs.Ytnflokhffmfifaa.Cur Go.Proofs.Ytnflokhffmfifaa.OfW Go.Proofs.Ytnflokhffmfifaa.HeapPure Go.Proofs.Ytnflokhffmfifaa.HeapW Go.Proofs.Ytnflokhffmfifaa.CountPure Go.Proofs.Ytnflokhffmfifaa.PostAlg Go.Proofs.YtnflokhffmfifaaW.PrintWords Go.Proofs.YtnflokhffmfifaaW.PrintLast Go.Proofs.YtnflokhffmfifaaW.PrintMore
theorem und46 : Try.prog.underlying 46 = some (.func #[78] #[] false) := by kernel_rfl
theorem run_equalIn_func_nil (d : Nat) (fn : Fn) (f c : Array Value) (w : World) : (Op.equalIn (d + 1) 46 (.func fn f c) .nilFunc).run Try.prog w = .ok false w := by
  simp [Op.equalIn, run_underlying und46]
theorem run_func_nil (fn : Fn) (f c : Array Value) (w : World) : (binOp .eql 46 (.func fn f c) .nilFunc).run Try.prog w = .ok (.bool false) w := by
  have h3 : (Op.equal 46 (.func fn f c) .nilFunc).run Try.prog w = .ok false w := run_equalIn_func_nil 9999 fn f c w
  simp [binOp, h3]
theorem cut22z (A : Option Addr) (n c : Nat) (hc : n ≤ c) (W : World) : (Instr.slice 22 (.slice A n c) none (some (.int .i64 0)) none).run Try.prog W = .ok (.slice A 0 c) W := cut22 A n c 0 (Nat.zero_le _) hc W
theorem below_set4 (W : World) (o : Obj) {u : Value} : Below W.heap.size W ((W.alloc o).setCell ⟨W.heap.size, 0, none⟩ u) := by
  have h := (Below.refl W.heap.size W).alloc (Nat.le_refl _) o
  exact ⟨h.os, h.tape, h.output, by rw [World.size_setCell]; exact h.size, fun j hj => (Below.heap_setCell _ _ _ _ (by show j ≠ W.heap.size; omega)).trans (h.block j hj)⟩
/-- What stands where Merge is called. -/
structure RQ (w W3 : World) (B1 : Nat) (L L1 L2 : Option Addr) (Es Ds : List Hd) (R : List Int) (gR cR : Nat) (BR : Option Addr) (wb : Nat) (mo : Int) : Prop where
  hE : Heads W3 L Es
  h1 : Heads W3 L1 Ds
  h2 : Heads W3 L2 Ds
  sp : ∀ d ∈ Ds, Spare (w.heap.size + 2) W3 d
  top : ∀ d ∈ Ds, d.g < B1
  own : 0 < Ds.length → ∃ r hs, L1 = some ⟨r, 0, none⟩ ∧ w.heap.size + 2 ≤ r ∧ r < B1 ∧ Blk.At W3 r hs 22 ∧ ∀ k, k < Ds.length → hs[k]? = some (Ds.getD k default).v
  maps : Ds.map Hd.l = Es.map Hd.l
  below : Below w.heap.size w W3
  row : Row W3 gR BR cR R
  rowB : 0 < R.length → B1 ≤ gR
  want : Boxed W3 wb 22 (.slice BR R.length cR)
  wantB : B1 ≤ wb
  most : Boxed W3 w.heap.size 3 (.int .i64 mo)
  res : Boxed W3 (w.heap.size + 1) 4 (.bool false)
  b0 : w.heap.size + 2 ≤ B1
  b1 : B1 ≤ W3.heap.size
set_option maxHeartbeats 8000000 in
set_option maxRecDepth 100000 in
theorem rest_walk (w W3 : World) (B1 : Nat) (L L1 L2 : Option Addr) (c0 c1 c2 : Nat) (Es Ds : List Hd) (R : List Int) (gR cR : Nat) (BR : Option Addr) (mb rb wb : Nat) (mo : Int) (hmb : mb = w.heap.size) (hrb : rb = w.heap.size + 1) (hq : RQ w W3 B1 L L1 L2 Es Ds R gR cR BR wb mo) (hR : R = union ltI (Es.map Hd.l)) (hbk : bulk Es ≤ 1048576) (hlen : Es.length ≤ 1048576) (hmo : 1 ≤ mo) (hmo2 : mo ≤ (R.length : Int) + 1) {v1 v2 v8 v9 v10 v11 v12 v13 v14 v15 v16 v17 v18 v19 v20 v21 v22 v23 v24 v25 v26 v27 v28 v29 v30 v31 v32 v33 v34 v35 v36 v37 v38 v39 v40 v41 v42 v43 v44 v45 v46 v47 v48 v49 v50 v51 v52 v53 v54 v55 v56 v57 v58 v59 v60 v61 v62 v63 v64 v65 v66 v67 v68 v69 v70 v71 v72 v73 v74 v75 v76 v77 v78 v79 v80 v81 v82 v83 v84 v85 v86 v87 v88 v89 v90 v91 v92 v93 v94 v95 v96 v97 v98 v99 v100 v101 v102 v103 v104 v105 v106 v107 v108 v109 v110 v111 v112 v113 v114 v115 v116 v117 v118 v119 v120 v121 v122 v123 v124 v125 v126 : Value} {K0 : Act → World → Prop} (k0 : ∀ a u, ((((Go.Code.region 7 #[{ dst := some 35, op := Go.Op.load 46 (Go.Operand.tmp 8), type := 46, pos := "law.go:173", after := #[], guard := none }, { dst := some 36, op := Go.Op.binOp Go.BinOp.eql 46 (Go.Operand.tmp 35) (Go.Operand.const Go.Value.nilFunc) 46, type := 4, pos := "law.go:173", after := #[{ on := 0, ground := Go.Ground.data }], guard := none }, { dst := some 37, op := Go.Op.move (Go.Operand.tmp 36), type := 4, pos := "law.go:173", after := #[{ on := 1, ground := Go.Ground.data }], guard := none }, { dst := some 38, op := Go.Op.move (Go.Operand.tmp 5), type := 42, pos := "law.go:173", after := #[{ on := 2, ground := Go.Ground.guard }], guard := some (2, false) }, { dst := some 39, op := Go.Op.move (Go.Operand.tmp 6), type := 42, pos := "law.go:173", after := #[{ on := 2, ground := Go.Ground.guard }], guard := some (2, false) }, { dst := some 40, op := Go.Op.move (Go.Operand.tmp 0), type := 42, pos := "law.go:173", after := #[{ on := 2, ground := Go.Ground.guard }], guard := some (2, false) }, { dst := some 41, op := Go.Op.call { callee := Go.Callee.value (Go.Operand.func 27), args := #[Go.Operand.tmp 38, Go.Operand.tmp 39, Go.Operand.tmp 40], argTypes := #[42, 42, 42] }, type := 4, pos := "law.go:173", after := #[{ on := 3, ground := Go.Ground.data }, { on := 4, ground := Go.Ground.data }, { on := 5, ground := Go.Ground.data }, { on := 2, ground := Go.Ground.chain }, { on := 2, ground := Go.Ground.guard }], guard := some (2, false) }, { dst := some 42, op := Go.Op.unOp Go.UnOp.not 4 (Go.Operand.tmp 41), type := 4, pos := "law.go:173", after := #[{ on := 6, ground := Go.Ground.data }, { on := 2, ground := Go.Ground.guard }], guard := some (2, false) }, { dst := some 43, op := Go.Op.pick (Go.Operand.tmp 37) (Go.Operand.const (Go.Value.bool true)) (Go.Operand.tmp 42), type := 4, pos := "law.go:173", after := #[{ on := 2, ground := Go.Ground.data }, { on := 7, ground := Go.Ground.data }], guard := none }] false).seq (Go.Code.cond (Go.Operand.tmp 43) ((Go.Code.region 8 #[{ dst := none, op := Go.Op.store 4 (Go.Operand.tmp 4) (Go.Operand.const (Go.Value.bool false)), type := 0, pos := "law.go:174", after := #[], guard := none }] false).seq Go.Code.ret) Go.Code.skip)).seq (((Go.Code.region 9 #[{ dst := some 9, op := Go.Op.assign (Go.Operand.const (Go.Value.int Go.IntKind.i64 0)), type := 3, pos := "law.go:176", after := #[], guard := none }] false).seq (Go.Code.block 0 (((Go.Code.region 10 #[{ dst := some 44, op := Go.Op.move (Go.Operand.tmp 9), type := 3, pos := "law.go:176", after := #[], guard := none }, { dst := some 45, op := Go.Op.move (Go.Operand.tmp 5), type := 42, pos := "law.go:176", after := #[], guard := none }, { dst := some 46, op := Go.Op.call { callee := Go.Callee.builtin Go.Builtin.len, args := #[Go.Operand.tmp 45], argTypes := #[42] }, type := 3, pos := "law.go:176", after := #[{ on := 1, ground := Go.Ground.data }], guard := none }, { dst := some 47, op := Go.Op.binOp Go.BinOp.lss 3 (Go.Operand.tmp 44) (Go.Operand.tmp 46) 3, type := 4, pos := "law.go:176", after := #[{ on := 0, ground := Go.Ground.data }, { on := 2, ground := Go.Ground.data }], guard := none }] false).seq (Go.Code.cond (Go.Operand.tmp 47) Go.Code.skip (Go.Code.exit 0))).seq ((Go.Code.block 1 (((Go.Code.region 12 #[{ dst := some 10, op := Go.Op.assign (Go.Operand.const (Go.Value.int Go.IntKind.i64 0)), type := 3, pos := "law.go:177", after := #[], guard := none }] false).seq (Go.Code.block 2 (((Go.Code.region 13 #[{ dst := some 50, op := Go.Op.move (Go.Operand.tmp 10), type := 3, pos := "law.go:177", after := #[], guard := none }, { dst := some 51, op := Go.Op.move (Go.Operand.tmp 5), type := 42, pos := "law.go:177", after := #[], guard := none }, { dst := some 52, op := Go.Op.move (Go.Operand.tmp 9), type := 3, pos := "law.go:177", after := #[], guard := none }, { dst := some 53, op := Go.Op.indexAddr 42 (Go.Operand.tmp 51) (Go.Operand.tmp 52), type := 0, pos := "law.go:177", after := #[{ on := 1, ground := Go.Ground.data }, { on := 2, ground := Go.Ground.data }], guard := none }, { dst := some 54, op := Go.Op.load 22 (Go.Operand.tmp 53), type := 22, pos := "law.go:177", after := #[{ on := 3, ground := Go.Ground.data }], guard := none }, { dst := some 55, op := Go.Op.call { callee := Go.Callee.builtin Go.Builtin.len, args := #[Go.Operand.tmp 54], argTypes := #[22] }, type := 3, pos := "law.go:177", after := #[{ on := 4, ground := Go.Ground.data }], guard := none }, { dst := some 56, op := Go.Op.binOp Go.BinOp.lss 3 (Go.Operand.tmp 50) (Go.Operand.tmp 55) 3, type := 4, pos := "law.go:177", after := #[{ on := 0, ground := Go.Ground.data }, { on := 5, ground := Go.Ground.data }], guard := none }] false).seq (Go.Code.cond (Go.Operand.tmp 56) Go.Code.skip (Go.Code.exit 2))).seq ((Go.Code.block 3 (Go.Code.region 15 #[{ dst := some 59, op := Go.Op.move (Go.Operand.tmp 5), type := 42, pos := "law.go:178", after := #[], guard := none }, { dst := some 60, op := Go.Op.move (Go.Operand.tmp 9), type := 3, pos := "law.go:178", after := #[], guard := none }, { dst := some 61, op := Go.Op.indexAddr 42 (Go.Operand.tmp 59) (Go.Operand.tmp 60), type := 0, pos := "law.go:178", after := #[{ on := 0, ground := Go.Ground.data }, { on := 1, ground := Go.Ground.data }], guard := none }, { dst := some 62, op := Go.Op.load 22 (Go.Operand.tmp 61), type := 22, pos := "law.go:178", after := #[{ on := 2, ground := Go.Ground.data }], guard := none }, { dst := some 63, op := Go.Op.move (Go.Operand.tmp 10), type := 3, pos := "law.go:178", after := #[], guard := none }, { dst := some 64, op := Go.Op.indexAddr 22 (Go.Operand.tmp 62) (Go.Operand.tmp 63), type := 0, pos := "law.go:178", after := #[{ on := 3, ground := Go.Ground.data }, { on := 4, ground := Go.Ground.data }, { on := 0, ground := Go.Ground.phase }, { on := 1, ground := Go.Ground.phase }, { on := 2, ground := Go.Ground.phase }, { on := 3, ground := Go.Ground.phase }, { on := 4, ground := Go.Ground.phase }], guard := none }, { dst := none, op := Go.Op.store 2 (Go.Operand.tmp 64) (Go.Operand.const (Go.Value.int Go.IntKind.i64 (-77))), type := 0, pos := "law.go:178", after := #[{ on := 5, ground := Go.Ground.data }, { on := 0, ground := Go.Ground.phase }, { on := 1, ground := Go.Ground.phase }, { on := 2, ground := Go.Ground.phase }, { on := 3, ground := Go.Ground.phase }, { on := 4, ground := Go.Ground.phase }], guard := none }] false)).seq (Go.Code.region 14 #[{ dst := some 57, op := Go.Op.move (Go.Operand.tmp 10), type := 3, pos := "law.go:177", after := #[], guard := none }, { dst := some 58, op := Go.Op.binOp Go.BinOp.add 3 (Go.Operand.tmp 57) (Go.Operand.const (Go.Value.int Go.IntKind.i64 1)) 3, type := 3, pos := "law.go:177", after := #[{ on := 0, ground := Go.Ground.data }], guard := none }, { dst := some 10, op := Go.Op.assign (Go.Operand.tmp 58), type := 3, pos := "law.go:177", after := #[{ on := 1, ground := Go.Ground.data }, { on := 0, ground := Go.Ground.phase }, { on := 1, ground := Go.Ground.phase }], guard := none }] false))).loop)).seq (Go.Code.region 16 #[{ dst := some 65, op := Go.Op.move (Go.Operand.tmp 5), type := 42, pos := "law.go:180", after := #[], guard := none }, { dst := some 66, op := Go.Op.move (Go.Operand.tmp 9), type := 3, pos := "law.go:180", after := #[], guard := none }, { dst := some 67, op := Go.Op.move (Go.Operand.tmp 5), type := 42, pos := "law.go:180", after := #[], guard := none }, { dst := some 68, op := Go.Op.move (Go.Operand.tmp 9), type := 3, pos := "law.go:180", after := #[], guard := none }, { dst := some 69, op := Go.Op.indexAddr 42 (Go.Operand.tmp 67) (Go.Operand.tmp 68), type := 0, pos := "law.go:180", after := #[{ on := 2, ground := Go.Ground.data }, { on := 3, ground := Go.Ground.data }], guard := none }, { dst := some 70, op := Go.Op.load 22 (Go.Operand.tmp 69), type := 22, pos := "law.go:180", after := #[{ on := 4, ground := Go.Ground.data }], guard := none }, { dst := some 71, op := Go.Op.slice 22 (Go.Operand.tmp 70) none (some (Go.Operand.const (Go.Value.int Go.IntKind.i64 0))) none, type := 22, pos := "law.go:180", after := #[{ on := 5, ground := Go.Ground.data }], guard := none }, { dst := some 72, op := Go.Op.indexAddr 42 (Go.Operand.tmp 65) (Go.Operand.tmp 66), type := 0, pos := "law.go:180", after := #[{ on := 0, ground := Go.Ground.data }, { on := 1, ground := Go.Ground.data }, { on := 0, ground := Go.Ground.phase }, { on := 1, ground := Go.Ground.phase }, { on := 2, ground := Go.Ground.phase }, { on := 3, ground := Go.Ground.phase }, { on := 4, ground := Go.Ground.phase }, { on := 5, ground := Go.Ground.phase }, { on := 6, ground := Go.Ground.phase }], guard := none }, { dst := none, op := Go.Op.store 22 (Go.Operand.tmp 72) (Go.Operand.tmp 71), type := 0, pos := "law.go:180", after := #[{ on := 7, ground := Go.Ground.data }, { on := 6, ground := Go.Ground.data }, { on := 0, ground := Go.Ground.phase }, { on := 1, ground := Go.Ground.phase }, { on := 2, ground := Go.Ground.phase }, { on := 3, ground := Go.Ground.phase }, { on := 4, ground := Go.Ground.phase }, { on := 5, ground := Go.Ground.phase }, { on := 6, ground := Go.Ground.phase }], guard := none }] false))).seq (Go.Code.region 11 #[{ dst := some 48, op := Go.Op.move (Go.Operand.tmp 9), type := 3, pos := "law.go:176", after := #[], guard := none }, { dst := some 49, op := Go.Op.binOp Go.BinOp.add 3 (Go.Operand.tmp 48) (Go.Operand.const (Go.Value.int Go.IntKind.i64 1)) 3, type := 3, pos := "law.go:176", after := #[{ on := 0, ground := Go.Ground.data }], guard := none }, { dst := some 9, op := Go.Op.assign (Go.Operand.tmp 49), type := 3, pos := "law.go:176", after := #[{ on := 1, ground := Go.Ground.data }, { on := 0, ground := Go.Ground.phase }, { on := 1, ground := Go.Ground.phase }], guard := none }] false))).loop)).seq (((Go.Code.region 17 #[{ dst := some 11, op := Go.Op.assign (Go.Operand.const (Go.Value.int Go.IntKind.i64 0)), type := 3, pos := "law.go:182", after := #[], guard := none }] false).seq (Go.Code.block 4 (((Go.Code.region 18 #[{ dst := some 73, op := Go.Op.move (Go.Operand.tmp 11), type := 3, pos := "law.go:182", after := #[], guard := none }, { dst := some 74, op := Go.Op.binOp Go.BinOp.lss 3 (Go.Operand.tmp 73) (Go.Operand.const (Go.Value.int Go.IntKind.i64 3)) 3, type := 4, pos := "law.go:182", after := #[{ on := 0, ground := Go.Ground.data }], guard := none }] false).seq (Go.Code.cond (Go.Operand.tmp 74) Go.Code.skip (Go.Code.exit 4))).seq ((Go.Code.block 5 ((Go.Code.region 20 #[{ dst := some 12, op := Go.Op.alloc 3, type := 0, pos := "law.go:183", after := #[], guard := none }, { dst := none, op := Go.Op.store 3 (Go.Operand.tmp 12) (Go.Operand.const (Go.Value.int Go.IntKind.i64 0)), type := 0, pos := "law.go:183", after := #[{ on := 0, ground := Go.Ground.data }, { on := 0, ground := Go.Ground.phase }], guard := none }] false).seq (((Go.Code.region 21 #[{ dst := some 77, op := Go.Op.load 46 (Go.Operand.tmp 8), type := 46, pos := "law.go:184", after := #[], guard := none }] false).seq (Go.Code.block 6 (Go.Code.rangeFunc (Go.Operand.tmp 77) #[78] (Go.Code.region 22 #[{ dst := some 13, op := Go.Op.assign (Go.Operand.tmp 78), type := 2, pos := "law.go:184", after := #[], guard := none }] false) (Go.Code.block 7 (((Go.Code.region 23 #[{ dst := some 79, op := Go.Op.load 3 (Go.Operand.tmp 12), type := 3, pos := "law.go:185", after := #[], guard := none }, { dst := some 80, op := Go.Op.load 22 (Go.Operand.tmp 7), type := 22, pos := "law.go:185", after := #[], guard := none }, { dst := some 81, op := Go.Op.call { callee := Go.Callee.builtin Go.Builtin.len, args := #[Go.Operand.tmp 80], argTypes := #[22] }, type := 3, pos := "law.go:185", after := #[{ on := 1, ground := Go.Ground.data }], guard := none }, { dst := some 82, op := Go.Op.binOp Go.BinOp.geq 3 (Go.Operand.tmp 79) (Go.Operand.tmp 81) 3, type := 4, pos := "law.go:185", after := #[{ on := 0, ground := Go.Ground.data }, { on := 2, ground := Go.Ground.data }], guard := none }, { dst := some 83, op := Go.Op.move (Go.Operand.tmp 82), type := 4, pos := "law.go:185", after := #[{ on := 3, ground := Go.Ground.data }], guard := none }, { dst := some 84, op := Go.Op.move (Go.Operand.tmp 13), type := 2, pos := "law.go:185", after := #[{ on := 4, ground := Go.Ground.guard }], guard := some (4, false) }, { dst := some 85, op := Go.Op.load 22 (Go.Operand.tmp 7), type := 22, pos := "law.go:185", after := #[{ on := 4, ground := Go.Ground.guard }], guard := some (4, false) }, { dst := some 86, op := Go.Op.load 3 (Go.Operand.tmp 12), type := 3, pos := "law.go:185", after := #[{ on := 4, ground := Go.Ground.guard }], guard := some (4, false) }, { dst := some 87, op := Go.Op.indexAddr 22 (Go.Operand.tmp 85) (Go.Operand.tmp 86), type := 0, pos := "law.go:185", after := #[{ on := 6, ground := Go.Ground.data }, { on := 7, ground := Go.Ground.data }, { on := 4, ground := Go.Ground.guard }], guard := some (4, false) }, { dst := some 88, op := Go.Op.load 2 (Go.Operand.tmp 87), type := 2, pos := "law.go:185", after := #[{ on := 8, ground := Go.Ground.data }, { on := 4, ground := Go.Ground.guard }], guard := some (4, false) }, { dst := some 89, op := Go.Op.binOp Go.BinOp.neq 2 (Go.Operand.tmp 84) (Go.Operand.tmp 88) 2, type := 4, pos := "law.go:185", after := #[{ on := 5, ground := Go.Ground.data }, { on := 9, ground := Go.Ground.data }, { on := 4, ground := Go.Ground.guard }], guard := some (4, false) }, { dst := some 90, op := Go.Op.pick (Go.Operand.tmp 83) (Go.Operand.const (Go.Value.bool true)) (Go.Operand.tmp 89), type := 4, pos := "law.go:185", after := #[{ on := 4, ground := Go.Ground.data }, { on := 10, ground := Go.Ground.data }], guard := none }] false).seq (Go.Code.cond (Go.Operand.tmp 90) ((Go.Code.region 24 #[{ dst := none, op := Go.Op.store 4 (Go.Operand.tmp 4) (Go.Operand.const (Go.Value.bool false)), type := 0, pos := "law.go:186", after := #[], guard := none }] false).seq Go.Code.ret) Go.Code.skip)).seq (((Go.Code.region 25 #[{ dst := some 91, op := Go.Op.load 3 (Go.Operand.tmp 12), type := 3, pos := "law.go:188", after := #[], guard := none }, { dst := some 92, op := Go.Op.binOp Go.BinOp.lss 3 (Go.Operand.tmp 91) (Go.Operand.const (Go.Value.int Go.IntKind.i64 2)) 3, type := 4, pos := "law.go:188", after := #[{ on := 0, ground := Go.Ground.data }], guard := none }] false).seq (Go.Code.cond (Go.Operand.tmp 92) ((Go.Code.region 26 #[{ dst := some 14, op := Go.Op.alloc 3, type := 0, pos := "law.go:189", after := #[], guard := none }, { dst := none, op := Go.Op.store 3 (Go.Operand.tmp 14) (Go.Operand.const (Go.Value.int Go.IntKind.i64 0)), type := 0, pos := "law.go:189", after := #[{ on := 0, ground := Go.Ground.data }, { on := 0, ground := Go.Ground.phase }], guard := none }] false).seq (((Go.Code.region 27 #[{ dst := some 93, op := Go.Op.load 46 (Go.Operand.tmp 8), type := 46, pos := "law.go:190", after := #[], guard := none }] false).seq (Go.Code.block 8 (Go.Code.rangeFunc (Go.Operand.tmp 93) #[94] (Go.Code.region 28 #[{ dst := some 15, op := Go.Op.assign (Go.Operand.tmp 94), type := 2, pos := "law.go:190", after := #[], guard := none }] false) (Go.Code.block 9 (((Go.Code.region 29 #[{ dst := some 95, op := Go.Op.load 3 (Go.Operand.tmp 14), type := 3, pos := "law.go:191", after := #[], guard := none }, { dst := some 96, op := Go.Op.load 22 (Go.Operand.tmp 7), type := 22, pos := "law.go:191", after := #[], guard := none }, { dst := some 97, op := Go.Op.call { callee := Go.Callee.builtin Go.Builtin.len, args := #[Go.Operand.tmp 96], argTypes := #[22] }, type := 3, pos := "law.go:191", after := #[{ on := 1, ground := Go.Ground.data }], guard := none }, { dst := some 98, op := Go.Op.binOp Go.BinOp.geq 3 (Go.Operand.tmp 95) (Go.Operand.tmp 97) 3, type := 4, pos := "law.go:191", after := #[{ on := 0, ground := Go.Ground.data }, { on := 2, ground := Go.Ground.data }], guard := none }, { dst := some 99, op := Go.Op.move (Go.Operand.tmp 98), type := 4, pos := "law.go:191", after := #[{ on := 3, ground := Go.Ground.data }], guard := none }, { dst := some 100, op := Go.Op.move (Go.Operand.tmp 15), type := 2, pos := "law.go:191", after := #[{ on := 4, ground := Go.Ground.guard }], guard := some (4, false) }, { dst := some 101, op := Go.Op.load 22 (Go.Operand.tmp 7), type := 22, pos := "law.go:191", after := #[{ on := 4, ground := Go.Ground.guard }], guard := some (4, false) }, { dst := some 102, op := Go.Op.load 3 (Go.Operand.tmp 14), type := 3, pos := "law.go:191", after := #[{ on := 4, ground := Go.Ground.guard }], guard := some (4, false) }, { dst := some 103, op := Go.Op.indexAddr 22 (Go.Operand.tmp 101) (Go.Operand.tmp 102), type := 0, pos := "law.go:191", after := #[{ on := 6, ground := Go.Ground.data }, { on := 7, ground := Go.Ground.data }, { on := 4, ground := Go.Ground.guard }], guard := some (4, false) }, { dst := some 104, op := Go.Op.load 2 (Go.Operand.tmp 103), type := 2, pos := "law.go:191", after := #[{ on := 8, ground := Go.Ground.data }, { on := 4, ground := Go.Ground.guard }], guard := some (4, false) }, { dst := some 105, op := Go.Op.binOp Go.BinOp.neq 2 (Go.Operand.tmp 100) (Go.Operand.tmp 104) 2, type := 4, pos := "law.go:191", after := #[{ on := 5, ground := Go.Ground.data }, { on := 9, ground := Go.Ground.data }, { on := 4, ground := Go.Ground.guard }], guard := some (4, false) }, { dst := some 106, op := Go.Op.pick (Go.Operand.tmp 99) (Go.Operand.const (Go.Value.bool true)) (Go.Operand.tmp 105), type := 4, pos := "law.go:191", after := #[{ on := 4, ground := Go.Ground.data }, { on := 10, ground := Go.Ground.data }], guard := none }] false).seq (Go.Code.cond (Go.Operand.tmp 106) ((Go.Code.region 30 #[{ dst := none, op := Go.Op.store 4 (Go.Operand.tmp 4) (Go.Operand.const (Go.Value.bool false)), type := 0, pos := "law.go:192", after := #[], guard := none }] false).seq Go.Code.ret) Go.Code.skip)).seq (Go.Code.region 31 #[{ dst := some 107, op := Go.Op.load 3 (Go.Operand.tmp 14), type := 3, pos := "law.go:194", after := #[], guard := none }, { dst := some 108, op := Go.Op.binOp Go.BinOp.add 3 (Go.Operand.tmp 107) (Go.Operand.const (Go.Value.int Go.IntKind.i64 1)) 3, type := 3, pos := "law.go:194", after := #[{ on := 0, ground := Go.Ground.data }], guard := none }, { dst := none, op := Go.Op.store 3 (Go.Operand.tmp 14) (Go.Operand.tmp 108), type := 0, pos := "law.go:194", after := #[{ on := 1, ground := Go.Ground.data }, { on := 0, ground := Go.Ground.phase }, { on := 1, ground := Go.Ground.phase }], guard := none }] false)))))).seq ((Go.Code.region 32 #[{ dst := some 109, op := Go.Op.load 3 (Go.Operand.tmp 14), type := 3, pos := "law.go:196", after := #[], guard := none }, { dst := some 110, op := Go.Op.load 22 (Go.Operand.tmp 7), type := 22, pos := "law.go:196", after := #[], guard := none }, { dst := some 111, op := Go.Op.call { callee := Go.Callee.builtin Go.Builtin.len, args := #[Go.Operand.tmp 110], argTypes := #[22] }, type := 3, pos := "law.go:196", after := #[{ on := 1, ground := Go.Ground.data }], guard := none }, { dst := some 112, op := Go.Op.binOp Go.BinOp.neq 3 (Go.Operand.tmp 109) (Go.Operand.tmp 111) 3, type := 4, pos := "law.go:196", after := #[{ on := 0, ground := Go.Ground.data }, { on := 2, ground := Go.Ground.data }], guard := none }] false).seq (Go.Code.cond (Go.Operand.tmp 112) ((Go.Code.region 33 #[{ dst := none, op := Go.Op.store 4 (Go.Operand.tmp 4) (Go.Operand.const (Go.Value.bool false)), type := 0, pos := "law.go:197", after := #[], guard := none }] false).seq Go.Code.ret) Go.Code.skip)))) Go.Code.skip)).seq ((Go.Code.region 34 #[{ dst := some 113, op := Go.Op.load 3 (Go.Operand.tmp 12), type := 3, pos := "law.go:200", after := #[], guard := none }, { dst := some 114, op := Go.Op.binOp Go.BinOp.add 3 (Go.Operand.tmp 113) (Go.Operand.const (Go.Value.int Go.IntKind.i64 1)) 3, type := 3, pos := "law.go:200", after := #[{ on := 0, ground := Go.Ground.data }], guard := none }, { dst := none, op := Go.Op.store 3 (Go.Operand.tmp 12) (Go.Operand.tmp 114), type := 0, pos := "law.go:200", after := #[{ on := 1, ground := Go.Ground.data }, { on := 0, ground := Go.Ground.phase }, { on := 1, ground := Go.Ground.phase }], guard := none }] false).seq ((Go.Code.region 35 #[{ dst := some 115, op := Go.Op.load 3 (Go.Operand.tmp 12), type := 3, pos := "law.go:201", after := #[], guard := none }, { dst := some 116, op := Go.Op.load 3 (Go.Operand.tmp 3), type := 3, pos := "law.go:201", after := #[], guard := none }, { dst := some 117, op := Go.Op.binOp Go.BinOp.eql 3 (Go.Operand.tmp 115) (Go.Operand.tmp 116) 3, type := 4, pos := "law.go:201", after := #[{ on := 0, ground := Go.Ground.data }, { on := 1, ground := Go.Ground.data }], guard := none }] false).seq (Go.Code.cond (Go.Operand.tmp 117) (Go.Code.exit 6) Go.Code.skip))))))))).seq ((Go.Code.region 36 #[{ dst := some 118, op := Go.Op.load 3 (Go.Operand.tmp 12), type := 3, pos := "law.go:205", after := #[], guard := none }, { dst := some 119, op := Go.Op.load 3 (Go.Operand.tmp 3), type := 3, pos := "law.go:205", after := #[], guard := none }, { dst := some 120, op := Go.Op.binOp Go.BinOp.neq 3 (Go.Operand.tmp 118) (Go.Operand.tmp 119) 3, type := 4, pos := "law.go:205", after := #[{ on := 0, ground := Go.Ground.data }, { on := 1, ground := Go.Ground.data }], guard := none }, { dst := some 121, op := Go.Op.move (Go.Operand.tmp 120), type := 4, pos := "law.go:205", after := #[{ on := 2, ground := Go.Ground.data }], guard := none }, { dst := some 122, op := Go.Op.load 3 (Go.Operand.tmp 12), type := 3, pos := "law.go:205", after := #[{ on := 3, ground := Go.Ground.guard }], guard := some (3, true) }, { dst := some 123, op := Go.Op.load 22 (Go.Operand.tmp 7), type := 22, pos := "law.go:205", after := #[{ on := 3, ground := Go.Ground.guard }], guard := some (3, true) }, { dst := some 124, op := Go.Op.call { callee := Go.Callee.builtin Go.Builtin.len, args := #[Go.Operand.tmp 123], argTypes := #[22] }, type := 3, pos := "law.go:205", after := #[{ on := 5, ground := Go.Ground.data }, { on := 3, ground := Go.Ground.guard }], guard := some (3, true) }, { dst := some 125, op := Go.Op.binOp Go.BinOp.neq 3 (Go.Operand.tmp 122) (Go.Operand.tmp 124) 3, type := 4, pos := "law.go:205", after := #[{ on := 4, ground := Go.Ground.data }, { on := 6, ground := Go.Ground.data }, { on := 3, ground := Go.Ground.guard }], guard := some (3, true) }, { dst := some 126, op := Go.Op.pick (Go.Operand.tmp 121) (Go.Operand.tmp 125) (Go.Operand.const (Go.Value.bool false)), type := 4, pos := "law.go:205", after := #[{ on := 3, ground := Go.Ground.data }, { on := 7, ground := Go.Ground.data }], guard := none }] false).seq (Go.Code.cond (Go.Operand.tmp 126) ((Go.Code.region 37 #[{ dst := none, op := Go.Op.store 4 (Go.Operand.tmp 4) (Go.Operand.const (Go.Value.bool false)), type := 0, pos := "law.go:206", after := #[], guard := none }] false).seq Go.Code.ret) Go.Code.skip))))).seq (Go.Code.region 19 #[{ dst := some 75, op := Go.Op.move (Go.Operand.tmp 11), type := 3, pos := "law.go:182", after := #[], guard := none }, { dst := some 76, op := Go.Op.binOp Go.BinOp.add 3 (Go.Operand.tmp 75) (Go.Operand.const (Go.Value.int Go.IntKind.i64 1)) 3, type := 3, pos := "law.go:182", after := #[{ on := 0, ground := Go.Ground.data }], guard := none }, { dst := some 11, op := Go.Op.assign (Go.Operand.tmp 76), type := 3, pos := "law.go:182", after := #[{ on := 1, ground := Go.Ground.data }, { on := 0, ground := Go.Ground.phase }, { on := 1, ground := Go.Ground.phase }], guard := none }] false))).loop)).seq ((Go.Code.region 38 #[{ dst := none, op := Go.Op.store 4 (Go.Operand.tmp 4) (Go.Operand.const (Go.Value.bool true)), type := 0, pos := "law.go:209", after := #[], guard := none }] false).seq Go.Code.ret))))).wp Try.prog (bodyPostM Fence.wide 30 Try.prog Try.f5 (fun e w' => e = .returned (.bool true) ∧ Below w.heap.size w w')) a u → K0 a u) :
    ((Go.Code.region 6 #[{ dst := some 33, op := Go.Op.move (Go.Operand.tmp 5), type := 42, pos := "law.go:172", after := #[], guard := none }, { dst := some 34, op := Go.Op.call { callee := Go.Callee.value (Go.Operand.func 26), args := #[Go.Operand.tmp 33], argTypes := #[42] }, type := 46, pos := "law.go:172", after := #[{ on := 0, ground := Go.Ground.data }], guard := none }, { dst := some 8, op := Go.Op.alloc 46, type := 0, pos := "law.go:172", after := #[], guard := none }, { dst := none, op := Go.Op.store 46 (Go.Operand.tmp 8) (Go.Operand.tmp 34), type := 0, pos := "law.go:172", after := #[{ on := 2, ground := Go.Ground.data }, { on := 1, ground := Go.Ground.data }, { on := 1, ground := Go.Ground.chain }, { on := 0, ground := Go.Ground.phase }, { on := 1, ground := Go.Ground.phase }, { on := 2, ground := Go.Ground.phase }], guard := none }] false)).wp Try.prog (Exit.then K0 (bodyPostM Fence.wide 30 Try.prog Try.f5 (fun e w' => e = .returned (.bool true) ∧ Below w.heap.size w w'))) { tmps := #[.slice L Es.length c0, v1, v2, .pointer (some ⟨mb, 0, none⟩), .pointer (some ⟨rb, 0, none⟩), .slice L1 Ds.length c1, .slice L2 Ds.length c2, .pointer (some ⟨wb, 0, none⟩), v8, v9, v10, v11, v12, v13, v14, v15, v16, v17, v18, v19, v20, v21, v22, v23, v24, v25, v26, v27, v28, v29, v30, v31, v32, v33, v34, v35, v36, v37, v38, v39, v40, v41, v42, v43, v44, v45, v46, v47, v48, v49, v50, v51, v52, v53, v54, v55, v56, v57, v58, v59, v60, v61, v62, v63, v64, v65, v66, v67, v68, v69, v70, v71, v72, v73, v74, v75, v76, v77, v78, v79, v80, v81, v82, v83, v84, v85, v86, v87, v88, v89, v90, v91, v92, v93, v94, v95, v96, v97, v98, v99, v100, v101, v102, v103, v104, v105, v106, v107, v108, v109, v110, v111, v112, v113, v114, v115, v116, v117, v118, v119, v120, v121, v122, v123, v124, v125, v126], defers := [] } W3 := by
  subst hmb hrb
  have hdl : Ds.length = Es.length := by simpa using congrArg List.length hq.maps
  have hel : ∀ d ∈ Es, d.l.length ≤ 1048576 := fun d hd => Nat.le_trans (bulk_mem d hd) hbk
  have hdll : ∀ d ∈ Ds, d.l.length ≤ 1048576 := fun d hd => by
    have : d.l ∈ Es.map Hd.l := by rw [← hq.maps]; exact List.mem_map.2 ⟨d, hd, rfl⟩
    obtain ⟨e, he, h2⟩ := List.mem_map.1 this
    rw [← h2]; exact hel e he
  have HQ := Lib.hid hq
  have HDL := Lib.hid hdl
  have HEL := Lib.hid hel
  have HDLL := Lib.hid hdll
  have HRR := Lib.hid hR
  have HBK := Lib.hid hbk
  have hdm : Ds.length ≤ 1048576 := by omega
  clear hq hdl hel hdll hR hbk
  go_wp2_with (first
    | (go_at_call 26; ((with_reducible refine (merge_as _ c1 L1 Ds HQ.out.h1 hdm HDLL.out).mono ?_); rintro e W4 ⟨lo, Lm, cm, Dm, rfl, p1, p2, p3, p4, p5, p6, p7, hb⟩; have HM4 := Lib.hid (And.intro p1 (And.intro p2 (And.intro p3 (And.intro p4 (And.intro p5 (And.intro p6 p7)))))); have HB4 := Lib.hid hb; have bS := Boxed.new W4 46 (.func (.func 57) #[] #[.pointer (some ⟨lo, 0, none⟩)]); have cS := bS.cell; have BS := Lib.hid bS; have hnil := (fun W => run_func_nil (.func 57) #[] #[.pointer (some ⟨lo, 0, none⟩)] W); have HB5 : Hid (Below W4.heap.size W4 (W4.alloc (.cells #[.func (.func 57) #[] #[.pointer (some ⟨lo, 0, none⟩)]] 46))) := Lib.hid ((Below.refl _ W4).alloc (Nat.le_refl _) _); have bN := Boxed.new W4 46 .nilFunc; have cN := bN.cell; have fN := bN.frozen; clear bS bN; clear p1 p2 p3 p4 p5 p6 p7 hb))
    | (go_at_call 27; ((with_reducible refine (unchanged_as _ (w.heap.size + 2) c1 c2 c0 _ _ L1 L2 L Ds Es ?h1 ?h2 ?h3 ?h4 HQ.out.maps HDL.out HDL.out HEL.out hlen).mono ?_); (case h1 => exact HQ.out.h1.below (HB4.out.trans (HB5.out.mono HB4.out.size))); (case h2 => exact HQ.out.h2.below (HB4.out.trans (HB5.out.mono HB4.out.size))); (case h3 => exact HQ.out.hE.below (HB4.out.trans (HB5.out.mono HB4.out.size))); (case h4 => exact (fun d hd => (HQ.out.sp d hd).on ((HB4.out.trans (HB5.out.mono HB4.out.size)).block _ (HQ.out.sp d hd).lt))); rintro e _ ⟨rfl, ⟨n5, rfl⟩⟩))
    | go_in)
  have HBW5 : Hid (Below W3.heap.size W3 ((W4.alloc (.cells #[.func (.func 57) #[] #[.pointer (some ⟨lo, 0, none⟩)]] 46)).drewN n5)) := Lib.hid (pw_below_drewN (HB4.out.trans (HB5.out.mono HB4.out.size)) n5)
  have HO0 : Hid (OV (w.heap.size + 2) B1 ((W4.alloc (.cells #[.func (.func 57) #[] #[.pointer (some ⟨lo, 0, none⟩)]] 46)).drewN n5) ((W4.alloc (.cells #[.func (.func 57) #[] #[.pointer (some ⟨lo, 0, none⟩)]] 46)).drewN n5) ∧ (0 < Ds.length → ∃ r, L1 = some ⟨r, 0, none⟩ ∧ WO (w.heap.size + 2) B1 ((W4.alloc (.cells #[.func (.func 57) #[] #[.pointer (some ⟨lo, 0, none⟩)]] 46)).drewN n5) r Ds 0 ((W4.alloc (.cells #[.func (.func 57) #[] #[.pointer (some ⟨lo, 0, none⟩)]] 46)).drewN n5))) := Lib.hid ⟨OV.refl _ _ _, fun hp => by
    obtain ⟨r, hs, e, r1, r2, r3, r4⟩ := HQ.out.own hp
    refine ⟨r, e, ⟨OV.refl _ _ _, r1, r2, ⟨hs, (HBW5.out.block _ r3.lt).trans r3, ?_, fun k _ hk => r4 k hk⟩, fun d hd => ?_⟩⟩
    · rcases Nat.lt_or_ge hs.length Ds.length with hlt | hge
      · have := r4 hs.length hlt
        simp at this
      · exact hge
    · have s := HQ.out.sp d hd
      obtain ⟨cs, hc⟩ := s.kind
      refine ⟨cs.toList, (HBW5.out.block _ s.lt).trans (by show W3.heap[d.g]? = some (Obj.cells cs.toList.toArray 2 (0, 0)); rw [Array.toArray_toList]; exact hc), ?_, s.low, HQ.out.top d hd, s.at_⟩
      have h5 := Blk.At.cell (cs := cs.toList) (show Blk.At W3 d.g cs.toList 2 by show W3.heap[d.g]? = some (Obj.cells cs.toList.toArray 2 (0, 0)); rw [Array.toArray_toList]; exact hc) d.l.length
      rw [s.cell] at h5
      have := (List.getElem?_eq_some_iff.1 h5.symm).1
      omega⟩
  have HBSx : Hid (Boxed ((W4.alloc (.cells #[.func (.func 57) #[] #[.pointer (some ⟨lo, 0, none⟩)]] 46)).drewN n5) W4.heap.size 46 (.func (.func 57) #[] #[.pointer (some ⟨lo, 0, none⟩)])) := BS
  have HB6 : Hid (Below W4.heap.size W4 ((W4.alloc (.cells #[.func (.func 57) #[] #[.pointer (some ⟨lo, 0, none⟩)]] 46)).drewN n5)) := Lib.hid (pw_below_drewN HB5.out n5)
  clear cS cN fN BS HB5
  generalize ((W4.alloc (.cells #[.func (.func 57) #[] #[.pointer (some ⟨lo, 0, none⟩)]] 46)).drewN n5) = W5 at *
  go_loopw [9, 10] (fun v9 v10 wr => ∃ i : Nat, i ≤ Ds.length ∧ v9 = .int .i64 (i : Nat) ∧ Hid (OV (w.heap.size + 2) B1 W5 wr ∧ (0 < Ds.length → ∃ r, L1 = some ⟨r, 0, none⟩ ∧ WO (w.heap.size + 2) B1 W5 r Ds i wr))) (fun v _ _ => Ds.length - (intOf v).toNat)
  case atStart => exact ⟨0, Nat.zero_le _, rfl, HO0⟩
  case round =>
    clear HO0
    obtain ⟨i, hi, rfl, HO⟩ := hrel
    by_cases hin : i < Ds.length
    · have hlt : (i : Int) < (Ds.length : Int) := by omega
      have hwi : IntKind.i64.wrap ((i : Int) + 1) = ((i + 1 : Nat) : Int) := by rw [IntWalk.i64_in _ (by omega)]; rfl
      obtain ⟨r, rfl, hwo⟩ := HO.out.2 (by omega)
      have hmem : Ds.getD i default ∈ Ds := by rw [← getElem_getD _ _ hin]; exact List.getElem_mem hin
      have hlen := HDLL.out _ hmem
      have hcap := (HQ.out.sp _ hmem).row.cap
      have hA := (HQ.out.sp _ hmem).at_
      have HWO := Lib.hid hwo
      obtain ⟨⟨Ad, cd, gd, ld⟩, hd⟩ : ∃ d, d = Ds.getD i default := ⟨_, rfl⟩
      rw [← hd] at hmem hlen hcap hA
      have hA : Ad = some ⟨gd, 0, none⟩ := hA
      subst hA
      have hlen : ld.length ≤ 1048576 := hlen
      have hcap : ld.length ≤ cd := hcap
      have hcut := cut22z (some ⟨gd, 0, none⟩) ld.length cd hcap
      have HMEM := Lib.hid hmem
      have HD := Lib.hid hd
      clear hmem hd hwo hcap
      go_wp2
      go_loopw [10] (fun v10 wj => ∃ j : Nat, j ≤ ld.length ∧ v10 = .int .i64 (j : Nat) ∧ Hid (WO (w.heap.size + 2) B1 W5 r Ds i wj)) (fun v _ => ld.length - (intOf v).toNat)
      case atStart => exact ⟨0, Nat.zero_le _, rfl, HWO⟩
      case round =>
        clear HWO
        obtain ⟨j, hj, rfl, HWO⟩ := hrel
        obtain ⟨cH, fH⟩ := HWO.out.head hin
        rw [← HD.out] at cH
        change wr.cell? ⟨r, i, none⟩ = some (.slice (some ⟨gd, 0, none⟩) ld.length cd) at cH
        by_cases hjl : j < ld.length
        · have hltj : (j : Int) < (ld.length : Int) := by omega
          have hwj : IntKind.i64.wrap ((j : Int) + 1) = ((j + 1 : Nat) : Int) := by rw [IntWalk.i64_in _ (by omega)]; rfl
          obtain ⟨old, cO, fO⟩ := HWO.out.cell HMEM.out hjl
          have HN := Lib.hid (HWO.out.put HMEM.out j (.int .i64 (-77)))
          go_wp2
          go_roundw
          case rel => exact ⟨j + 1, by omega, by go_num, HN⟩
          case measure => simp [intOf]; omega
        · have hltj : ¬ (j : Int) < (ld.length : Int) := by omega
          have HN := Lib.hid (HWO.out.next (.slice (some ⟨gd, 0, none⟩) 0 cd))
          go_wp2
          go_roundw
          case rel => exact ⟨i + 1, by omega, by go_num, Lib.hid ⟨HN.out.ov, fun _ => ⟨r, rfl, HN.out⟩⟩⟩
          case measure => simp [intOf]; omega
    · have hlt : ¬ (i : Int) < (Ds.length : Int) := by omega
      have HOV := Lib.hid HO.out.1
      clear HO
      go_upto_region 17 with (first | go_in)
      have hu := firsts_union HM4.out.2.2.2.2.2.2
      rw [HQ.out.maps, ← HRR.out] at hu
      have hml : Dm.length = Ds.length := by have := congrArg List.length HM4.out.2.2.2.2.2.2; simpa using this
      have hRl : R.length ≤ 16777216 := by
        have h1 := al_len 1 Es
        have h2 := HBK.out
        have h3 := HRR.out
        unfold union at h3
        rw [h3]
        omega
      have hrisM : ∀ d ∈ Dm, Ris ltI d.l := fun d hd => by
        have : d.l ∈ Ds.map fun d => setL ltI d.l := by rw [← HM4.out.2.2.2.2.2.2]; exact List.mem_map.2 ⟨d, hd, rfl⟩
        obtain ⟨e, _, he⟩ := List.mem_map.1 this
        rw [← he]
        exact ris_setL totI _
      have hb1 := HQ.out.b1
      have hb0 := HQ.out.b0
      have hs4 := HB4.out.size
      have hs6 := HB6.out.size
      have hsv := HOV.out.size
      have o1 := HM4.out.1
      have o2 := HM4.out.2.1
      have hh4 := HM4.out.2.2.2.1
      have hd4 := HM4.out.2.2.2.2.1
      have hg4 := HM4.out.2.2.2.2.2.1
      refine rounds_walk w wr lo wb w.heap.size (w.heap.size + 1) W4.heap.size Lm cm Dm R gR cR BR mo ⟨?z1, ?z2, ?z3, hrisM, ?z4, ?z5, ?z6, ?z7, ?z8⟩ hu (by omega) hRl hmo hmo2 ?zb (by omega) (by assumption) (by assumption)
      case z1 => exact HOV.out.cell ((HB6.out.cell (p := ⟨lo, 0, none⟩) o2).trans HM4.out.2.2.1) (.inr (by show B1 ≤ lo; omega))
      case z2 =>
        refine ⟨fun j hj => ?_, fun d hd => HOV.out.row ((hh4.row d hd).below HB6.out) (fun hp => .inr (by have := hg4 d hd hp; omega))⟩
        obtain ⟨r, o, e, hc⟩ := hh4.head j hj
        exact ⟨r, o, e, HOV.out.cell ((HB6.out.cell (p := ⟨r, o + j, none⟩) (World.block_lt_of_cell? W4 _ hc)).trans hc) (.inr (by show B1 ≤ r; have := (hd4 r o e).1; omega))⟩
      case z3 => intro r o e; have := (hd4 r o e).2; omega
      case z4 => exact HOV.out.box ((HBW5.out.block _ (Array.getElem?_eq_some_iff.1 HQ.out.want).1).trans HQ.out.want) (.inr HQ.out.wantB)
      case z5 => exact HOV.out.row (HQ.out.row.below HBW5.out) (fun hp => .inr (HQ.out.rowB hp))
      case z6 => exact HOV.out.box ((HBW5.out.block _ (Array.getElem?_eq_some_iff.1 HQ.out.most).1).trans HQ.out.most) (.inl (by omega))
      case z7 => exact HOV.out.box HBSx.out (.inr (by omega))
      case z8 => exact HOV.out.box ((HBW5.out.block _ (Array.getElem?_eq_some_iff.1 HQ.out.res).1).trans HQ.out.res) (.inl (by omega))
      case zb =>
        have h5 := HQ.out.below.trans (HBW5.out.mono HQ.out.below.size)
        have hws := HQ.out.below.size
        exact ⟨HOV.out.os.trans h5.os, HOV.out.tape.trans h5.tape, HOV.out.output.trans h5.output, by omega, fun j hj => (HOV.out.block j (by omega) (.inl (by omega))).trans (h5.block j hj)⟩
theorem heads_set {W : World} {b : Nat} {n : Int} {L : Option Addr} {Es : List Hd} (hb : Boxed W b 3 (.int .i64 n)) (hh : Heads W L Es) (hg : ∀ d ∈ Es, 0 < d.l.length → d.g ≠ b) (u : Value) : Heads (W.setCell ⟨b, 0, none⟩ u) L Es := by
  refine ⟨fun k hk => ?_, fun d hd => (hh.row d hd).on (fun hp => Below.heap_setCell _ _ _ _ (hg d hd hp))⟩
  obtain ⟨r, o, e, hc⟩ := hh.head k hk
  refine ⟨r, o, e, (World.cell?_of_block (Below.heap_setCell _ _ _ _ (fun e2 => ?_))).trans hc⟩
  have e2 : r = b := e2
  subst e2
  rw [Blk.At.cell (cs := [.int .i64 n]) (show Blk.At W r [.int .i64 n] 3 from hb) (o + k)] at hc
  rcases Nat.eq_zero_or_pos (o + k) with h0 | h0
  · rw [h0] at hc
    injection hc with hc
    cases hc
  · rw [List.getElem?_eq_none (by simp; omega)] at hc
    cases hc
theorem RQ.reset {w W : World} {B1 : Nat} {L L1 L2 : Option Addr} {Es Ds : List Hd} {R : List Int} {gR cR : Nat} {BR : Option Addr} {wb : Nat} {mo : Int} (hq : RQ w W B1 L L1 L2 Es Ds R gR cR BR wb mo) (hE : ∀ d ∈ Es, 0 < d.l.length → d.g < w.heap.size) (m2 : Int) : RQ w (W.setCell ⟨w.heap.size, 0, none⟩ (.int .i64 m2)) B1 L L1 L2 Es Ds R gR cR BR wb m2 := by
  have hb0 := hq.b0
  have hwb := hq.wantB
  have hD : ∀ d ∈ Ds, 0 < d.l.length → d.g ≠ w.heap.size := fun d hd _ => by have := (hq.sp d hd).low; omega
  refine ⟨heads_set hq.most hq.hE (fun d hd hp => by have := hE d hd hp; omega) _, heads_set hq.most hq.h1 hD _, heads_set hq.most hq.h2 hD _, fun d hd => (hq.sp d hd).on (Below.heap_setCell _ _ _ _ (by have := (hq.sp d hd).low; show d.g ≠ w.heap.size; omega)), hq.top, fun hp => ?_, hq.maps, ?_, hq.row.on (fun hp => Below.heap_setCell _ _ _ _ (by have := hq.rowB hp; show gR ≠ w.heap.size; omega)), hq.rowB, Boxed.other hq.want (by omega) _, hq.wantB, hq.most.set _, Boxed.other hq.res (by omega) _, hq.b0, by rw [World.size_setCell]; exact hq.b1⟩
  · obtain ⟨r, hs, e, r1, r2, r3, r4⟩ := hq.own hp
    exact ⟨r, hs, e, r1, r2, r3.other _ _ (by show r ≠ w.heap.size; omega), r4⟩
  · have hB := hq.below
    exact ⟨hB.os, hB.tape, hB.output, by rw [World.size_setCell]; exact hB.size, fun j hj => (Below.heap_setCell _ _ _ _ (by show j ≠ w.heap.size; omega)).trans (hB.block j hj)⟩
set_option maxHeartbeats 8000000 in
set_option maxRecDepth 100000 in
theorem merges_walk (w : World) (c0 : Nat) (mo : Int) (L : Option Addr) (Es : List Hd) (h : Heads w L Es) (hb : bulk Es ≤ 1048576) (hm : Es.length ≤ 1048576) :
    Calls Try.prog 5 #[.slice L Es.length c0, .int .i64 mo] w fun e w' => e = .returned (.bool true) ∧ Below w.heap.size w w' := by
  have hel : ∀ d ∈ Es, d.l.length ≤ 1048576 := fun d hd => Nat.le_trans (bulk_mem d hd) hb
  have heg : ∀ d ∈ Es, 0 < d.l.length → d.g < w.heap.size := fun d hd hp => Row.lt (h.row d hd) hp
  have HH := Lib.hid h
  have HEL := Lib.hid hel
  have HEG := Lib.hid heg
  have HBK := Lib.hid hb
  have hRn : (union ltI (Es.map Hd.l)).length ≤ 16777216 := by have := al_len 1 Es; unfold union; omega
  obtain ⟨R, hR⟩ : ∃ R, R = union ltI (Es.map Hd.l) := ⟨_, rfl⟩
  rw [← hR] at hRn
  have HRR := Lib.hid hR
  clear h hel heg hb hR
  refine (callsIn_wide (n := 30)).1 ?_
  refine callsIn_of_wp_marks Try.func5 rfl trivial ?_ rfl
  simp only [Try.ntmps5, List.size_toArray, List.length_cons, List.length_nil, Nat.reduceAdd, Nat.reduceSub, Array.replicate_succ, Array.replicate_zero, List.push_toArray, List.append_toArray, List.nil_append, List.cons_append]
  refine (wpIn_wide (n := 30)).2 ?_
  have hz1 : (w.alloc (.cells #[.int .i64 mo] 3)).heap.size = w.heap.size + 1 := World.size_alloc _ _
  have hz2 : ((w.alloc (.cells #[.int .i64 mo] 3)).alloc (.cells #[.bool false] 4)).heap.size = w.heap.size + 2 := by rw [World.size_alloc, hz1]
  have HB0 : Hid (Below w.heap.size w ((w.alloc (.cells #[.int .i64 mo] 3)).alloc (.cells #[.bool false] 4))) := Lib.hid (((Below.refl _ w).alloc (Nat.le_refl _) _).alloc (by rw [hz1]; omega) _)
  have HX1 : Hid (Boxed ((w.alloc (.cells #[.int .i64 mo] 3)).alloc (.cells #[.bool false] 4)) w.heap.size 3 (.int .i64 mo)) := Lib.hid ((Boxed.new w 3 (.int .i64 mo)).alloc _)
  have HX2 : Hid (Boxed ((w.alloc (.cells #[.int .i64 mo] 3)).alloc (.cells #[.bool false] 4)) (w.heap.size + 1) 4 (.bool false)) := Lib.hid (by have := Boxed.new (w.alloc (.cells #[.int .i64 mo] 3)) 4 (.bool false); rwa [hz1] at this)
  have HZ2 := Lib.hid hz2
  clear hz1 hz2
  go_upto_region 4 with (first
    | (go_at_call 23; ((with_reducible refine (spared_own _ c0 L Es ?hx HEL.out hm).mono ?_); (case hx => exact HH.out.below HB0.out); rintro e W1 ⟨L1, c1, Ds, rfl, q1, q2, q3, hb, qo⟩; have HK1 := Lib.hid (And.intro q1 (And.intro q2 (And.intro q3 (And.intro hb qo)))); have HDN := Lib.hid (show Ds.length = Es.length by simpa using congrArg List.length q3); clear q1 q2 q3 hb qo))
    | (go_at_call 24; ((with_reducible refine (headers_as _ c1 L1 Ds ?hx (by have := HDN.out; omega)).mono ?_); (case hx => exact HK1.out.1); rintro e W2 ⟨L2, c2, rfl, q1, hb⟩; have HK2 := Lib.hid (And.intro q1 hb); clear q1 hb))
    | (go_at_call 25; ((with_reducible refine (runion_as _ c0 L Es ?hx HBK.out hm).mono ?_); (case hx => exact (HH.out.below HB0.out).below (HK1.out.2.2.2.1.trans (HK2.out.2.mono HK1.out.2.2.2.1.size))); rw [← HRR.out]; rintro e W3 ⟨gR, BR, cR, rfl, q1, q2, hb⟩; have HK3 := Lib.hid (And.intro q1 (And.intro q2 hb)); clear q1 q2 hb))
    | go_in)
  have hz2 := HZ2.out
  have bA := HK1.out.2.2.2.1
  have bB := HK2.out.2
  have bC := HK3.out.2.2
  have bD : Below W3.heap.size W3 (W3.alloc (.cells #[.slice BR R.length cR] 22)) := (Below.refl _ W3).alloc (Nat.le_refl _) _
  have sA := bA.size
  have sB := bB.size
  have sC := bC.size
  have b1x := (bB.trans (bC.mono sB)).trans (bD.mono (by omega : W1.heap.size ≤ W3.heap.size))
  have b0x := bA.trans (b1x.mono sA)
  have bwx : Below w.heap.size w (W3.alloc (.cells #[.slice BR R.length cR] 22)) := HB0.out.trans (b0x.mono (by omega))
  have hq0 : RQ w (W3.alloc (.cells #[.slice BR R.length cR] 22)) W1.heap.size L L1 L2 Es Ds R gR cR BR W3.heap.size mo := by
    refine ⟨HH.out.below bwx, HK1.out.1.below b1x, HK2.out.1.below ((bC.trans (bD.mono sC))), fun d hd => ?_, fun d hd => (HK1.out.2.1 d hd).lt, fun hp => ?_, HK1.out.2.2.1, bwx, HK3.out.1.below bD, fun hp => by have := (HK3.out.2.1 hp).1; omega, Boxed.new W3 22 _, by omega, (b0x.block _ (by omega)).trans HX1.out, (b0x.block _ (by omega)).trans HX2.out, by omega, by rw [World.size_alloc]; omega⟩
    · have s := HK1.out.2.1 d hd
      rw [hz2] at s
      exact s.on (b1x.block _ s.lt)
    · obtain ⟨r, hs, e, r1, r2, r3⟩ := HK1.out.2.2.2.2 hp
      exact ⟨r, hs, e, by omega, r2.lt, (b1x.block _ r2.lt).trans r2, r3⟩
  have cm0 := hq0.most.cell
  have fm0 := hq0.most.frozen
  have cw0 := hq0.want.cell
  have HQ0 := Lib.hid hq0
  have HQ1 := Lib.hid (hq0.reset HEG.out ((R.length : Int) + 1))
  have hwl : IntKind.i64.wrap ((R.length : Int) + 1) = (R.length : Int) + 1 := IntWalk.i64_in _ (by omega)
  clear hz2 bA bB bC bD sA sB sC b1x b0x bwx hq0
  by_cases hm1 : mo < 1
  · go_upto_region 6 with (first | go_in)
    exact rest_walk w _ W1.heap.size L L1 L2 c0 c1 c2 Es Ds R gR cR BR w.heap.size (w.heap.size + 1) W3.heap.size ((R.length : Int) + 1) rfl rfl HQ1.out HRR.out HBK.out hm (by omega) (by omega) (by assumption)
  · have hm1' : (1 : Int) ≤ mo := by omega
    by_cases hm2 : (R.length : Int) < mo
    · go_upto_region 6 with (first | go_in)
      exact rest_walk w _ W1.heap.size L L1 L2 c0 c1 c2 Es Ds R gR cR BR w.heap.size (w.heap.size + 1) W3.heap.size ((R.length : Int) + 1) rfl rfl HQ1.out HRR.out HBK.out hm (by omega) (by omega) (by assumption)
    · have hm2' : mo ≤ (R.length : Int) := by omega
      go_upto_region 6 with (first | go_in)
      exact rest_walk w _ W1.heap.size L L1 L2 c0 c1 c2 Es Ds R gR cR BR w.heap.size (w.heap.size + 1) W3.heap.size mo rfl rfl HQ0.out HRR.out HBK.out hm hm1' (by omega) (by assumption)
end Go.Proofs.Ytnflokhffmfifaa.CountW
namespace Go.Proofs.Ytnflokhffmfifaa.XM
open Go.RowKit Go.Proofs.Ytnflokhffmfifaa.CountW Go.Proofs.Ytnflokhffmfifaa.HeapW Go.Proofs.YtnflokhffmfifaaW.PrintWords Go.Proofs.YtnflokhffmfifaaW.PrintLast Go.Proofs.YtnflokhffmfifaaW.PrintMore
def rosterlaw10_PostingMerges.f (x0 : List (List Int)) (x1 : Int) : Option Bool := if x0.flatten.length ≤ 1048576 ∧ x0.length ≤ 1048576 then some true else none
theorem rosterlaw10_PostingMerges.calls (A0 : Option Addr) (c0 : Nat) (l0 : List (List Int)) (x1 : Int) (r : Bool) (w : World) (hr0 : Kd.C (Kd.slice 2 (Kd.int .i64)) w A0 l0.length l0) (hc0 : l0.length ≤ c0) (h : rosterlaw10_PostingMerges.f l0 x1 = some r) :
    Calls Try.prog 5 #[.slice A0 l0.length c0, .int .i64 x1] w fun e w' => e = .returned (.bool r) ∧ Below w.heap.size w w' := by
  unfold rosterlaw10_PostingMerges.f at h
  split at h
  case isFalse => cases h
  case isTrue hs =>
  obtain rfl := Option.some.inj h
  obtain ⟨Es, hh, rfl⟩ := heads_of_C hr0
  rw [flat_len] at hs
  rw [List.length_map] at hs hc0 ⊢
  exact merges_walk w c0 x1 A0 Es hh hs.1 hs.2
end Go.Proofs.Ytnflokhffmfifaa.XM

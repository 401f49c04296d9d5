/- Ranges over a function, one within the round of another, where what is handed out is known (G). Over any program. -/
import Derived.Test.YtdkohenilbkmkaaRFun
set_option linter.unusedVariables false
set_option linter.unusedSimpArgs false
namespace Go.Proofs.Ytdkohenilbkmkaa.RFun
open Go Go.RowKit
/-- An iterator's contract: gf with lb captured hands out what S tells, or a part that Sp tells; d blocks are laid ahead of the call. -/
def SeqG {α : Type} (F : Fence) (d n : Nat) (P : Program) (gf : Nat) (lb : Array Value) (encs : α → Array Value) (Kp R : World → World → Prop) (S Sp : List α → Prop) (N : Nat) (G : List α → α → World → Prop) (w : World) : Prop :=
  ∀ (l : Nat) (J Jx : List α → World → Prop) (W : World), W.heap.size = w.heap.size + d → Below w.heap.size w W → Clos R J → Clos R Jx →
    (∀ pre x W1, J pre W1 → pre.length < N → G pre x W1 → YieldAt F (n - 1) P l (encs x) W1 fun e W' => (e = .returned (.bool true) ∧ J (pre ++ [x]) W' ∧ Kp W1 W') ∨ (e = .returned (.bool false) ∧ Jx (pre ++ [x]) W' ∧ KeepsFrom (w.heap.size + d) W1 W')) →
    J [] W → CallsIn F n P gf (#[.func (.yield l) #[] #[]] ++ lb) W fun e W' => (∃ v, e = .returned v) ∧ ((∃ xs, S xs ∧ J xs W') ∨ (∃ pre, Sp pre ∧ Jx pre W'))
theorem kf_mono {B B' : Nat} {W W' : World} (h : KeepsFrom B W W') (hb : B ≤ B') : KeepsFrom B' W W' := ⟨h.size, fun k o h1 h2 h3 => h.same k o (Nat.le_trans hb h1) h2 h3⟩
theorem kf_put {B l : Nat} (W : World) (o : Obj) (h : l < B) : KeepsFrom B W (W.putObj l o) := KeepsFrom.of_grownBy (grownBy_putObj' W l o) (fun j e => by cases e; exact h)
variable {F : Fence} {n : Nat} {P : Program}
theorem rf_lawG {α : Type} {g : Operand} {ps : Array Tmp} {assign body : Code} {Q : Exit → Act → World → Prop} {a : Act} {w : World} (hro : F.round = none) (h1 : 1 ≤ n) {gf : Nat} {lb : Array Value} (hg : a.eval g = .func (.func gf) #[] lb) (hFg : F.fn gf) (eg : ∀ args w, (callFunc gf args).run P w = .ok (.enter gf args) w)
    {encs : α → Array Value} {Kp R : World → World → Prop} {S Sp : List α → Prop} {N : Nat} {G : List α → α → World → Prop} (hseq : SeqG F 2 (n - 1) P gf lb encs Kp R S Sp N G w) (hG : ∀ pre x (W : World) (o o' : Obj), W.heap[w.heap.size + 1]? = some o → o.isCells = false → G pre x W → G pre x (W.putObj (w.heap.size + 1) o'))
    (hRk : ∀ A B k o, R A B → k < w.heap.size + 2 → A.heap[k]? = some o → o.isCells = false → B.heap[k]? = some o)
    (hKt : ∀ {A B C : World}, Kp A B → Kp B C → Kp A C) (hKb : ∀ (W : World) (o o' : Obj), W.heap[w.heap.size + 1]? = some o → o.isCells = false → Kp W (W.putObj (w.heap.size + 1) o')) (hps : ∀ x, (encs x).size = ps.size)
    (I : List α → World → Prop) (Ix : Code → List α → World → Prop) (hI : OwnFrom w.heap.size I) (hIR : Clos R I) (hIx : ∀ c, OwnFrom w.heap.size (Ix c)) (hIxR : ∀ c, Clos R (Ix c)) (h0 : I [] w) (a₁ : α → Act)
    (hassign : ∀ (l : Nat) (x : α) (W : World) (K : Act → World → Prop), K (a₁ x) W → assign.wpIn (F.inRound l) (n - 1 - 1) P (Exit.then K (fun _ _ _ => False)) { tmps := (ps.zip (encs x)).foldl (fun t (p, v) => t.setIfInBounds p v) a.tmps, defers := [] } W)
    (hbody : ∀ (l : Nat) (pre : List α) (x : α) (W : World), l = w.heap.size + 1 → (∃ r, W.heap[l]? = some (.loop r)) → I pre W → pre.length < N → G pre x W → body.wpIn (F.inRound l) (n - 1 - 1) P (ownPostG w.heap.size Kp I Ix (pre ++ [x]) W) (a₁ x) W)
    (hdone : ∀ (D : Nat) (xs : List α) (W : World), w.heap.size ≤ D → S xs → I xs W → W.heap[D]? = some (.deferred (some [])) → Q .normal { a with defers := { target := .collected D, args := #[] } :: a.defers } W)
    (hstop : ∀ (D : Nat) (c : Code) (pre : List α) (W : World), w.heap.size ≤ D → Sp pre → Ix c pre W → W.heap[D]? = some (.deferred (some [])) → c.wpIn F n P Q { a with defers := { target := .collected D, args := #[] } :: a.defers } W) :
    (Code.rangeFunc g ps assign body).wpIn F n P Q a w := by
  refine wpIn_rangeFunc fun fn hfn => ?_
  rw [hro]
  have hzD : ∀ W : World, (W.alloc (.deferred (some []))).heap.size = W.heap.size + 1 := fun W => World.size_alloc _ _
  let R0 : LoopState → Option Code → Loop := fun st pe => { state := st, pending := pe, fn, tmps := a.tmps, params := ps, assign, body, defers := w.heap.size }
  have hb0 : Books w.heap.size (R0 .ready none) ((w.alloc (.deferred (some []))).alloc (.loop (R0 .ready none))) := by
    refine ⟨(Below.heap_alloc _ _ _ (by rw [hzD]; omega)).trans (World.alloc_heap_new w _), ?_⟩
    have := World.alloc_heap_new (w.alloc (.deferred (some []))) (.loop (R0 .ready none))
    rwa [hzD] at this
  have hw0 : Below w.heap.size w ((w.alloc (.deferred (some []))).alloc (.loop (R0 .ready none))) := ((Below.refl _ w).alloc (Nat.le_refl _) _).alloc (by rw [hzD]; omega) _
  have hi0 : I [] ((w.alloc (.deferred (some []))).alloc (.loop (R0 .ready none))) := hI.alloc _ (hI.alloc _ h0)
  have hz0 : ((w.alloc (.deferred (some []))).alloc (.loop (R0 .ready none))).heap.size = w.heap.size + 2 := by rw [World.size_alloc, hzD]
  refine ⟨w.heap.size + 1, _, ((w.alloc (.deferred (some []))).alloc (.loop (R0 .ready none))), { target := .fn (.func gf) lb, args := #[.func (.yield (w.heap.size + 1)) #[] #[]] }, ((w.alloc (.deferred (some []))).alloc (.loop (R0 .ready none))), gf, #[.func (.yield (w.heap.size + 1)) #[] #[]] ++ lb, ((w.alloc (.deferred (some []))).alloc (.loop (R0 .ready none))), run_enterLoop_outer fn a.tmps ps assign body, ?_, ?_, ?_, fun _ => h1, ?_⟩
  · simp only [resolve, hg]
    simp [go_sem]
  · intro f' hf'
    simp [Target.leads] at hf'
    subst hf'
    exact hFg
  · simp [invoke, go_sem, eg]
  have closB : ∀ {r : Loop} {A B : World}, Books w.heap.size r A → R A B → Books w.heap.size r B := fun hb hr => ⟨hRk _ _ _ _ hr (by omega) hb.1 rfl, hRk _ _ _ _ hr (by omega) hb.2 rfl⟩
  refine (hseq (w.heap.size + 1) (fun pre W => I pre W ∧ Books w.heap.size (R0 .ready none) W) (fun pre W => ∃ c, Ix c pre W ∧ Books w.heap.size (R0 .done (some c)) W) _ hz0 hw0
    (fun s A B hs hr => ⟨hIR s A B hs.1 hr, closB hs.2 hr⟩) (fun s A B hs hr => by obtain ⟨c, hc, hb⟩ := hs; exact ⟨c, hIxR c s A B hc hr, closB hb hr⟩) ?_ ⟨hi0, hb0⟩).mono ?_
  · rintro pre x W ⟨hi, hb⟩ hlen hg0
    refine ⟨fn, _, assign, body, run_yield hb.2 (hps x), roundIn_of_wpIn hfn (hassign _ x W _ ⟨_, run_beginRound hb.2 rfl, ?_⟩)⟩
    have hb2 : Books w.heap.size (R0 .busy none) (W.putObj (w.heap.size + 1) (.loop (R0 .busy none))) := hb.turn
    refine wpIn_mono (hbody _ pre x _ rfl ⟨_, hb2.2⟩ (hI.putObj _ hi (by omega) hb.2 rfl) hlen (hG _ _ _ _ _ hb.2 rfl hg0)) ?_
    have leave : ∀ (c : Code) (W3 : World), KeepsFrom w.heap.size (W.putObj (w.heap.size + 1) (.loop (R0 .busy none))) W3 → Ix c (pre ++ [x]) W3 →
        ∃ v W4, (Instr.endRound (w.heap.size + 1) (some c)).run P W3 = .ok v W4 ∧ ((Ending.returned v = .returned (.bool true) ∧ (I (pre ++ [x]) W4 ∧ Books w.heap.size (R0 .ready none) W4) ∧ Kp W W4) ∨ (Ending.returned v = .returned (.bool false) ∧ (∃ c, Ix c (pre ++ [x]) W4 ∧ Books w.heap.size (R0 .done (some c)) W4) ∧ KeepsFrom (w.heap.size + 2) W W4)) := fun c W3 hk hx => by
      have hb3 := hb2.from hk
      exact ⟨_, _, run_endRound (some c) hb3.2, .inr ⟨rfl, ⟨c, (hIx c).putObj _ hx (by omega) hb3.2 rfl, hb3.turn⟩, (KeepsFrom.trans (kf_put W _ (by omega)) (kf_mono hk (by omega))).trans (kf_put W3 _ (by omega))⟩⟩
    rintro e a3 W3 hp
    cases e with
    | normal =>
      obtain ⟨hk, hkp, hi3⟩ := hp
      have hb3 := hb2.from hk
      exact ⟨_, _, run_endRound none hb3.2, .inl ⟨rfl, ⟨hI.putObj _ hi3 (by omega) hb3.2 rfl, hb3.turn⟩, hKt (hKt (hKb _ _ _ hb.2 rfl) hkp) (hKb _ _ _ hb3.2 rfl)⟩⟩
    | ret => exact leave _ _ hp.1 hp.2
    | exit id => exact leave _ _ hp.1 hp.2
    | goto t => exact leave _ _ hp.1 hp.2
    | panic ch => exact hp.elim
    | outgrown => exact hp.elim
  · rintro e W2 ⟨⟨v, rfl⟩, (⟨xs, hS, hi, hb⟩ | ⟨pre, hSp, c, hi, hb⟩)⟩
    · exact ⟨none, _, run_endLoop hb.2 (by simp [R0]), hdone _ xs _ (Nat.le_refl _) hS (hI.putObj _ hi (by omega) hb.2 rfl) (Books.turn (r' := { R0 .ready none with state := .exhausted }) hb).1⟩
    · exact ⟨some c, _, run_endLoop hb.2 (by simp [R0]), hstop _ c pre _ (Nat.le_refl _) hSp ((hIx c).putObj _ hi (by omega) hb.2 rfl) (Books.turn (r' := { R0 .done (some c) with state := .exhausted }) hb).1⟩
/-- An iterator's contract goes into a round as it is. -/
theorem SeqG.inRound {α : Type} {d gf : Nat} {lb : Array Value} {encs : α → Array Value} {Kp Rr : World → World → Prop} {S Sp : List α → Prop} {N : Nat} {G : List α → α → World → Prop} {w : World} (l : Nat) (h : SeqG F d n P gf lb encs Kp Rr S Sp N G w) : SeqG (F.inRound l) d n P gf lb encs Kp Rr S Sp N G w := h
/-- The same, within a round of loop l₀. -/
theorem rf_lawGN {α : Type} {g : Operand} {ps : Array Tmp} {assign body : Code} {Q : Exit → Act → World → Prop} {a : Act} {w : World} {l₀ : Nat} {r₀ : Loop} (hro : F.round = some l₀) (hl₀ : w.heap[l₀]? = some (.loop r₀)) (h1 : 1 ≤ n) {gf : Nat} {lb : Array Value} (hg : a.eval g = .func (.func gf) #[] lb) (hFg : F.fn gf) (eg : ∀ args w, (callFunc gf args).run P w = .ok (.enter gf args) w)
    {encs : α → Array Value} {Kp R : World → World → Prop} {S Sp : List α → Prop} {N : Nat} {G : List α → α → World → Prop} (hseq : SeqG F 1 (n - 1) P gf lb encs Kp R S Sp N G w) (hG : ∀ pre x (W : World) (o o' : Obj), W.heap[w.heap.size]? = some o → o.isCells = false → G pre x W → G pre x (W.putObj w.heap.size o'))
    (hRk : ∀ A B k o, R A B → k < w.heap.size + 1 → A.heap[k]? = some o → o.isCells = false → B.heap[k]? = some o)
    (hKt : ∀ {A B C : World}, Kp A B → Kp B C → Kp A C) (hKb : ∀ (W : World) (o o' : Obj), W.heap[w.heap.size]? = some o → o.isCells = false → Kp W (W.putObj w.heap.size o')) (hps : ∀ x, (encs x).size = ps.size)
    (I : List α → World → Prop) (Ix : Code → List α → World → Prop) (hI : OwnFrom w.heap.size I) (hIR : Clos R I) (hIx : ∀ c, OwnFrom w.heap.size (Ix c)) (hIxR : ∀ c, Clos R (Ix c)) (h0 : I [] w) (a₁ : α → Act)
    (hassign : ∀ (l : Nat) (x : α) (W : World) (K : Act → World → Prop), K (a₁ x) W → assign.wpIn (F.inRound l) (n - 1 - 1) P (Exit.then K (fun _ _ _ => False)) { tmps := (ps.zip (encs x)).foldl (fun t (p, v) => t.setIfInBounds p v) a.tmps, defers := [] } W)
    (hbody : ∀ (l : Nat) (pre : List α) (x : α) (W : World), (∃ r, W.heap[l]? = some (.loop r)) → I pre W → pre.length < N → G pre x W → body.wpIn (F.inRound l) (n - 1 - 1) P (ownPostG w.heap.size Kp I Ix (pre ++ [x]) W) (a₁ x) W)
    (hdone : ∀ (xs : List α) (W : World), S xs → I xs W → Q .normal a W)
    (hstop : ∀ (c : Code) (pre : List α) (W : World), Sp pre → Ix c pre W → c.wpIn F n P Q a W) :
    (Code.rangeFunc g ps assign body).wpIn F n P Q a w := by
  refine wpIn_rangeFunc fun fn hfn => ?_
  rw [hro]
  obtain ⟨rec, hrec⟩ : ∃ rec : LoopState → Option Code → Loop, rec = fun st pe => { state := st, pending := pe, fn, tmps := a.tmps, params := ps, assign, body, defers := r₀.defers } := ⟨_, rfl⟩
  obtain ⟨W1, hW1⟩ : ∃ W1, w.alloc (.loop (rec .ready none)) = W1 := ⟨_, rfl⟩
  have hL1 : W1.heap[w.heap.size]? = some (.loop (rec .ready none)) := by rw [← hW1]; exact World.alloc_heap_new w _
  have hI1 : I [] W1 := by rw [← hW1]; exact hI.alloc _ h0
  have hw1 : Below w.heap.size w W1 := by rw [← hW1]; exact (Below.refl _ w).alloc (Nat.le_refl _) _
  have hz1 : W1.heap.size = w.heap.size + 1 := by rw [← hW1, World.size_alloc]
  refine ⟨w.heap.size, [], W1, { target := .fn (.func gf) lb, args := #[.func (.yield w.heap.size) #[] #[]] }, W1, gf, #[.func (.yield w.heap.size) #[] #[]] ++ lb, W1, ?_, ?_, ?_, ?_, fun _ => h1, ?_⟩
  · rw [← hW1, hrec]; exact run_enterLoop_inner hl₀ _ _ _ _ _
  · simp only [resolve, hg]
    simp [go_sem]
  · intro f' hf'; simp [Target.leads] at hf'; subst hf'; exact hFg
  · simp [invoke, go_sem, eg]
  have clos : ∀ {r : Loop} {A B : World}, A.heap[w.heap.size]? = some (.loop r) → R A B → B.heap[w.heap.size]? = some (.loop r) := fun hb hr => hRk _ _ _ _ hr (by omega) hb rfl
  refine (hseq w.heap.size (fun pre W => I pre W ∧ W.heap[w.heap.size]? = some (.loop (rec .ready none))) (fun pre W => ∃ c, Ix c pre W ∧ W.heap[w.heap.size]? = some (.loop (rec .done (some c)))) W1 hz1 hw1
    (fun s A B hs hr => ⟨hIR s A B hs.1 hr, clos hs.2 hr⟩) (fun s A B hs hr => by obtain ⟨c, hc, hb⟩ := hs; exact ⟨c, hIxR c s A B hc hr, clos hb hr⟩) ?_ ⟨hI1, hL1⟩).mono ?_
  · rintro pre x W ⟨hi, hl⟩ hlen hg0
    have hlt : w.heap.size < W.heap.size := (Array.getElem?_eq_some_iff.1 hl).1
    have hy := run_yield (P := P) (args := encs x) hl (by rw [hrec]; exact hps x)
    rw [hrec] at hy
    refine ⟨fn, _, assign, body, hy, roundIn_of_wpIn hfn (hassign _ x W _ ⟨_, run_beginRound hl (by rw [hrec]), ?_⟩)⟩
    clear hy
    have hl2 : (W.putObj w.heap.size (.loop { rec .ready none with state := .busy })).heap[w.heap.size]? = some (.loop { rec .ready none with state := .busy }) := World.putObj_heap_same hlt
    have hw2 : Kp W (W.putObj w.heap.size (.loop { rec .ready none with state := .busy })) := hKb _ _ _ hl rfl
    refine wpIn_mono (hbody _ pre x _ ⟨_, hl2⟩ (hI.putObj _ hi (Nat.le_refl _) hl rfl) hlen (hG _ _ _ _ _ hl rfl hg0)) ?_
    have fin : ∀ (jump : Option Code) (W3 : World), KeepsFrom w.heap.size (W.putObj w.heap.size (.loop { rec .ready none with state := .busy })) W3 →
        (Instr.endRound w.heap.size jump).run P W3 = .ok (.bool jump.isNone) (W3.putObj w.heap.size (.loop (rec (if jump.isNone then .ready else .done) jump))) ∧
        W3.heap[w.heap.size]? = some (.loop { rec .ready none with state := .busy }) ∧
        (W3.putObj w.heap.size (.loop (rec (if jump.isNone then .ready else .done) jump))).heap[w.heap.size]? = some (.loop (rec (if jump.isNone then .ready else .done) jump)) := fun jump W3 hk3 => by
      have hl3 := hk3.same _ _ (Nat.le_refl _) hl2 rfl
      have := run_endRound (P := P) jump hl3
      rw [hrec] at this ⊢
      exact ⟨this, by rw [hrec] at hl3; exact hl3, World.putObj_heap_same (Array.getElem?_eq_some_iff.1 hl3).1⟩
    have leave : ∀ (c : Code) (W3 : World), KeepsFrom w.heap.size (W.putObj w.heap.size (.loop { rec .ready none with state := .busy })) W3 → Ix c (pre ++ [x]) W3 →
        ∃ v W4, (Instr.endRound w.heap.size (some c)).run P W3 = .ok v W4 ∧ ((Ending.returned v = .returned (.bool true) ∧ (I (pre ++ [x]) W4 ∧ W4.heap[w.heap.size]? = some (.loop (rec .ready none))) ∧ Kp W W4) ∨ (Ending.returned v = .returned (.bool false) ∧ (∃ c, Ix c (pre ++ [x]) W4 ∧ W4.heap[w.heap.size]? = some (.loop (rec .done (some c)))) ∧ KeepsFrom (w.heap.size + 1) W W4)) := fun c W3 hk hx => by
      obtain ⟨hr, hl3, hl4⟩ := fin (some c) W3 hk
      exact ⟨_, _, hr, .inr ⟨rfl, ⟨c, (hIx c).putObj _ hx (Nat.le_refl _) hl3 rfl, hl4⟩, (KeepsFrom.trans (kf_put W _ (by omega)) (kf_mono hk (by omega))).trans (kf_put W3 _ (by omega))⟩⟩
    rintro e a3 W3 hp
    cases e with
    | normal =>
      obtain ⟨hk3, hkp3, hi3⟩ := hp
      obtain ⟨hr, hl3, hl4⟩ := fin none W3 hk3
      exact ⟨_, _, hr, .inl ⟨rfl, ⟨hI.putObj _ hi3 (Nat.le_refl _) hl3 rfl, hl4⟩, hKt (hKt hw2 hkp3) (hKb _ _ _ hl3 rfl)⟩⟩
    | ret => exact leave _ _ hp.1 hp.2
    | exit id => exact leave _ _ hp.1 hp.2
    | goto t => exact leave _ _ hp.1 hp.2
    | panic ch => exact hp.elim
    | outgrown => exact hp.elim
  · rintro e W2 ⟨⟨v, rfl⟩, (⟨xs, hS, hi, hl⟩ | ⟨pre, hSp, c, hi, hl⟩)⟩
    · exact ⟨none, _, by have := run_endLoop (P := P) hl (by rw [hrec]; simp); rw [hrec] at this; exact this, hdone xs _ hS (hI.putObj _ hi (Nat.le_refl _) hl rfl)⟩
    · exact ⟨some c, _, by have := run_endLoop (P := P) hl (by rw [hrec]; simp); rw [hrec] at this; exact this, hstop c pre _ hSp ((hIx c).putObj _ hi (Nat.le_refl _) hl rfl)⟩
end Go.Proofs.Ytdkohenilbkmkaa.RFun

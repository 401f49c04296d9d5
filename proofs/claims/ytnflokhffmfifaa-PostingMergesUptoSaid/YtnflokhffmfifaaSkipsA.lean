/- For the law PostingSkips: two cursors over one list, and its set's list beside them; how they go on. -/
import Derived.Test.YtnflokhffmfifaaNewC
set_option linter.unusedVariables false
set_option linter.unusedSimpArgs false
namespace Go.Proofs.Ytnflokhffmfifaa.OfW
open Go.RowKit Go.Proofs.Ytnflokhffmfifaa.Blk Go.Proofs.Ytnflokhffmfifaa.Ris Go.Proofs.Ytnflokhffmfifaa.Cur Go.Proofs.YtnflokhffmfifaaW.PrintWords Go.Proofs.YtnflokhffmfifaaW.PrintLast Go.Proofs.YtnflokhffmfifaaW.PrintMore
theorem place_lt : ∀ (l : List Int) (x : Int) (j : Nat), j < place l x → l.getD j 0 < x
  | [], x, j, h => by simp [place] at h
  | a :: l, x, j, h => by
    by_cases ha : a < x
    · cases j with
      | zero => simpa using ha
      | succ j => 
        have : j < place l x := by unfold place at h ⊢; rw [List.takeWhile_cons_of_pos (by simpa using ha)] at h; simpa using h
        simpa using place_lt l x j this
    · unfold place at h
      rw [List.takeWhile_cons_of_neg (by simpa using ha)] at h
      simp at h
theorem place_end : ∀ (l : List Int) (x : Int), place l x < l.length → ¬ l.getD (place l x) 0 < x
  | [], x, h => by simp at h
  | a :: l, x, h => by
    by_cases ha : a < x
    · have e : place (a :: l) x = place l x + 1 := by unfold place; rw [List.takeWhile_cons_of_pos (by simpa using ha)]; rfl
      rw [e] at h ⊢
      have := place_end l x (by simpa using h)
      simpa using this
    · have e : place (a :: l) x = 0 := by unfold place; rw [List.takeWhile_cons_of_neg (by simpa using ha)]; rfl
      rw [e]
      simpa using ha
theorem ris_drop {l : List Int} (h : Ris ltI l) (k : Nat) : Ris ltI (l.drop k) := List.Pairwise.sublist (List.drop_sublist _ _) h
theorem head_drop (l : List Int) (k : Nat) : (l.drop k).getD 0 0 = l.getD k 0 := by simp [List.getD_eq_getElem?_getD, List.getElem?_drop]
theorem grown_on {w w1 : World} {p k : Nat} (h : w.grownBy w1 (some p)) (hk : k < w.heap.size) (hne : k ≠ p) : w1.heap[k]? = w.heap[k]? := h.block k hk (fun e => hne (by cases e; rfl))
structure TW (w : World) (pc gc pd gd gs : Nat) (S : Option Addr) (cs : Nat) (s lc ld : List Int) (wr : World) : Prop where
  c : Cur wr pc gc lc
  d : Cur wr pd gd ld
  r : Row wr gs S cs s
  b : Below w.heap.size w wr
  ne : pc ≠ pd
  pc_ : w.heap.size ≤ pc ∧ pc < wr.heap.size
  pd_ : w.heap.size ≤ pd ∧ pd < wr.heap.size
  far : 0 < s.length → (gc ≠ pd ∧ gd ≠ pc ∧ gs ≠ pc ∧ gs ≠ pd) ∧ gc < wr.heap.size ∧ gd < wr.heap.size ∧ gs < wr.heap.size
  lc_ : lc.length ≤ s.length
  ld_ : ld.length ≤ s.length
section
variable {w wr : World} {pc gc pd gd gs cs : Nat} {S : Option Addr} {s lc ld : List Int}
theorem below_grown {w w1 w2 : World} {p : Nat} (h : Below w.heap.size w w1) (k : w1.grownBy w2 (some p)) (hp : w.heap.size ≤ p) : Below w.heap.size w w2 :=
  ⟨k.os.trans h.os, k.tape.trans h.tape, k.output.trans h.output, Nat.le_trans h.size k.size, fun j hj => (grown_on k (Nat.lt_of_lt_of_le hj h.size) (by omega)).trans (h.block j hj)⟩
theorem TW.draw (h : TW w pc gc pd gd gs S cs s lc ld wr) (n : Nat) : TW w pc gc pd gd gs S cs s lc ld (wr.drewN n) :=
  ⟨h.c.on rfl (fun _ => rfl), h.d.on rfl (fun _ => rfl), h.r.on (fun _ => rfl), pw_below_drewN h.b n, h.ne, h.pc_, h.pd_, h.far, h.lc_, h.ld_⟩
theorem TW.goc {w2 : World} {lc2 : List Int} (h : TW w pc gc pd gd gs S cs s lc ld wr) (hg : wr.grownBy w2 (some pc)) (hc : Cur w2 pc gc lc2) (hl : lc2.length ≤ s.length) : TW w pc gc pd gd gs S cs s lc2 ld w2 :=
  ⟨hc, h.d.on (grown_on hg h.pd_.2 (Ne.symm h.ne)) (fun hp => by have hq := h.far (by have := h.ld_; omega); exact grown_on hg hq.2.2.1 hq.1.2.1), h.r.on (fun hp => by have hq := h.far hp; exact grown_on hg hq.2.2.2 hq.1.2.2.1), below_grown h.b hg h.pc_.1, h.ne,
    ⟨h.pc_.1, Nat.lt_of_lt_of_le h.pc_.2 hg.size⟩, ⟨h.pd_.1, Nat.lt_of_lt_of_le h.pd_.2 hg.size⟩, fun hp => ⟨(h.far hp).1, Nat.lt_of_lt_of_le (h.far hp).2.1 hg.size, Nat.lt_of_lt_of_le (h.far hp).2.2.1 hg.size, Nat.lt_of_lt_of_le (h.far hp).2.2.2 hg.size⟩, hl, h.ld_⟩
theorem TW.god {w2 : World} {ld2 : List Int} (h : TW w pc gc pd gd gs S cs s lc ld wr) (hg : wr.grownBy w2 (some pd)) (hc : Cur w2 pd gd ld2) (hl : ld2.length ≤ s.length) : TW w pc gc pd gd gs S cs s lc ld2 w2 :=
  ⟨h.c.on (grown_on hg h.pc_.2 h.ne) (fun hp => by have hq := h.far (by have := h.lc_; omega); exact grown_on hg hq.2.1 hq.1.1), hc, h.r.on (fun hp => by have hq := h.far hp; exact grown_on hg hq.2.2.2 hq.1.2.2.2), below_grown h.b hg h.pd_.1, h.ne,
    ⟨h.pc_.1, Nat.lt_of_lt_of_le h.pc_.2 hg.size⟩, ⟨h.pd_.1, Nat.lt_of_lt_of_le h.pd_.2 hg.size⟩, fun hp => ⟨(h.far hp).1, Nat.lt_of_lt_of_le (h.far hp).2.1 hg.size, Nat.lt_of_lt_of_le (h.far hp).2.2.1 hg.size, Nat.lt_of_lt_of_le (h.far hp).2.2.2 hg.size⟩, h.lc_, hl⟩
/-- What leaves all that lay there as it was. -/
theorem TW.on {w2 : World} (h : TW w pc gc pd gd gs S cs s lc ld wr) (hb : Below wr.heap.size wr w2) : TW w pc gc pd gd gs S cs s lc ld w2 :=
  ⟨h.c.on (hb.block _ h.pc_.2) (fun hp => hb.block _ (h.far (by have := h.lc_; omega)).2.1), h.d.on (hb.block _ h.pd_.2) (fun hp => hb.block _ (h.far (by have := h.ld_; omega)).2.2.1), h.r.on (fun hp => hb.block _ (h.far hp).2.2.2), h.b.trans (hb.mono h.b.size), h.ne,
    ⟨h.pc_.1, Nat.lt_of_lt_of_le h.pc_.2 hb.size⟩, ⟨h.pd_.1, Nat.lt_of_lt_of_le h.pd_.2 hb.size⟩, fun hp => ⟨(h.far hp).1, Nat.lt_of_lt_of_le (h.far hp).2.1 hb.size, Nat.lt_of_lt_of_le (h.far hp).2.2.1 hb.size, Nat.lt_of_lt_of_le (h.far hp).2.2.2 hb.size⟩, h.lc_, h.ld_⟩
end
theorem tw_start {w w1 w2 w3 : World} {s : List Int} {pc gc pd gd gs cs : Nat} {S : Option Addr} (hc : Cur w1 pc gc s) (h1 : w.heap.size ≤ pc ∧ pc < w1.heap.size) (h2 : 0 < s.length → w.heap.size ≤ gc ∧ gc < pc) (hb1 : Below w.heap.size w w1)
    (hd : Cur w2 pd gd s) (h3 : w1.heap.size ≤ pd ∧ pd < w2.heap.size) (h4 : 0 < s.length → w1.heap.size ≤ gd ∧ gd < pd) (hb2 : Below w1.heap.size w1 w2)
    (hr : Row w3 gs S cs s) (h5 : 0 < s.length → w2.heap.size ≤ gs ∧ gs < w3.heap.size) (hb3 : Below w2.heap.size w2 w3) : TW w pc gc pd gd gs S cs s s s w3 := by
  have s1 := hb1.size
  have s2 := hb2.size
  have s3 := hb3.size
  refine ⟨(hc.on (hb2.block _ h1.2) (fun hp => hb2.block _ (by have := h2 hp; omega))).on (hb3.block _ (by omega)) (fun hp => hb3.block _ (by have := h2 hp; omega)), hd.on (hb3.block _ (by omega)) (fun hp => hb3.block _ (by have := h4 hp; omega)), hr, (hb1.trans (hb2.mono s1)).trans (hb3.mono (by omega)), by omega, by omega, by omega, fun hp => ?_, Nat.le_refl _, Nat.le_refl _⟩
  have a1 := h2 hp
  have a2 := h4 hp
  have a3 := h5 hp
  omega
theorem TW.newc {w wr w2 : World} {pc gc pd gd gs cs pe ge : Nat} {S : Option Addr} {s lc ld : List Int} (h : TW w pc gc pd gd gs S cs s lc ld wr) (hb : Below wr.heap.size wr w2) (hc : Cur w2 pe ge s) (h1 : wr.heap.size ≤ pe ∧ pe < w2.heap.size) (h2 : 0 < s.length → wr.heap.size ≤ ge ∧ ge < pe) : TW w pe ge pd gd gs S cs s s ld w2 := by
  have H := h.on hb
  have s1 := hb.size
  have s2 := h.b.size
  have a1 := h.pd_
  refine ⟨hc, H.d, H.r, H.b, by omega, by omega, H.pd_, fun hp => ?_, Nat.le_refl _, H.ld_⟩
  have a2 := h.far hp
  have a3 := h2 hp
  omega
end Go.Proofs.Ytnflokhffmfifaa.OfW

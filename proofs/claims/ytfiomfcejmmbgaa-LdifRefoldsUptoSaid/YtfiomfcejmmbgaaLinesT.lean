/- What stands behind the first k physical lines: texts, lines; each step. -/
import Derived.Test.YtfiomfcejmmbgaaLinesM
set_option linter.unusedVariables false
set_option linter.unusedSimpArgs false
namespace Go.Proofs.Ytfiomfcejmmbgaa.LinesW
open Go Go.RowKit Go.Proofs.Ytfiomfcejmmbgaa.Blk Go.Proofs.Ytfiomfcejmmbgaa.ByteM Go.Proofs.Ytfiomfcejmmbgaa.XL Go.Proofs.Ytfiomfcejmmbgaa.XV Go.Proofs.Ytfiomfcejmmbgaa.LinesP Go.Proofs.YtfiomfcejmmbgaaW.PrintWords Go.Proofs.YtfiomfcejmmbgaaW.PrintLast Go.Proofs.YtfiomfcejmmbgaaW.PrintMore
theorem cell_str {w : World} {B g n c : Nat} {ok : Nat → Prop} {p : List ByteArray} (h : Kd.R Kd.string 9 w B ok (.slice (some ⟨g, 0, none⟩) n c) p) (k : Nat) (hk : k < p.length) : w.cell? ⟨g, k, none⟩ = some (.string (p.getD k ByteArray.empty)) := by
  obtain ⟨hn, _, _⟩ := Kd.R_reads' h
  subst hn
  have := (Kd.R_cell (enc := Value.string) ByteArray.empty h (k : Int) (by omega) (by omega)).1
  rwa [Int.toNat_natCast] at this
theorem cell_hd {w : World} {B g n c : Nat} {ok : Nat → Prop} {hs : List Hd} (h : kH.R 40 w B ok (.slice (some ⟨g, 0, none⟩) n c) hs) (k : Nat) (hk : k < hs.length) : w.cell? ⟨g, k, none⟩ = some (hs.getD k default).v ∧ w.frozen? ⟨g, k, none⟩ = false := by
  obtain ⟨hn, _, _⟩ := Kd.R_reads' h
  subst hn
  have := Kd.R_cell (enc := Hd.v) default h (k : Int) (by omega) (by omega)
  rwa [Int.toNat_natCast] at this
theorem R_overM {α : Type} {d : Kd α} {e : Nat} {w w1 : World} {B B' n : Nat} {ok : Nat → Prop} {v u : Value} {xs : List α} {ys : List Value} (h : d.R e w B ok v xs) (hv : OwnsM w B' 5 u n ys) (ht : ∀ q, q ∈ e :: d.E → q ≠ 5) (hg : w.grownBy w1 u.ownBlock) : d.R e w1 B ok v xs := by
  refine Kd.R_mono (Kd.R_move (Kd.R_bound h) (fun k hk => hg.block k hk.2.2.1 (fun he => ?_))) (fun _ hk => hk.1)
  obtain ⟨_, _, _, q, hq, cells, hc⟩ := hk
  obtain ⟨cells', fz, hc'⟩ := OwnsM_typed hv k he.symm
  rw [hc] at hc'
  injection hc' with hc'
  injection hc' with _ hc'
  exact ht q hq hc'
def lns0 (p : List ByteArray) (k : Nat) : List (Int × ByteArray) := (gl p k).map fun g => (g.1, ⟨#[]⟩)
structure TR (w : World) (p : List ByteArray) (k : Nat) (ls : List (Int × ByteArray)) (av tv lv : Value) (hs : List Hd) (wr : World) : Prop where
  all : Kd.R Kd.string 9 wr w.heap.size (fun _ => True) av p
  tx : kH.R 40 wr w.heap.size (fun _ => True) tv hs
  ln : kL.R 28 wr w.heap.size (fun _ => True) lv ls
  inn : Inner wr w.heap.size hs ((gl p k).map (·.2))
  below : Below w.heap.size w wr
variable {w wr : World} {p : List ByteArray} {k : Nat} {ls : List (Int × ByteArray)} {av tv lv : Value} {hs : List Hd}
theorem TR.on {w1 : World} (h : TR w p k ls av tv lv hs wr) (hb : Below wr.heap.size wr w1) : TR w p k ls av tv lv hs w1 :=
  ⟨Kd.R_below h.all hb, Kd.R_below h.tx hb, Kd.R_below h.ln hb, h.inn.below hb, h.below.trans (hb.mono h.below.size)⟩
theorem TR.len (h : TR w p k ls av tv lv hs wr) : hs.length = (gl p k).length := by have := h.inn.len; simpa using this
/-- A line has come to the lines. -/
theorem TR.a {w1 : World} {lv1 : Value} {x : Int × ByteArray} (h : TR w p k ls av tv lv hs wr) (hl : kL.R 28 w1 w.heap.size (fun _ => True) lv1 (ls ++ [x])) (hb : Below w.heap.size w w1) (hg : wr.grownBy w1 lv.ownBlock) : TR w p k (ls ++ [x]) av tv lv1 hs w1 := by
  obtain ⟨inner, ho⟩ := Kd.R_own h.ln
  refine ⟨Kd.R_over h.all h.ln (by decide) hg, Kd.R_over h.tx h.ln (by decide) hg, hl, h.inn.over ho (by decide) hg, hb⟩
/-- Its text, a row of its own, has come to the texts. -/
theorem TR.b {w3 : World} {tv3 : Value} (h : TR w p k ls av tv lv hs wr) (s : ByteArray) (hs_ : s = p.getD k ByteArray.empty) (hgo : goes s = false) (hz : s.size ≤ 140737488355328)
    (ht : kH.R 40 w3 w.heap.size (fun _ => True) tv3 (hs ++ [⟨wr.heap.size, s.size, grownCap wr s.size 0 5⟩])) (hb : Below w.heap.size w w3) (hg : (Lib.bytesWorld wr 5 s).grownBy w3 tv.ownBlock) : TR w p (k + 1) ls av tv3 lv (hs ++ [⟨wr.heap.size, s.size, grownCap wr s.size 0 5⟩]) w3 := by
  have h2 := h.on (below_conv wr 5 s (Nat.le_refl _))
  obtain ⟨inner, ho⟩ := Kd.R_own h2.tx
  have hnew := ownsM_conv wr 5 s hz w.heap.size h.below.size
  have hlt : ∀ q, tv.ownBlock = some q → q < wr.heap.size := Kd.R_lt h.tx
  refine ⟨Kd.R_over h2.all h2.tx (by decide) hg, ht, Kd.R_over h2.ln h2.tx (by decide) hg, ?_, hb⟩
  rw [gl_new p k (by rw [← hs_]; exact hgo), List.map_append, ← hs_]
  refine Inner.snoc (h2.inn.over ho (by decide) hg) ?_ (fun y hy => ?_)
  · have e : (s.data.toList).length = s.size := Array.length_toList
    show OwnsM w3 w.heap.size 5 _ (s.data.toList).length (Lib.byteCells s.data.toList)
    rw [e]
    refine OwnsM_on hnew (fun q hq => hg.block q ?_ (fun he => ?_))
    · exact (hnew.lt q hq).2
    · have := hlt q he.symm
      simp [Value.ownBlock, Hd.v] at hq
      omega
  · obtain ⟨i, hi⟩ := List.mem_iff_getElem?.1 hy
    have hil := (List.getElem?_eq_some_iff.1 hi).1
    have hgl := h.inn.len
    obtain ⟨cells, fz, hc⟩ := OwnsM_typed (h.inn.row i y (((gl p k).map (·.2))[i]'(by omega)) hi (List.getElem?_eq_getElem _)) y.g rfl
    have := (Array.getElem?_eq_some_iff.1 hc).1
    show y.g ≠ wr.heap.size
    omega
/-- A continuation: the last text has been written, its header stored. -/
theorem TR.c {w1 : World} {T q c : Nat} {x x' : Hd} {gs : List (Int × List UInt8)} {n : Int} {b : List UInt8} {hs' : List Hd} (h : TR w p k ls av (.slice (some ⟨T, 0, none⟩) q c) lv (hs' ++ [x]) wr) (s : ByteArray) (hs_ : s = p.getD k ByteArray.empty) (hgo : goes s = true) (e : gl p k = gs ++ [(n, b)])
    (hx : OwnsM w1 w.heap.size 5 x'.v (b ++ s.data.toList.drop 1).length (Lib.byteCells (b ++ s.data.toList.drop 1))) (hg : wr.grownBy w1 (some x.g)) (hat : x'.g = x.g ∨ wr.heap.size ≤ x'.g) :
    TR w p (k + 1) ls av (.slice (some ⟨T, 0, none⟩) q c) lv (hs' ++ [x']) (w1.setCell ⟨T, hs'.length, none⟩ x'.v) := by
  have hinn := h.inn
  rw [e, List.map_append] at hinn
  obtain ⟨f1, f2, f3⟩ := hinn.front
  have hgx : wr.grownBy w1 x.v.ownBlock := hg
  have a1 := R_overM h.all f2 (by decide) hgx
  have t1 := R_overM h.tx f2 (by decide) hgx
  have l1 := R_overM h.ln f2 (by decide) hgx
  obtain ⟨cells, hT⟩ := Kd.R_typed t1 T (by simp [Value.ownBlock])
  refine ⟨Kd.R_set a1 hT (by decide) _ _, ?_, Kd.R_set l1 hT (by decide) _ _, ?_, ?_⟩
  · have := Kd.R_putn (enc := Hd.v) (h1 := fun _ => rfl) t1 (hs'.length : Int) x'
    rw [Int.toNat_natCast] at this
    have e2 : (hs' ++ [x]).set hs'.length x' = hs' ++ [x'] := by
      rw [List.set_append_right _ _ (Nat.le_refl _)]
      simp
    rw [e2] at this
    exact this
  · rw [gl_on p k (by rw [← hs_]; exact hgo) gs n b e, List.map_append, ← hs_]
    refine (hinn.last hg hx hat).on (fun q' cells' fz hc => Below.heap_setCell _ _ _ _ ?_)
    intro he
    rw [he, hT] at hc
    injection hc with hc
    injection hc with _ hc
    cases hc
  · have hb1 : Below w.heap.size w w1 := h.below.grown hgx h.below.size (fun q hq => (f2.lt q hq).1)
    refine hb1.setCell ?_ _
    exact Kd.R_base t1 T (by simp [Value.ownBlock])
end Go.Proofs.Ytfiomfcejmmbgaa.LinesW

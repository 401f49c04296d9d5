/- A table of rows of whole numbers (an array of arrays), as a row of the list 'laid' gives it: its cells, flat. No program of its own. -/
import Derived.Lib.LaidTab
import Derived.Test.YtppnhlkfkedlmaaDoorWWords
set_option linter.unusedVariables false
set_option linter.unusedSimpArgs false
namespace Go.Proofs.YtppnhlkfkedlmaaDoor.XN
open Go.Lib
theorem cells_of_tab2 {H : Type} {enc : TypeId × Value → H} {P : Program} {w : World} {base : Nat} {sp : Nat → Bool} {held : Bool} {fuel : Nat} {t e i : TypeId} {n m : Nat} {k : IntKind} {cs : List Value} {zss : List (List Int)} {p : List MemPlace}
    (ht : P.underlying t = some (.array n e)) (he : P.underlying e = some (.array m i)) (hi : P.underlying i = some (.int k)) (hci : P.cellsOf i = 1) (hce : P.cellsOf e = m) (hct : P.cellsOf t = n * m) (hm : 0 < m) (hz : ∀ zs ∈ zss, zs.length = m)
    (h : DataW.trod enc P w base sp held fuel t cs = some (.agg (zss.map fun zs => tabData k zs), p)) : ∀ r j, r < n → j < m → cs[r * m + j]? = some (Value.int k ((zss.getD r []).getD j 0)) := by
  intro r j hr hj
  cases fuel with
  | zero => simp [DataW.trod] at h
  | succ fuel =>
    simp only [DataW.trod, ht, hce, hct] at h
    split at h
    · rename_i hl
      obtain ⟨xs, hmx, hx⟩ := Option.map_eq_some_iff.1 h
      have hxs : xs.map (·.1) = zss.map fun zs => (tabData k zs : DataW H) := by
        have := congrArg Prod.fst hx
        simpa using this
      have hxl : xs.length = n := by simpa using mapM_length hmx
      have hzl : zss.length = n := by
        have := congrArg List.length hxs
        simp at this
        omega
      obtain ⟨b, hb, hf⟩ := mapM_at hmx r r (by simp [hr])
      have h2 : (xs.map (·.1))[r]? = some b.1 := by simp [hb]
      rw [hxs, List.getElem?_map, List.getElem?_eq_getElem (by omega)] at h2
      have hb1 : b.1 = tabData k (zss[r]'(by omega)) := (Option.some.inj h2).symm
      obtain ⟨b1, b2⟩ := b
      simp only at hb1
      subst hb1
      have hc := cells_of_tab he hi hci hce hf
      have hzr : (zss[r]'(by omega)).length = m := hz _ (List.getElem_mem _)
      have h3 := congrArg (·[j]?) hc
      simp only [List.getElem?_take, List.getElem?_drop, hj, if_true, List.getElem?_map] at h3
      rw [h3, List.getElem?_eq_getElem (by omega)]
      simp [List.getD_eq_getElem?_getD, List.getElem?_eq_getElem (show r < zss.length by omega), List.getElem?_eq_getElem (show j < (zss[r]'(by omega)).length by omega)]
    · cases h
/-- From the row's condition: the table stands first on the list. -/
theorem cells_of_head {P : Program} {W : World} {name : String} {k : IntKind} {zss : List (List Int)} {rest : List (String × DataW Unit)} {g : Nat} {t e i : TypeId} {n m : Nat}
    (hg : P.globalNamed name = some g) (hty : (P.globals[g]?).map (·.type) = some t) (ht : P.underlying t = some (.array n e)) (he : P.underlying e = some (.array m i)) (hi : P.underlying i = some (.int k)) (hci : P.cellsOf i = 1) (hce : P.cellsOf e = m) (hct : P.cellsOf t = n * m) (hm : 0 < m) (hz : ∀ zs ∈ zss, zs.length = m)
    (h : laidMet P ((name, .agg (zss.map fun zs => tabData k zs)) :: rest) W) : ∀ r j, r < n → j < m → W.cell? ⟨g, r * m + j, none⟩ = some (Value.int k ((zss.getD r []).getD j 0)) := by
  obtain ⟨ps, ⟨g', t', cs, fuel, p, q, hg', ht', hvar, hd, _, _⟩, _⟩ := h
  obtain rfl := Option.some.inj (hg.symm.trans hg')
  obtain rfl := Option.some.inj (hty.symm.trans ht')
  intro r j hr hj
  have h2 := cells_of_tab2 ht he hi hci hce hct hm hz hd r j hr hj
  have h3 := World.var?_cell hg hvar (r * m + j)
  rw [h3]
  simpa using h2
end Go.Proofs.YtppnhlkfkedlmaaDoor.XN

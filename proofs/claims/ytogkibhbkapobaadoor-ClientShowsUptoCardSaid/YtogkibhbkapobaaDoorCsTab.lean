/- The tables that the law's row lays (words of the replies, letters, powers of ten), and strconv.Itoa at this program. For every world. -/
import Derived.Test.YtogkibhbkapobaaDoorXG
import Derived.Test.YtogkibhbkapobaaDoorXA0
import Derived.Shelf.LaysM
import Derived.Shelf.Strconv.Itoa4
import Derived.Lib.LaidTab
import Derived.Lib.AppendIntMem
import Derived.Lib.Hide
set_option linter.unusedVariables false
set_option linter.unusedSimpArgs false
namespace Go.Proofs.YtogkibhbkapobaaDoor.CsTab
open Go.RowKit Go.Shelf Go.Proofs Go.Proofs.YtogkibhbkapobaaDoorW.PrintWords Go.Proofs.YtogkibhbkapobaaDoorW.PrintLast
def wordsL : List ByteArray := [(⟨#[98, 105, 110, 100]⟩ : ByteArray), (⟨#[101, 110, 116, 114, 121]⟩ : ByteArray), (⟨#[100, 111, 110, 101]⟩ : ByteArray), (⟨#[109, 111, 100, 105, 102, 121]⟩ : ByteArray), (⟨#[97, 100, 100]⟩ : ByteArray), (⟨#[100, 101, 108, 101, 116, 101]⟩ : ByteArray), (⟨#[114, 101, 110, 97, 109, 101]⟩ : ByteArray), (⟨#[99, 111, 109, 112, 97, 114, 101]⟩ : ByteArray), (⟨#[101, 120, 116, 101, 110, 100, 101, 100]⟩ : ByteArray)]
structure Tabs (w : World) : Prop where
  t1 : XG.Tabs w
  t0 : Kd.string.C w (some ⟨0, 0, none⟩) 9 wordsL
  t2 : Lib.TabIs Tryd.prog w "internal/strconv.uint64pow10" .u64 Lib.pow10Tab
theorem tabis_at {P : Program} {w w' : World} {name : String} {k : IntKind} {zs : List Int} (h : Lib.TabIs P w name k zs) (hb : Below w.heap.size w w') : Lib.TabIs P w' name k zs := by
  unfold Lib.TabIs World.var? at h ⊢
  cases hg : P.globalNamed name with
  | none => rw [hg] at h; cases h
  | some g =>
    rw [hg] at h
    simp only [Option.bind_some] at h ⊢
    by_cases hl : g < w.heap.size
    · rw [hb.block g hl]
      exact h
    · rw [Array.getElem?_eq_none (by omega)] at h
      cases h
theorem Tabs_at {w w' : World} (h : Tabs w) (hb : Below w.heap.size w w') : Tabs w' := ⟨XG.Tabs_at h.t1 hb, Kd.C_below h.t0 hb, tabis_at h.t2 hb⟩
/-- A table of texts, as a row of the list 'laid' gives it. -/
theorem cells_of_texts {H : Type} {enc : TypeId × Value → H} {P : Program} {w : World} {base : Nat} {sp : Nat → Bool} {held : Bool} {fuel : Nat} {t e : TypeId} {n : Nat} {cs : List Value} {zs : List (List UInt8)} {p : List MemPlace}
    (ht : P.underlying t = some (.array n e)) (he : P.underlying e = some .string) (hce : P.cellsOf e = 1) (hct : P.cellsOf t = n)
    (h : DataW.trod enc P w base sp held fuel t cs = some (.agg (zs.map fun z => .lit (.string z)), p)) : cs = zs.map fun z => Value.string ⟨z.toArray⟩ := by
  cases fuel with
  | zero => simp [DataW.trod] at h
  | succ fuel =>
    simp only [DataW.trod, ht, hce, hct, Nat.mul_one] at h
    split at h
    · rename_i hl
      obtain ⟨xs, hm, hx⟩ := Option.map_eq_some_iff.1 h
      have hxs : xs.map (·.1) = zs.map fun z => (DataW.lit (.string z) : DataW H) := by
        have := congrArg Prod.fst hx
        simpa using this
      have hxl : xs.length = n := by simpa using Lib.mapM_length hm
      have hzl : zs.length = n := by
        have := congrArg List.length hxs
        simp at this
        omega
      apply List.ext_getElem?
      intro i
      by_cases hi : i < n
      · obtain ⟨b, hb, hf⟩ := Lib.mapM_at hm i i (by simp [hi])
        obtain ⟨s, hc, hd, _⟩ := DataW.trod_string he hf
        have h1 : cs[i]? = some (.string s) := by
          have := congrArg (·[0]?) hc
          simpa [List.getElem?_take, List.getElem?_drop] using this
        have h2 : (xs.map (·.1))[i]? = some b.1 := by simp [hb]
        rw [hxs, List.getElem?_map, List.getElem?_eq_getElem (by omega)] at h2
        have h3 := (Option.some.inj h2).trans (congrArg Prod.fst hd)
        simp only [DataW.lit.injEq, Lit.string.injEq] at h3
        rw [h1, List.getElem?_map, List.getElem?_eq_getElem (by omega)]
        simp only [Option.map_some, Option.some.injEq, Value.string.injEq]
        rw [h3]
      · rw [List.getElem?_eq_none (by omega), List.getElem?_eq_none (by simp; omega)]
    · cases h
theorem texts_of_head {P : Program} {W : World} {name : String} {zs : List (List UInt8)} {rest : List (String × DataW Unit)} {g : Nat} {t e : TypeId} {n : Nat}
    (hg : P.globalNamed name = some g) (hty : (P.globals[g]?).map (·.type) = some t) (ht : P.underlying t = some (.array n e)) (he : P.underlying e = some .string) (hce : P.cellsOf e = 1) (hct : P.cellsOf t = n)
    (h : laidMet P ((name, .agg (zs.map fun z => .lit (.string z))) :: rest) W) : W.var? P name = some (zs.map fun z => Value.string ⟨z.toArray⟩).toArray := by
  obtain ⟨ps, ⟨g', t', cs, fuel, p, q, hg', ht', hvar, hd, _, _⟩, _⟩ := h
  obtain rfl := Option.some.inj (hg.symm.trans hg')
  obtain rfl := Option.some.inj (hty.symm.trans ht')
  rw [hvar, ← cells_of_texts ht he hce hct hd]
def L171_ren : Go.Shelf.Ren := ⟨fun | 171 => 11 | 243 => 18 | 246 => 24 | 283 => 26 | 284 => 27 | 285 => 28 | 286 => 29 | 129 => 31 | 317 => 30 | 318 => 32 | 319 => 33 | 320 => 34 | 337 => 35 | 338 => 36 | n => n, fun | 3 => 3 | 9 => 9 | 2 => 2 | 4 => 4 | 171 => 61 | 0 => 0 | 53 => 62 | 37 => 42 | 5 => 5 | 173 => 65 | 212 => 69 | 51 => 70 | 20 => 20 | 213 => 71 | 46 => 60 | 232 => 75 | 233 => 59 | n => n, fun | 17 => 2 | 18 => 3 | 19 => 4 | n => n⟩
theorem L171 : Go.Proofs.LaysM.n171 Tryd.prog L171_ren := {
  mixed := by kernel_rfl
  f129 := Tryd.func31.trans (congrArg some (by kernel_rfl))
  f171 := Tryd.func11.trans (congrArg some (by kernel_rfl))
  f243 := Tryd.func18.trans (congrArg some (by kernel_rfl))
  f246 := Tryd.func24.trans (congrArg some (by kernel_rfl))
  f283 := Tryd.func26.trans (congrArg some (by kernel_rfl))
  f284 := Tryd.func27.trans (congrArg some (by kernel_rfl))
  f285 := Tryd.func28.trans (congrArg some (by kernel_rfl))
  f286 := Tryd.func29.trans (congrArg some (by kernel_rfl))
  f317 := Tryd.func30.trans (congrArg some (by kernel_rfl))
  f318 := Tryd.func32.trans (congrArg some (by kernel_rfl))
  f319 := Tryd.func33.trans (congrArg some (by kernel_rfl))
  f320 := Tryd.func34.trans (congrArg some (by kernel_rfl))
  f337 := Tryd.func35.trans (congrArg some (by kernel_rfl))
  f338 := Tryd.func36.trans (congrArg some (by kernel_rfl))
  t0 := Tryd.underlying0
  a0 := Tryd.isAgg0
  z0 := Tryd.sizeOf0
  v0 := Tryd.zeroValue0
  t2 := Tryd.underlying2
  a2 := Tryd.isAgg2
  z2 := Tryd.sizeOf2
  v2 := Tryd.zeroValue2
  t3 := Tryd.underlying3
  a3 := Tryd.isAgg3
  z3 := Tryd.sizeOf3
  v3 := Tryd.zeroValue3
  t4 := Tryd.underlying4
  a4 := Tryd.isAgg4
  z4 := Tryd.sizeOf4
  v4 := Tryd.zeroValue4
  t5 := Tryd.underlying5
  a5 := Tryd.isAgg5
  z5 := Tryd.sizeOf5
  v5 := Tryd.zeroValue5
  t9 := Tryd.underlying9
  a9 := Tryd.isAgg9
  z9 := Tryd.sizeOf9
  v9 := Tryd.zeroValue9
  t20 := Tryd.underlying20
  a20 := Tryd.isAgg20
  z20 := Tryd.sizeOf20
  v20 := Tryd.zeroValue20
  t37 := Tryd.underlying42
  a37 := Tryd.isAgg42
  z37 := Tryd.sizeOf42
  v37 := Tryd.zeroValue42
  t46 := Tryd.underlying60
  a46 := Tryd.isAgg60
  z46 := Tryd.sizeOf60
  v46 := Tryd.zeroValue60
  t51 := Tryd.underlying70
  a51 := Tryd.isAgg70
  z51 := Tryd.sizeOf70
  v51 := Tryd.zeroValue70
  t53 := Tryd.underlying62
  a53 := Tryd.isAgg62
  z53 := Tryd.sizeOf62
  v53 := Tryd.zeroValue62
  t171 := Tryd.underlying61
  a171 := Tryd.isAgg61
  z171 := Tryd.sizeOf61
  v171 := Tryd.zeroValue61
  t173 := Tryd.underlying65
  a173 := Tryd.isAgg65
  z173 := Tryd.sizeOf65
  v173 := Tryd.zeroValue65
  t212 := Tryd.underlying69
  a212 := Tryd.isAgg69
  z212 := Tryd.sizeOf69
  v212 := Tryd.zeroValue69
  t213 := Tryd.underlying71
  a213 := Tryd.isAgg71
  z213 := Tryd.sizeOf71
  t232 := Tryd.underlying75
  a232 := Tryd.isAgg75
  z232 := Tryd.sizeOf75
  v232 := Tryd.zeroValue75
  t233 := Tryd.underlying59
  a233 := Tryd.isAgg59
  z233 := Tryd.sizeOf59
  v233 := Tryd.zeroValue59
  g17 := by kernel_rfl
  g18 := by kernel_rfl
  g19 := by kernel_rfl
  i0 := by kernel_rfl
  i2 := by kernel_rfl
  i3 := by kernel_rfl
  i4 := by kernel_rfl
  i5 := by kernel_rfl
  i9 := by kernel_rfl
  i20 := by kernel_rfl
  i37 := by kernel_rfl
  i46 := by kernel_rfl
  i51 := by kernel_rfl
  i53 := by kernel_rfl
  i171 := by kernel_rfl
  i173 := by kernel_rfl
  i212 := by kernel_rfl
  i232 := by kernel_rfl
  i233 := by kernel_rfl
  m17 := by kernel_rfl
  m18 := by kernel_rfl
  m19 := by kernel_rfl }
theorem itoa_as (n : Int) (h0 : -9223372036854775808 ≤ n) (h1 : n ≤ 9223372036854775807) (w : World) (h : Tabs w) :
    Calls Tryd.prog 11 #[.int .i64 n] w fun e w' => e = .returned (.string ⟨(Lib.itoa n).toArray⟩) ∧ Below w.heap.size w w' := by
  refine (Any.strconv_Itoa L171 n h0 h1 w h.t2).mono ?_
  rintro e w' ⟨rfl, k, os, rfl⟩
  exact ⟨rfl, Lib.below_grow _ w (Nat.le_refl _) k os⟩
end Go.Proofs.YtogkibhbkapobaaDoor.CsTab

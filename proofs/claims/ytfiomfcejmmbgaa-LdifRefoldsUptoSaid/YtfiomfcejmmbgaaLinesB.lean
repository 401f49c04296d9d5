/- What Lines calls: a byte in a text, a blank at its front; the document's physical lines. For every text of at most 1048576 bytes and every world. -/
import Derived.Test.YtfiomfcejmmbgaaLinesA
import Derived.Shelf.Strings.Search3
set_option linter.unusedVariables false
set_option linter.unusedSimpArgs false
namespace Go.Proofs.Ytfiomfcejmmbgaa.LinesW
open Go.RowKit Go.Shelf Go.Proofs Go.Proofs.Ytfiomfcejmmbgaa.Blk Go.Proofs.Ytfiomfcejmmbgaa.ByteM Go.Proofs.Ytfiomfcejmmbgaa.XL Go.Proofs.Ytfiomfcejmmbgaa.XV Go.Proofs.Ytfiomfcejmmbgaa.LinesP Go.Proofs.YtfiomfcejmmbgaaW.PrintWords Go.Proofs.YtfiomfcejmmbgaaW.PrintLast Go.Proofs.YtfiomfcejmmbgaaW.PrintMore
def L144_ren : Go.Shelf.Ren := ⟨fun | 144 => 18 | 143 => 26 | 219 => 30 | 217 => 34 | 225 => 35 | 224 => 36 | 267 => 37 | 266 => 49 | 314 => 50 | n => n, fun | 9 => 9 | 4 => 4 | 3 => 3 | 5 => 5 | 46 => 53 | 146 => 68 | 51 => 65 | n => n, fun | 1 => 0 | n => n⟩
theorem L144 : Go.Proofs.Lays.n144 Try.prog L144_ren := {
  mixed := by kernel_rfl
  f143 := Try.func26.trans (congrArg some (by kernel_rfl))
  f144 := Try.func18.trans (congrArg some (by kernel_rfl))
  f217 := Try.func34.trans (congrArg some (by kernel_rfl))
  f219 := Try.func30.trans (congrArg some (by kernel_rfl))
  f224 := Try.func36.trans (congrArg some (by kernel_rfl))
  f225 := Try.func35.trans (congrArg some (by kernel_rfl))
  f266 := Try.func49.trans (congrArg some (by kernel_rfl))
  f267 := Try.func37.trans (congrArg some (by kernel_rfl))
  f314 := Try.func50.trans (congrArg some (by kernel_rfl))
  t3 := Try.underlying3
  a3 := Try.isAgg3
  z3 := Try.sizeOf3
  v3 := Try.zeroValue3
  t4 := Try.underlying4
  a4 := Try.isAgg4
  z4 := Try.sizeOf4
  v4 := Try.zeroValue4
  t5 := Try.underlying5
  a5 := Try.isAgg5
  z5 := Try.sizeOf5
  v5 := Try.zeroValue5
  t9 := Try.underlying9
  a9 := Try.isAgg9
  z9 := Try.sizeOf9
  v9 := Try.zeroValue9
  t46 := Try.underlying53
  a46 := Try.isAgg53
  z46 := Try.sizeOf53
  v46 := Try.zeroValue53
  t51 := Try.underlying65
  a51 := Try.isAgg65
  z51 := Try.sizeOf65
  v51 := Try.zeroValue65
  t146 := Try.underlying68
  a146 := Try.isAgg68
  z146 := Try.sizeOf68
  v146 := Try.zeroValue68
  g1 := by kernel_rfl }
theorem idx13 : ∀ l : List UInt8, decide (0 ≤ Lib.indexByte l 13) = (l.map fun b => (b.toNat : Int)).contains 13
  | [] => rfl
  | b :: l => by
    have ih := idx13 l
    have hge := Lib.indexByte_ge l 13
    rw [List.map_cons, List.contains_cons, ← ih]
    show decide (0 ≤ (if b == 13 then (0 : Int) else if Lib.indexByte l 13 == -1 then -1 else Lib.indexByte l 13 + 1)) = _
    by_cases hb : b = 13
    · subst hb
      rfl
    · have e1 : (b == 13) = false := beq_eq_false_iff_ne.mpr hb
      have e2 : ((13 : Int) == (b.toNat : Int)) = false := beq_eq_false_iff_ne.mpr (fun h => hb (UInt8.toNat_inj.1 (by show b.toNat = 13; omega)))
      rw [e1, e2, Bool.false_or]
      by_cases hm : Lib.indexByte l 13 = -1
      · rw [hm]; rfl
      · have e3 : (Lib.indexByte l 13 == -1) = false := beq_eq_false_iff_ne.mpr hm
        rw [e3]
        show decide (0 ≤ Lib.indexByte l 13 + 1) = _
        rw [decide_eq_true (by omega), decide_eq_true (by omega)]
theorem hasR_as (x : ByteArray) (b : Bool) (w : World) (hb : hasR x = b) : Calls Try.prog 18 #[.string x, .string ⟨#[13]⟩] w fun e w' => e = .returned (.bool b) ∧ w = w' := by
  subst hb
  refine (Any.strings_Contains_one L144 x 13 w).mono fun e w' ⟨h1, h2⟩ => ⟨?_, h2.symm⟩
  rw [h1, idx13]
  rfl
theorem goes_as (x : ByteArray) (b : Bool) (w : World) (hx : x.size ≤ 1048576) (hb : goes x = b) : Calls Try.prog 17 #[.string x, .string ⟨#[32]⟩] w fun e w' => e = .returned (.bool b) ∧ Drawn0 w w' := by
  subst hb
  refine strings_HasPrefix.calls x ⟨#[32]⟩ _ w ?_
  have h1 : (⟨#[32]⟩ : ByteArray).size = 1 := rfl
  unfold strings_HasPrefix.f stringslite_HasPrefix.f goes
  by_cases h : 0 < x.size
  · have hl : 0 < x.data.toList.length := by rw [Array.length_toList]; exact h
    have e : (x.extract 0 1).toList = [x[0]'h] := by
      rw [toList_data, ByteArray.data_extract, Array.toList_extract, List.extract_eq_take_drop]
      rw [show x.data.toList.drop 0 = x.data.toList from rfl]
      cases hx : x.data.toList with
      | nil => rw [hx] at hl; simp at hl
      | cons a t =>
        have : x[0]'h = a := by
          show x.data[0] = a
          rw [← Array.getElem_toList]
          simp [hx]
        rw [this]
        rfl
    rw [h1, if_pos (by omega), if_pos (by omega), if_pos (by omega), show (((1 : Nat) : Int)).toNat = 1 from rfl, e]
    simp only [Option.bind_some, Option.some.injEq]
    have hd : (bytesOf x).head? = some ((x[0]'h).toNat : Int) := by
      have := drop_cons x 0 h
      rw [List.drop_zero] at this
      rw [this, bt_nat x 0 h]
      rfl
    rw [hd, toList_data, Bool.eq_iff_iff, beq_iff_eq, beq_iff_eq]
    show ([_] : List UInt8) = [32] ↔ _
    simp only [List.cons.injEq, and_true, Option.some.injEq]
    rw [← UInt8.toNat_inj]
    show _ = 32 ↔ _
    omega
  · rw [h1, if_neg (by omega)]
    have : bytesOf x = [] := List.length_eq_zero_iff.1 (by rw [bytesOf_length]; omega)
    rw [this]
    rfl
theorem rphys_loop (s : ByteArray) (hs : s.size ≤ 1048576) : ∀ m pos lo (acc : List ByteArray), pos + m = s.size → lo ≤ pos → acc.length ≤ pos → Ev (fun k => rosterref07_physical.l0 k s acc (lo : Int) (pos : Int)) (acc ++ ph s ((bytesOf s).drop pos) lo pos)
  | 0, pos, lo, acc, hi, hlo, ha => by
    refine ev_round ?_
    simp only [rosterref07_physical.l0]
    rw [ph_end s lo pos (by omega)]
    refine ev_neg (by omega) ?_
    by_cases h : lo < s.size
    · rw [if_pos h]
      refine ev_pos (by omega) (ev_pos (by omega) (ev_pos (by omega) (ev_pos (by omega) (ev_eq ?_))))
      simp
    · rw [if_neg h]
      exact ev_neg (by omega) (ev_eq (by simp))
  | m + 1, pos, lo, acc, hi, hlo, ha => by
    have ih := rphys_loop s hs m (pos + 1)
    refine ev_round ?_
    simp only [rosterref07_physical.l0]
    have hw : wrap64 ((pos : Int) + 1) = ((pos + 1 : Nat) : Int) := by rw [wrp_id _ (by omega) (by omega)]; rfl
    rw [hw]
    refine ev_pos (by omega) (ev_pos (by omega) ?_)
    by_cases hc : bt s (pos : Int) = 10
    · rw [ph_hit s lo pos (by omega) hc]
      refine ev_pos hc ?_
      by_cases hl : lo < pos
      · have hw2 : wrap64 ((pos : Int) - 1) = ((pos - 1 : Nat) : Int) := by rw [wrp_id _ (by omega) (by omega)]; omega
        rw [hw2]
        refine ev_pos (by omega) (ev_pos (by omega) (ev_pos (by omega) ?_))
        by_cases h13 : bt s ((pos - 1 : Nat) : Int) = 13
        · refine ev_pos h13 (ev_pos (by omega) (ev_pos (by omega) (ev_pos (by omega) (ev_pos (by omega) ?_))))
          have := ih (pos + 1) (acc ++ [s.extract lo (pos - 1)]) (by omega) (Nat.le_refl _) (by simp; omega)
          rw [show cutR s lo pos = s.extract lo (pos - 1) by unfold cutR; rw [if_pos ⟨hl, h13⟩]]
          simpa using this
        · refine ev_neg h13 (ev_pos (by omega) (ev_pos (by omega) (ev_pos (by omega) (ev_pos (by omega) ?_))))
          have := ih (pos + 1) (acc ++ [s.extract lo pos]) (by omega) (Nat.le_refl _) (by simp; omega)
          rw [show cutR s lo pos = s.extract lo pos by unfold cutR; rw [if_neg (fun h => h13 h.2)]]
          simpa using this
      · refine ev_neg (by omega) (ev_pos (by omega) (ev_pos (by omega) (ev_pos (by omega) (ev_pos (by omega) ?_))))
        have := ih (pos + 1) (acc ++ [s.extract lo pos]) (by omega) (Nat.le_refl _) (by simp; omega)
        rw [show cutR s lo pos = s.extract lo pos by unfold cutR; rw [if_neg (fun h => hl h.1)]]
        simpa using this
    · rw [ph_miss s lo pos (by omega) hc]
      refine ev_neg hc ?_
      exact ih lo acc (by omega) (by omega) (by omega)
theorem rphys_as (s : ByteArray) (w : World) (hs : s.size ≤ 1048576) : Calls Try.prog 19 #[.string s] w (PhysQ w s) := by
  have he : Ev (fun k => rosterref07_physical.f k s) (phys s) := by
    simp only [rosterref07_physical.f]
    have := rphys_loop s hs s.size 0 0 [] (by omega) (by omega) (by simp)
    simpa [phys] using this
  obtain ⟨k, hk⟩ := he.rounds
  exact rosterref07_physical.calls k s _ w hk
theorem rhas_loop (x : ByteArray) (hx : x.size ≤ 1048576) : ∀ m i, i + m = x.size → Ev (fun k => rosterref07_has.l0 k x 13 (i : Int)) (((bytesOf x).drop i).contains 13)
  | 0, i, hi => by
    refine ev_round ?_
    simp only [rosterref07_has.l0]
    rw [drop_end x i (by omega)]
    exact ev_neg (by omega) (ev_eq rfl)
  | m + 1, i, hi => by
    have ih := rhas_loop x hx m (i + 1) (by omega)
    refine ev_round ?_
    simp only [rosterref07_has.l0]
    rw [wrp_id _ (by omega) (by omega), drop_cons x i (by omega), List.contains_cons]
    refine ev_pos (by omega) (ev_pos (by omega) ?_)
    by_cases h : bt x (i : Int) = 13
    · refine ev_pos h (ev_eq ?_)
      rw [h]; rfl
    · refine ev_neg h ?_
      rw [beq_eq_false_iff_ne.mpr (fun e => h e.symm), Bool.false_or]
      exact ih
theorem rhas_as (x : ByteArray) (b : Bool) (w : World) (hx : x.size ≤ 1048576) (hb : hasR x = b) : Calls Try.prog 20 #[.string x, .int .u8 13] w fun e w' => e = .returned (.bool b) ∧ Drawn0 w w' := by
  subst hb
  have he : Ev (fun k => rosterref07_has.f k x 13) (hasR x) := by
    simp only [rosterref07_has.f]
    have := rhas_loop x hx x.size 0 (by omega)
    simpa [hasR] using this
  obtain ⟨k, hk⟩ := he.rounds
  exact rosterref07_has.calls k x 13 _ w hk
end Go.Proofs.Ytfiomfcejmmbgaa.LinesW

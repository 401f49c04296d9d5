/- TextHexRound (Upto): for every input of bulk at most 1048576 the law returns true, and each argument reads as it read before. Conditions: those of the given row. -/
import Derived.Test.YtjkhdiphcgpbfaaDoorRows
import Derived.Test.YtjkhdiphcgpbfaaDoorQTextHexRound
import Derived.Test.YtjkhdiphcgpbfaaDoorPureTextHexRound
import Derived.WalkKit
import Derived.ProofKit
import Derived.OpenShut
import Derived.ShutString
import Derived.ChangeOld
import Derived.Below
import Derived.SizedLaws
import Derived.JoinedCond
import Derived.Deep.CondSized
import Derived.Test.YtjkhdiphcgpbfaaDoorCards
import Derived.Test.YtjkhdiphcgpbfaaDoorTie
import Derived.Deep.DeepHandedRow
import Derived.Lib.LaidTab
import Derived.Stop.LaidErr
import Derived.Test.YtjkhdiphcgpbfaaDoorXG
namespace Go.Proofs.YtjkhdiphcgpbfaaDoor.rowTextHexRound
open Go.Proofs.YtjkhdiphcgpbfaaDoor.XG
open Go.ChangeShapes Go.WideShapes Go.ChangeAt Go.RowKit Go.Proofs.YtjkhdiphcgpbfaaDoor.XO Go.Proofs.YtjkhdiphcgpbfaaDoor.RoundW Go.Proofs.YtjkhdiphcgpbfaaDoorW.PrintWords
open Go.ChangeMaps (open_string shut_string)
set_option linter.unusedVariables false
set_option linter.unusedSimpArgs false
theorem own : ownKnob Tryd.prog.godebug = none := by kernel_rfl
theorem laidOut : laidOutB Tryd.prog = true := by kernel_rfl
theorem tab1 {W : World} (hL : laidMet Tryd.prog Rows.textHexRoundUptoRow.laid W) : Lib.TabIs Tryd.prog W "roster/text.hexDigits" .u8 hexL :=
  Lib.tabIs_of_head (rest := []) (g := 1) (t := 37) (e := 5) (n := 16) (by kernel_rfl) (by kernel_rfl) Tryd.underlying37 Tryd.underlying5 (by kernel_rfl) (by kernel_rfl) hL
theorem tabs_of_laid_textHexRound {W : World} (hL0 : laidMetH Tryd.prog Rows.textHexRoundUptoRow.laid W) : Tabs W := by
  have hL : laidMet Tryd.prog Rows.textHexRoundUptoRow.laid W := hL0
  exact ⟨Kd.C_of_reads (enc := Value.int .u8) (d := (0 : Int)) ⟨rfl, by decide, fun _ => ⟨_, rfl, fun j hj => by have := (tab1 hL).cell (g := 1) (by kernel_rfl) j hj; have e : (⟨1, 0, none⟩ : Addr).add j = ⟨1, j, none⟩ := (by unfold Addr.add; by_cases h : j = 0 <;> simp [h]); rw [e]; exact this⟩⟩⟩
set_option maxRecDepth 100000 in
theorem contract (H : Type) (enc : TypeId × Value → H) (W : World) (base : Nat) (args : Array Value) (ds gs : List (DataW H)) (before : List MemPlace)
    (hval0 : ∀ (j : Nat) t v, Tryd.f5.params[j]? = some t → args[j]? = some v → Value.okWide Tryd.prog W .any base t v)
    (hW : DataW.Whole enc Tryd.prog Tryd.f5.params.toList Rows.textHexRoundSpec.vars false W args.toList ds gs before) (hk0 : Rows.uptoSmall H (ds ++ gs) = true)
    (hsz0 : (DataW.weightsEach Tryd.prog (Tryd.f5.params.toList ++ (Rows.OpenSpec.upto Rows.textHexRoundSpec).bare.plain.varTypes Tryd.prog) (ds ++ gs)).all (· ≤ reachBytes) = true) (hL : laidMetH Tryd.prog Rows.textHexRoundUptoRow.laid W) :
    Calls Tryd.prog 5 args W fun e W' => ∃ v, e = .returned v ∧ Rows.textHexRoundSpec.post enc Tryd.prog Tryd.f5 false true false false W args v W' := by
  have hsz : (DataW.weightsEach Tryd.prog (Tryd.f5.params.toList ++ (Rows.OpenSpec.upto Rows.textHexRoundSpec).bare.plain.varTypes Tryd.prog) (ds ++ gs)).all (· ≤ reachBytes) = true := hsz0
  have hval : ∀ (j : Nat) t v, Tryd.f5.params[j]? = some t → args[j]? = some v → Value.okWide Tryd.prog W .any base t v := hval0
  have hW' := hW
  obtain ⟨p, q, hA0, hV, rfl, hfz, hnd⟩ := hW
  have hA : DataW.TrodAll enc Tryd.prog W 0 (fun _ => true) true Tryd.f5.params.toList args.toList ds p := hA0
  rw [Tryd.params5] at hA hval hsz
  obtain ⟨v0, vs0, d0, ds0, p0, q0, hargs, rfl, rfl, h0, r0⟩ := trodAll_cons hA
  obtain ⟨v1, vs1, d1, ds1, p1, q1, rfl, rfl, rfl, h1, r1⟩ := trodAll_cons r0
  obtain ⟨rfl, rfl, rfl⟩ := trodAll_nil r1
  obtain rfl : args = #[v0, v1] := by cases args; simp_all
  obtain ⟨rfl, rfl⟩ := trodVars_none hV
  have hk := of_decide_eq_true hk0
  clear hk0
  have hz0 : ∀ n ∈ d0.weights Tryd.prog 9, n ≤ reachBytes := fun n hn => by simpa using List.all_eq_true.1 hsz n (DataW.weights_mem_each (j := 0) (t := 9) rfl rfl n hn)
  obtain ⟨x0, rfl, rfl, rfl, y0⟩ := open_string Tryd.underlying9 (hval 0 9 v0 rfl rfl) h0
  have hF0 : x0.size ≤ 140737488351232 := by
    have z := hz0 x0.data.toList.length (by simp [DataW.weights])
    rw [data_length] at z
    exact z
  have hz1 : ∀ n ∈ d1.weights Tryd.prog 26, n ≤ reachBytes := fun n hn => by simpa using List.all_eq_true.1 hsz n (DataW.weights_mem_each (j := 1) (t := 26) rfl rfl n hn)
  obtain ⟨A1, n1, c1, rfl⟩ := okWide_slice Tryd.underlying26 (hval 1 26 v1 rfl rfl)
  have k1_ := h1
  have lt1 : ∀ x ∈ p1, x.block < W.heap.size := by obtain ⟨m, hm⟩ := k1_; exact DataW.trod_lt m _ _ _ hm
  obtain ⟨fuel1, hf1⟩ := h1
  obtain ⟨x1, hK1, hF1, hB1⟩ := (opn_slice (B := 1) Tryd.underlying26 (by kernel_rfl) (by kernel_rfl) false (opn_bool Tryd.underlying4)) H enc W _ _ _ _ _ _ hf1 hz1
  have hb1 : (x1.map fun x_ => 1).sum + 1 ≤ Rows.uptoBulk d1 := hB1
  obtain ⟨A1', c1', he1, hl1, hC1⟩ := hK1
  simp only [Value.cells, List.cons.injEq, Value.slice.injEq, and_true] at he1
  obtain ⟨rfl, rfl, rfl⟩ := he1
  have hK : (x0.size + 1) + ((x1.map fun x_ => 1).sum + 1) ≤ 1048576 := by
    simp only [List.append_nil, Rows.uptoBulkAll, Rows.uptoBulk, data_length] at hk
    omega
  clear hA0 hval0 hsz0 hsz
  have hG := tabs_of_laid_textHexRound hL
  have h := Pure.TextHexRound x0 x1 hF0 hF1 hK
  refine (rosterlaw01_TextHexRound.calls x0 _ _ x1 true W hG hC1 hl1 h).mono fun e W' ⟨he, bel⟩ => ?_
  subst he
  exact ⟨_, rfl, _, _, _, [], _, [], hW', trodAll_mk1 (shut_bool Tryd.underlying4 _), (trodAll_cons_mk (shut_string Tryd.underlying9 y0) (trodAll_cons_mk (Below.trod laidOut (by kernel_rfl) (of_decide_eq_true (by kernel_rfl)) k1_ bel lt1) trodAll_mk0)), rfl, bel.frame _, fun h => by cases h⟩
noncomputable def laidWorld (os : Os) : World := { World.holding Tryd.prog os ⟨#[], #[], []⟩ with heap := ((World.holding Tryd.prog os ⟨#[], #[], []⟩).heap.modify 1 fun | .cells _ t frozen => .cells #[.int .u8 48, .int .u8 49, .int .u8 50, .int .u8 51, .int .u8 52, .int .u8 53, .int .u8 54, .int .u8 55, .int .u8 56, .int .u8 57, .int .u8 97, .int .u8 98, .int .u8 99, .int .u8 100, .int .u8 101, .int .u8 102] t frozen | o => o) }
set_option maxRecDepth 100000 in
theorem laid_met (os : Os) : laidMet Tryd.prog Rows.textHexRoundUptoRow.laid ((laidWorld os).forCall (fun _ _ => 0) ⟨#[], #[.string ByteArray.empty, .slice none 0 0], []⟩).memory :=
  laidMet_of_run' 8 (by kernel_rfl) (by kernel_rfl)
set_option maxRecDepth 100000 in
theorem reads (os : Os) {H : Type} (enc : TypeId × Value → H) : ∃ places, DataW.whole enc Tryd.prog ((laidWorld os).forCall (fun _ _ => 0) ⟨#[], #[.string ByteArray.empty, .slice none 0 0], []⟩).memory Tryd.f5.params.toList Rows.textHexRoundSpec.vars false (#[.string ByteArray.empty, .slice none 0 0] : Array Value).toList 8 = some ([.lit (.string []), .nil], [], places) :=
  ⟨[], by kernel_rfl⟩
set_option maxRecDepth 100000 in
theorem lifted (os : Os) (started : os.Started) (H : Type) (enc : TypeId × Value → H) (F : Stop.Interp) :
    ReturnsInHanded {} Tryd.checked os 5 .any ((Rows.OpenSpec.upto Rows.textHexRoundSpec).preRow enc Tryd.prog Tryd.f5 Rows.textHexRoundUptoRow.domain false Rows.textHexRoundUptoRow.laid) (((Rows.OpenSpec.upto Rows.textHexRoundSpec).at F).post enc Tryd.prog Tryd.f5 false true false false) := by
  obtain ⟨places, hx⟩ := reads os enc
  refine returnsInHanded_of_row (C := Tryd.checked) (s := Rows.OpenSpec.upto Rows.textHexRoundSpec) own started (by kernel_rfl) Tryd.func5
    (witness_row_at (enc := enc) (C := Tryd.checked) false (laidWorld os) #[.string ByteArray.empty, .slice none 0 0] rfl (by kernel_rfl) (by kernel_rfl) (by kernel_rfl)
      (OpenSpec.preRow_of_cond 8 hx (by kernel_rfl) (fun k hk => by cases hk; kernel_rfl) (by kernel_rfl) (laid_met os))) ?_
  intro W base args ds gs before hval hW _ hcond hsz hL _ _
  exact contract H enc W base args ds gs before hval hW (hcond _ rfl) hsz hL
theorem over : Rows.TextHexRoundUptoSaid :=
  OpenClaim.holds_of_cond 5 Tryd.f5 rfl rfl rfl rfl rfl rfl rfl ⟨rfl, rfl, rfl, rfl, rfl⟩ rfl rfl rfl rfl rfl (by kernel_rfl) Tryd.func5 (by kernel_rfl)
    (of_decide_eq_true (by kernel_rfl)) (by unfold Func.isWrapper; first | (rw [if_pos (by decide +kernel)]; kernel_rfl) | (rw [if_neg (by decide +kernel)]; exact ⟨rfl, rfl⟩))
    (fun os started H enc _ F => by rw [OpenClaim.pre_eq_preRow]; exact lifted os started H enc F)
theorem plain (f : FuncId) (fn : Func) (hf : Tryd.pinned.checked.prog.funcNamed "roster/rosterlaw01.TextHexRound" = some f) (hfn : Tryd.pinned.checked.prog.funcs[f]? = some fn) :
    false = Tryd.pinned.checked.prog.looks [] ∧ ∀ (j : Nat) t, fn.params[j]? = some t → Tryd.pinned.checked.prog.wantsStandIn t = false := by
  obtain rfl : f = 5 := Option.some.inj ((show Tryd.prog.funcNamed "roster/rosterlaw01.TextHexRound" = some 5 by kernel_rfl).symm.trans hf) |>.symm
  obtain rfl : fn = Tryd.f5 := (Option.some.inj (Tryd.func5.symm.trans hfn)).symm
  refine ⟨by kernel_rfl, fun j t ht => ?_⟩
  rw [Tryd.params5] at ht
  have hm := Array.mem_of_getElem? ht
  simp only [List.mem_toArray, List.mem_cons, List.not_mem_nil, or_false] at hm
  rcases hm with rfl | rfl
  · exact (show Tryd.prog.wantsStandIn 9 = false by kernel_rfl)
  · exact (show Tryd.prog.wantsStandIn 26 = false by kernel_rfl)
theorem card : Rows.TextHexRoundUptoCardSaid :=
  Claim7.holds_tied_plain_at .later [] _ _ _ _ over (fun _ h => by cases h) (by kernel_rfl) (fun _ h => by cases h) textHexRoundUpto_row_tie rfl ⟨rfl, rfl⟩ (by kernel_rfl) rfl plain (by kernel_rfl)
#print axioms card
end Go.Proofs.YtjkhdiphcgpbfaaDoor.rowTextHexRound
namespace Go.Proofs.YtjkhdiphcgpbfaaDoor
/-- The statement, under a short name, for the claim. -/
theorem textHexRound_holds : Rows.TextHexRoundUptoCardSaid := rowTextHexRound.card
end Go.Proofs.YtjkhdiphcgpbfaaDoor

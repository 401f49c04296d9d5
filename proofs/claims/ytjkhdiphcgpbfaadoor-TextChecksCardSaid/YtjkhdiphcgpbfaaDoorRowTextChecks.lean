/- TextChecks: for every input the law returns true, and each argument reads as it read before. Conditions: those of the given row. -/
import Derived.Test.YtjkhdiphcgpbfaaDoorRows
import Derived.Test.YtjkhdiphcgpbfaaDoorQTextChecks
import Derived.Test.YtjkhdiphcgpbfaaDoorPureTextChecks
import Derived.WalkKit
import Derived.ProofKit
import Derived.OpenShut
import Derived.ShutString
import Derived.ChangeOld
import Derived.Below
import Derived.SizedLaws
import Derived.JoinedCond
import Derived.Deep.CondSized
import Derived.Test.YtjkhdiphcgpbfaaDoorCards
import Derived.Test.YtjkhdiphcgpbfaaDoorTie
import Derived.Deep.DeepHandedRow
import Derived.Lib.LaidTab
import Derived.Stop.LaidErr
import Derived.Test.YtjkhdiphcgpbfaaDoorXN
import Derived.Test.YtjkhdiphcgpbfaaDoorXGC
namespace Go.Proofs.YtjkhdiphcgpbfaaDoor.rowTextChecks
open Go.Proofs.YtjkhdiphcgpbfaaDoor.XGC
open Go.ChangeShapes Go.WideShapes Go.ChangeAt Go.RowKit Go.Proofs.YtjkhdiphcgpbfaaDoor.XO Go.Proofs.YtjkhdiphcgpbfaaDoor.XC Go.Proofs.YtjkhdiphcgpbfaaDoorW.PrintWords
open Go.ChangeMaps (open_string shut_string)
set_option linter.unusedVariables false
set_option linter.unusedSimpArgs false
theorem own : ownKnob Tryd.prog.godebug = none := by kernel_rfl
theorem laidOut : laidOutB Tryd.prog = true := by kernel_rfl
theorem tab2 {W : World} (hL : laidMet Tryd.prog Rows.textChecksRow.laid W) : (Kd.int .i64).C W (some ⟨2, 0, none⟩) 81 rowsL := by
  refine Kd.C_of_reads (enc := Value.int .i64) (d := (0 : Int)) ⟨rfl, by decide, fun _ => ⟨_, rfl, fun j hj => ?_⟩⟩
  have h := XN.cells_of_head (k := .i64) (zss := rowsLL) (rest := []) (g := 2) (t := 50) (e := 49) (i := 3) (n := 9) (m := 9) (by kernel_rfl) (by kernel_rfl) Tryd.underlying50 Tryd.underlying49 Tryd.underlying3 (by kernel_rfl) (by kernel_rfl) (by kernel_rfl) (by decide) (by decide) hL (j / 9) (j % 9) (by omega) (by omega)
  rw [XGC.add_flat, show 0 + j = j / 9 * 9 + j % 9 from by omega, h]
  exact congrArg (fun z => some (Value.int .i64 z)) ((by decide : ∀ j, j < 81 → (rowsLL.getD (j / 9) []).getD (j % 9) 0 = rowsL.getD j 0) j hj)
theorem tabs_of_laid_textChecks {W : World} (hL0 : laidMetH Tryd.prog Rows.textChecksRow.laid W) : Tabs W := by
  have hL : laidMet Tryd.prog Rows.textChecksRow.laid W := hL0
  exact ⟨tab2 hL⟩
set_option maxRecDepth 100000 in
theorem contract (H : Type) (enc : TypeId × Value → H) (W : World) (base : Nat) (args : Array Value) (ds gs : List (DataW H)) (before : List MemPlace)
    (hval0 : ∀ (j : Nat) t v, Tryd.f7.params[j]? = some t → args[j]? = some v → Value.okWide Tryd.prog W .any base t v)
    (hW : DataW.Whole enc Tryd.prog Tryd.f7.params.toList Rows.textChecksSpec.vars false W args.toList ds gs before)
    (hsz0 : (DataW.weightsEach Tryd.prog (Tryd.f7.params.toList ++ (OpenSpec.ofChange Rows.textChecksSpec).bare.plain.varTypes Tryd.prog) (ds ++ gs)).all (· ≤ reachBytes) = true) (hL : laidMetH Tryd.prog Rows.textChecksRow.laid W) :
    Calls Tryd.prog 7 args W fun e W' => ∃ v, e = .returned v ∧ Rows.textChecksSpec.post enc Tryd.prog Tryd.f7 false true false false W args v W' := by
  have hsz : (DataW.weightsEach Tryd.prog (Tryd.f7.params.toList ++ (OpenSpec.ofChange Rows.textChecksSpec).bare.plain.varTypes Tryd.prog) (ds ++ gs)).all (· ≤ reachBytes) = true := hsz0
  have hval : ∀ (j : Nat) t v, Tryd.f7.params[j]? = some t → args[j]? = some v → Value.okWide Tryd.prog W .any base t v := hval0
  have hW' := hW
  obtain ⟨p, q, hA0, hV, rfl, hfz, hnd⟩ := hW
  have hA : DataW.TrodAll enc Tryd.prog W 0 (fun _ => true) true Tryd.f7.params.toList args.toList ds p := hA0
  rw [Tryd.params7] at hA hval hsz
  obtain ⟨v0, vs0, d0, ds0, p0, q0, hargs, rfl, rfl, h0, r0⟩ := trodAll_cons hA
  obtain ⟨rfl, rfl, rfl⟩ := trodAll_nil r0
  obtain rfl : args = #[v0] := by cases args; simp_all
  obtain ⟨rfl, rfl⟩ := trodVars_none hV
  have hz0 : ∀ n ∈ d0.weights Tryd.prog 9, n ≤ reachBytes := fun n hn => by simpa using List.all_eq_true.1 hsz n (DataW.weights_mem_each (j := 0) (t := 9) rfl rfl n hn)
  obtain ⟨x0, rfl, rfl, rfl, y0⟩ := open_string Tryd.underlying9 (hval 0 9 v0 rfl rfl) h0
  have hF0 : x0.size ≤ 140737488351232 := by
    have z := hz0 x0.data.toList.length (by simp [DataW.weights])
    rw [data_length] at z
    exact z
  clear hA0 hval0 hsz0 hsz
  have hG := tabs_of_laid_textChecks hL
  obtain ⟨k, h⟩ := Pure.TextChecks x0 hF0
  refine (rosterlaw01_TextChecks.calls k x0 true W hG h).mono fun e W' ⟨he, bel⟩ => ?_
  subst he
  exact ⟨_, rfl, _, _, _, [], _, [], hW', trodAll_mk1 (shut_bool Tryd.underlying4 _), (trodAll_cons_mk (shut_string Tryd.underlying9 y0) trodAll_mk0), rfl, bel.frame _, fun h => by cases h⟩
noncomputable def laidWorld (os : Os) : World := { World.holding Tryd.prog os ⟨#[], #[], []⟩ with heap := ((World.holding Tryd.prog os ⟨#[], #[], []⟩).heap.modify 2 fun | .cells _ t frozen => .cells #[.int .i64 1, .int .i64 0, .int .i64 127, .int .i64 0, .int .i64 0, .int .i64 0, .int .i64 0, .int .i64 0, .int .i64 0, .int .i64 2, .int .i64 194, .int .i64 223, .int .i64 128, .int .i64 191, .int .i64 0, .int .i64 0, .int .i64 0, .int .i64 0, .int .i64 3, .int .i64 224, .int .i64 224, .int .i64 160, .int .i64 191, .int .i64 128, .int .i64 191, .int .i64 0, .int .i64 0, .int .i64 3, .int .i64 225, .int .i64 236, .int .i64 128, .int .i64 191, .int .i64 128, .int .i64 191, .int .i64 0, .int .i64 0, .int .i64 3, .int .i64 237, .int .i64 237, .int .i64 128, .int .i64 159, .int .i64 128, .int .i64 191, .int .i64 0, .int .i64 0, .int .i64 3, .int .i64 238, .int .i64 239, .int .i64 128, .int .i64 191, .int .i64 128, .int .i64 191, .int .i64 0, .int .i64 0, .int .i64 4, .int .i64 240, .int .i64 240, .int .i64 144, .int .i64 191, .int .i64 128, .int .i64 191, .int .i64 128, .int .i64 191, .int .i64 4, .int .i64 241, .int .i64 243, .int .i64 128, .int .i64 191, .int .i64 128, .int .i64 191, .int .i64 128, .int .i64 191, .int .i64 4, .int .i64 244, .int .i64 244, .int .i64 128, .int .i64 143, .int .i64 128, .int .i64 191, .int .i64 128, .int .i64 191] t frozen | o => o) }
set_option maxRecDepth 100000 in
theorem laid_met (os : Os) : laidMet Tryd.prog Rows.textChecksRow.laid ((laidWorld os).forCall (fun _ _ => 0) ⟨#[], #[.string ByteArray.empty], []⟩).memory :=
  laidMet_of_run' 8 (by kernel_rfl) (by kernel_rfl)
set_option maxRecDepth 100000 in
theorem reads (os : Os) {H : Type} (enc : TypeId × Value → H) : ∃ places, DataW.whole enc Tryd.prog ((laidWorld os).forCall (fun _ _ => 0) ⟨#[], #[.string ByteArray.empty], []⟩).memory Tryd.f7.params.toList Rows.textChecksSpec.vars false (#[.string ByteArray.empty] : Array Value).toList 8 = some ([.lit (.string [])], [], places) :=
  ⟨[], by kernel_rfl⟩
set_option maxRecDepth 100000 in
theorem lifted (os : Os) (started : os.Started) (H : Type) (enc : TypeId × Value → H) (F : Stop.Interp) :
    ReturnsInHanded {} Tryd.checked os 7 .any ((OpenSpec.ofChange Rows.textChecksSpec).preRow enc Tryd.prog Tryd.f7 Rows.textChecksRow.domain false Rows.textChecksRow.laid) (((OpenSpec.ofChange Rows.textChecksSpec).at F).post enc Tryd.prog Tryd.f7 false true false false) := by
  obtain ⟨places, hx⟩ := reads os enc
  refine returnsInHanded_of_row (C := Tryd.checked) (s := OpenSpec.ofChange Rows.textChecksSpec) own started (by kernel_rfl) Tryd.func7
    (witness_row_at (enc := enc) (C := Tryd.checked) false (laidWorld os) #[.string ByteArray.empty] rfl (by kernel_rfl) (by kernel_rfl) (by kernel_rfl)
      (OpenSpec.preRow_of_cond 8 hx (by kernel_rfl) (fun k hk => by cases hk) (by kernel_rfl) (laid_met os))) ?_
  intro W base args ds gs before hval hW _ hcond hsz hL _ _
  exact contract H enc W base args ds gs before hval hW hsz hL
theorem over : Rows.TextChecksSaid :=
  OpenClaim.holds_of_cond 7 Tryd.f7 rfl rfl rfl rfl rfl rfl rfl ⟨rfl, rfl, rfl, rfl, rfl⟩ rfl rfl rfl rfl rfl (by kernel_rfl) Tryd.func7 (by kernel_rfl)
    (of_decide_eq_true (by kernel_rfl)) (by unfold Func.isWrapper; first | (rw [if_pos (by decide +kernel)]; kernel_rfl) | (rw [if_neg (by decide +kernel)]; exact ⟨rfl, rfl⟩))
    (fun os started H enc _ F => by rw [OpenClaim.pre_eq_preRow]; exact lifted os started H enc F)
theorem plain (f : FuncId) (fn : Func) (hf : Tryd.pinned.checked.prog.funcNamed "roster/rosterlaw01.TextChecks" = some f) (hfn : Tryd.pinned.checked.prog.funcs[f]? = some fn) :
    false = Tryd.pinned.checked.prog.looks [] ∧ ∀ (j : Nat) t, fn.params[j]? = some t → Tryd.pinned.checked.prog.wantsStandIn t = false := by
  obtain rfl : f = 7 := Option.some.inj ((show Tryd.prog.funcNamed "roster/rosterlaw01.TextChecks" = some 7 by kernel_rfl).symm.trans hf) |>.symm
  obtain rfl : fn = Tryd.f7 := (Option.some.inj (Tryd.func7.symm.trans hfn)).symm
  refine ⟨by kernel_rfl, fun j t ht => ?_⟩
  rw [Tryd.params7] at ht
  have hm := Array.mem_of_getElem? ht
  simp only [List.mem_toArray, List.mem_cons, List.not_mem_nil, or_false] at hm
  rcases hm with rfl
  · exact (show Tryd.prog.wantsStandIn 9 = false by kernel_rfl)
theorem card : Rows.TextChecksCardSaid :=
  Claim7.holds_tied_plain_at .later [] _ _ _ _ over (fun _ h => by cases h) (by kernel_rfl) (fun _ h => by cases h) textChecks_row_tie rfl ⟨rfl, rfl⟩ (by kernel_rfl) rfl plain (by kernel_rfl)
#print axioms card
end Go.Proofs.YtjkhdiphcgpbfaaDoor.rowTextChecks
namespace Go.Proofs.YtjkhdiphcgpbfaaDoor
/-- The statement, under a short name, for the claim. -/
theorem textChecks_holds : Rows.TextChecksCardSaid := rowTextChecks.card
end Go.Proofs.YtjkhdiphcgpbfaaDoor

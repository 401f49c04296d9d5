/- TextAll (Upto): for every input of bulk at most 1048576 the law returns true, and each argument reads as it read before. Conditions: those of the given row. -/
import Derived.Test.YtppnhlkfkedlmaaDoorRows
import Derived.Test.YtppnhlkfkedlmaaDoorQTextAll
import Derived.Test.YtppnhlkfkedlmaaDoorPureTextAll
import Derived.WalkKit
import Derived.ProofKit
import Derived.OpenShut
import Derived.ShutString
import Derived.ChangeOld
import Derived.Below
import Derived.SizedLaws
import Derived.JoinedCond
import Derived.Deep.CondSized
import Derived.Test.YtppnhlkfkedlmaaDoorCards
import Derived.Test.YtppnhlkfkedlmaaDoorTie
import Derived.Deep.DeepHandedRow
import Derived.Lib.LaidTab
import Derived.Stop.LaidErr
import Derived.Test.YtppnhlkfkedlmaaDoorXN
import Derived.Test.YtppnhlkfkedlmaaDoorXGA
namespace Go.Proofs.YtppnhlkfkedlmaaDoor.rowTextAll
open Go.Proofs.YtppnhlkfkedlmaaDoor.XGA
open Go.ChangeShapes Go.WideShapes Go.ChangeAt Go.RowKit Go.Proofs.YtppnhlkfkedlmaaDoor.XO Go.Proofs.YtppnhlkfkedlmaaDoor.XA Go.Proofs.YtppnhlkfkedlmaaDoorW.PrintWords
open Go.ChangeMaps (open_string shut_string)
set_option linter.unusedVariables false
set_option linter.unusedSimpArgs false
theorem own : ownKnob Tryd.prog.godebug = none := by kernel_rfl
theorem laidOut : laidOutB Tryd.prog = true := by kernel_rfl
theorem tab2 {W : World} (hL : laidMet Tryd.prog Rows.textAllUptoRow.laid W) : (Kd.int .i64).C W (some ⟨2, 0, none⟩) 81 rowsL := by
  refine Kd.C_of_reads (enc := Value.int .i64) (d := (0 : Int)) ⟨rfl, by decide, fun _ => ⟨_, rfl, fun j hj => ?_⟩⟩
  have h := XN.cells_of_head (k := .i64) (zss := rowsLL) (rest := [("roster/text.hexDigits", Rows.laid_roster_text_hexDigits), ("roster/text.letters64", Rows.laid_roster_text_letters64)]) (g := 2) (t := 62) (e := 61) (i := 3) (n := 9) (m := 9) (by kernel_rfl) (by kernel_rfl) Tryd.underlying62 Tryd.underlying61 Tryd.underlying3 (by kernel_rfl) (by kernel_rfl) (by kernel_rfl) (by decide) (by decide) hL (j / 9) (j % 9) (by omega) (by omega)
  rw [XGA.add_flat, show 0 + j = j / 9 * 9 + j % 9 from by omega, h]
  exact congrArg (fun z => some (Value.int .i64 z)) ((by decide : ∀ j, j < 81 → (rowsLL.getD (j / 9) []).getD (j % 9) 0 = rowsL.getD j 0) j hj)
theorem tab1 {W : World} (hL : laidMet Tryd.prog Rows.textAllUptoRow.laid W) : Lib.TabIs Tryd.prog W "roster/text.hexDigits" .u8 hexL :=
  Lib.tabIs_of_head (rest := [("roster/text.letters64", Rows.laid_roster_text_letters64)]) (g := 1) (t := 52) (e := 5) (n := 16) (by kernel_rfl) (by kernel_rfl) Tryd.underlying52 Tryd.underlying5 (by kernel_rfl) (by kernel_rfl) (laidMet.tail hL)
theorem tab0 {W : World} (hL : laidMet Tryd.prog Rows.textAllUptoRow.laid W) : Lib.TabIs Tryd.prog W "roster/text.letters64" .u8 let64L :=
  Lib.tabIs_of_head (rest := []) (g := 0) (t := 35) (e := 5) (n := 64) (by kernel_rfl) (by kernel_rfl) Tryd.underlying35 Tryd.underlying5 (by kernel_rfl) (by kernel_rfl) (laidMet.tail (laidMet.tail hL))
theorem tabs_of_laid_textAll {W : World} (hL0 : laidMetH Tryd.prog Rows.textAllUptoRow.laid W) : Tabs W := by
  have hL : laidMet Tryd.prog Rows.textAllUptoRow.laid W := hL0
  exact ⟨Kd.C_of_reads (enc := Value.int .u8) (d := (0 : Int)) ⟨rfl, by decide, fun _ => ⟨_, rfl, fun j hj => by have := (tab0 hL).cell (g := 0) (by kernel_rfl) j hj; have e : (⟨0, 0, none⟩ : Addr).add j = ⟨0, j, none⟩ := (by unfold Addr.add; by_cases h : j = 0 <;> simp [h]); rw [e]; exact this⟩⟩, Kd.C_of_reads (enc := Value.int .u8) (d := (0 : Int)) ⟨rfl, by decide, fun _ => ⟨_, rfl, fun j hj => by have := (tab1 hL).cell (g := 1) (by kernel_rfl) j hj; have e : (⟨1, 0, none⟩ : Addr).add j = ⟨1, j, none⟩ := (by unfold Addr.add; by_cases h : j = 0 <;> simp [h]); rw [e]; exact this⟩⟩, tab2 hL⟩
set_option maxRecDepth 100000 in
theorem contract (H : Type) (enc : TypeId × Value → H) (W : World) (base : Nat) (args : Array Value) (ds gs : List (DataW H)) (before : List MemPlace)
    (hval0 : ∀ (j : Nat) t v, Tryd.f6.params[j]? = some t → args[j]? = some v → Value.okWide Tryd.prog W .any base t v)
    (hW : DataW.Whole enc Tryd.prog Tryd.f6.params.toList Rows.textAllSpec.vars false W args.toList ds gs before) (hk0 : Rows.uptoSmall H (ds ++ gs) = true)
    (hsz0 : (DataW.weightsEach Tryd.prog (Tryd.f6.params.toList ++ (Rows.OpenSpec.upto Rows.textAllSpec).bare.plain.varTypes Tryd.prog) (ds ++ gs)).all (· ≤ reachBytes) = true) (hL : laidMetH Tryd.prog Rows.textAllUptoRow.laid W) :
    Calls Tryd.prog 6 args W fun e W' => ∃ v, e = .returned v ∧ Rows.textAllSpec.post enc Tryd.prog Tryd.f6 false true false false W args v W' := by
  have hsz : (DataW.weightsEach Tryd.prog (Tryd.f6.params.toList ++ (Rows.OpenSpec.upto Rows.textAllSpec).bare.plain.varTypes Tryd.prog) (ds ++ gs)).all (· ≤ reachBytes) = true := hsz0
  have hval : ∀ (j : Nat) t v, Tryd.f6.params[j]? = some t → args[j]? = some v → Value.okWide Tryd.prog W .any base t v := hval0
  have hW' := hW
  obtain ⟨p, q, hA0, hV, rfl, hfz, hnd⟩ := hW
  have hA : DataW.TrodAll enc Tryd.prog W 0 (fun _ => true) true Tryd.f6.params.toList args.toList ds p := hA0
  rw [Tryd.params6] at hA hval hsz
  obtain ⟨v0, vs0, d0, ds0, p0, q0, hargs, rfl, rfl, h0, r0⟩ := trodAll_cons hA
  obtain ⟨rfl, rfl, rfl⟩ := trodAll_nil r0
  obtain rfl : args = #[v0] := by cases args; simp_all
  obtain ⟨rfl, rfl⟩ := trodVars_none hV
  have hk := of_decide_eq_true hk0
  clear hk0
  have hz0 : ∀ n ∈ d0.weights Tryd.prog 30, n ≤ reachBytes := fun n hn => by simpa using List.all_eq_true.1 hsz n (DataW.weights_mem_each (j := 0) (t := 30) rfl rfl n hn)
  obtain ⟨A0, n0, c0, rfl⟩ := okWide_slice Tryd.underlying30 (hval 0 30 v0 rfl rfl)
  have k0_ := h0
  have lt0 : ∀ x ∈ p0, x.block < W.heap.size := by obtain ⟨m, hm⟩ := k0_; exact DataW.trod_lt m _ _ _ hm
  obtain ⟨fuel0, hf0⟩ := h0
  obtain ⟨x0, hK0, hF0, hB0⟩ := (opn_slice (B := 24) Tryd.underlying30 (by kernel_rfl) (by kernel_rfl) z33 (opn_struct2 Tryd.underlying33 (by kernel_rfl) (opn_int Tryd.underlying3) (opn_string Tryd.underlying9) (g_ := fun y_ => (⟨y_.1, y_.2⟩ : S33)) (f_ := fun x_ : S33 => (x_.f0, x_.f1)) (fun _ => rfl) (fun _ => rfl))) H enc W _ _ _ _ _ _ hf0 hz0
  have hb0 : (x0.map fun x_ => (1) + (x_.f1.size + 1) + 1).sum + 1 ≤ Rows.uptoBulk d0 := hB0
  obtain ⟨A0', c0', he0, hl0, hC0⟩ := hK0
  simp only [Value.cells, List.cons.injEq, Value.slice.injEq, and_true] at he0
  obtain ⟨rfl, rfl, rfl⟩ := he0
  have hK : ((x0.map fun x_ => (1) + (x_.f1.size + 1) + 1).sum + 1) ≤ 1048576 := by
    simp only [List.append_nil, Rows.uptoBulkAll, Rows.uptoBulk, data_length] at hk
    omega
  clear hA0 hval0 hsz0 hsz
  have hG := tabs_of_laid_textAll hL
  obtain ⟨k, h⟩ := Pure.TextAll x0 hF0 hK
  refine (rosterlaw01_TextAll.calls k _ _ x0 true W hG hC0 hl0 h).mono fun e W' ⟨he, bel⟩ => ?_
  subst he
  exact ⟨_, rfl, _, _, _, [], _, [], hW', trodAll_mk1 (shut_bool Tryd.underlying4 _), (trodAll_cons_mk (Below.trod laidOut (by kernel_rfl) (of_decide_eq_true (by kernel_rfl)) k0_ bel lt0) trodAll_mk0), rfl, bel.frame _, fun h => by cases h⟩
noncomputable def laidWorld (os : Os) : World := { World.holding Tryd.prog os ⟨#[], #[], []⟩ with heap := ((((World.holding Tryd.prog os ⟨#[], #[], []⟩).heap.modify 2 fun | .cells _ t frozen => .cells #[.int .i64 1, .int .i64 0, .int .i64 127, .int .i64 0, .int .i64 0, .int .i64 0, .int .i64 0, .int .i64 0, .int .i64 0, .int .i64 2, .int .i64 194, .int .i64 223, .int .i64 128, .int .i64 191, .int .i64 0, .int .i64 0, .int .i64 0, .int .i64 0, .int .i64 3, .int .i64 224, .int .i64 224, .int .i64 160, .int .i64 191, .int .i64 128, .int .i64 191, .int .i64 0, .int .i64 0, .int .i64 3, .int .i64 225, .int .i64 236, .int .i64 128, .int .i64 191, .int .i64 128, .int .i64 191, .int .i64 0, .int .i64 0, .int .i64 3, .int .i64 237, .int .i64 237, .int .i64 128, .int .i64 159, .int .i64 128, .int .i64 191, .int .i64 0, .int .i64 0, .int .i64 3, .int .i64 238, .int .i64 239, .int .i64 128, .int .i64 191, .int .i64 128, .int .i64 191, .int .i64 0, .int .i64 0, .int .i64 4, .int .i64 240, .int .i64 240, .int .i64 144, .int .i64 191, .int .i64 128, .int .i64 191, .int .i64 128, .int .i64 191, .int .i64 4, .int .i64 241, .int .i64 243, .int .i64 128, .int .i64 191, .int .i64 128, .int .i64 191, .int .i64 128, .int .i64 191, .int .i64 4, .int .i64 244, .int .i64 244, .int .i64 128, .int .i64 143, .int .i64 128, .int .i64 191, .int .i64 128, .int .i64 191] t frozen | o => o).modify 1 fun | .cells _ t frozen => .cells #[.int .u8 48, .int .u8 49, .int .u8 50, .int .u8 51, .int .u8 52, .int .u8 53, .int .u8 54, .int .u8 55, .int .u8 56, .int .u8 57, .int .u8 97, .int .u8 98, .int .u8 99, .int .u8 100, .int .u8 101, .int .u8 102] t frozen | o => o).modify 0 fun | .cells _ t frozen => .cells #[.int .u8 65, .int .u8 66, .int .u8 67, .int .u8 68, .int .u8 69, .int .u8 70, .int .u8 71, .int .u8 72, .int .u8 73, .int .u8 74, .int .u8 75, .int .u8 76, .int .u8 77, .int .u8 78, .int .u8 79, .int .u8 80, .int .u8 81, .int .u8 82, .int .u8 83, .int .u8 84, .int .u8 85, .int .u8 86, .int .u8 87, .int .u8 88, .int .u8 89, .int .u8 90, .int .u8 97, .int .u8 98, .int .u8 99, .int .u8 100, .int .u8 101, .int .u8 102, .int .u8 103, .int .u8 104, .int .u8 105, .int .u8 106, .int .u8 107, .int .u8 108, .int .u8 109, .int .u8 110, .int .u8 111, .int .u8 112, .int .u8 113, .int .u8 114, .int .u8 115, .int .u8 116, .int .u8 117, .int .u8 118, .int .u8 119, .int .u8 120, .int .u8 121, .int .u8 122, .int .u8 48, .int .u8 49, .int .u8 50, .int .u8 51, .int .u8 52, .int .u8 53, .int .u8 54, .int .u8 55, .int .u8 56, .int .u8 57, .int .u8 43, .int .u8 47] t frozen | o => o) }
set_option maxRecDepth 100000 in
theorem laid_met (os : Os) : laidMet Tryd.prog Rows.textAllUptoRow.laid ((laidWorld os).forCall (fun _ _ => 0) ⟨#[], #[.slice none 0 0], []⟩).memory :=
  laidMet_of_run' 8 (by kernel_rfl) (by kernel_rfl)
set_option maxRecDepth 100000 in
theorem reads (os : Os) {H : Type} (enc : TypeId × Value → H) : ∃ places, DataW.whole enc Tryd.prog ((laidWorld os).forCall (fun _ _ => 0) ⟨#[], #[.slice none 0 0], []⟩).memory Tryd.f6.params.toList Rows.textAllSpec.vars false (#[.slice none 0 0] : Array Value).toList 8 = some ([.nil], [], places) :=
  ⟨[], by kernel_rfl⟩
set_option maxRecDepth 100000 in
theorem lifted (os : Os) (started : os.Started) (H : Type) (enc : TypeId × Value → H) (F : Stop.Interp) :
    ReturnsInHanded {} Tryd.checked os 6 .any ((Rows.OpenSpec.upto Rows.textAllSpec).preRow enc Tryd.prog Tryd.f6 Rows.textAllUptoRow.domain false Rows.textAllUptoRow.laid) (((Rows.OpenSpec.upto Rows.textAllSpec).at F).post enc Tryd.prog Tryd.f6 false true false false) := by
  obtain ⟨places, hx⟩ := reads os enc
  refine returnsInHanded_of_row (C := Tryd.checked) (s := Rows.OpenSpec.upto Rows.textAllSpec) own started (by kernel_rfl) Tryd.func6
    (witness_row_at (enc := enc) (C := Tryd.checked) false (laidWorld os) #[.slice none 0 0] rfl (by kernel_rfl) (by kernel_rfl) (by kernel_rfl)
      (OpenSpec.preRow_of_cond 8 hx (by kernel_rfl) (fun k hk => by cases hk; kernel_rfl) (by kernel_rfl) (laid_met os))) ?_
  intro W base args ds gs before hval hW _ hcond hsz hL _ _
  exact contract H enc W base args ds gs before hval hW (hcond _ rfl) hsz hL
theorem over : Rows.TextAllUptoSaid :=
  OpenClaim.holds_of_cond 6 Tryd.f6 rfl rfl rfl rfl rfl rfl rfl ⟨rfl, rfl, rfl, rfl, rfl⟩ rfl rfl rfl rfl rfl (by kernel_rfl) Tryd.func6 (by kernel_rfl)
    (of_decide_eq_true (by kernel_rfl)) (by unfold Func.isWrapper; first | (rw [if_pos (by decide +kernel)]; kernel_rfl) | (rw [if_neg (by decide +kernel)]; exact ⟨rfl, rfl⟩))
    (fun os started H enc _ F => by rw [OpenClaim.pre_eq_preRow]; exact lifted os started H enc F)
theorem plain (f : FuncId) (fn : Func) (hf : Tryd.pinned.checked.prog.funcNamed "roster/rosterlaw01.TextAll" = some f) (hfn : Tryd.pinned.checked.prog.funcs[f]? = some fn) :
    false = Tryd.pinned.checked.prog.looks [] ∧ ∀ (j : Nat) t, fn.params[j]? = some t → Tryd.pinned.checked.prog.wantsStandIn t = false := by
  obtain rfl : f = 6 := Option.some.inj ((show Tryd.prog.funcNamed "roster/rosterlaw01.TextAll" = some 6 by kernel_rfl).symm.trans hf) |>.symm
  obtain rfl : fn = Tryd.f6 := (Option.some.inj (Tryd.func6.symm.trans hfn)).symm
  refine ⟨by kernel_rfl, fun j t ht => ?_⟩
  rw [Tryd.params6] at ht
  have hm := Array.mem_of_getElem? ht
  simp only [List.mem_toArray, List.mem_cons, List.not_mem_nil, or_false] at hm
  rcases hm with rfl
  · exact (show Tryd.prog.wantsStandIn 30 = false by kernel_rfl)
theorem card : Rows.TextAllUptoCardSaid :=
  Claim7.holds_tied_plain_at .later [] _ _ _ _ over (fun _ h => by cases h) (by kernel_rfl) (fun _ h => by cases h) textAllUpto_row_tie rfl ⟨rfl, rfl⟩ (by kernel_rfl) rfl plain (by kernel_rfl)
#print axioms card
end Go.Proofs.YtppnhlkfkedlmaaDoor.rowTextAll
namespace Go.Proofs.YtppnhlkfkedlmaaDoor
/-- The statement, under a short name, for the claim. -/
theorem textAll_holds : Rows.TextAllUptoCardSaid := rowTextAll.card
end Go.Proofs.YtppnhlkfkedlmaaDoor

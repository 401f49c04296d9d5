/- ClientShows (Upto): for every input of bulk at most 1048576 the law returns true, and each argument reads as it read before. Conditions: those of the given row. -/
import Derived.Test.YtogkibhbkapobaaDoorRows
import Derived.Test.YtogkibhbkapobaaDoorQClientShows
import Derived.Test.YtogkibhbkapobaaDoorPureClientShows
import Derived.WalkKit
import Derived.ProofKit
import Derived.OpenShut
import Derived.ShutString
import Derived.ChangeOld
import Derived.Below
import Derived.SizedLaws
import Derived.JoinedCond
import Derived.Deep.CondSized
import Derived.Test.YtogkibhbkapobaaDoorXOS
import Derived.Test.YtogkibhbkapobaaDoorCards
import Derived.Test.YtogkibhbkapobaaDoorTie
import Derived.Deep.DeepHandedRow
import Derived.Lib.LaidTab
import Derived.Stop.LaidErr
import Derived.Test.YtogkibhbkapobaaDoorCsTab
namespace Go.Proofs.YtogkibhbkapobaaDoor.rowClientShows
open Go.Proofs.YtogkibhbkapobaaDoor.CsTab
open Go.ChangeShapes Go.WideShapes Go.ChangeAt Go.RowKit Go.Proofs.YtogkibhbkapobaaDoor.XO Go.Proofs.YtogkibhbkapobaaDoor.XA Go.Proofs.YtogkibhbkapobaaDoorW.PrintWords
open Go.ChangeMaps (open_string shut_string)
set_option linter.unusedVariables false
set_option linter.unusedSimpArgs false
theorem own : ownKnob Tryd.prog.godebug = none := by kernel_rfl
theorem laidOut : laidOutB Tryd.prog = true := by kernel_rfl
theorem tab2 {W : World} (hL : laidMet Tryd.prog Rows.clientShowsUptoRow.laid W) : Lib.TabIs Tryd.prog W "internal/strconv.uint64pow10" .u64 Lib.pow10Tab :=
  Lib.tabIs_of_head (rest := [("roster/text.letters64", Rows.laid_roster_text_letters64), ("roster/client.words", Rows.laid_roster_client_words)]) (g := 2) (t := 69) (e := 62) (n := 20) (by kernel_rfl) (by kernel_rfl) Tryd.underlying69 Tryd.underlying62 (by kernel_rfl) (by kernel_rfl) (laidMet.tail (laidMet.tail hL))
theorem tab1 {W : World} (hL : laidMet Tryd.prog Rows.clientShowsUptoRow.laid W) : Lib.TabIs Tryd.prog W "roster/text.letters64" .u8 XG.let64L :=
  Lib.tabIs_of_head (rest := [("roster/client.words", Rows.laid_roster_client_words)]) (g := 1) (t := 59) (e := 5) (n := 64) (by kernel_rfl) (by kernel_rfl) Tryd.underlying59 Tryd.underlying5 (by kernel_rfl) (by kernel_rfl) (laidMet.tail (laidMet.tail (laidMet.tail hL)))
theorem tab0 {W : World} (hL : laidMet Tryd.prog Rows.clientShowsUptoRow.laid W) : W.var? Tryd.prog "roster/client.words" = some (([[98, 105, 110, 100], [101, 110, 116, 114, 121], [100, 111, 110, 101], [109, 111, 100, 105, 102, 121], [97, 100, 100], [100, 101, 108, 101, 116, 101], [114, 101, 110, 97, 109, 101], [99, 111, 109, 112, 97, 114, 101], [101, 120, 116, 101, 110, 100, 101, 100]] : List (List UInt8)).map fun z => Value.string ⟨z.toArray⟩).toArray :=
  CsTab.texts_of_head (zs := [[98, 105, 110, 100], [101, 110, 116, 114, 121], [100, 111, 110, 101], [109, 111, 100, 105, 102, 121], [97, 100, 100], [100, 101, 108, 101, 116, 101], [114, 101, 110, 97, 109, 101], [99, 111, 109, 112, 97, 114, 101], [101, 120, 116, 101, 110, 100, 101, 100]]) (rest := []) (g := 0) (t := 51) (e := 9) (n := 9) (by kernel_rfl) (by kernel_rfl) Tryd.underlying51 Tryd.underlying9 (by kernel_rfl) (by kernel_rfl) (laidMet.tail (laidMet.tail (laidMet.tail (laidMet.tail hL))))
theorem tabs_of_laid_clientShows {W : World} (hL0 : laidMetH Tryd.prog Rows.clientShowsUptoRow.laid W) : Tabs W := by
  have hL : laidMet Tryd.prog Rows.clientShowsUptoRow.laid W := hL0
  exact ⟨⟨Kd.C_of_reads (enc := Value.int .u8) (d := (0 : Int)) ⟨rfl, by decide, fun _ => ⟨_, rfl, fun j hj => by have := (tab1 hL).cell (g := 1) (by kernel_rfl) j hj; have e : (⟨1, 0, none⟩ : Addr).add j = ⟨1, j, none⟩ := (by unfold Addr.add; by_cases h : j = 0 <;> simp [h]); rw [e]; exact this⟩⟩⟩, Kd.C_of_reads (enc := Value.string) (d := ByteArray.empty) (h1 := fun _ => rfl) ⟨rfl, by decide, fun _ => ⟨_, rfl, fun j hj => by rw [XG.add_flat, Nat.zero_add, World.var?_cell (g := 0) (by kernel_rfl) (tab0 hL) j]; rcases (show j = 0 ∨ j = 1 ∨ j = 2 ∨ j = 3 ∨ j = 4 ∨ j = 5 ∨ j = 6 ∨ j = 7 ∨ j = 8 by omega) with rfl | rfl | rfl | rfl | rfl | rfl | rfl | rfl | rfl <;> rfl⟩⟩, tab2 hL⟩
set_option maxRecDepth 100000 in
theorem contract (H : Type) (enc : TypeId × Value → H) (W : World) (base : Nat) (args : Array Value) (ds gs : List (DataW H)) (before : List MemPlace)
    (hval0 : ∀ (j : Nat) t v, Tryd.f3.params[j]? = some t → args[j]? = some v → Value.okWide Tryd.prog W .any base t v)
    (hW : DataW.Whole enc Tryd.prog Tryd.f3.params.toList Rows.clientShowsSpec.vars false W args.toList ds gs before) (hk0 : Rows.uptoSmall H (ds ++ gs) = true)
    (hsz0 : (DataW.weightsEach Tryd.prog (Tryd.f3.params.toList ++ (Rows.OpenSpec.upto Rows.clientShowsSpec).bare.plain.varTypes Tryd.prog) (ds ++ gs)).all (· ≤ reachBytes) = true) (hL : laidMetH Tryd.prog Rows.clientShowsUptoRow.laid W) :
    Calls Tryd.prog 3 args W fun e W' => ∃ v, e = .returned v ∧ Rows.clientShowsSpec.post enc Tryd.prog Tryd.f3 false true false false W args v W' := by
  have hsz : (DataW.weightsEach Tryd.prog (Tryd.f3.params.toList ++ (Rows.OpenSpec.upto Rows.clientShowsSpec).bare.plain.varTypes Tryd.prog) (ds ++ gs)).all (· ≤ reachBytes) = true := hsz0
  have hval : ∀ (j : Nat) t v, Tryd.f3.params[j]? = some t → args[j]? = some v → Value.okWide Tryd.prog W .any base t v := hval0
  have hW' := hW
  obtain ⟨p, q, hA0, hV, rfl, hfz, hnd⟩ := hW
  have hA : DataW.TrodAll enc Tryd.prog W 0 (fun _ => true) true Tryd.f3.params.toList args.toList ds p := hA0
  rw [Tryd.params3] at hA hval hsz
  obtain ⟨v0, vs0, d0, ds0, p0, q0, hargs, rfl, rfl, h0, r0⟩ := trodAll_cons hA
  obtain ⟨rfl, rfl, rfl⟩ := trodAll_nil r0
  obtain rfl : args = #[v0] := by cases args; simp_all
  obtain ⟨rfl, rfl⟩ := trodVars_none hV
  have hk := of_decide_eq_true hk0
  clear hk0
  have hz0 : ∀ n ∈ d0.weights Tryd.prog 29, n ≤ reachBytes := fun n hn => by simpa using List.all_eq_true.1 hsz n (DataW.weights_mem_each (j := 0) (t := 29) rfl rfl n hn)
  have k0_ := h0
  have lt0 : ∀ x ∈ p0, x.block < W.heap.size := by obtain ⟨m, hm⟩ := k0_; exact DataW.trod_lt m _ _ _ hm
  obtain ⟨fuel0, hf0⟩ := h0
  obtain ⟨x0, hK0, hF0, hB0⟩ := (opn_struct8 Tryd.underlying29 (by kernel_rfl) (opn_int Tryd.underlying3) (opn_int Tryd.underlying22) (opn_struct3 Tryd.underlying25 (by kernel_rfl) (opn_int Tryd.underlying23) (opn_string Tryd.underlying9) (opn_string Tryd.underlying9) (g_ := fun y_ => (⟨y_.1, y_.2.1, y_.2.2⟩ : S25)) (f_ := fun x_ : S25 => (x_.f0, x_.f1, x_.f2)) (fun _ => rfl) (fun _ => rfl)) (opn_string Tryd.underlying9) (opn_slice (B := 56) Tryd.underlying26 (by kernel_rfl) (by kernel_rfl) z34 (opn_struct3 Tryd.underlying34 (by kernel_rfl) (opn_string Tryd.underlying9) (opn_string Tryd.underlying9) (opn_slice (B := 16) Tryd.underlying32 (by kernel_rfl) (by kernel_rfl) (⟨#[]⟩ : ByteArray) (opn_string Tryd.underlying9)) (g_ := fun y_ => (⟨y_.1, y_.2.1, y_.2.2⟩ : S34)) (f_ := fun x_ : S34 => (x_.f0, x_.f1, x_.f2)) (fun _ => rfl) (fun _ => rfl))) (opn_string Tryd.underlying9) (opn_bool Tryd.underlying4) (opn_slice (B := 48) Tryd.underlying27 (by kernel_rfl) (by kernel_rfl) z36 (opn_struct4 Tryd.underlying36 (by kernel_rfl) (opn_string Tryd.underlying9) (opn_bool Tryd.underlying4) (opn_string Tryd.underlying9) (opn_bool Tryd.underlying4) (g_ := fun y_ => (⟨y_.1, y_.2.1, y_.2.2.1, y_.2.2.2⟩ : S36)) (f_ := fun x_ : S36 => (x_.f0, x_.f1, x_.f2, x_.f3)) (fun _ => rfl) (fun _ => rfl))) (g_ := fun y_ => (⟨y_.1, y_.2.1, y_.2.2.1, y_.2.2.2.1, y_.2.2.2.2.1, y_.2.2.2.2.2.1, y_.2.2.2.2.2.2.1, y_.2.2.2.2.2.2.2⟩ : S29)) (f_ := fun x_ : S29 => (x_.f0, x_.f1, x_.f2, x_.f3, x_.f4, x_.f5, x_.f6, x_.f7)) (fun _ => rfl) (fun _ => rfl)) H enc W _ _ _ _ _ _ hf0 hz0
  have hb0 : (1) + (1) + ((1) + (x0.f2.f1.size + 1) + (x0.f2.f2.size + 1) + 1) + (x0.f3.size + 1) + ((x0.f4.map fun x_ => (x_.f0.size + 1) + (x_.f1.size + 1) + ((x_.f2.map fun x_ => x_.size + 1).sum + 1) + 1).sum + 1) + (x0.f5.size + 1) + (1) + ((x0.f7.map fun x_ => (x_.f0.size + 1) + (1) + (x_.f2.size + 1) + (1) + 1).sum + 1) + 1 ≤ Rows.uptoBulk d0 := hB0
  obtain ⟨cs0, rfl, _⟩ := okWide_struct Tryd.underlying29 (hval 0 29 v0 rfl rfl)
  have hKK0 : ((Kd.pair (Kd.int .i64) (Kd.pair (Kd.int .i64) (Kd.pair k25 (Kd.pair Kd.string (Kd.pair (Kd.slice 34 k34) (Kd.pair Kd.string (Kd.pair Kd.bool (Kd.slice 36 k36))))))))).K W (x0.f0, x0.f1, x0.f2, x0.f3, x0.f4, x0.f5, x0.f6, x0.f7) (Value.cells (.agg cs0)).toList := hK0
  obtain ⟨a0_0, r0_0, e0_0, g0_0, m0_0⟩ := hKK0
  obtain rfl : a0_0 = [.int .i64 x0.f0] := g0_0
  obtain ⟨a0_1, r0_1, e0_1, g0_1, m0_1⟩ := m0_0
  obtain rfl : a0_1 = [.int .i64 x0.f1] := g0_1
  obtain ⟨a0_2, r0_2, e0_2, g0_2, m0_2⟩ := m0_1
  obtain rfl := k25_open g0_2
  obtain ⟨a0_3, r0_3, e0_3, g0_3, m0_3⟩ := m0_2
  obtain rfl : a0_3 = [.string x0.f3] := g0_3
  obtain ⟨a0_4, r0_4, e0_4, g0_4, m0_4⟩ := m0_3
  obtain ⟨A0_4, c0_4, rfl, hl0_4, hC0_4⟩ := g0_4
  obtain ⟨a0_5, r0_5, e0_5, g0_5, m0_5⟩ := m0_4
  obtain rfl : a0_5 = [.string x0.f5] := g0_5
  obtain ⟨a0_6, r0_6, e0_6, g0_6, m0_6⟩ := m0_5
  obtain rfl : a0_6 = [.bool x0.f6] := g0_6
  obtain ⟨A0_7, c0_7, rfl, hl0_7, hC0_7⟩ := m0_6
  subst e0_6
  subst e0_5
  subst e0_4
  subst e0_3
  subst e0_2
  subst e0_1
  have ecs0 : cs0 = #[.int .i64 x0.f0, .int .i64 x0.f1, .int .i64 x0.f2.f0, .string x0.f2.f1, .string x0.f2.f2, .string x0.f3, .slice A0_4 x0.f4.length c0_4, .string x0.f5, .bool x0.f6, .slice A0_7 x0.f7.length c0_7] := by
    have h := e0_0
    simp only [Value.cells, List.cons_append, List.nil_append] at h
    exact Array.toList_inj.1 (by simpa using h)
  subst ecs0
  clear e0_0
  have hK : ((1) + (1) + ((1) + (x0.f2.f1.size + 1) + (x0.f2.f2.size + 1) + 1) + (x0.f3.size + 1) + ((x0.f4.map fun x_ => (x_.f0.size + 1) + (x_.f1.size + 1) + ((x_.f2.map fun x_ => x_.size + 1).sum + 1) + 1).sum + 1) + (x0.f5.size + 1) + (1) + ((x0.f7.map fun x_ => (x_.f0.size + 1) + (1) + (x_.f2.size + 1) + (1) + 1).sum + 1) + 1) ≤ 1048576 := by
    simp only [List.append_nil, Rows.uptoBulkAll, Rows.uptoBulk, data_length] at hk
    omega
  clear hA0 hval0 hsz0 hsz
  have hG := tabs_of_laid_clientShows hL
  have h := Pure.ClientShows x0 hF0 hK
  refine (rosterlaw19_ClientShows.calls x0.f0 x0.f1 x0.f2 x0.f3 _ _ x0.f4 x0.f5 x0.f6 _ _ x0.f7 true W hG hC0_4 hl0_4 hC0_7 hl0_7 h).mono fun e W' ⟨he, bel⟩ => ?_
  subst he
  exact ⟨_, rfl, _, _, _, [], _, [], hW', trodAll_mk1 (shut_bool Tryd.underlying4 _), (trodAll_cons_mk (Below.trod laidOut (by kernel_rfl) (of_decide_eq_true (by kernel_rfl)) k0_ bel lt0) trodAll_mk0), rfl, bel.frame _, fun h => by cases h⟩
noncomputable def laidWorld (os : Os) : World := { World.holding Tryd.prog os ⟨#[], #[], []⟩ with heap := ((((((World.holding Tryd.prog os ⟨#[], #[], []⟩).heap.modify 3 fun | .cells _ t frozen => .cells #[.int .u8 0, .int .u8 1, .int .u8 28, .int .u8 2, .int .u8 29, .int .u8 14, .int .u8 24, .int .u8 3, .int .u8 30, .int .u8 22, .int .u8 20, .int .u8 15, .int .u8 25, .int .u8 17, .int .u8 4, .int .u8 8, .int .u8 31, .int .u8 27, .int .u8 13, .int .u8 23, .int .u8 21, .int .u8 19, .int .u8 16, .int .u8 7, .int .u8 26, .int .u8 12, .int .u8 18, .int .u8 6, .int .u8 11, .int .u8 5, .int .u8 10, .int .u8 9] t frozen | o => o).modify 4 fun | .cells _ t frozen => .cells #[.int .u8 0, .int .u8 1, .int .u8 56, .int .u8 2, .int .u8 57, .int .u8 49, .int .u8 28, .int .u8 3, .int .u8 61, .int .u8 58, .int .u8 42, .int .u8 50, .int .u8 38, .int .u8 29, .int .u8 17, .int .u8 4, .int .u8 62, .int .u8 47, .int .u8 59, .int .u8 36, .int .u8 45, .int .u8 43, .int .u8 51, .int .u8 22, .int .u8 53, .int .u8 39, .int .u8 33, .int .u8 30, .int .u8 24, .int .u8 18, .int .u8 12, .int .u8 5, .int .u8 63, .int .u8 55, .int .u8 48, .int .u8 27, .int .u8 60, .int .u8 41, .int .u8 37, .int .u8 16, .int .u8 46, .int .u8 35, .int .u8 44, .int .u8 21, .int .u8 52, .int .u8 32, .int .u8 23, .int .u8 11, .int .u8 54, .int .u8 26, .int .u8 40, .int .u8 15, .int .u8 34, .int .u8 20, .int .u8 31, .int .u8 10, .int .u8 25, .int .u8 14, .int .u8 19, .int .u8 9, .int .u8 13, .int .u8 8, .int .u8 7, .int .u8 6] t frozen | o => o).modify 2 fun | .cells _ t frozen => .cells #[.int .u64 1, .int .u64 10, .int .u64 100, .int .u64 1000, .int .u64 10000, .int .u64 100000, .int .u64 1000000, .int .u64 10000000, .int .u64 100000000, .int .u64 1000000000, .int .u64 10000000000, .int .u64 100000000000, .int .u64 1000000000000, .int .u64 10000000000000, .int .u64 100000000000000, .int .u64 1000000000000000, .int .u64 10000000000000000, .int .u64 100000000000000000, .int .u64 1000000000000000000, .int .u64 10000000000000000000] t frozen | o => o).modify 1 fun | .cells _ t frozen => .cells #[.int .u8 65, .int .u8 66, .int .u8 67, .int .u8 68, .int .u8 69, .int .u8 70, .int .u8 71, .int .u8 72, .int .u8 73, .int .u8 74, .int .u8 75, .int .u8 76, .int .u8 77, .int .u8 78, .int .u8 79, .int .u8 80, .int .u8 81, .int .u8 82, .int .u8 83, .int .u8 84, .int .u8 85, .int .u8 86, .int .u8 87, .int .u8 88, .int .u8 89, .int .u8 90, .int .u8 97, .int .u8 98, .int .u8 99, .int .u8 100, .int .u8 101, .int .u8 102, .int .u8 103, .int .u8 104, .int .u8 105, .int .u8 106, .int .u8 107, .int .u8 108, .int .u8 109, .int .u8 110, .int .u8 111, .int .u8 112, .int .u8 113, .int .u8 114, .int .u8 115, .int .u8 116, .int .u8 117, .int .u8 118, .int .u8 119, .int .u8 120, .int .u8 121, .int .u8 122, .int .u8 48, .int .u8 49, .int .u8 50, .int .u8 51, .int .u8 52, .int .u8 53, .int .u8 54, .int .u8 55, .int .u8 56, .int .u8 57, .int .u8 43, .int .u8 47] t frozen | o => o).modify 0 fun | .cells _ t frozen => .cells #[.string ⟨#[98, 105, 110, 100]⟩, .string ⟨#[101, 110, 116, 114, 121]⟩, .string ⟨#[100, 111, 110, 101]⟩, .string ⟨#[109, 111, 100, 105, 102, 121]⟩, .string ⟨#[97, 100, 100]⟩, .string ⟨#[100, 101, 108, 101, 116, 101]⟩, .string ⟨#[114, 101, 110, 97, 109, 101]⟩, .string ⟨#[99, 111, 109, 112, 97, 114, 101]⟩, .string ⟨#[101, 120, 116, 101, 110, 100, 101, 100]⟩] t frozen | o => o) }
set_option maxRecDepth 100000 in
theorem laid_met (os : Os) : laidMet Tryd.prog Rows.clientShowsUptoRow.laid ((laidWorld os).forCall (fun _ _ => 0) ⟨#[], #[.agg #[.int .i64 0, .int .i64 0, .int .i64 0, .string ByteArray.empty, .string ByteArray.empty, .string ByteArray.empty, .slice none 0 0, .string ByteArray.empty, .bool false, .slice none 0 0]], []⟩).memory :=
  laidMet_of_run' 8 (by kernel_rfl) (by kernel_rfl)
set_option maxRecDepth 100000 in
theorem reads (os : Os) {H : Type} (enc : TypeId × Value → H) : ∃ places, DataW.whole enc Tryd.prog ((laidWorld os).forCall (fun _ _ => 0) ⟨#[], #[.agg #[.int .i64 0, .int .i64 0, .int .i64 0, .string ByteArray.empty, .string ByteArray.empty, .string ByteArray.empty, .slice none 0 0, .string ByteArray.empty, .bool false, .slice none 0 0]], []⟩).memory Tryd.f3.params.toList Rows.clientShowsSpec.vars false (#[.agg #[.int .i64 0, .int .i64 0, .int .i64 0, .string ByteArray.empty, .string ByteArray.empty, .string ByteArray.empty, .slice none 0 0, .string ByteArray.empty, .bool false, .slice none 0 0]] : Array Value).toList 8 = some ([.agg [.lit (.int .i64 0), .lit (.int .i64 0), .agg [.lit (.int .i64 0), .lit (.string []), .lit (.string [])], .lit (.string []), .nil, .lit (.string []), .lit (.bool false), .nil]], [], places) :=
  ⟨[], by kernel_rfl⟩
set_option maxRecDepth 100000 in
theorem lifted (os : Os) (started : os.Started) (H : Type) (enc : TypeId × Value → H) (F : Stop.Interp) :
    ReturnsInHanded {} Tryd.checked os 3 .any ((Rows.OpenSpec.upto Rows.clientShowsSpec).preRow enc Tryd.prog Tryd.f3 Rows.clientShowsUptoRow.domain false Rows.clientShowsUptoRow.laid) (((Rows.OpenSpec.upto Rows.clientShowsSpec).at F).post enc Tryd.prog Tryd.f3 false true false false) := by
  obtain ⟨places, hx⟩ := reads os enc
  refine returnsInHanded_of_row (C := Tryd.checked) (s := Rows.OpenSpec.upto Rows.clientShowsSpec) own started (by kernel_rfl) Tryd.func3
    (witness_row_at (enc := enc) (C := Tryd.checked) false (laidWorld os) #[.agg #[.int .i64 0, .int .i64 0, .int .i64 0, .string ByteArray.empty, .string ByteArray.empty, .string ByteArray.empty, .slice none 0 0, .string ByteArray.empty, .bool false, .slice none 0 0]] rfl (by kernel_rfl) (by kernel_rfl) (by kernel_rfl)
      (OpenSpec.preRow_of_cond 8 hx (by kernel_rfl) (fun k hk => by cases hk; kernel_rfl) (by kernel_rfl) (laid_met os))) ?_
  intro W base args ds gs before hval hW _ hcond hsz hL _ _
  exact contract H enc W base args ds gs before hval hW (hcond _ rfl) hsz hL
theorem over : Rows.ClientShowsUptoSaid :=
  OpenClaim.holds_of_cond 3 Tryd.f3 rfl rfl rfl rfl rfl rfl rfl ⟨rfl, rfl, rfl, rfl, rfl⟩ rfl rfl rfl rfl rfl (by kernel_rfl) Tryd.func3 (by kernel_rfl)
    (of_decide_eq_true (by kernel_rfl)) (by unfold Func.isWrapper; first | (rw [if_pos (by decide +kernel)]; kernel_rfl) | (rw [if_neg (by decide +kernel)]; exact ⟨rfl, rfl⟩))
    (fun os started H enc _ F => by rw [OpenClaim.pre_eq_preRow]; exact lifted os started H enc F)
theorem plain (f : FuncId) (fn : Func) (hf : Tryd.pinned.checked.prog.funcNamed "roster/rosterlaw19.ClientShows" = some f) (hfn : Tryd.pinned.checked.prog.funcs[f]? = some fn) :
    false = Tryd.pinned.checked.prog.looks [] ∧ ∀ (j : Nat) t, fn.params[j]? = some t → Tryd.pinned.checked.prog.wantsStandIn t = false := by
  obtain rfl : f = 3 := Option.some.inj ((show Tryd.prog.funcNamed "roster/rosterlaw19.ClientShows" = some 3 by kernel_rfl).symm.trans hf) |>.symm
  obtain rfl : fn = Tryd.f3 := (Option.some.inj (Tryd.func3.symm.trans hfn)).symm
  refine ⟨by kernel_rfl, fun j t ht => ?_⟩
  rw [Tryd.params3] at ht
  have hm := Array.mem_of_getElem? ht
  simp only [List.mem_toArray, List.mem_cons, List.not_mem_nil, or_false] at hm
  rcases hm with rfl
  · exact (show Tryd.prog.wantsStandIn 29 = false by kernel_rfl)
theorem card : Rows.ClientShowsUptoCardSaid :=
  Claim7.holds_tied_plain_at .later [] _ _ _ _ over (fun _ h => by cases h) (by kernel_rfl) (fun _ h => by cases h) clientShowsUpto_row_tie rfl ⟨rfl, rfl⟩ (by kernel_rfl) rfl plain (by kernel_rfl)
#print axioms card
end Go.Proofs.YtogkibhbkapobaaDoor.rowClientShows
namespace Go.Proofs.YtogkibhbkapobaaDoor
/-- The statement, under a short name, for the claim. -/
theorem clientShows_holds : Rows.ClientShowsUptoCardSaid := rowClientShows.card
end Go.Proofs.YtogkibhbkapobaaDoor

/- MatchFits (Upto): for every input of bulk at most 1048576 the law returns true, and each argument reads as it read before. Conditions: those of the given row. -/
import Derived.Test.YtjakabacdnfmnaaRows
import Derived.Test.YtjakabacdnfmnaaQMatchFits
import Derived.Test.YtjakabacdnfmnaaPureMatchFits
import Derived.WalkKit
import Derived.ProofKit
import Derived.OpenShut
import Derived.ShutString
import Derived.ChangeOld
import Derived.Below
import Derived.SizedLaws
import Derived.JoinedCond
import Derived.Deep.CondSized
import Derived.Test.YtjakabacdnfmnaaXOS
import Derived.Test.YtjakabacdnfmnaaCS
namespace Go.Proofs.Ytjakabacdnfmnaa.rowMatchFits
open Go.ChangeShapes Go.WideShapes Go.ChangeAt Go.RowKit Go.Proofs.Ytjakabacdnfmnaa.XO Go.Proofs.Ytjakabacdnfmnaa.XM Go.Proofs.YtjakabacdnfmnaaW.PrintWords
open Go.ChangeMaps (open_string shut_string)
set_option linter.unusedVariables false
set_option linter.unusedSimpArgs false
theorem own : ownKnob Try.prog.godebug = none := by kernel_rfl
theorem laidOut : laidOutB Try.prog = true := by kernel_rfl
set_option maxRecDepth 100000 in
theorem contract (H : Type) (enc : TypeId × Value → H) (W : World) (base : Nat) (args : Array Value) (ds gs : List (DataW H)) (before : List MemPlace)
    (hval0 : ∀ (j : Nat) t v, Try.f7.params[j]? = some t → args[j]? = some v → Value.okWide Try.prog W .any base t v)
    (hW : DataW.Whole enc Try.prog Try.f7.params.toList Rows.matchFitsSpec.vars false W args.toList ds gs before) (hk0 : Rows.uptoSmall H (ds ++ gs) = true) (hm0 : ∃ m, W.cell? ⟨0, 0, none⟩ = some (.int .i64 m))
    (hsz0 : (DataW.weightsEach Try.prog (Try.f7.params.toList ++ (Rows.OpenSpec.upto Rows.matchFitsSpec).bare.plain.varTypes Try.prog) (ds ++ gs)).all (· ≤ reachBytes) = true) :
    Calls Try.prog 7 args W fun e W' => ∃ v, e = .returned v ∧ Rows.matchFitsSpec.post enc Try.prog Try.f7 false true false false W args v W' := by
  have hsz : (DataW.weightsEach Try.prog (Try.f7.params.toList ++ (Rows.OpenSpec.upto Rows.matchFitsSpec).bare.plain.varTypes Try.prog) (ds ++ gs)).all (· ≤ reachBytes) = true := hsz0
  have hval : ∀ (j : Nat) t v, Try.f7.params[j]? = some t → args[j]? = some v → Value.okWide Try.prog W .any base t v := hval0
  have hW' := hW
  obtain ⟨p, q, hA0, hV, rfl, hfz, hnd⟩ := hW
  have hA : DataW.TrodAll enc Try.prog W 0 (fun _ => true) true Try.f7.params.toList args.toList ds p := hA0
  rw [Try.params7] at hA hval hsz
  obtain ⟨v0, vs0, d0, ds0, p0, q0, hargs, rfl, rfl, h0, r0⟩ := trodAll_cons hA
  obtain ⟨v1, vs1, d1, ds1, p1, q1, rfl, rfl, rfl, h1, r1⟩ := trodAll_cons r0
  obtain ⟨rfl, rfl, rfl⟩ := trodAll_nil r1
  obtain rfl : args = #[v0, v1] := by cases args; simp_all
  obtain ⟨rfl, rfl⟩ := trodVars_none hV
  have hk := of_decide_eq_true hk0
  clear hk0
  have hz0 : ∀ n ∈ d0.weights Try.prog 9, n ≤ reachBytes := fun n hn => by simpa using List.all_eq_true.1 hsz n (DataW.weights_mem_each (j := 0) (t := 9) rfl rfl n hn)
  obtain ⟨x0, rfl, rfl, rfl, y0⟩ := open_string Try.underlying9 (hval 0 9 v0 rfl rfl) h0
  have hF0 : x0.size ≤ 140737488351232 := by
    have z := hz0 x0.data.toList.length (by simp [DataW.weights])
    rw [data_length] at z
    exact z
  have hz1 : ∀ n ∈ d1.weights Try.prog 37, n ≤ reachBytes := fun n hn => by simpa using List.all_eq_true.1 hsz n (DataW.weights_mem_each (j := 1) (t := 37) rfl rfl n hn)
  have k1_ := h1
  have lt1 : ∀ x ∈ p1, x.block < W.heap.size := by obtain ⟨m, hm⟩ := k1_; exact DataW.trod_lt m _ _ _ hm
  obtain ⟨fuel1, hf1⟩ := h1
  obtain ⟨x1, hK1, hF1, hB1⟩ := (opn_struct3 Try.underlying37 (by kernel_rfl) (opn_string Try.underlying9) (opn_slice (B := 16) Try.underlying22 (by kernel_rfl) (by kernel_rfl) (⟨#[]⟩ : ByteArray) (opn_string Try.underlying9)) (opn_string Try.underlying9) (g_ := fun y_ => (⟨y_.1, y_.2.1, y_.2.2⟩ : S37)) (f_ := fun x_ : S37 => (x_.f0, x_.f1, x_.f2)) (fun _ => rfl) (fun _ => rfl)) H enc W _ _ _ _ _ _ hf1 hz1
  have hb1 : (x1.f0.size + 1) + ((x1.f1.map fun x_ => x_.size + 1).sum + 1) + (x1.f2.size + 1) + 1 ≤ Rows.uptoBulk d1 := hB1
  obtain ⟨cs1, rfl, _⟩ := okWide_struct Try.underlying37 (hval 1 37 v1 rfl rfl)
  have hKK1 : ((Kd.pair Kd.string (Kd.pair (Kd.slice 9 Kd.string) Kd.string))).K W (x1.f0, x1.f1, x1.f2) (Value.cells (.agg cs1)).toList := hK1
  obtain ⟨a1_0, r1_0, e1_0, g1_0, m1_0⟩ := hKK1
  obtain rfl : a1_0 = [.string x1.f0] := g1_0
  obtain ⟨a1_1, r1_1, e1_1, g1_1, m1_1⟩ := m1_0
  obtain ⟨A1_1, c1_1, rfl, hl1_1, hC1_1⟩ := g1_1
  obtain rfl : r1_1 = [.string x1.f2] := m1_1
  subst e1_1
  have ecs1 : cs1 = #[.string x1.f0, .slice A1_1 x1.f1.length c1_1, .string x1.f2] := by
    have h := e1_0
    simp only [Value.cells, List.cons_append, List.nil_append] at h
    exact Array.toList_inj.1 (by simpa using h)
  subst ecs1
  clear e1_0
  have hK : (x0.size + 1) + ((x1.f0.size + 1) + ((x1.f1.map fun x_ => x_.size + 1).sum + 1) + (x1.f2.size + 1) + 1) ≤ 1048576 := by
    simp only [List.append_nil, Rows.uptoBulkAll, Rows.uptoBulk, data_length] at hk
    omega
  clear hA0 hval0 hsz0 hsz
  have h := Pure.MatchFits x0 x1 hF0 hF1 hK
  refine (rosterlaw06_MatchFits.calls x0 x1.f0 _ _ x1.f1 x1.f2 true W hm0 hC1_1 hl1_1 h).mono fun e W' ⟨he, bel⟩ => ?_
  subst he
  exact ⟨_, rfl, _, _, _, [], _, [], hW', trodAll_mk1 (shut_bool Try.underlying4 _), (trodAll_cons_mk (shut_string Try.underlying9 y0) (trodAll_cons_mk (Below.trod laidOut (by kernel_rfl) (of_decide_eq_true (by kernel_rfl)) k1_ bel lt1) trodAll_mk0)), rfl, bel.frame _, fun h => by cases h⟩
set_option maxRecDepth 100000 in
theorem lifted (os : Os) (started : os.Started) (H : Type) (enc : TypeId × Value → H) (F : Stop.Interp) :
    ReturnsInHanded {} Try.checked os 7 .any ((Rows.OpenSpec.upto Rows.matchFitsSpec).pre6 enc Try.prog Try.f7 Rows.matchFitsUptoRow.domain false) (((Rows.OpenSpec.upto Rows.matchFitsSpec).at F).post enc Try.prog Try.f7 false true false false) := by
  refine CS.handed_shaped (C := Try.checked) (s := Rows.OpenSpec.upto Rows.matchFitsSpec) (k := Rows.uptoSmall) rfl own started (by kernel_rfl) Try.func7
    (OpenSpec.witness (enc := enc) (C := Try.checked) (s := Rows.OpenSpec.upto Rows.matchFitsSpec) (k := Rows.uptoSmall) rfl false ⟨#[], #[.string ByteArray.empty, .agg #[.string ByteArray.empty, .slice none 0 0, .string ByteArray.empty]], []⟩ 8 (by kernel_rfl) (by kernel_rfl) (by kernel_rfl)
      (x := ([.lit (.string []), .agg [.lit (.string []), .nil, .lit (.string [])]], [], [])) (by kernel_rfl) rfl (by kernel_rfl)) ?_
  intro W base args ds gs before hval hW _ hk hsz hsh _
  exact contract H enc W base args ds gs before hval hW hk (Go.Proofs.cell_of_shapedOpen_int (zero := #[.int .i64 0]) (t := 3) hsh (of_decide_eq_true (by kernel_rfl)) (by kernel_rfl) rfl (by kernel_rfl) (by kernel_rfl) Try.underlying3) hsz
theorem over : Rows.MatchFitsUptoSaid :=
  OpenClaim.holds_of_cond 7 Try.f7 rfl rfl rfl rfl rfl rfl rfl ⟨rfl, rfl, rfl, rfl, rfl⟩ rfl rfl rfl rfl rfl (by kernel_rfl) Try.func7 (by kernel_rfl)
    (of_decide_eq_true (by kernel_rfl)) (by unfold Func.isWrapper; first | (rw [if_pos (by decide +kernel)]; kernel_rfl) | (rw [if_neg (by decide +kernel)]; exact ⟨rfl, rfl⟩))
    (fun os started H enc _ F => lifted os started H enc F)
#print axioms over
end Go.Proofs.Ytjakabacdnfmnaa.rowMatchFits
namespace Go.Proofs.Ytjakabacdnfmnaa
/-- The statement, under a short name, for the claim. -/
theorem matchFits_holds : Rows.MatchFitsUptoSaid := rowMatchFits.over
end Go.Proofs.Ytjakabacdnfmnaa

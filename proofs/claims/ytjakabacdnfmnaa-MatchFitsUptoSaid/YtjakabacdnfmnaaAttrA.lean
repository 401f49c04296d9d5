/- By hand: attr.Print and the reference's Print. For every type, list of options and world. -/
import Derived.Test.YtjakabacdnfmnaaBld
import Derived.Test.YtjakabacdnfmnaaWWords
import Derived.Test.YtjakabacdnfmnaaWLast
import Derived.Test.YtjakabacdnfmnaaWMore
import Derived.Test.YtjakabacdnfmnaaBlk
import Derived.Deep.Upon
import Derived.Lib.ConvBytes
import Derived.Lib.Hide
import Derived.Lib.SlBytesRow
set_option linter.unusedVariables false
set_option linter.unusedSimpArgs false
namespace Go.Proofs.Ytjakabacdnfmnaa.AttrW
open Go.RowKit Go.Proofs.Ytjakabacdnfmnaa.Blk Go.Proofs.Ytjakabacdnfmnaa.Bld Go.Proofs.YtjakabacdnfmnaaW.PrintWords Go.Proofs.YtjakabacdnfmnaaW.PrintLast Go.Proofs.YtjakabacdnfmnaaW.PrintMore
/-- What Print writes. -/
def pr (t : ByteArray) (os : List ByteArray) : List UInt8 := t.data.toList ++ (os.map fun o => 59 :: o.data.toList).flatten
theorem pr_snoc (t : ByteArray) (os : List ByteArray) (i : Nat) (hi : i < os.length) : pr t (os.take (i + 1)) = pr t (os.take i) ++ [59] ++ (os.getD i ByteArray.empty).data.toList := by
  unfold pr
  rw [List.take_add_one, List.getElem?_eq_getElem hi, List.map_append, List.flatten_append]
  simp only [List.getD_eq_getElem?_getD, List.getElem?_eq_getElem hi, Option.toList, List.map_cons, List.map_nil, List.flatten_cons, List.flatten_nil, Option.getD_some]
  simp
theorem pr_mono (t : ByteArray) (os : List ByteArray) (i : Nat) : (pr t (os.take i)).length ≤ (pr t os).length := by
  unfold pr
  rw [List.length_append, List.length_append]
  have h : ((os.take i).map fun o => 59 :: o.data.toList).flatten.length ≤ (os.map fun o => 59 :: o.data.toList).flatten.length := by
    conv => rhs; rw [← List.take_append_drop i os, List.map_append, List.flatten_append, List.length_append]
    omega
  omega
/-- A list of texts known in a world. -/
def Txts (w : World) (A : Option Addr) (os : List ByteArray) : Prop := ∀ i, i < os.length → ∃ g o, A = some ⟨g, o, none⟩ ∧ w.cell? ⟨g, o + i, none⟩ = some (.string (os.getD i ByteArray.empty))
theorem Txts.on {w w' : World} {A : Option Addr} {os : List ByteArray} (h : Txts w A os) (hb : Below w.heap.size w w') : Txts w' A os := fun i hi => by
  obtain ⟨g, o, e, hc⟩ := h i hi
  exact ⟨g, o, e, (hb.cell (p := ⟨g, o + i, none⟩) (World.block_lt_of_cell? w _ hc)).trans hc⟩
set_option maxHeartbeats 2000000 in
set_option maxRecDepth 100000 in
theorem print_as (t : ByteArray) (A : Option Addr) (c : Nat) (os : List ByteArray) (w : World) (h : Txts w A os) (hn : os.length ≤ 140737488355328) (hs : (pr t os).length ≤ 140737488355328) :
    Calls Try.prog 9 #[.agg #[.string t, .slice A os.length c]] w fun e w' => e = .returned (.string ⟨(pr t os).toArray⟩) ∧ Below w.heap.size w w' := by
  have HT := Lib.hid h
  have HS := Lib.hid hs
  have h0 : (pr t (os.take 0)) = t.data.toList := by simp [pr]
  have HP0 := Lib.hid h0
  have hts : t.size ≤ 140737488355328 := by
    have := pr_mono t os 0
    rw [h0] at this
    have e : t.size = t.data.toList.length := (Array.length_toList (xs := t.data)).symm
    omega
  have HB := Lib.hid ((Lib.IsBuilderF.of (Lib.fresh_isBuilder 45 5 (w.alloc (.cells #[.string t, .slice A os.length c] 25)))))
  rw [World.size_alloc] at HB
  have HW := Lib.hid ((Below.refl (w.heap.size + 1) (w.alloc (.cells #[.string t, .slice A os.length c] 25))).alloc (by rw [World.size_alloc]; exact Nat.le_refl _) (.cells #[.pointer none, .slice none 0 0] 45))
  have HBX := Lib.hid ((At.fresh w [.string t, .slice A os.length c] 25).alloc (.cells #[.pointer none, .slice none 0 0] 45))
  clear h hs h0
  go_enter Try.func9, Try.ntmps9
  go_wp2_with (first
    | (go_at_call 25; ((with_reducible refine (writeString_as (w.heap.size + 1) (w.heap.size + 1) [] t _ ?hx ?hl ?hb).mono ?_); (case hx => exact HB.out); (case hl => simpa using hts); (case hb => rw [World.size_alloc, World.size_alloc]; omega); rintro e W1 ⟨rfl, q1, q2, _⟩; have HX1 := HBX.out.below q2 (by omega); have c1 := HX1.get 1 _ rfl; have HQ : Hid (Lib.IsBuilderF 45 5 (w.heap.size + 1) (w.heap.size + 1) (Lib.byteCells (pr t (os.take 0))) W1 ∧ Below (w.heap.size + 1) (w.alloc (.cells #[.string t, .slice A os.length c] 25)) W1) := Lib.hid ⟨.inr (by rw [HP0.out]; exact q1), HW.out.trans (q2.mono (Nat.le_refl _))⟩; clear q1 q2 HX1))
    | go_in)
  go_loopw [5, 12] (fun v5 v wr => ∃ i : Nat, i ≤ os.length ∧ v = .int .i64 (i : Nat) ∧ Hid (Lib.IsBuilderF 45 5 (w.heap.size + 1) (w.heap.size + 1) (Lib.byteCells (pr t (os.take i))) wr ∧ Below (w.heap.size + 1) (w.alloc (.cells #[.string t, .slice A os.length c] 25)) wr)) (fun _ v _ => os.length - (intOf v).toNat)
  case atStart => exact ⟨0, Nat.zero_le _, rfl, HQ⟩
  case round =>
    obtain ⟨i, hi, rfl, HR⟩ := hrel
    have hbw : Below w.heap.size w wr := ((Below.refl w.heap.size w).alloc (Nat.le_refl _) _).trans (HR.out.2.mono (by omega))
    have hsz : w.heap.size + 1 ≤ wr.heap.size := by have := HR.out.2.size; rw [World.size_alloc] at this; exact this
    by_cases hin : i < os.length
    · have hlt : (i : Int) < (os.length : Int) := by omega
      obtain ⟨g, o, rfl, hc⟩ := HT.out.on hbw i hin
      have hm := pr_mono t os (i + 1)
      have hsn := pr_snoc t os i hin
      have hle := HS.out
      generalize os.getD i ByteArray.empty = x at hc hsn
      have hl2 : (pr t (os.take i)).length + 1 + x.size ≤ 140737488355328 := by
        rw [hsn] at hm
        simp only [List.length_append, List.length_cons, List.length_nil] at hm
        have e : x.size = x.data.toList.length := (Array.length_toList (xs := x.data)).symm
        omega
      have HSN := Lib.hid hsn
      have HBW := Lib.hid hbw
      clear hm hsn hle hbw
      go_wp2_with (first
        | (go_at_call 25; (first
            | ((with_reducible refine (writeString_as (w.heap.size + 1) (w.heap.size + 1) _ ⟨#[59]⟩ _ HR.out.1 ?hl ?hb).mono ?_); (case hl => rw [Lib.byteCells_length]; show _ + 1 ≤ _; omega); (case hb => exact hsz); rintro e W2 ⟨rfl, q1, q2, _⟩; have HQ2 : Hid (Lib.IsBuilderF 45 5 (w.heap.size + 1) (w.heap.size + 1) (Lib.byteCells (pr t (os.take i) ++ [59])) W2 ∧ Below (w.heap.size + 1) wr W2) := Lib.hid ⟨.inr (by rw [Lib.byteCells_append]; exact q1), q2⟩; clear q1 q2)
            | ((with_reducible refine (writeString_as (w.heap.size + 1) (w.heap.size + 1) _ x _ HQ2.out.1 ?hl ?hb).mono ?_); (case hl => rw [Lib.byteCells_length, List.length_append]; simp only [List.length_cons, List.length_nil]; omega); (case hb => have := HQ2.out.2.size; omega); rintro e W3 ⟨rfl, q1, q2, _⟩; have HQ3 : Hid (Lib.IsBuilderF 45 5 (w.heap.size + 1) (w.heap.size + 1) (Lib.byteCells (pr t (os.take (i + 1)))) W3 ∧ Below (w.heap.size + 1) (w.alloc (.cells #[.string t, .slice (some ⟨g, o, none⟩) os.length c] 25)) W3) := Lib.hid ⟨.inr (by rw [HSN.out, Lib.byteCells_append]; exact q1), HR.out.2.trans (HQ2.out.2.trans q2)⟩; clear q1 q2)))
        | go_in)
      go_roundw
      case rel => exact ⟨i + 1, by omega, by go_num, HQ3⟩
      case measure => simp [intOf]; omega
    · have hlt : ¬ ((i : Int) < (os.length : Int)) := by omega
      obtain rfl : i = os.length := by omega
      have HR2 := HR.out
      rw [List.take_of_length_le (Nat.le_refl _)] at HR2
      have HR3 := Lib.hid HR2
      clear HR2
      go_wp2_with (first
        | (go_at_call 26; ((with_reducible refine (string_as (w.heap.size + 1) (w.heap.size + 1) _ _ HR3.out.1 hsz).mono ?_); rintro e W2 ⟨rfl, _, q2, _⟩; have HQ2 := Lib.hid (hbw.trans (q2.mono (by omega))); clear q2))
        | go_in)
      go_ret
      exact ⟨rfl, HQ2.out⟩
end Go.Proofs.Ytjakabacdnfmnaa.AttrW

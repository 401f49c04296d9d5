/- By hand: the reference's Print, the law's comparison, and the law AttrPrints. For every type, list of options and world. -/
import Derived.Test.YtjakabacdnfmnaaAttrA
import Derived.Test.YtjakabacdnfmnaaByteM
set_option linter.unusedVariables false
set_option linter.unusedSimpArgs false
namespace Go.Proofs.Ytjakabacdnfmnaa.AttrW
open Go.RowKit Go.Proofs.Ytjakabacdnfmnaa.Blk Go.Proofs.Ytjakabacdnfmnaa.Bld Go.Proofs.Ytjakabacdnfmnaa.ByteM Go.Proofs.YtjakabacdnfmnaaW.PrintWords Go.Proofs.YtjakabacdnfmnaaW.PrintLast Go.Proofs.YtjakabacdnfmnaaW.PrintMore
set_option maxHeartbeats 2000000 in
set_option maxRecDepth 100000 in
theorem rprint_as (t : ByteArray) (A : Option Addr) (c : Nat) (os : List ByteArray) (w : World) (h : Txts w A os) (hn : os.length ≤ 140737488355328) (hs : (pr t os).length ≤ 140737488355328) :
    Calls Try.prog 8 #[.agg #[.string t, .slice A os.length c]] w fun e w' => e = .returned (.string ⟨(pr t os).toArray⟩) ∧ Below w.heap.size w w' := by
  obtain ⟨i0, hi0, hz0, hz1, hz2⟩ := info_parts info5
  have HT := Lib.hid h
  have HS := Lib.hid hs
  have h0 : (pr t (os.take 0)) = t.data.toList := by simp [pr]
  have hts : t.size ≤ 140737488355328 := by
    have := pr_mono t os 0
    rw [h0] at this
    have e : t.size = t.data.toList.length := (Array.length_toList (xs := t.data)).symm
    omega
  have HBX := Lib.hid (At.fresh w [.string t, .slice A os.length c] 25)
  have hsz1 : (w.alloc (.cells #[.string t, .slice A os.length c] 25)).heap.size = w.heap.size + 1 := World.size_alloc _ _
  have HQ : Hid (OwnsM (Lib.bytesWorld (w.alloc (.cells #[.string t, .slice A os.length c] 25)) 5 t) (w.heap.size + 1) 5 (.slice (some ⟨w.heap.size + 1, 0, none⟩) t.size (grownCap (w.alloc (.cells #[.string t, .slice A os.length c] 25)) t.size 0 5)) (pr t (os.take 0)).length (Lib.byteCells (pr t (os.take 0))) ∧ Below (w.heap.size + 1) (w.alloc (.cells #[.string t, .slice A os.length c] 25)) (Lib.bytesWorld (w.alloc (.cells #[.string t, .slice A os.length c] 25)) 5 t)) := Lib.hid ⟨by
      have := ownsM_conv (w.alloc (.cells #[.string t, .slice A os.length c] 25)) 5 t hts (w.heap.size + 1) (by rw [hsz1]; exact Nat.le_refl _)
      rw [hsz1] at this
      rw [h0]
      have e : t.size = t.data.toList.length := (Array.length_toList (xs := t.data)).symm
      rw [← e]
      exact this, below_conv _ 5 t (by rw [hsz1]; exact Nat.le_refl _)⟩
  have kb := fun W => Lib.run_convert_string_bytes (P := Try.prog) W 9 42 5 t Try.underlying9 Try.underlying42 Try.underlying5
  clear h hs h0
  go_enter Try.func8, Try.ntmps8
  go_wp2
  go_loopw [3, 4] (fun v3 v wr => ∃ i : Nat, i ≤ os.length ∧ v = .int .i64 (i : Nat) ∧ Hid (OwnsM wr (w.heap.size + 1) 5 v3 (pr t (os.take i)).length (Lib.byteCells (pr t (os.take i))) ∧ Below (w.heap.size + 1) (w.alloc (.cells #[.string t, .slice A os.length c] 25)) wr)) (fun _ v _ => os.length - (intOf v).toNat)
  case atStart => exact ⟨0, Nat.zero_le _, rfl, HQ⟩
  case round =>
    obtain ⟨i, hi, rfl, HR⟩ := hrel
    have hbw : Below w.heap.size w wr := ((Below.refl w.heap.size w).alloc (Nat.le_refl _) _).trans (HR.out.2.mono (by omega))
    have hsz : w.heap.size + 1 ≤ wr.heap.size := by have := HR.out.2.size; rw [hsz1] at this; exact this
    have HX1 := HBX.out.below HR.out.2 (by omega)
    have c1 := HX1.get 1 _ rfl
    clear HX1
    by_cases hin : i < os.length
    · have hlt : (i : Int) < (os.length : Int) := by omega
      obtain ⟨g, o, rfl, hcw⟩ := HT.out i hin
      have hbl := World.block_lt_of_cell? w _ hcw
      have hc := (hbw.cell (p := ⟨g, o + i, none⟩) hbl).trans hcw
      clear hcw
      have hbl : g < w.heap.size := hbl
      have hm := pr_mono t os (i + 1)
      have hsn := pr_snoc t os i hin
      have hle := HS.out
      generalize os.getD i ByteArray.empty = x at hc hsn
      have e : x.size = x.data.toList.length := (Array.length_toList (xs := x.data)).symm
      have hl2 : (pr t (os.take i)).length + 1 + x.size ≤ 140737488355328 := by
        rw [hsn] at hm
        simp only [List.length_append, List.length_cons, List.length_nil] at hm
        omega
      have HSN := Lib.hid hsn
      have HLX := Lib.hid e
      have HBW := Lib.hid hbw
      clear hm hsn hle hbw e
      go_wp2_with (first
        | (at_builtin; refine wpList_append_M _ rfl (.tmp 15) (.tmp 16) 42 42 rfl (w.heap.size + 1) 5 i0 Try.underlying42 hi0 hz0 hz1 hz2 _ _ _ rfl (HR.out.1.alloc _) _ 1 [.int .u8 59] rfl (Src.ofSlice _ Try.underlying42 ⟨wr.heap.size, 0, none⟩ 1 1 [.int .u8 59] rfl (cell_one_new _ _ _) (by simp [Value.oneCell'])) (by omega) (by rw [World.size_alloc]; omega) ?_; intro v5 W2 q1 q2; have HQ2 := Lib.hid (And.intro q1 ((((Below.refl (w.heap.size + 1) wr).alloc hsz _)).grown q2 (by rw [World.size_alloc]; omega) (fun j e => (HR.out.1.lt _ e).1))); have c2 := (HQ2.out.2.cell (p := ⟨w.heap.size, 1, none⟩) (by show w.heap.size < _; omega)).trans c1; have hc2 := (HQ2.out.2.cell (p := ⟨g, o + i, none⟩) (by show g < _; omega)).trans hc; clear q1 q2)
        | (at_builtin; refine wpList_append_M _ rfl (.tmp 18) (.tmp 23) 42 9 rfl (w.heap.size + 1) 5 i0 Try.underlying42 hi0 hz0 hz1 hz2 _ _ _ rfl HQ2.out.1 _ x.size _ rfl (Src.ofString _ Try.underlying9 x) (by omega) (by have := HQ2.out.2.size; omega) ?_; intro v6 W3 q1 q2; have HQ3 : Hid (OwnsM W3 (w.heap.size + 1) 5 v6 (pr t (os.take (i + 1))).length (Lib.byteCells (pr t (os.take (i + 1)))) ∧ Below (w.heap.size + 1) (w.alloc (.cells #[.string t, .slice (some ⟨g, o, none⟩) os.length c] 25)) W3) := Lib.hid ⟨by rw [HSN.out, Lib.byteCells_append, Lib.byteCells_append, List.length_append, List.length_append, ← HLX.out]; exact q1, HR.out.2.trans (HQ2.out.2.grown q2 (by have := HQ2.out.2.size; omega) (fun j e => (HQ2.out.1.lt _ e).1))⟩; clear q1 q2)
        | go_in)
      go_roundw
      case rel => exact ⟨i + 1, by omega, by go_num, HQ3⟩
      case measure => simp [intOf]; omega
    · have hlt : ¬ ((i : Int) < (os.length : Int)) := by omega
      obtain rfl : i = os.length := by omega
      have HR2 := HR.out.1
      rw [List.take_of_length_le (Nat.le_refl _)] at HR2
      have hk := run_back_M (P := Try.prog) wr 42 5 9 Try.underlying42 Try.underlying5 Try.underlying9 _ _ _ _ rfl HR2
      clear HR2
      go_wp2
      go_ret
      exact ⟨rfl, hbw⟩
end Go.Proofs.Ytjakabacdnfmnaa.AttrW

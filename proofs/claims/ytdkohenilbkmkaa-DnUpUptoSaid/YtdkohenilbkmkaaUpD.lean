/- By hand: the reference's Up. For every name and world. -/
import Derived.Test.YtdkohenilbkmkaaUpC
import Derived.Maps.AppendAt
set_option linter.unusedVariables false
set_option linter.unusedSimpArgs false
namespace Go.Proofs.Ytdkohenilbkmkaa.UpW
open Go.RowKit Go.Proofs.Ytdkohenilbkmkaa.XT Go.Proofs.Ytdkohenilbkmkaa.RFun Go.Proofs.Ytdkohenilbkmkaa.RGen Go.Proofs.YtdkohenilbkmkaaW.PrintWords Go.Proofs.YtdkohenilbkmkaaW.PrintLast Go.Proofs.YtdkohenilbkmkaaW.PrintMore
/-- The header of what is left behind i parts. -/
def cutH (A : Option Addr) (n c i : Nat) : Value := .slice (if c = i then A else A.map (·.add (i * 1))) (n - i) (c - i)
theorem info23 : (Try.prog.info? 23).map (fun i => (i.zero, i.size, i.bytes)) = some (some (.slice none 0 0), 1, 24) := by kernel_rfl
def WantQ (w : World) (A : Option Addr) (c : Nat) (D : DN) (e : Ending) (w' : World) : Prop := ∃ (g cap : Nat) (hs : List Value), e = .returned (.slice (some ⟨g, 0, none⟩) (D.length + 1) cap) ∧ w.heap.size ≤ g ∧ w'.heap[g]? = some (.cells hs.toArray 23 (0, 0)) ∧ (∀ i, i < D.length + 1 → hs[i]? = some (cutH A D.length c i)) ∧ Below w.heap.size w w'
set_option maxRecDepth 100000 in
set_option maxHeartbeats 4000000 in
theorem want_as (w : World) (A : Option Addr) (c : Nat) (D : DN) (hc : D.length ≤ c) (hD : D.length ≤ 1048576) : Calls Try.prog 8 #[.slice A D.length c] w (WantQ w A c D) := by
  obtain ⟨i0, hi, hz0, hz1, hz2⟩ := info_parts info23
  obtain ⟨j0, hj0, _, hsz, _⟩ := info_parts info44
  have HP0 : Hid (Below w.heap.size w w ∧ w.ownsRow w.heap.size 23 1 (.slice none 0 0) 0 ((List.range 0).map fun i => cutH A D.length c i)) := Lib.hid ⟨Below.refl _ _, World.ownsRow_nil _ _ _ _⟩
  go_enter Try.func8, Try.ntmps8
  go_wp2
  go_loopw [3, 4] (fun v3 v4 wr => ∃ i : Nat, i ≤ D.length + 1 ∧ v4 = .int .i64 (i : Nat) ∧ Hid (Below w.heap.size w wr ∧ wr.ownsRow w.heap.size 23 1 v3 i ((List.range i).map fun i => cutH A D.length c i))) (fun _ v _ => D.length + 1 - (intOf v).toNat)
  case atStart => exact ⟨0, Nat.zero_le _, rfl, HP0⟩
  case round =>
    clear HP0
    obtain ⟨i, hi', rfl, HW⟩ := hrel
    by_cases hin : i ≤ D.length
    · have hlt : (i : Int) ≤ (D.length : Int) := by omega
      have hlt' : ¬ (D.length : Int) < (i : Int) := by omega
      have hwi : IntKind.i64.wrap ((i : Int) + 1) = ((i + 1 : Nat) : Int) := by rw [IntWalk.i64_in _ (by omega)]; rfl
      have hcut := cut_from (P := Try.prog) 23 44 .i64 Try.underlying23 hj0 1 hsz A D.length c (i : Int) (by omega) (by omega)
      rw [Int.toNat_natCast] at hcut
      have hsn : ((List.range (i + 1)).map fun i => cutH A D.length c i) = ((List.range i).map fun i => cutH A D.length c i) ++ [cutH A D.length c i] := by rw [List.range_succ, List.map_append]; rfl
      have HSN := Lib.hid hsn
      have hch : cutH A D.length c i = .slice (if c = i then A else A.map (·.add (i * 1))) (D.length - i) (c - i) := rfl
      rw [hch] at HSN
      generalize (if c = i then A else A.map (·.add (i * 1))) = Ai at hcut HSN
      generalize ((List.range i).map fun i => cutH A D.length c i) = rows at HW HSN
      have hown := HW.out.2
      have hsb := HW.out.1.size
      have hml : i + 1 ≤ maxLen := by simp only [maxLen]; omega
      clear hch hsn
      go_wp2_with (first
        | (at_builtin; refine wpList_append_own _ rfl (.tmp 11) (.tmp 15) 24 rfl w.heap.size 23 i0 (.slice none 0 0) 1 24 Try.underlying24 hi hz0 hz1 hz2 rfl (by decide) _ _ _ rfl (hown.alloc _) ⟨wr.heap.size, 0, none⟩ 1 1 [.slice Ai (D.length - i) (c - i)] rfl rfl (cell_one_new _ _ _) (by simp [Value.oneCell']) hml (by omega) (by rw [World.size_alloc]; omega) ?_; intro v3 w3 own3 grow3 _; have HQ : Hid (Below w.heap.size w w3 ∧ w3.ownsRow w.heap.size 23 1 v3 (i + 1) ((List.range (i + 1)).map fun i => cutH A D.length c i)) := Lib.hid ⟨(HW.out.1.alloc hsb _).grown grow3 (by rw [World.size_alloc]; omega) (fun j e => (hown.lt _ e).1), by rw [HSN.out]; exact own3⟩; clear own3 grow3)
        | go_in)
      go_roundw
      case rel => exact ⟨i + 1, by omega, by go_num, HQ⟩
      case measure => simp [intOf]; omega
    · have hlt : ¬ (i : Int) ≤ (D.length : Int) := by omega
      have hlt' : (D.length : Int) < (i : Int) := by omega
      obtain rfl : i = D.length + 1 := by omega
      obtain ⟨hn, ⟨_, h0⟩ | ⟨g, cap, cur, rfl, hg, h4, h5, h6, h7, h8⟩⟩ := HW.out.2
      · omega
      · have hbw := HW.out.1
        go_wp2
        go_ret
        refine ⟨g, cap, cur.toList, rfl, hg, by rw [Array.toArray_toList]; exact h4, fun i hi => ?_, hbw⟩
        have h9 : (cur.toList.take ((D.length + 1) * 1))[i]? = some (cutH A D.length c i) := by
          rw [h8, List.getElem?_map]
          simp [hi]
        rwa [List.getElem?_take_of_lt (by omega)] at h9
end Go.Proofs.Ytdkohenilbkmkaa.UpW

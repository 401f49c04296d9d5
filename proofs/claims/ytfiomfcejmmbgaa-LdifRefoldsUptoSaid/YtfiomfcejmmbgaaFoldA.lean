/- By hand: ldif.folded. For every row, line of at most 1048576 bytes, width and world. -/
import Derived.Test.YtfiomfcejmmbgaaFoldN
set_option linter.unusedVariables false
set_option linter.unusedSimpArgs false
namespace Go.Proofs.Ytfiomfcejmmbgaa.LinesW
open Go.RowKit Go.Proofs.Ytfiomfcejmmbgaa.Blk Go.Proofs.Ytfiomfcejmmbgaa.ByteM Go.Proofs.Ytfiomfcejmmbgaa.XL Go.Proofs.Ytfiomfcejmmbgaa.XV Go.Proofs.Ytfiomfcejmmbgaa.LinesP Go.Proofs.YtfiomfcejmmbgaaW.PrintWords Go.Proofs.YtfiomfcejmmbgaaW.PrintLast Go.Proofs.YtfiomfcejmmbgaaW.PrintMore
theorem take_str (x : ByteArray) (n : Nat) : (x.extract 0 n).data.toList = x.data.toList.take n := by
  rw [ByteArray.data_extract, Array.toList_extract, List.extract_eq_take_drop]
  simp
theorem drop_str (x : ByteArray) (n : Nat) : (x.extract n x.size).data.toList = x.data.toList.drop n := by
  rw [ByteArray.data_extract, Array.toList_extract, List.extract_eq_take_drop]
  exact List.take_of_length_le (by rw [List.length_drop, Array.length_toList]; exact Nat.le_refl _)
theorem ST.bare {w0 W : World} {B : Nat} {v : Value} {l : List UInt8} {ls : List (Nat × Int)} (h : ST w0 B W v l ls) : ST w0 B W v l [] := ⟨h.row, h.base, h.below, h.kept, fun x hx => by cases hx⟩
def strSz : Value → Nat
  | .string s => s.size
  | _ => 0
theorem folded_as (w0 W : World) (B : Nat) (v : Value) (l : List UInt8) (x : ByteArray) (wd : Nat) (h : ST w0 B W v l []) (hx : x.size ≤ 1048576) (h2 : 2 ≤ wd) (h63 : wd ≤ 9223372036854775807) (hn : (l ++ refo wd 0 x.data.toList).length ≤ 140737488355328) :
    Calls Try.prog 21 #[v, .string x, .int .i64 (wd : Int)] W fun e w' => ∃ v', e = .returned v' ∧ ST w0 B w' v' (l ++ refo wd 0 x.data.toList) [] := by
  have HS := Lib.hid h
  clear h
  have hxl : x.data.toList.length = x.size := Array.length_toList
  by_cases hfit : x.size ≤ wd
  · have HR := Lib.hid (refo_fits wd x.data.toList (by omega))
    have hfit' : (x.size : Int) ≤ (wd : Int) := by omega
    rw [HR.out] at hn
    simp only [List.length_append, List.length_cons, List.length_nil, hxl] at hn
    have hb1 : (l ++ x.data.toList).length ≤ 140737488355328 := by rw [List.length_append]; omega
    have hb2 : ((l ++ x.data.toList) ++ [(10 : UInt8)]).length ≤ 140737488355328 := by simp only [List.length_append, List.length_cons, List.length_nil]; omega
    go_enter Try.func21, Try.ntmps21
    go_wp2_with (first
      | ((with_reducible refine gate_builtin (b := .append) (xs := #[.tmp 12, .tmp 13]) rfl ?_); at_builtin; refine ST.wp HS.out rfl (.tmp 12) (.tmp 13) 40 9 rfl Try.underlying40 info5 rfl _ x.data.toList rfl (Src.text _ Try.underlying9 x _ rfl) hb1 ?_; intro v1 w1 q1; have HS1 := Lib.hid q1; clear q1)
      | ((with_reducible refine gate_builtin (b := .append) (xs := #[.tmp 14, .tmp 15]) rfl ?_); at_builtin; refine ST.wp (HS1.out.lit 10) rfl (.tmp 14) (.tmp 15) 40 40 rfl Try.underlying40 info5 rfl _ [10] rfl (LitAt.src ((HS1.out.lit 10).lits (w1.heap.size, 10) List.mem_cons_self).1 Try.underlying40) hb2 ?_; intro v2 w2 q1; have HS2 := Lib.hid q1; clear q1)
      | go_in)
    go_ret
    exact ⟨_, rfl, by rw [HR.out, ← List.append_assoc]; exact HS2.out.bare⟩
  · have hlt : wd < x.size := by omega
    have hfit' : ¬ (x.size : Int) ≤ (wd : Int) := by omega
    have hle : (wd : Int) ≤ (x.size : Int) := by omega
    have HR := Lib.hid (refo_folds wd x.data.toList (by omega))
    obtain ⟨T, hT⟩ : ∃ T, T = l ++ refo wd 0 x.data.toList := ⟨_, rfl⟩
    have HT := Lib.hid hT
    rw [← hT] at hn ⊢
    clear hT
    have hnn := hn
    rw [HT.out, HR.out] at hnn
    simp only [List.length_append, List.length_cons, List.length_nil, List.length_take, hxl] at hnn
    have HX0 : Hid ((x.extract 0 wd).data.toList = x.data.toList.take wd) := Lib.hid (take_str x wd)
    have HX1 : Hid ((x.extract wd x.size).data.toList = x.data.toList.drop wd) := Lib.hid (drop_str x wd)
    have hb1 : (l ++ x.data.toList.take wd).length ≤ 140737488355328 := by rw [List.length_append, List.length_take]; omega
    have hb2 : ((l ++ x.data.toList.take wd) ++ [(10 : UInt8)]).length ≤ 140737488355328 := by simp only [List.length_append, List.length_cons, List.length_nil, List.length_take]; omega
    clear hnn
    go_enter Try.func21, Try.ntmps21
    go_wp2_with (first
      | ((with_reducible refine gate_builtin (b := .append) (xs := #[.tmp 17, .tmp 20]) rfl ?_); at_builtin; refine ST.wp HS.out rfl (.tmp 17) (.tmp 20) 40 9 rfl Try.underlying40 info5 rfl _ (x.data.toList.take wd) rfl (Src.text _ Try.underlying9 _ _ HX0.out) hb1 ?_; intro v1 w1 q1; have HS1 := Lib.hid q1; clear q1)
      | ((with_reducible refine gate_builtin (b := .append) (xs := #[.tmp 21, .tmp 22]) rfl ?_); at_builtin; refine ST.wp (HS1.out.lit 10) rfl (.tmp 21) (.tmp 22) 40 40 rfl Try.underlying40 info5 rfl _ [10] rfl (LitAt.src ((HS1.out.lit 10).lits (w1.heap.size, 10) List.mem_cons_self).1 Try.underlying40) hb2 ?_; intro v2 w2 q1; have HS2 := Lib.hid q1; clear q1)
      | go_in)
    have hz1 : (x.extract wd x.size).size ≤ x.size - wd := by rw [ByteArray.size_extract]; omega
    go_loopw [0, 1, 7] (fun v0 v1 v7 wr => ∃ (q : Nat) (l' : List UInt8) (y : ByteArray), v1 = .string y ∧ y.size ≤ 1048576 ∧ Hid (ST w0 B wr v0 l' []) ∧ Hid (T = l' ++ tl wd (wd + q * (wd - 1)) y.data.toList)) (fun _ v1 _ _ => strSz v1)
    case atStart => exact ⟨0, _, _, rfl, by omega, Lib.hid HS2.out.bare, Lib.hid (by rw [HX1.out, HT.out, HR.out]; simp)⟩
    case round =>
      clear HS HS1 HS2 HX0 HX1 hz1 hb1 hb2 HT HR
      obtain ⟨q, l', y, rfl, hy, HS, HT⟩ := hrel
      have hyl : y.data.toList.length = y.size := Array.length_toList
      by_cases hy0 : y.size = 0
      · have hye : (y.toList == (⟨#[]⟩ : ByteArray).toList) = true := by rw [empty_eq, hy0]; rfl
        have hye2 : (y.toList == ([] : List UInt8)) = true := by rw [← hye, toList_data ⟨#[]⟩]
        have hnil : y.data.toList = [] := List.length_eq_zero_iff.1 (by omega)
        have HE : Hid (T = l') := Lib.hid (by rw [HT.out, hnil, tl_nil, List.append_nil])
        clear hnil hyl
        go_wp2
        go_ret
        exact ⟨_, rfl, by rw [HE.out]; exact HS.out⟩
      · have hye : (y.toList == (⟨#[]⟩ : ByteArray).toList) = false := by rw [empty_eq]; exact beq_eq_false_iff_ne.mpr hy0
        have hye2 : (y.toList == ([] : List UInt8)) = false := by rw [← hye, toList_data ⟨#[]⟩]
        have hne : y.data.toList ≠ [] := fun e => by rw [e] at hyl; exact hy0 hyl.symm
        have hw1 : IntKind.i64.wrap ((wd : Int) - 1) = ((wd - 1 : Nat) : Int) := by rw [IntWalk.i64_in _ (by omega)]; omega
        obtain ⟨nm, hnm⟩ : ∃ nm, nm = min y.size (wd - 1) := ⟨_, rfl⟩
        have hmin : min (y.size : Int) ((wd - 1 : Nat) : Int) = (nm : Int) := by omega
        have hnm0 : 0 < nm := by omega
        have hnmy : nm ≤ y.size := by omega
        have hnmi : (nm : Int) ≤ (y.size : Int) := by omega
        have htk : y.data.toList.take nm = y.data.toList.take (wd - 1) := by
          rcases Nat.le_total y.size (wd - 1) with hc | hc
          · rw [List.take_of_length_le (by omega), List.take_of_length_le (by omega)]
          · rw [show nm = wd - 1 by omega]
        have hdr : y.data.toList.drop nm = y.data.toList.drop (wd - 1) := by
          rcases Nat.le_total y.size (wd - 1) with hc | hc
          · rw [List.drop_eq_nil_of_le (by omega), List.drop_eq_nil_of_le (by omega)]
          · rw [show nm = wd - 1 by omega]
        have HY0 : Hid ((y.extract 0 nm).data.toList = y.data.toList.take nm) := Lib.hid (take_str y nm)
        have hT2 : T = (((l' ++ [(32 : UInt8)]) ++ y.data.toList.take nm) ++ [(10 : UInt8)]) ++ tl wd (wd + (q + 1) * (wd - 1)) (y.extract nm y.size).data.toList := by
          rw [HT.out, tl_step wd q h2 _ hne, drop_str, hdr, htk]
          simp
        have HT2 := Lib.hid hT2
        have hln := congrArg List.length hT2
        simp only [List.length_append, List.length_cons, List.length_nil, List.length_take] at hln
        have hb1 : (l' ++ [(32 : UInt8)]).length ≤ 140737488355328 := by simp only [List.length_append, List.length_cons, List.length_nil]; omega
        have hb2 : ((l' ++ [(32 : UInt8)]) ++ y.data.toList.take nm).length ≤ 140737488355328 := by simp only [List.length_append, List.length_cons, List.length_nil, List.length_take]; omega
        have hb3 : (((l' ++ [(32 : UInt8)]) ++ y.data.toList.take nm) ++ [(10 : UInt8)]).length ≤ 140737488355328 := by simp only [List.length_append, List.length_cons, List.length_nil, List.length_take]; omega
        have hzn : (y.extract nm y.size).size < y.size := by rw [ByteArray.size_extract]; omega
        clear htk hdr hT2 hln hnm HT hne
        go_wp2
        refine start_ (n := 10) (S := fun _ => True) (ds := []) #[false, false, false, false, false, false, false, false, false, false] (by kernel_rfl) rfl rfl trivial (fun hHeld => ?_)
        have HS0 := Lib.hid HS.out.drew
        generalize wr.drew = W0 at HS0 ⊢
        refine pure_ (i := 0) (N := some 34) (v := ?_) (a' := ?_) #[true, false, false, false, false, false, false, false, false, false] rfl rfl (by kernel_rfl) (fun _ _ _ h => h) (Or.inl ⟨by rfl, ?_⟩) ?_ ?_
        rotate_left
        · intro w'
          go_simp
          with_reducible rfl
        rotate_left
        · simp only [Act.put, List.setIfInBounds_toArray, List.set_cons_zero, List.set_cons_succ, i64_w, i32_w]
          rfl
        refine pure_ (i := 3) (N := some 37) (v := ?_) (a' := ?_) #[true, false, false, true, false, false, false, false, false, false] rfl rfl (by kernel_rfl) (fun _ _ _ h => h) (Or.inl ⟨by rfl, ?_⟩) ?_ ?_
        rotate_left
        · intro w'
          go_simp
          with_reducible rfl
        rotate_left
        · simp only [Act.put, List.setIfInBounds_toArray, List.set_cons_zero, List.set_cons_succ, i64_w, i32_w]
          rfl
        refine pure_ (i := 4) (N := some 38) (v := ?_) (a' := ?_) #[true, false, false, true, true, false, false, false, false, false] rfl rfl (by kernel_rfl) (fun _ _ _ h => h) (Or.inl ⟨by rfl, ?_⟩) ?_ ?_
        rotate_left
        · intro w'
          go_simp
          with_reducible rfl
        rotate_left
        · simp only [Act.put, List.setIfInBounds_toArray, List.set_cons_zero, List.set_cons_succ, i64_w, i32_w]
          rfl
        refine pure_ (i := 5) (N := some 39) (v := ?_) (a' := ?_) #[true, false, false, true, true, true, false, false, false, false] rfl rfl (by kernel_rfl) (fun _ _ _ h => h) (Or.inl ⟨by rfl, ?_⟩) ?_ ?_
        rotate_left
        · intro w'
          go_simp
          with_reducible rfl
        rotate_left
        · simp only [Act.put, List.setIfInBounds_toArray, List.set_cons_zero, List.set_cons_succ, i64_w, i32_w]
          rfl
        refine two_ (i := 1) (j := 7) (Ni := some 35) (Nj := some 41) #[true, true, false, true, true, true, false, false, false, false] #[true, false, false, true, true, true, false, true, false, false] rfl rfl rfl rfl (by kernel_rfl) (by decide) (by decide) (fun K hK => ?_) (fun K hK => ?_)
        · skip
          refine value_ (w1 := ?_) (v := ?_) (by rfl) rfl ?_ ?_
          rotate_left 2
          · go_simp
            constructor
            · rfl
            · rfl
          have HS1 := Lib.hid (HS0.out.lit 32)
          generalize W0.alloc (.cells #[.int .u8 32] 5) = W1 at HS1 ⊢
          refine hK.out _ _ trivial (fun hHeld => ?_)
          clear hK K
          refine norm_ (a' := ?_) ?_ ?_
          rotate_left
          · show Act.put _ (some 35) _ = _
            simp only [Act.put, List.setIfInBounds_toArray, List.set_cons_zero, List.set_cons_succ, i64_w, i32_w]
            rfl
          refine two_ (i := 2) (j := 7) (Ni := some 36) (Nj := some 41) #[true, true, true, true, true, true, false, false, false, false] #[true, true, false, true, true, true, false, true, false, false] rfl rfl rfl rfl (by kernel_rfl) (by decide) (by decide) (fun K hK => ?_) (fun K hK => ?_)
          · skip
            refine ST.step HS1.out (by rfl) (.tmp 34) (.tmp 35) 40 40 rfl Try.underlying40 info5 rfl _ [32] rfl (LitAt.src (HS1.out.lits (W0.heap.size, 32) List.mem_cons_self).1 Try.underlying40) hb1 ?_
            intro v2 W2 q1
            have HS2 := Lib.hid q1
            clear q1
            refine hK.out _ _ trivial (fun hHeld => ?_)
            clear hK K
            refine norm_ (a' := ?_) ?_ ?_
            rotate_left
            · show Act.put _ (some 36) _ = _
              simp only [Act.put, List.setIfInBounds_toArray, List.set_cons_zero, List.set_cons_succ, i64_w, i32_w]
              rfl
            refine two_ (i := 6) (j := 7) (Ni := some 40) (Nj := some 41) #[true, true, true, true, true, true, true, false, false, false] #[true, true, true, true, true, true, false, true, false, false] rfl rfl rfl rfl (by kernel_rfl) (by decide) (by decide) (fun K hK => ?_) (fun K hK => ?_)
            · skip
              refine ST.step HS2.out (by rfl) (.tmp 36) (.tmp 39) 40 9 rfl Try.underlying40 info5 rfl _ (y.data.toList.take nm) rfl (Src.text _ Try.underlying9 _ _ HY0.out) hb2 ?_
              intro v3 W3 q1
              have HS3 := Lib.hid q1
              clear q1
              refine hK.out _ _ trivial (fun hHeld => ?_)
              clear hK K
              refine norm_ (a' := ?_) ?_ ?_
              rotate_left
              · show Act.put _ (some 40) _ = _
                simp only [Act.put, List.setIfInBounds_toArray, List.set_cons_zero, List.set_cons_succ, i64_w, i32_w]
                rfl
              refine one_ (i := 7) (N := some 41) #[true, true, true, true, true, true, true, true, false, false] rfl rfl (by kernel_rfl) (by decide) (fun K hK => ?_)
              refine value_ (w1 := ?_) (v := ?_) (by rfl) rfl ?_ ?_
              rotate_left 2
              · go_simp
                constructor
                · rfl
                · rfl
              have HS4 := Lib.hid (HS3.out.lit 10)
              generalize W3.alloc (.cells #[.int .u8 10] 5) = W4 at HS4 ⊢
              refine hK.out _ _ trivial (fun hHeld => ?_)
              clear hK K
              refine norm_ (a' := ?_) ?_ ?_
              rotate_left
              · show Act.put _ (some 41) _ = _
                simp only [Act.put, List.setIfInBounds_toArray, List.set_cons_zero, List.set_cons_succ, i64_w, i32_w]
                rfl
              refine one_ (i := 8) (N := some 42) #[true, true, true, true, true, true, true, true, true, false] rfl rfl (by kernel_rfl) (by decide) (fun K hK => ?_)
              refine ST.step HS4.out (by rfl) (.tmp 40) (.tmp 41) 40 40 rfl Try.underlying40 info5 rfl _ [10] rfl (LitAt.src (HS4.out.lits (W3.heap.size, 10) List.mem_cons_self).1 Try.underlying40) hb3 ?_
              intro v5 W5 q1
              have HS5 := Lib.hid q1
              clear q1
              refine hK.out _ _ trivial (fun hHeld => ?_)
              clear hK K
              refine norm_ (a' := ?_) ?_ ?_
              rotate_left
              · show Act.put _ (some 42) _ = _
                simp only [Act.put, List.setIfInBounds_toArray, List.set_cons_zero, List.set_cons_succ, i64_w, i32_w]
                rfl
              refine pure_ (i := 9) (N := some 0) (v := ?_) (a' := ?_) #[true, true, true, true, true, true, true, true, true, true] rfl rfl (by kernel_rfl) (fun _ _ _ h => h) (Or.inl ⟨by rfl, ?_⟩) ?_ ?_
              rotate_left
              · intro w'
                go_simp
                with_reducible rfl
              rotate_left
              · simp only [Act.put, List.setIfInBounds_toArray, List.set_cons_zero, List.set_cons_succ, i64_w, i32_w]
                rfl
              refine done_ (by kernel_rfl) ?_
              go_wp2
              go_roundw
              case rel => exact ⟨q + 1, _, _, rfl, by omega, Lib.hid HS5.out.bare, HT2⟩
              case measure => simp only [strSz]; exact hzn
            · skip
              refine value_ (w1 := ?_) (v := ?_) (by rfl) rfl ?_ ?_
              rotate_left 2
              · go_simp
                constructor
                · rfl
                · rfl
              have HS3 := Lib.hid (HS2.out.lit 10)
              generalize W2.alloc (.cells #[.int .u8 10] 5) = W3 at HS3 ⊢
              refine hK.out _ _ trivial (fun hHeld => ?_)
              clear hK K
              refine norm_ (a' := ?_) ?_ ?_
              rotate_left
              · show Act.put _ (some 41) _ = _
                simp only [Act.put, List.setIfInBounds_toArray, List.set_cons_zero, List.set_cons_succ, i64_w, i32_w]
                rfl
              refine one_ (i := 6) (N := some 40) #[true, true, true, true, true, true, true, true, false, false] rfl rfl (by kernel_rfl) (by decide) (fun K hK => ?_)
              refine ST.step HS3.out (by rfl) (.tmp 36) (.tmp 39) 40 9 rfl Try.underlying40 info5 rfl _ (y.data.toList.take nm) rfl (Src.text _ Try.underlying9 _ _ HY0.out) hb2 ?_
              intro v4 W4 q1
              have HS4 := Lib.hid q1
              clear q1
              refine hK.out _ _ trivial (fun hHeld => ?_)
              clear hK K
              refine norm_ (a' := ?_) ?_ ?_
              rotate_left
              · show Act.put _ (some 40) _ = _
                simp only [Act.put, List.setIfInBounds_toArray, List.set_cons_zero, List.set_cons_succ, i64_w, i32_w]
                rfl
              refine one_ (i := 8) (N := some 42) #[true, true, true, true, true, true, true, true, true, false] rfl rfl (by kernel_rfl) (by decide) (fun K hK => ?_)
              refine ST.step HS4.out (by rfl) (.tmp 40) (.tmp 41) 40 40 rfl Try.underlying40 info5 rfl _ [10] rfl (LitAt.src (HS4.out.lits (W2.heap.size, 10) List.mem_cons_self).1 Try.underlying40) hb3 ?_
              intro v5 W5 q1
              have HS5 := Lib.hid q1
              clear q1
              refine hK.out _ _ trivial (fun hHeld => ?_)
              clear hK K
              refine norm_ (a' := ?_) ?_ ?_
              rotate_left
              · show Act.put _ (some 42) _ = _
                simp only [Act.put, List.setIfInBounds_toArray, List.set_cons_zero, List.set_cons_succ, i64_w, i32_w]
                rfl
              refine pure_ (i := 9) (N := some 0) (v := ?_) (a' := ?_) #[true, true, true, true, true, true, true, true, true, true] rfl rfl (by kernel_rfl) (fun _ _ _ h => h) (Or.inl ⟨by rfl, ?_⟩) ?_ ?_
              rotate_left
              · intro w'
                go_simp
                with_reducible rfl
              rotate_left
              · simp only [Act.put, List.setIfInBounds_toArray, List.set_cons_zero, List.set_cons_succ, i64_w, i32_w]
                rfl
              refine done_ (by kernel_rfl) ?_
              go_wp2
              go_roundw
              case rel => exact ⟨q + 1, _, _, rfl, by omega, Lib.hid HS5.out.bare, HT2⟩
              case measure => simp only [strSz]; exact hzn
          · skip
            refine value_ (w1 := ?_) (v := ?_) (by rfl) rfl ?_ ?_
            rotate_left 2
            · go_simp
              constructor
              · rfl
              · rfl
            have HS2 := Lib.hid (HS1.out.lit 10)
            generalize W1.alloc (.cells #[.int .u8 10] 5) = W2 at HS2 ⊢
            refine hK.out _ _ trivial (fun hHeld => ?_)
            clear hK K
            refine norm_ (a' := ?_) ?_ ?_
            rotate_left
            · show Act.put _ (some 41) _ = _
              simp only [Act.put, List.setIfInBounds_toArray, List.set_cons_zero, List.set_cons_succ, i64_w, i32_w]
              rfl
            refine one_ (i := 2) (N := some 36) #[true, true, true, true, true, true, false, true, false, false] rfl rfl (by kernel_rfl) (by decide) (fun K hK => ?_)
            refine ST.step HS2.out (by rfl) (.tmp 34) (.tmp 35) 40 40 rfl Try.underlying40 info5 rfl _ [32] rfl (LitAt.src (HS2.out.lits (W0.heap.size, 32) (List.mem_cons_of_mem _ List.mem_cons_self)).1 Try.underlying40) hb1 ?_
            intro v3 W3 q1
            have HS3 := Lib.hid q1
            clear q1
            refine hK.out _ _ trivial (fun hHeld => ?_)
            clear hK K
            refine norm_ (a' := ?_) ?_ ?_
            rotate_left
            · show Act.put _ (some 36) _ = _
              simp only [Act.put, List.setIfInBounds_toArray, List.set_cons_zero, List.set_cons_succ, i64_w, i32_w]
              rfl
            refine one_ (i := 6) (N := some 40) #[true, true, true, true, true, true, true, true, false, false] rfl rfl (by kernel_rfl) (by decide) (fun K hK => ?_)
            refine ST.step HS3.out (by rfl) (.tmp 36) (.tmp 39) 40 9 rfl Try.underlying40 info5 rfl _ (y.data.toList.take nm) rfl (Src.text _ Try.underlying9 _ _ HY0.out) hb2 ?_
            intro v4 W4 q1
            have HS4 := Lib.hid q1
            clear q1
            refine hK.out _ _ trivial (fun hHeld => ?_)
            clear hK K
            refine norm_ (a' := ?_) ?_ ?_
            rotate_left
            · show Act.put _ (some 40) _ = _
              simp only [Act.put, List.setIfInBounds_toArray, List.set_cons_zero, List.set_cons_succ, i64_w, i32_w]
              rfl
            refine one_ (i := 8) (N := some 42) #[true, true, true, true, true, true, true, true, true, false] rfl rfl (by kernel_rfl) (by decide) (fun K hK => ?_)
            refine ST.step HS4.out (by rfl) (.tmp 40) (.tmp 41) 40 40 rfl Try.underlying40 info5 rfl _ [10] rfl (LitAt.src (HS4.out.lits (W1.heap.size, 10) List.mem_cons_self).1 Try.underlying40) hb3 ?_
            intro v5 W5 q1
            have HS5 := Lib.hid q1
            clear q1
            refine hK.out _ _ trivial (fun hHeld => ?_)
            clear hK K
            refine norm_ (a' := ?_) ?_ ?_
            rotate_left
            · show Act.put _ (some 42) _ = _
              simp only [Act.put, List.setIfInBounds_toArray, List.set_cons_zero, List.set_cons_succ, i64_w, i32_w]
              rfl
            refine pure_ (i := 9) (N := some 0) (v := ?_) (a' := ?_) #[true, true, true, true, true, true, true, true, true, true] rfl rfl (by kernel_rfl) (fun _ _ _ h => h) (Or.inl ⟨by rfl, ?_⟩) ?_ ?_
            rotate_left
            · intro w'
              go_simp
              with_reducible rfl
            rotate_left
            · simp only [Act.put, List.setIfInBounds_toArray, List.set_cons_zero, List.set_cons_succ, i64_w, i32_w]
              rfl
            refine done_ (by kernel_rfl) ?_
            go_wp2
            go_roundw
            case rel => exact ⟨q + 1, _, _, rfl, by omega, Lib.hid HS5.out.bare, HT2⟩
            case measure => simp only [strSz]; exact hzn
        · skip
          refine value_ (w1 := ?_) (v := ?_) (by rfl) rfl ?_ ?_
          rotate_left 2
          · go_simp
            constructor
            · rfl
            · rfl
          have HS1 := Lib.hid (HS0.out.lit 10)
          generalize W0.alloc (.cells #[.int .u8 10] 5) = W1 at HS1 ⊢
          refine hK.out _ _ trivial (fun hHeld => ?_)
          clear hK K
          refine norm_ (a' := ?_) ?_ ?_
          rotate_left
          · show Act.put _ (some 41) _ = _
            simp only [Act.put, List.setIfInBounds_toArray, List.set_cons_zero, List.set_cons_succ, i64_w, i32_w]
            rfl
          refine one_ (i := 1) (N := some 35) #[true, true, false, true, true, true, false, true, false, false] rfl rfl (by kernel_rfl) (by decide) (fun K hK => ?_)
          refine value_ (w1 := ?_) (v := ?_) (by rfl) rfl ?_ ?_
          rotate_left 2
          · go_simp
            constructor
            · rfl
            · rfl
          have HS2 := Lib.hid (HS1.out.lit 32)
          generalize W1.alloc (.cells #[.int .u8 32] 5) = W2 at HS2 ⊢
          refine hK.out _ _ trivial (fun hHeld => ?_)
          clear hK K
          refine norm_ (a' := ?_) ?_ ?_
          rotate_left
          · show Act.put _ (some 35) _ = _
            simp only [Act.put, List.setIfInBounds_toArray, List.set_cons_zero, List.set_cons_succ, i64_w, i32_w]
            rfl
          refine one_ (i := 2) (N := some 36) #[true, true, true, true, true, true, false, true, false, false] rfl rfl (by kernel_rfl) (by decide) (fun K hK => ?_)
          refine ST.step HS2.out (by rfl) (.tmp 34) (.tmp 35) 40 40 rfl Try.underlying40 info5 rfl _ [32] rfl (LitAt.src (HS2.out.lits (W1.heap.size, 32) List.mem_cons_self).1 Try.underlying40) hb1 ?_
          intro v3 W3 q1
          have HS3 := Lib.hid q1
          clear q1
          refine hK.out _ _ trivial (fun hHeld => ?_)
          clear hK K
          refine norm_ (a' := ?_) ?_ ?_
          rotate_left
          · show Act.put _ (some 36) _ = _
            simp only [Act.put, List.setIfInBounds_toArray, List.set_cons_zero, List.set_cons_succ, i64_w, i32_w]
            rfl
          refine one_ (i := 6) (N := some 40) #[true, true, true, true, true, true, true, true, false, false] rfl rfl (by kernel_rfl) (by decide) (fun K hK => ?_)
          refine ST.step HS3.out (by rfl) (.tmp 36) (.tmp 39) 40 9 rfl Try.underlying40 info5 rfl _ (y.data.toList.take nm) rfl (Src.text _ Try.underlying9 _ _ HY0.out) hb2 ?_
          intro v4 W4 q1
          have HS4 := Lib.hid q1
          clear q1
          refine hK.out _ _ trivial (fun hHeld => ?_)
          clear hK K
          refine norm_ (a' := ?_) ?_ ?_
          rotate_left
          · show Act.put _ (some 40) _ = _
            simp only [Act.put, List.setIfInBounds_toArray, List.set_cons_zero, List.set_cons_succ, i64_w, i32_w]
            rfl
          refine one_ (i := 8) (N := some 42) #[true, true, true, true, true, true, true, true, true, false] rfl rfl (by kernel_rfl) (by decide) (fun K hK => ?_)
          refine ST.step HS4.out (by rfl) (.tmp 40) (.tmp 41) 40 40 rfl Try.underlying40 info5 rfl _ [10] rfl (LitAt.src (HS4.out.lits (W0.heap.size, 10) (List.mem_cons_of_mem _ List.mem_cons_self)).1 Try.underlying40) hb3 ?_
          intro v5 W5 q1
          have HS5 := Lib.hid q1
          clear q1
          refine hK.out _ _ trivial (fun hHeld => ?_)
          clear hK K
          refine norm_ (a' := ?_) ?_ ?_
          rotate_left
          · show Act.put _ (some 42) _ = _
            simp only [Act.put, List.setIfInBounds_toArray, List.set_cons_zero, List.set_cons_succ, i64_w, i32_w]
            rfl
          refine pure_ (i := 9) (N := some 0) (v := ?_) (a' := ?_) #[true, true, true, true, true, true, true, true, true, true] rfl rfl (by kernel_rfl) (fun _ _ _ h => h) (Or.inl ⟨by rfl, ?_⟩) ?_ ?_
          rotate_left
          · intro w'
            go_simp
            with_reducible rfl
          rotate_left
          · simp only [Act.put, List.setIfInBounds_toArray, List.set_cons_zero, List.set_cons_succ, i64_w, i32_w]
            rfl
          refine done_ (by kernel_rfl) ?_
          go_wp2
          go_roundw
          case rel => exact ⟨q + 1, _, _, rfl, by omega, Lib.hid HS5.out.bare, HT2⟩
          case measure => simp only [strSz]; exact hzn
end Go.Proofs.Ytfiomfcejmmbgaa.LinesW

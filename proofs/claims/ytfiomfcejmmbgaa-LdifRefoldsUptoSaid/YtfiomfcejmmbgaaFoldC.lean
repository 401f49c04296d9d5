/- By hand: the document's Refold. For every text of at most 1048576 bytes, width and world. -/
import Derived.Test.YtfiomfcejmmbgaaFoldB
set_option linter.unusedVariables false
set_option linter.unusedSimpArgs false
namespace Go.Proofs.Ytfiomfcejmmbgaa.LinesW
open Go.RowKit Go.Proofs.Ytfiomfcejmmbgaa.Blk Go.Proofs.Ytfiomfcejmmbgaa.ByteM Go.Proofs.Ytfiomfcejmmbgaa.XL Go.Proofs.Ytfiomfcejmmbgaa.XV Go.Proofs.Ytfiomfcejmmbgaa.LinesP Go.Proofs.YtfiomfcejmmbgaaW.PrintWords Go.Proofs.YtfiomfcejmmbgaaW.PrintLast Go.Proofs.YtfiomfcejmmbgaaW.PrintMore
theorem drop_at (x : ByteArray) (k : Nat) (h : k < x.size) : x.data.toList.drop k = (x[k]'h) :: x.data.toList.drop (k + 1) := by
  have hl : k < x.data.toList.length := by rw [Array.length_toList]; exact h
  rw [List.drop_eq_getElem_cons hl]
  congr 1
theorem rrefold_as (s : ByteArray) (wd : Int) (w : World) (hs : s.size ≤ 1048576) (hw : wd ≤ 9223372036854775807) : Calls Try.prog 10 #[.string s, .int .i64 wd] w (RefQ w (phys s) wd) := by
  by_cases hw2 : wd < 2
  · have HR := Lib.hid (ref_small (p := phys s) hw2)
    go_enter Try.func10, Try.ntmps10
    go_wp2
    go_ret3
    exact ⟨Below.refl _ _, by rw [HR.out]; rfl⟩
  · have HL : Hid (∀ w, Calls Try.prog 7 #[.string s] w (LinesQ w (phys s))) := Lib.hid (fun w => rlines_as s w hs)
    obtain ⟨hsum, hcnt⟩ := full_sum s
    have hsz : ∀ x ∈ full (phys s), x.2.size ≤ 1048576 := fun x hx => by
      have : ∀ (l : List (Int × ByteArray)), x ∈ l → x.2.size ≤ (l.map fun g => g.2.size).sum := by
        intro l hl
        induction l with
        | nil => cases hl
        | cons y l ih =>
          rw [List.map_cons, List.sum_cons]
          rcases List.mem_cons.1 hl with rfl | hl
          · omega
          · have := ih hl; omega
      have := this _ hx
      omega
    generalize phys s = p at *
    cases hf : fault p with
    | some q =>
      obtain ⟨er, at_⟩ := q
      have HR := Lib.hid (ref_fault hw2 hf)
      have HF := Lib.hid hf
      obtain ⟨her, _⟩ := fault_pos p _ _ _ _ hf
      clear hf hsum hcnt hsz
      go_enter Try.func10, Try.ntmps10
      go_wp2_with (first
        | (go_at_call 7; (with_reducible refine (HL.out _).mono ?_); rintro e w1 ⟨hb1, he1⟩; rw [HF.out] at he1; (obtain rfl := he1); have HB1 := Lib.hid hb1; clear hb1)
        | go_in)
      go_ret3
      exact ⟨HB1.out, by rw [HR.out]; rfl⟩
    | none =>
      obtain ⟨wn, rfl⟩ : ∃ wn : Nat, wd = (wn : Int) := ⟨wd.toNat, by omega⟩
      have HR := Lib.hid (ref_none hw2 hf)
      have HF := Lib.hid hf
      have hfl := folds_len wn (full p)
      obtain ⟨ls, hls⟩ : ∃ ls, ls = full p := ⟨_, rfl⟩
      have HLS := Lib.hid hls
      rw [← hls] at hfl hcnt hsum hsz
      have hmax : (folds wn ls).length ≤ 140737488355328 := by omega
      have hcn : ls.length ≤ 1048577 := by omega
      have HSZ := Lib.hid hsz
      clear hf hls hfl hsum hcnt hsz
      go_enter Try.func10, Try.ntmps10
      go_wp2_with (first
        | (go_at_call 7; (with_reducible refine (HL.out _).mono ?_); rintro e w1 ⟨hb1, he1⟩; rw [HF.out, ← HLS.out] at he1; (obtain ⟨v1, rfl, hv1⟩ := he1); (obtain ⟨A1, c1, rfl⟩ := Kd.R_slice hv1); have HB1 := Lib.hid hb1; have HV1 := Lib.hid hv1; clear hb1 hv1)
        | go_in)
      go_loopw [10, 11, 12, 13] (fun v10 v11 v12 v13 wr => ∃ i : Nat, i ≤ ls.length ∧ v11 = .int .i64 (i : Nat) ∧ Hid (kL.R 28 wr w.heap.size (fun _ => True) (.slice A1 ls.length c1) ls) ∧ Hid (ST w w.heap.size wr v10 (folds wn (ls.take i)) [])) (fun _ v11 _ _ _ => ls.length - (intOf v11).toNat)
      case atStart => exact ⟨0, Nat.zero_le _, rfl, HV1, Lib.hid (ST.nil w w1 w.heap.size (Nat.le_refl _) HB1.out (Kept5.below HB1.out))⟩
      case round =>
        clear HV1 HB1 HL
        obtain ⟨i, hi, rfl, HV, HS⟩ := hrel
        obtain ⟨wo, rfl⟩ : ∃ wo : World, wo = wr := ⟨_, rfl⟩
        by_cases hin : i < ls.length
        · have hlt : (i : Int) < (ls.length : Int) := by omega
          have hwi : IntKind.i64.wrap ((i : Int) + 1) = ((i + 1 : Nat) : Int) := by rw [IntWalk.i64_in _ (by omega)]; rfl
          obtain ⟨g1, c', he, hg1, hg2, _⟩ := Kd.R_form HV.out (by omega)
          injection he with he1 _ he2
          subst he1 he2
          obtain ⟨⟨n, x⟩, hx⟩ : ∃ x, x = ls.getD i (0, ⟨#[]⟩) := ⟨_, rfl⟩
          obtain ⟨a1, a2⟩ := cell_ln HV.out i hin _ hx.symm
          have hxz : x.size ≤ 1048576 := HSZ.out (n, x) (by rw [hx, List.getD_eq_getElem?_getD, List.getElem?_eq_getElem hin]; exact List.getElem_mem hin)
          have HFT := Lib.hid (folds_take wn ls i hin _ hx.symm)
          have hmx : (folds wn (ls.take (i + 1))).length ≤ 140737488355328 := Nat.le_trans (folds_mono wn ls (i + 1)) hmax
          clear hx
          obtain ⟨T, hTd⟩ : ∃ T, T = folds wn (ls.take (i + 1)) := ⟨_, rfl⟩
          have HFTT := Lib.hid hTd.symm
          rw [← hTd] at HFT hmx
          clear hTd
          have hwn2 : 2 ≤ wn := by omega
          have hwn63 : wn ≤ 9223372036854775807 := by omega
          go_wp2
          go_loopw [10, 13] (fun v10 v13 wi => ∃ (k : Nat) (l' : List UInt8), k ≤ x.size ∧ v13 = .int .i64 (k : Nat) ∧ Hid (kL.R 28 wi w.heap.size (fun _ => True) (.slice (some ⟨g1, 0, none⟩) ls.length c1) ls) ∧ Hid (ST w w.heap.size wi v10 l' []) ∧ Hid (T = l' ++ refo wn k (x.data.toList.drop k))) (fun _ v13 _ => x.size - (intOf v13).toNat)
          case atStart => exact ⟨0, _, Nat.zero_le _, rfl, HV, HS, Lib.hid (by rw [HFT.out, List.drop_zero])⟩
          case round =>
            clear HV HS a1 a2 hg2
            obtain ⟨k, l', hk, rfl, HV, HS, HT⟩ := hrel
            have hxl : x.data.toList.length = x.size := Array.length_toList
            by_cases hkx : k < x.size
            · have hltk : (k : Int) < (x.size : Int) := by omega
              have hwk : IntKind.i64.wrap ((k : Int) + 1) = ((k + 1 : Nat) : Int) := by rw [IntWalk.i64_in _ (by omega)]; rfl
              have hda := drop_at x k hkx
              obtain ⟨c, hc⟩ : ∃ c, c = (x[k]'hkx) := ⟨_, rfl⟩
              have hcc : ((x[k]'hkx).toNat : Int) = (c.toNat : Int) := by rw [hc]
              have hT := HT.out
              rw [hda, ← hc] at hT
              by_cases hge : (wn : Int) ≤ (k : Int)
              · obtain ⟨d, hd⟩ : ∃ d : Nat, (k : Int) - (wn : Int) = (d : Int) := ⟨k - wn, by omega⟩
                obtain ⟨m, hm⟩ : ∃ m : Nat, (wn : Int) - 1 = (m : Int) := ⟨wn - 1, by omega⟩
                have hmw : IntKind.i64.wrap ((wn : Int) - 1) = (m : Int) := by rw [IntWalk.i64_in _ (by omega)]; exact hm
                have hdw : IntKind.i64.wrap ((k : Int) - (wn : Int)) = (d : Int) := by rw [IntWalk.i64_in _ (by omega)]; exact hd
                have hm0 : ((m : Int) == 0) = false := beq_eq_false_iff_ne.mpr (by omega)
                have hm00 : ¬ m = 0 := by omega
                obtain ⟨r, hr⟩ : ∃ r, r = d % m := ⟨_, rfl⟩
                have htm : Int.tmod (d : Int) (m : Int) = (r : Int) := by rw [hr]; exact (Int.ofNat_tmod d m).symm
                have hrm : r ≤ d := by rw [hr]; exact Nat.mod_le _ _
                have hwr : IntKind.i64.wrap (r : Int) = (r : Int) := IntWalk.i64_in _ (by omega)
                by_cases hr0 : r = 0
                · subst hr0
                  have HBR : Hid (wn ≤ k ∧ (k - wn) % (wn - 1) = 0) := Lib.hid ⟨by omega, by rw [show k - wn = d by omega, show wn - 1 = m by omega]; exact hr.symm⟩
                  clear hd hm hr
                  have hT2 : T = (((l' ++ [(10 : UInt8)]) ++ [(32 : UInt8)]) ++ [c]) ++ refo wn (k + 1) (x.data.toList.drop (k + 1)) := by rw [hT, refo_hit wn k c _ HBR.out]; simp
                  have HT2 := Lib.hid hT2
                  have hln := congrArg List.length hT2
                  simp only [List.length_append, List.length_cons, List.length_nil] at hln
                  have hb1 : (l' ++ [(10 : UInt8)]).length ≤ 140737488355328 := by simp only [List.length_append, List.length_cons, List.length_nil]; omega
                  have hb2 : ((l' ++ [(10 : UInt8)]) ++ [(32 : UInt8)]).length ≤ 140737488355328 := by simp only [List.length_append, List.length_cons, List.length_nil]; omega
                  have hb3 : (((l' ++ [(10 : UInt8)]) ++ [(32 : UInt8)]) ++ [c]).length ≤ 140737488355328 := by simp only [List.length_append, List.length_cons, List.length_nil]; omega
                  clear hT hT2 hln hda hc
                  have HS0 := Lib.hid HS.out.self
                  go_wp2_with (first
                    | ((with_reducible refine gate_builtin (b := .append) (xs := #[.tmp 55, .tmp 56]) rfl ?_); at_builtin; refine ST.wp (HS0.out.lit 10) rfl (.tmp 55) (.tmp 56) 40 40 rfl Try.underlying40 info5 rfl _ [10] rfl (LitAt.src ((HS0.out.lit 10).lits (wr.heap.size, 10) List.mem_cons_self).1 Try.underlying40) hb1 ?_; intro v1 w1 q1; have HS1 := Lib.hid q1.bare; clear q1)
                    | ((with_reducible refine gate_builtin (b := .append) (xs := #[.tmp 58, .tmp 59]) rfl ?_); at_builtin; refine ST.wp (HS1.out.lit 32) rfl (.tmp 58) (.tmp 59) 40 40 rfl Try.underlying40 info5 rfl _ [32] rfl (LitAt.src ((HS1.out.lit 32).lits (w1.heap.size, 32) List.mem_cons_self).1 Try.underlying40) hb2 ?_; intro v2 w2 q1; have HS2 := Lib.hid q1.bare; clear q1)
                    | ((with_reducible refine gate_builtin (b := .append) (xs := #[.tmp 61, .tmp 65]) rfl ?_); at_builtin; refine ST.wp (HS2.out.lit (c.toNat : Int)) rfl (.tmp 61) (.tmp 65) 40 40 rfl Try.underlying40 info5 rfl _ [c] rfl (LitAt.src ((HS2.out.lit (c.toNat : Int)).lits (w2.heap.size, (c.toNat : Int)) List.mem_cons_self).1 Try.underlying40) hb3 ?_; intro v3 w3 q1; have HS3 := Lib.hid q1.bare; clear q1)
                    | go_in)
                  go_roundw
                  case rel => exact ⟨k + 1, _, by omega, by go_num, Lib.hid (R_kept5 HV.out (by decide) HS3.out.kept), Lib.hid (HS.out.trans HS3.out), HT2⟩
                  case measure => simp [intOf]; omega
                · have HNB : Hid (¬ (wn ≤ k ∧ (k - wn) % (wn - 1) = 0)) := Lib.hid (fun h => hr0 (by rw [hr, ← show k - wn = d by omega, ← show wn - 1 = m by omega]; exact h.2))
                  have hr1 : ((r : Int) == 0) = false := beq_eq_false_iff_ne.mpr (by omega)
                  clear hd hm hr
                  have hT2 : T = (l' ++ [c]) ++ refo wn (k + 1) (x.data.toList.drop (k + 1)) := by rw [hT, refo_miss wn k c _ HNB.out]; simp
                  have HT2 := Lib.hid hT2
                  have hln := congrArg List.length hT2
                  simp only [List.length_append, List.length_cons, List.length_nil] at hln
                  have hb1 : (l' ++ [c]).length ≤ 140737488355328 := by simp only [List.length_append, List.length_cons, List.length_nil]; omega
                  clear hT hT2 hln hda hc
                  have HS0 := Lib.hid HS.out.self
                  go_wp2_with (first
                    | ((with_reducible refine gate_builtin (b := .append) (xs := #[.tmp 61, .tmp 65]) rfl ?_); at_builtin; refine ST.wp (HS0.out.lit (c.toNat : Int)) rfl (.tmp 61) (.tmp 65) 40 40 rfl Try.underlying40 info5 rfl _ [c] rfl (LitAt.src ((HS0.out.lit (c.toNat : Int)).lits (wr.heap.size, (c.toNat : Int)) List.mem_cons_self).1 Try.underlying40) hb1 ?_; intro v3 w3 q1; have HS3 := Lib.hid q1.bare; clear q1)
                    | go_in)
                  go_roundw
                  case rel => exact ⟨k + 1, _, by omega, by go_num, Lib.hid (R_kept5 HV.out (by decide) HS3.out.kept), Lib.hid (HS.out.trans HS3.out), HT2⟩
                  case measure => simp [intOf]; omega
              · have HNB : Hid (¬ (wn ≤ k ∧ (k - wn) % (wn - 1) = 0)) := Lib.hid (fun h => hge (by omega))
                have hT2 : T = (l' ++ [c]) ++ refo wn (k + 1) (x.data.toList.drop (k + 1)) := by rw [hT, refo_miss wn k c _ HNB.out]; simp
                have HT2 := Lib.hid hT2
                have hln := congrArg List.length hT2
                simp only [List.length_append, List.length_cons, List.length_nil] at hln
                have hb1 : (l' ++ [c]).length ≤ 140737488355328 := by simp only [List.length_append, List.length_cons, List.length_nil]; omega
                clear hT hT2 hln hda hc
                have HS0 := Lib.hid HS.out.self
                go_wp2_with (first
                  | ((with_reducible refine gate_builtin (b := .append) (xs := #[.tmp 61, .tmp 65]) rfl ?_); at_builtin; refine ST.wp (HS0.out.lit (c.toNat : Int)) rfl (.tmp 61) (.tmp 65) 40 40 rfl Try.underlying40 info5 rfl _ [c] rfl (LitAt.src ((HS0.out.lit (c.toNat : Int)).lits (wr.heap.size, (c.toNat : Int)) List.mem_cons_self).1 Try.underlying40) hb1 ?_; intro v3 w3 q1; have HS3 := Lib.hid q1.bare; clear q1)
                  | go_in)
                go_roundw
                case rel => exact ⟨k + 1, _, by omega, by go_num, Lib.hid (R_kept5 HV.out (by decide) HS3.out.kept), Lib.hid (HS.out.trans HS3.out), HT2⟩
                case measure => simp [intOf]; omega
            · have hltk : ¬ (k : Int) < (x.size : Int) := by omega
              have hT2 : T = l' ++ [(10 : UInt8)] := by rw [HT.out, List.drop_eq_nil_of_le (by omega), refo_nil]
              have HT2 := Lib.hid hT2
              have hb1 : (l' ++ [(10 : UInt8)]).length ≤ 140737488355328 := by rw [← hT2]; exact hmx
              have HS0 := Lib.hid HS.out.self
              clear hT2
              go_wp2_with (first
                | ((with_reducible refine gate_builtin (b := .append) (xs := #[.tmp 67, .tmp 68]) rfl ?_); at_builtin; refine ST.wp (HS0.out.lit 10) rfl (.tmp 67) (.tmp 68) 40 40 rfl Try.underlying40 info5 rfl _ [10] rfl (LitAt.src ((HS0.out.lit 10).lits (wr.heap.size, 10) List.mem_cons_self).1 Try.underlying40) hb1 ?_; intro v3 w3 q1; have HS3 := Lib.hid q1.bare; clear q1)
                | go_in)
              go_roundw
              case rel => exact ⟨i + 1, by omega, by go_num, Lib.hid (R_kept5 HV.out (by decide) HS3.out.kept), Lib.hid (by rw [HFTT.out, HT2.out]; exact HS.out.trans HS3.out)⟩
              case measure => simp [intOf]; omega
        · have hlt : ¬ (i : Int) < (ls.length : Int) := by omega
          obtain rfl : i = ls.length := by omega
          have hback := HS.out.back 40 9 Try.underlying40 Try.underlying5 Try.underlying9
          go_wp2
          go_ret3
          refine ⟨HS.out.below, ?_⟩
          rw [HR.out, ← HLS.out]
          try rw [List.take_length]
          rfl
end Go.Proofs.Ytfiomfcejmmbgaa.LinesW

/- By hand: ldif.physical (a range over a string); the document's, as printed. For every text of at most 1048576 bytes and every world. -/
import Derived.Test.YtfiomfcejmmbgaaLinesP
import Derived.Test.YtfiomfcejmmbgaaXL1
import Derived.Test.YtfiomfcejmmbgaaByteM
import Derived.Test.YtfiomfcejmmbgaaBlk
import Derived.Lib.Hide
import Derived.Lib.OthersKept
set_option linter.unusedVariables false
set_option linter.unusedSimpArgs false
namespace Go.Proofs.Ytfiomfcejmmbgaa.LinesW
open Go.RowKit Go.Proofs.Ytfiomfcejmmbgaa.Blk Go.Proofs.Ytfiomfcejmmbgaa.ByteM Go.Proofs.Ytfiomfcejmmbgaa.XL Go.Proofs.Ytfiomfcejmmbgaa.XV Go.Proofs.Ytfiomfcejmmbgaa.LinesP Go.Proofs.YtfiomfcejmmbgaaW.PrintWords Go.Proofs.YtfiomfcejmmbgaaW.PrintLast Go.Proofs.YtfiomfcejmmbgaaW.PrintMore
theorem last_list (X : ByteArray) (h : 0 < X.size) : (X.extract (X.size - 1) X.size).toList = [X[X.size - 1]'(by omega)] := by
  rw [toList_data]
  have hsz : (X.extract (X.size - 1) X.size).data.toList.length = 1 := by
    rw [Array.length_toList]
    show (X.extract (X.size - 1) X.size).size = 1
    rw [ByteArray.size_extract]; omega
  apply List.ext_getElem
  · rw [hsz]; rfl
  · intro i hi1 hi2
    have hi : i = 0 := by rw [hsz] at hi1; omega
    subst hi
    simp only [Array.getElem_toList, List.getElem_singleton, ByteArray.data_extract, Array.getElem_extract, Nat.add_zero]
    rfl
theorem suffix_at (X : ByteArray) (hX : X.size ≤ 1048576) : stringslite_HasSuffix.f X ⟨#[13]⟩ = some (decide (0 < X.size) && (bt X ((X.size - 1 : Nat) : Int) == 13)) := by
  have h1 : (⟨#[13]⟩ : ByteArray).size = 1 := rfl
  unfold stringslite_HasSuffix.f
  by_cases h : 0 < X.size
  · have hw : wrap64 ((X.size : Int) - ((⟨#[13]⟩ : ByteArray).size : Int)) = ((X.size - 1 : Nat) : Int) := by rw [h1, wrp_id _ (by omega) (by omega)]; omega
    rw [hw, if_pos (by rw [h1]; omega), if_pos (by omega), if_pos (by omega), Int.toNat_natCast, last_list X h, decide_eq_true h, Bool.true_and, bt_nat X (X.size - 1) (by omega), toList_data]
    congr 1
    rw [Bool.eq_iff_iff, beq_iff_eq, beq_iff_eq]
    show ([_] : List UInt8) = [13] ↔ _
    simp only [List.cons.injEq, and_true]
    rw [← UInt8.toNat_inj]
    show _ = 13 ↔ _
    omega
  · rw [if_neg (by rw [h1]; omega), decide_eq_false h, Bool.false_and]
theorem trim_at (s : ByteArray) (a b : Nat) (hs : s.size ≤ 1048576) (hab : a ≤ b) (hb : b ≤ s.size) : strings_TrimSuffix.f (s.extract a b) ⟨#[13]⟩ = some (cutR s a b) := by
  have hz : (s.extract a b).size = b - a := by rw [ByteArray.size_extract, Nat.min_eq_left hb]
  have h1 : (⟨#[13]⟩ : ByteArray).size = 1 := rfl
  have hbt : a < b → bt (s.extract a b) (((s.extract a b).size - 1 : Nat) : Int) = bt s ((b - 1 : Nat) : Int) := fun hlt => by
    rw [bt_nat _ _ (by omega), bt_nat s _ (by omega)]
    congr 2
    show (s.extract a b).data[(s.extract a b).size - 1]'_ = s.data[b - 1]'_
    simp only [ByteArray.data_extract, Array.getElem_extract]
    congr 1
    rw [hz]; omega
  unfold strings_TrimSuffix.f stringslite_TrimSuffix.f cutR
  rw [suffix_at _ (by omega)]
  simp only [Option.bind_some]
  by_cases hlt : a < b
  · rw [hbt hlt, decide_eq_true (show 0 < (s.extract a b).size by omega), Bool.true_and]
    by_cases h13 : bt s ((b - 1 : Nat) : Int) = 13
    · have hw : wrap64 (((s.extract a b).size : Int) - ((⟨#[13]⟩ : ByteArray).size : Int)) = ((b - a - 1 : Nat) : Int) := by rw [h1, hz, wrp_id _ (by omega) (by omega)]; omega
      rw [hw, if_pos (beq_iff_eq.mpr h13), if_pos (by omega), if_pos (by omega), if_pos ⟨hlt, h13⟩, Int.toNat_natCast]
      simp only [Option.bind_some, Option.some.injEq]
      refine ByteArray.ext ?_
      simp only [ByteArray.data_extract, Array.extract_extract]
      congr 1 <;> omega
    · rw [if_neg (by simpa using h13), if_neg (fun h => h13 h.2)]
      rfl
  · rw [decide_eq_false (show ¬ 0 < (s.extract a b).size by omega), Bool.false_and, if_neg (by simp), if_neg (fun h => hlt h.1)]
    rfl
theorem trim_as (s : ByteArray) (a b : Nat) (w : World) (hs : s.size ≤ 1048576) (hab : a ≤ b) (hb : b ≤ s.size) : Calls Try.prog 24 #[.string (s.extract a b), .string ⟨#[13]⟩] w fun e w' => e = .returned (.string (cutR s a b)) ∧ Drawn0 w w' :=
  strings_TrimSuffix.calls _ _ _ w (trim_at s a b hs hab hb)
theorem ph_len (s : ByteArray) : ∀ (l : List Int) (lo pos : Nat), (ph s l lo pos).length ≤ l.length + 1
  | [], lo, pos => by show (if _ then _ else _ : List ByteArray).length ≤ _; split <;> simp
  | c :: t, lo, pos => by
    show (if _ then _ else _ : List ByteArray).length ≤ _
    split
    · have := ph_len s t (pos + 1) (pos + 1); simp only [List.length_cons]; omega
    · have := ph_len s t lo (pos + 1); simp only [List.length_cons]; omega
/-- The state of the loop: ls are gathered. -/
structure PR (w : World) (s : ByteArray) (lo pos : Nat) (ls : List ByteArray) (v : Value) (wr : World) : Prop where
  iter : wr.heap[w.heap.size]? = some (.stringIter s pos)
  below : Below w.heap.size w wr
  row : Kd.R Kd.string 9 wr w.heap.size (fun k => k ≠ w.heap.size) v ls
  eq : phys s = ls ++ ph s ((bytesOf s).drop pos) lo pos
  len : ls.length ≤ pos
  lo_ : lo ≤ pos
theorem R_iter {wr : World} {B : Nat} {v : Value} {ls : List ByteArray} (h : Kd.R Kd.string 9 wr B (fun k => k ≠ B) v ls) (s : ByteArray) (p : Nat) : Kd.R Kd.string 9 (wr.iterAt B s p) B (fun k => k ≠ B) v ls :=
  Kd.R_move h (fun k hk => Lib.iterAt_other wr B k s p hk)
theorem PR.on {w wr : World} {s : ByteArray} {lo pos : Nat} {ls : List ByteArray} {v : Value} (h : PR w s lo pos ls v wr) (n : Nat) (hn : pos + n ≤ s.size) (hm : ∀ j, pos ≤ j → j < pos + n → bt s (j : Int) ≠ 10) : PR w s lo (pos + n) ls v (wr.iterAt w.heap.size s (pos + n)) :=
  ⟨Lib.iterAt_heap wr w.heap.size s pos _ h.iter, Lib.below_iterAt h.below (k := w.heap.size) (Nat.le_refl _) s _, R_iter h.row s _, by rw [h.eq, ph_skip s lo n pos hn hm], by have := h.len; omega, by have := h.lo_; omega⟩
theorem PR.hit {w wr w2 : World} {s : ByteArray} {lo pos : Nat} {ls : List ByteArray} {v v2 : Value} (h : PR w s lo pos ls v wr) (hp : pos < s.size) (hb : bt s (pos : Int) = 10) (hr : Kd.R Kd.string 9 w2 w.heap.size (fun k => k ≠ w.heap.size) v2 (ls ++ [cutR s lo pos])) (hbl : Below w.heap.size w w2) (hi : w2.heap[w.heap.size]? = some (.stringIter s (pos + 1))) : PR w s (pos + 1) (pos + 1) (ls ++ [cutR s lo pos]) v2 w2 :=
  ⟨hi, hbl, hr, by rw [h.eq, ph_hit s lo pos hp hb]; simp, by rw [List.length_append, List.length_singleton]; have := h.len; omega, Nat.le_refl _⟩
theorem info9 : (Try.prog.info? 9).map (fun i => (i.zero, i.size, i.bytes)) = some (some (.string ⟨#[]⟩), 1, 16) := by kernel_rfl
theorem add_off (g o k : Nat) : (⟨g, o, none⟩ : Addr).add k = ⟨g, o + k, none⟩ := by
  unfold Addr.add
  by_cases h : k = 0
  · subst h; simp
  · simp [h]
theorem lit_row (W : World) (x : ByteArray) : Kd.C Kd.string (W.alloc (.cells #[.string x] 9)) (some ⟨W.heap.size, 0, none⟩) 1 [x] := by
  refine Kd.C_of_reads (enc := Value.string) (d := ByteArray.empty) (h1 := fun _ => rfl) ⟨rfl, by decide, fun _ => ⟨_, rfl, fun j hj => ?_⟩⟩
  obtain rfl : j = 0 := by omega
  rw [add_off]
  exact (Blk.At.fresh W [.string x] 9).get 0 _ rfl
theorem lit_at (W : World) (b : Nat) (hb : b = W.heap.size) (x : ByteArray) : Kd.C Kd.string (W.alloc (.cells #[.string x] 9)) (some ⟨b, 0, none⟩) 1 [x] := by
  subst hb
  exact lit_row W x
def PhysQ (w : World) (s : ByteArray) (e : Ending) (w' : World) : Prop := ∃ v, e = .returned v ∧ Kd.R Kd.string 9 w' w.heap.size (fun _ => True) v (phys s) ∧ Below w.heap.size w w'
set_option maxHeartbeats 4000000 in
set_option maxRecDepth 100000 in
theorem physical_as (s : ByteArray) (w : World) (hs : s.size ≤ 1048576) : Calls Try.prog 16 #[.string s] w (PhysQ w s) := by
  go_enter Try.func16, Try.ntmps16
  go_wp2
  go_loopw [3, 4, 5, 6] (fun v3 v4 v5 v6 wr => ∃ (lo pos : Nat) (ls : List ByteArray), pos ≤ s.size ∧ v4 = .int .i64 (lo : Nat) ∧ Hid (PR w s lo pos ls v3 wr)) (fun _ _ _ _ wr => s.size - wr.iterPos w.heap.size)
  case atStart =>
    refine ⟨0, 0, [], Nat.zero_le _, rfl, Lib.hid ⟨?_, (Below.refl _ w).alloc (Nat.le_refl _) _, Kd.R_nil _ _ _ _ _, rfl, Nat.le_refl _, Nat.le_refl _⟩⟩
    have := World.iter_heap w s 0
    simpa using this
  case round =>
    obtain ⟨lo, pos, ls, hpos, rfl, HP⟩ := hrel
    have hit := HP.out.iter
    have hlo := HP.out.lo_
    by_cases hp : pos < s.size
    · have hby : bt s (pos : Int) = ((s[pos]'hp).toNat : Int) := bt_nat s pos hp
      have hszw : w.heap.size + 1 ≤ wr.heap.size := (Array.getElem?_eq_some_iff.1 hit).1
      by_cases ha : (s[pos]'hp).toNat < 128
      · have hnx : ∀ ty, (Instr.next (.pointer (some ⟨w.heap.size, 0, none⟩)) true ty).run Try.prog wr = .ok (.tuple #[.bool true, .int .i64 pos, .int .i32 (bt s (pos : Int))]) (wr.iterAt w.heap.size s (pos + 1)) := fun ty => by
          rw [hby]; exact Lib.run_next_ascii_at wr w.heap.size s pos ty hit hp ha
        have hsz2 := Lib.iterAt_size wr w.heap.size s (pos + 1)
        by_cases h10 : bt s (pos : Int) = 10
        · have hb2 : (bt s (pos : Int) == 10) = true := beq_iff_eq.mpr h10
          have hl1 : (lo : Int) ≤ (pos : Int) := by omega
          have hl2 : (pos : Int) ≤ (s.size : Int) := by omega
          have HIT := Lib.hid (Lib.iterAt_heap wr w.heap.size s pos (pos + 1) hit)
          have HBI := Lib.hid (Lib.below_iterAt HP.out.below (k := w.heap.size) (Nat.le_refl _) s (pos + 1))
          have HRI := Lib.hid (R_iter HP.out.row s (pos + 1))
          have hln := HP.out.len
          clear hby
          go_wp2_with (first
            | (go_at_call 24; ((with_reducible refine (trim_as s lo pos _ hs hlo (Nat.le_of_lt hp)).mono ?_); rintro e _ ⟨rfl, ⟨n1, rfl⟩⟩))
            | ((with_reducible refine gate_builtin (b := .append) (xs := #[.tmp 15, .tmp 21]) rfl ?_); at_builtin; refine Kd.R_append_rows Kd.string (w0 := w) w.heap.size rfl (.tmp 15) (.tmp 21) 34 9 (.string ⟨#[]⟩) 16 rfl Try.underlying34 info9 rfl (by decide) (by omega) _ ls [cutR s lo pos] _ _ _ (fun k => k ≠ w.heap.size) (fun _ => False) rfl rfl ?aO ?aR (fun _ _ h => h) (fun _ h => h.elim) ?aF ?aB ?aS ?aL ?_; (case aR => exact lit_at _ _ (by first | rfl | exact hsz2.symm) _); (case aB => exact (pw_below_drewN HBI.out n1).alloc (by show _ ≤ (wr.iterAt w.heap.size s (pos + 1)).heap.size; rw [hsz2]; omega) _); (case aF => intro k hk; rw [World.size_alloc] at hk; have hk2 : (wr.iterAt w.heap.size s (pos + 1)).heap.size + 1 ≤ k := hk; rw [hsz2] at hk2; omega); (case aO => exact Kd.R_alloc (Kd.R_drewN HRI.out n1) _); (case aS => rw [World.size_alloc]; show _ ≤ (wr.iterAt w.heap.size s (pos + 1)).heap.size + 1; rw [hsz2]; omega); (case aL => omega); intro v2 w2 ho hb hg hat; have HI2 : w2.heap[w.heap.size]? = some (.stringIter s (pos + 1)) := (hg.block w.heap.size (by rw [World.size_alloc]; show _ < (wr.iterAt w.heap.size s (pos + 1)).heap.size + 1; rw [hsz2]; omega) (fun e => HRI.out.1 _ e.symm rfl)).trans ((Below.heap_alloc _ _ _ (by show _ < (wr.iterAt w.heap.size s (pos + 1)).heap.size; rw [hsz2]; omega)).trans HIT.out); have HN := Lib.hid (HP.out.hit hp h10 ho hb HI2); have HIP := Lib.hid HI2; clear ho hb hg hat HI2)
            | go_in)
          go_roundw
          case rel => exact ⟨pos + 1, pos + 1, _, by omega, by go_num, HN⟩
          case measure => simp only [World.iterPos, HIP.out, hit]; omega
        · have hb2 : (bt s (pos : Int) == 10) = false := beq_eq_false_iff_ne.mpr h10
          have HN := Lib.hid (HP.out.on 1 (by omega) (fun j h1 h2 => by
            have e : j = pos := by omega
            rw [e]; exact h10))
          clear hby
          go_wp2
          go_roundw
          case rel => exact ⟨lo, pos + 1, ls, by omega, rfl, HN⟩
          case measure => simp only [World.iterPos, HN.out.iter, hit]; omega
      · have hd := decode_high s pos hp (by omega)
        have hle := decode_le s pos
        obtain ⟨w1_, w2_, w3_⟩ := wide_high s pos hp (by omega)
        have hnx : ∀ ty, (Instr.next (.pointer (some ⟨w.heap.size, 0, none⟩)) true ty).run Try.prog wr = _ := fun ty => Lib.run_next_any_at wr w.heap.size s pos ty hit hp
        have HN := Lib.hid (HP.out.on (Utf8.decode s pos).2 w1_ (fun j h1 h2 => by
          have := w3_ j (by omega) h1 h2
          rw [bt_nat s j (by omega)]
          omega))
        generalize Utf8.decode s pos = z at *
        have hb2 : ((z.1 : Int) == 10) = false := beq_eq_false_iff_ne.mpr (by omega)
        clear hby w3_
        go_wp2
        go_roundw
        case rel => exact ⟨lo, pos + z.2, ls, by omega, rfl, HN⟩
        case measure => simp only [World.iterPos, HN.out.iter, hit]; omega
    · have hnx : ∀ ty, (Instr.next (.pointer (some ⟨w.heap.size, 0, none⟩)) true ty).run Try.prog wr = _ := fun ty => Lib.run_next_end_at wr w.heap.size s pos ty hit hp
      have hE := HP.out.eq
      rw [ph_end s lo pos (by omega)] at hE
      by_cases hlt : lo < s.size
      · rw [if_pos hlt] at hE
        have hlt' : (lo : Int) < (s.size : Int) := by omega
        have HE := Lib.hid hE
        have hszw : w.heap.size + 1 ≤ wr.heap.size := (Array.getElem?_eq_some_iff.1 hit).1
        have hln := HP.out.len
        clear hE
        go_wp2_with (first
          | ((with_reducible refine gate_builtin (b := .append) (xs := #[.tmp 29, .tmp 33]) rfl ?_); at_builtin; refine Kd.R_append_rows Kd.string (w0 := w) (w.heap.size) rfl (.tmp 29) (.tmp 33) 34 9 (.string ⟨#[]⟩) 16 rfl Try.underlying34 info9 rfl (by decide) (by omega) _ ls [s.extract lo s.size] _ _ _ (fun _ => True) (fun _ => False) rfl rfl ?aO ?aR (fun _ _ h => h) (fun _ h => h.elim) ?aF ?aB ?aS ?aL ?_; (case aR => exact lit_row _ _); (case aB => exact HP.out.below.alloc (by omega) _); (case aF => exact (fun _ _ => trivial)); (case aO => exact Kd.R_mono (Kd.R_alloc HP.out.row _) (fun _ _ => trivial)); (case aS => rw [World.size_alloc]; omega); (case aL => omega); intro v2 w2 ho hb hg hat; have HO := Lib.hid ho; have HB2 := Lib.hid hb; clear ho hb hg hat)
          | go_in)
        go_ret
        exact ⟨_, rfl, by rw [HE.out]; exact HO.out, HB2.out⟩
      · rw [if_neg hlt, List.append_nil] at hE
        have hlt' : ¬ (lo : Int) < (s.size : Int) := by omega
        have HE := Lib.hid hE
        clear hE
        go_wp2
        go_ret
        exact ⟨_, rfl, by rw [HE.out]; exact Kd.R_mono HP.out.row (fun _ _ => trivial), HP.out.below⟩
end Go.Proofs.Ytfiomfcejmmbgaa.LinesW

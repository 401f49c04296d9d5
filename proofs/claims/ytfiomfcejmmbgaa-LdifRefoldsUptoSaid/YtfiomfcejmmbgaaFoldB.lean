/- By hand: ldif.Refold. For every text of at most 1048576 bytes, width and world. -/
import Derived.Test.YtfiomfcejmmbgaaFoldA
import Derived.Test.YtfiomfcejmmbgaaLinesL
set_option linter.unusedVariables false
set_option linter.unusedSimpArgs false
namespace Go.Proofs.Ytfiomfcejmmbgaa.LinesW
open Go.RowKit Go.Proofs.Ytfiomfcejmmbgaa.Blk Go.Proofs.Ytfiomfcejmmbgaa.ByteM Go.Proofs.Ytfiomfcejmmbgaa.XL Go.Proofs.Ytfiomfcejmmbgaa.XV Go.Proofs.Ytfiomfcejmmbgaa.LinesP Go.Proofs.YtfiomfcejmmbgaaW.PrintWords Go.Proofs.YtfiomfcejmmbgaaW.PrintLast Go.Proofs.YtfiomfcejmmbgaaW.PrintMore
theorem ST.self {w0 W : World} {B : Nat} {v : Value} {l : List UInt8} {ls : List (Nat × Int)} (h : ST w0 B W v l ls) : ST W B W v l ls := ⟨h.row, Nat.le_trans h.base h.below.size, Below.refl _ _, Kept5.refl _, h.lits⟩
theorem ST.trans {w0 W W1 : World} {B : Nat} {v v1 : Value} {l l1 : List UInt8} {ls ls1 : List (Nat × Int)} (h : ST w0 B W v l ls) (h1 : ST W B W1 v1 l1 ls1) : ST w0 B W1 v1 l1 ls1 := ⟨h1.row, h.base, h.below.trans h1.below, h.kept.trans h1.kept, h1.lits⟩
theorem folded_on (W : World) (B : Nat) (v : Value) (l : List UInt8) (x : ByteArray) (wd : Nat) (h : ST W B W v l []) (hx : x.size ≤ 1048576) (h2 : 2 ≤ wd) (h63 : wd ≤ 9223372036854775807) (hn : (l ++ refo wd 0 x.data.toList).length ≤ 140737488355328) :
    Calls Try.prog 21 #[v, .string x, .int .i64 (wd : Int)] W fun e w' => ∃ v', e = .returned v' ∧ ST W B w' v' (l ++ refo wd 0 x.data.toList) [] := folded_as W W B v l x wd h hx h2 h63 hn
theorem ST.nil (w0 W : World) (B : Nat) (hB : B ≤ w0.heap.size) (hb : Below B w0 W) (hk : Kept5 w0 W) : ST w0 B W (.slice none 0 0) [] [] := ⟨.inl ⟨rfl, rfl, rfl⟩, hB, hb, hk, fun x hx => by cases hx⟩
/-- What Refold answers. -/
def refR (p : List ByteArray) (wd : Int) : ByteArray × Int × Int := if wd < 2 then (⟨#[]⟩, 1, 0) else match fault p with
  | some (er, at_) => (⟨#[]⟩, er, at_)
  | none => (⟨(folds wd.toNat (full p)).toArray⟩, 0, 0)
def RefQ (w : World) (p : List ByteArray) (wd : Int) (e : Ending) (w' : World) : Prop := Below w.heap.size w w' ∧ e = .returned (.tuple #[.string (refR p wd).1, .int .i64 (refR p wd).2.1, .int .i64 (refR p wd).2.2])
theorem ref_small {p : List ByteArray} {wd : Int} (h : wd < 2) : refR p wd = (⟨#[]⟩, 1, 0) := if_pos h
theorem ref_fault {p : List ByteArray} {wd er at_ : Int} (h : ¬ wd < 2) (hf : fault p = some (er, at_)) : refR p wd = (⟨#[]⟩, er, at_) := by unfold refR; rw [if_neg h, hf]
theorem ref_none {p : List ByteArray} {wd : Int} (h : ¬ wd < 2) (hf : fault p = none) : refR p wd = (⟨(folds wd.toNat (full p)).toArray⟩, 0, 0) := by unfold refR; rw [if_neg h, hf]
/-- The errors are none of 0. -/
theorem fault_pos (p : List ByteArray) : ∀ n i er at_, faultF p n i = some (er, at_) → (er == 0) = false ∧ 0 < er
  | 0, _, _, _, h => by cases h
  | n + 1, i, er, at_, h => by
    have h' : (if hasR (p.getD i ByteArray.empty) = true then some (70, ((i + 1 : Nat) : Int)) else if badF p i = true then some (71, ((i + 1 : Nat) : Int)) else faultF p n (i + 1)) = some (er, at_) := h
    split at h'
    · simp only [Option.some.injEq, Prod.mk.injEq] at h'; rw [← h'.1]; decide
    · split at h'
      · simp only [Option.some.injEq, Prod.mk.injEq] at h'; rw [← h'.1]; decide
      · exact fault_pos p n (i + 1) er at_ h'
theorem refold_as (s : ByteArray) (wd : Int) (w : World) (hs : s.size ≤ 1048576) (hw : wd ≤ 9223372036854775807) : Calls Try.prog 9 #[.string s, .int .i64 wd] w (RefQ w (phys s) wd) := by
  by_cases hw2 : wd < 2
  · have HR := Lib.hid (ref_small (p := phys s) hw2)
    go_enter Try.func9, Try.ntmps9
    go_wp2
    go_ret3
    exact ⟨Below.refl _ _, by rw [HR.out]; rfl⟩
  · have HL : Hid (∀ w, Calls Try.prog 6 #[.string s] w (LinesQ w (phys s))) := Lib.hid (fun w => lines_as s w hs)
    obtain ⟨hsum, hcnt⟩ := full_sum s
    have hsz : ∀ x ∈ full (phys s), x.2.size ≤ 1048576 := fun x hx => by
      have : ∀ (l : List (Int × ByteArray)), x ∈ l → x.2.size ≤ (l.map fun g => g.2.size).sum := by
        intro l hl
        induction l with
        | nil => cases hl
        | cons y l ih =>
          rw [List.map_cons, List.sum_cons]
          rcases List.mem_cons.1 hl with rfl | hl
          · omega
          · have := ih hl; omega
      have := this _ hx
      omega
    generalize phys s = p at *
    cases hf : fault p with
    | some q =>
      obtain ⟨er, at_⟩ := q
      have HR := Lib.hid (ref_fault hw2 hf)
      have HF := Lib.hid hf
      obtain ⟨her, _⟩ := fault_pos p _ _ _ _ hf
      clear hf hsum hcnt hsz
      go_enter Try.func9, Try.ntmps9
      go_wp2_with (first
        | (go_at_call 6; (with_reducible refine (HL.out _).mono ?_); rintro e w1 ⟨hb1, he1⟩; rw [HF.out] at he1; (obtain rfl := he1); have HB1 := Lib.hid hb1; clear hb1)
        | go_in)
      go_ret3
      exact ⟨HB1.out, by rw [HR.out]; rfl⟩
    | none =>
      obtain ⟨wn, rfl⟩ : ∃ wn : Nat, wd = (wn : Int) := ⟨wd.toNat, by omega⟩
      have HR := Lib.hid (ref_none hw2 hf)
      have HF := Lib.hid hf
      have hfl := folds_len wn (full p)
      obtain ⟨ls, hls⟩ : ∃ ls, ls = full p := ⟨_, rfl⟩
      have HLS := Lib.hid hls
      rw [← hls] at hfl hcnt hsum hsz
      have hmax : (folds wn ls).length ≤ 140737488355328 := by omega
      have hcn : ls.length ≤ 1048577 := by omega
      have HSZ := Lib.hid hsz
      clear hf hls hfl hsum hcnt hsz
      go_enter Try.func9, Try.ntmps9
      go_wp2_with (first
        | (go_at_call 6; (with_reducible refine (HL.out _).mono ?_); rintro e w1 ⟨hb1, he1⟩; rw [HF.out, ← HLS.out] at he1; (obtain ⟨v1, rfl, hv1⟩ := he1); (obtain ⟨A1, c1, rfl⟩ := Kd.R_slice hv1); have HB1 := Lib.hid hb1; have HV1 := Lib.hid hv1; clear hb1 hv1)
        | go_in)
      go_loopw [10, 12, 27] (fun v10 v12 v27 wr => ∃ i : Nat, i ≤ ls.length ∧ v27 = .int .i64 (i : Nat) ∧ Hid (kL.R 28 wr w.heap.size (fun _ => True) (.slice A1 ls.length c1) ls) ∧ Hid (ST w w.heap.size wr v10 (folds wn (ls.take i)) [])) (fun _ _ v27 _ => ls.length - (intOf v27).toNat)
      case atStart => exact ⟨0, Nat.zero_le _, rfl, HV1, Lib.hid (ST.nil w w1 w.heap.size (Nat.le_refl _) HB1.out (Kept5.below HB1.out))⟩
      case round =>
        clear HV1 HB1 HL
        obtain ⟨i, hi, rfl, HV, HS⟩ := hrel
        by_cases hin : i < ls.length
        · have hlt : (i : Int) < (ls.length : Int) := by omega
          have hw1 : IntKind.i64.wrap ((i : Int) + 1) = ((i + 1 : Nat) : Int) := by rw [IntWalk.i64_in _ (by omega)]; rfl
          obtain ⟨g1, c', he, hg1, hg2, _⟩ := Kd.R_form HV.out (by omega)
          injection he with he1 _ he2
          subst he1 he2
          obtain ⟨⟨n, x⟩, hx⟩ : ∃ x, x = ls.getD i (0, ⟨#[]⟩) := ⟨_, rfl⟩
          obtain ⟨a1, a2⟩ := cell_ln HV.out i hin _ hx.symm
          have hxz : x.size ≤ 1048576 := HSZ.out (n, x) (by rw [hx, List.getD_eq_getElem?_getD, List.getElem?_eq_getElem hin]; exact List.getElem_mem hin)
          have HFT := Lib.hid (folds_take wn ls i hin _ hx.symm)
          have hmx : (folds wn (ls.take i) ++ refo wn 0 x.data.toList).length ≤ 140737488355328 := by
            have h1 := folds_mono wn ls (i + 1)
            rw [HFT.out] at h1
            exact Nat.le_trans h1 hmax
          clear hx
          have hwn2 : 2 ≤ wn := by omega
          have hwn63 : wn ≤ 9223372036854775807 := by omega
          go_wp2_with (first
            | (go_at_call 21; ((with_reducible refine (folded_on _ w.heap.size _ (folds wn (ls.take i)) x wn ?hS hxz hwn2 hwn63 hmx).mono ?_); (case hS => exact (HS.out.more (below_alloc (Below.refl _ _) _)).self); rintro e w2 ⟨v2, rfl, hst⟩; have HS2 := Lib.hid ((HS.out.more (below_alloc (Below.refl _ _) _)).trans hst); have HV2 := Lib.hid (R_kept5 (Kd.R_alloc HV.out _) (by decide) hst.kept); clear hst))
            | go_in)
          go_roundw
          case rel => exact ⟨i + 1, by omega, by go_num, HV2, Lib.hid (by rw [HFT.out]; exact HS2.out)⟩
          case measure => simp [intOf]; omega
        · have hlt : ¬ (i : Int) < (ls.length : Int) := by omega
          obtain rfl : i = ls.length := by omega
          have hback := HS.out.back 40 9 Try.underlying40 Try.underlying5 Try.underlying9
          go_wp2
          go_ret3
          refine ⟨HS.out.below, ?_⟩
          rw [HR.out, ← HLS.out]
          try rw [List.take_length]
          rfl
end Go.Proofs.Ytfiomfcejmmbgaa.LinesW

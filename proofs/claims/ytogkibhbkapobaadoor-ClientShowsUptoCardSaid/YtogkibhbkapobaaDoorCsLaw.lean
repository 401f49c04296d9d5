/- By hand: the law of ClientShows, walked: it answers true of every reply of the sizes told, in every world. -/
import Derived.Test.YtogkibhbkapobaaDoorCsMark
import Derived.Test.YtogkibhbkapobaaDoorCsShow
import Derived.Test.YtogkibhbkapobaaDoorCsSame
import Derived.Test.YtogkibhbkapobaaDoorXA5
import Derived.StillTailTactics
set_option linter.unusedVariables false
set_option linter.unusedSimpArgs false
namespace Go.Proofs.YtogkibhbkapobaaDoor.CsLaw
open Go.RowKit Go.Shelf Go.Proofs Go.Proofs.YtogkibhbkapobaaDoor.XA Go.Proofs.YtogkibhbkapobaaDoor.XV Go.Proofs.YtogkibhbkapobaaDoor.Blk Go.Proofs.YtogkibhbkapobaaDoor.CsTab Go.Proofs.YtogkibhbkapobaaDoor.CsEv Go.Proofs.YtogkibhbkapobaaDoor.CsShow Go.Proofs.YtogkibhbkapobaaDoor.CsSame Go.Proofs.YtogkibhbkapobaaDoor.CsMark Go.Proofs.YtogkibhbkapobaaDoorW.PrintWords Go.Proofs.YtogkibhbkapobaaDoorW.PrintLast Go.Proofs.YtogkibhbkapobaaDoorW.PrintMore
theorem copied_loop (f0 f1 f2 : Int) (f3 f4 f5 : ByteArray) (xs : List S34) (f7 : ByteArray) (f8 : Bool) (cs : List S36) (hF : FineA xs) (hC : FineC cs) : ∀ m i : Nat, xs.length - i = m → i ≤ xs.length →
    Ev (fun k => rosterlaw19_copied.l0 k (xs.take i) xs (xs.length : Int) (i : Int) f0 f1 f2 f3 f4 f5 xs f7 f8 cs) (f0, f1, f2, f3, f4, f5, xs, f7, f8, cs) := by
  intro m
  have hl := hF.len
  have hn := hC.n
  induction m with
  | zero =>
    intro i hm hi
    obtain rfl : i = xs.length := by omega
    refine ev_round ?_
    simp only [rosterlaw19_copied.l0, Option.bind_some, List.nil_append, List.length_nil]
    refine ev_neg (by omega) (ev_pos (by omega) (ev_eq ?_))
    rw [List.take_of_length_le (Nat.le_refl _)]
  | succ m ih =>
    intro i hm hi
    have hil : i < xs.length := by omega
    have hv := hF.vlen i hil
    have ht : (xs.take i).length = i := by rw [List.length_take]; omega
    refine ev_round ?_
    simp only [rosterlaw19_copied.l0, Option.bind_some, List.nil_append, List.length_nil]
    refine ev_pos (by omega) (ev_pos (by omega) (ev_pos (by omega) (ev_pos (by omega) (ev_pos (by omega) ?_))))
    rw [wrp_id _ (by omega) (by omega)]
    have e : xs.take i ++ [(⟨(rd_T34 xs (i : Int)).f0, (rd_T34 xs (i : Int)).f1, (rd_T34 xs (i : Int)).f2⟩ : S34)] = xs.take (i + 1) := by
      rw [List.take_add_one, List.getElem?_eq_getElem hil, rd34 xs i hil]
      rfl
    rw [e]
    exact ih (i + 1) (by omega) (by omega)
theorem copied_as (f0 f1 f2 : Int) (f3 f4 f5 : ByteArray) (A6 : Option Addr) (c6 : Nat) (xs : List S34) (f7 : ByteArray) (f8 : Bool) (A9 : Option Addr) (c9 : Nat) (cs : List S36) (w : World) (hF : FineA xs) (hC : FineC cs) (hA : Kd.C k34 w A6 xs.length xs) (h6 : xs.length ≤ c6) (hB : Kd.C k36 w A9 cs.length cs) (h9 : cs.length ≤ c9) :
    Calls Tryd.prog 5 #[.agg #[.int .i64 f0, .int .i64 f1, .int .i64 f2, .string f3, .string f4, .string f5, .slice A6 xs.length c6, .string f7, .bool f8, .slice A9 cs.length c9]] w fun e w' => ∃ v6 v9 : Value, e = .returned (.agg #[.int .i64 f0, .int .i64 f1, .int .i64 f2, .string f3, .string f4, .string f5, v6, .string f7, .bool f8, v9]) ∧ Kd.S k34 34 w' w.heap.size (fun _ => True) v6 xs ∧ Kd.R k36 36 w' w.heap.size (fun _ => True) v9 cs ∧ Below w.heap.size w w' := by
  have he : Ev (fun k => rosterlaw19_copied.f k f0 f1 f2 f3 f4 f5 xs f7 f8 cs) (f0, f1, f2, f3, f4, f5, xs, f7, f8, cs) := by
    have := copied_loop f0 f1 f2 f3 f4 f5 xs f7 f8 cs hF hC xs.length 0 (by omega) (by omega)
    simpa [rosterlaw19_copied.f] using this
  obtain ⟨k, hk⟩ := he.rounds
  exact rosterlaw19_copied.calls k f0 f1 f2 f3 f4 f5 A6 c6 xs f7 f8 A9 c9 cs f0 f1 f2 f3 f4 f5 xs f7 f8 cs w hA h6 hB h9 hk
theorem ref_as (f0 f1 f2 : Int) (f3 f4 f5 : ByteArray) (A6 : Option Addr) (c6 : Nat) (xs : List S34) (f7 : ByteArray) (f8 : Bool) (A9 : Option Addr) (c9 : Nat) (cs : List S36) (w : World) (hF : Fine f0 f1 f2 f3 f4 f5 xs f7 cs) (hA : Kd.C k34 w A6 xs.length xs) (h6 : xs.length ≤ c6) (hB : Kd.C k36 w A9 cs.length cs) (h9 : cs.length ≤ c9) :
    Calls Tryd.prog 4 #[.agg #[.int .i64 f0, .int .i64 f1, .int .i64 f2, .string f3, .string f4, .string f5, .slice A6 xs.length c6, .string f7, .bool f8, .slice A9 cs.length c9]] w fun e w' => e = .returned (.string (showB f0 f1 f2 f3 f4 f5 xs f7 f8 cs)) ∧ Below w.heap.size w w' := by
  obtain ⟨k, hk⟩ := (show_ev f0 f1 f2 f3 f4 f5 xs f7 f8 cs hF).rounds
  exact rosterref19_Show.calls k f0 f1 f2 f3 f4 f5 A6 c6 xs f7 f8 A9 c9 cs _ w hA h6 hB h9 hk
theorem lit_row (W : World) (x : ByteArray) : Kd.C Kd.string (W.alloc (.cells #[.string x] 9)) (some ⟨W.heap.size, 0, none⟩) 1 [x] := by
  refine Kd.C_of_reads (enc := Value.string) (d := ByteArray.empty) (h1 := fun _ => rfl) ⟨rfl, by decide, fun _ => ⟨_, rfl, fun j hj => ?_⟩⟩
  obtain rfl : j = 0 := by omega
  rw [XG.add_flat]
  exact (Blk.At.fresh W [.string x] 9).get 0 _ rfl
theorem up26 (A : Addr) (n c k : Nat) (hk : k ≤ c) (W : World) : (Instr.slice 26 (.slice (some A) n c) none (some (.int .i64 (k : Int))) none).run Tryd.prog W = .ok (.slice (some A) k c) W := by
  obtain ⟨i0, hi0, _, hsz, _⟩ := info_parts info34
  rw [run_slice_h W 26 (some A) n c (P := Tryd.prog) (by have h := Tryd.underlying26; rwa [show Tryd.prog.elem 26 = 34 by simp [Program.elem, Tryd.underlying26]]) .i64 _ (by omega) (by omega)]
  rw [show Tryd.prog.elem 26 = 34 by simp [Program.elem, Tryd.underlying26]]
  simp [sizeOf, typeInfo, hi0, sliced, Result.andThen, Addr.add]
theorem up27 (A : Addr) (n c k : Nat) (hk : k ≤ c) (W : World) : (Instr.slice 27 (.slice (some A) n c) none (some (.int .i64 (k : Int))) none).run Tryd.prog W = .ok (.slice (some A) k c) W := by
  obtain ⟨i0, hi0, _, hsz, _⟩ := info_parts info36
  rw [run_slice_h W 27 (some A) n c (P := Tryd.prog) (by have h := Tryd.underlying27; rwa [show Tryd.prog.elem 27 = 36 by simp [Program.elem, Tryd.underlying27]]) .i64 _ (by omega) (by omega)]
  rw [show Tryd.prog.elem 27 = 36 by simp [Program.elem, Tryd.underlying27]]
  simp [sizeOf, typeInfo, hi0, sliced, Result.andThen, Addr.add]
theorem up32 (A : Addr) (n c k : Nat) (hk : k ≤ c) (W : World) : (Instr.slice 32 (.slice (some A) n c) none (some (.int .i64 (k : Int))) none).run Tryd.prog W = .ok (.slice (some A) k c) W := by
  obtain ⟨i0, hi0, _, hsz, _⟩ := info_parts info9
  rw [run_slice_h W 32 (some A) n c (P := Tryd.prog) (by have h := Tryd.underlying32; rwa [show Tryd.prog.elem 32 = 9 by simp [Program.elem, Tryd.underlying32]]) .i64 _ (by omega) (by omega)]
  rw [show Tryd.prog.elem 32 = 9 by simp [Program.elem, Tryd.underlying32]]
  simp [sizeOf, typeInfo, hi0, sliced, Result.andThen, Addr.add]
set_option maxHeartbeats 4000000 in
set_option maxRecDepth 100000 in
theorem law_walk (f0 f1 f2 : Int) (f3 f4 f5 : ByteArray) (A6 : Option Addr) (c6 : Nat) (xs : List S34) (f7 : ByteArray) (f8 : Bool) (A9 : Option Addr) (c9 : Nat) (cs : List S36) (w : World) (hT : Tabs w) (hF : Fine f0 f1 f2 f3 f4 f5 xs f7 cs) (hA : Kd.C k34 w A6 xs.length xs) (h6 : xs.length ≤ c6) (hB : Kd.C k36 w A9 cs.length cs) (h9 : cs.length ≤ c9) :
    Calls Tryd.prog 3 #[.agg #[.int .i64 f0, .int .i64 f1, .int .i64 f2, .string f3, .string f4, .string f5, .slice A6 xs.length c6, .string f7, .bool f8, .slice A9 cs.length c9]] w fun e w' => e = .returned (.bool true) ∧ Below w.heap.size w w' := by
  have HT := Lib.hid hT
  have HF := Lib.hid hF
  have HA := Lib.hid hA
  have HC := Lib.hid hB
  have hnl := hF.fa.len
  have hml := hF.fc.n
  have HX0 := Lib.hid (At.fresh w [.int .i64 f0, .int .i64 f1, .int .i64 f2, .string f3, .string f4, .string f5, .slice A6 xs.length c6, .string f7, .bool f8, .slice A9 cs.length c9] 29)
  have HB0 := Lib.hid ((Below.refl w.heap.size w).alloc (Nat.le_refl _) (.cells #[.int .i64 f0, .int .i64 f1, .int .i64 f2, .string f3, .string f4, .string f5, .slice A6 xs.length c6, .string f7, .bool f8, .slice A9 cs.length c9] 29))
  clear hT hF hA hB
  go_enter Tryd.func3, Tryd.ntmps3
  go_wp2_with (first
    | (go_at_call 4; ((with_reducible refine (ref_as f0 f1 f2 f3 f4 f5 A6 c6 xs f7 f8 A9 c9 cs _ HF.out ?ha h6 ?hc h9).mono ?_); (case ha => exact Kd.C_alloc HA.out _); (case hc => exact Kd.C_alloc HC.out _); rintro e W1 ⟨rfl, q1⟩; rw [World.size_alloc] at q1; have hx1 := HX0.out.below q1 (by omega); have d0 := hx1.get 0 _ rfl; have d1 := hx1.get 1 _ rfl; have d2 := hx1.get 2 _ rfl; have d3 := hx1.get 3 _ rfl; have d4 := hx1.get 4 _ rfl; have d5 := hx1.get 5 _ rfl; have d6 := hx1.get 6 _ rfl; have d7 := hx1.get 7 _ rfl; have d8 := hx1.get 8 _ rfl; have d9 := hx1.get 9 _ rfl; have HX1 := Lib.hid hx1; have HB1 := Lib.hid (HB0.out.trans (q1.mono (by omega))); clear q1 hx1))
    | (go_at_call 5; ((with_reducible refine (copied_as f0 f1 f2 f3 f4 f5 A6 c6 xs f7 f8 A9 c9 cs _ HF.out.fa HF.out.fc ?ha h6 ?hc h9).mono ?_); (case ha => exact Kd.C_below HA.out HB1.out); (case hc => exact Kd.C_below HC.out HB1.out); rintro e W2 ⟨v6, v9, rfl, q1, q2, q3⟩; obtain ⟨B6, e6, ev6⟩ := Kd.S_slice q1; subst ev6; obtain ⟨B9, e9, ev9⟩ := Kd.R_slice q2; subst ev9; have hle := HB1.out.size; obtain ⟨cells, hm⟩ := MR.start (Kd.S_lower q1 hle); have HL0 : Hid (LS w xs cs (.slice B6 xs.length e6) (.slice B9 cs.length e9) W2.heap.size w.heap.size [.int .i64 f0, .int .i64 f1, .int .i64 f2, .string f3, .string f4, .string f5, .slice B6 xs.length e6, .string f7, .bool f8, .slice B9 cs.length e9] [.int .i64 f0, .int .i64 f1, .int .i64 f2, .string f3, .string f4, .string f5, .slice A6 xs.length c6, .string f7, .bool f8, .slice A9 cs.length c9] 0 cells (W2.alloc (.cells #[.int .i64 f0, .int .i64 f1, .int .i64 f2, .string f3, .string f4, .string f5, .slice B6 xs.length e6, .string f7, .bool f8, .slice B9 cs.length e9] 29))) := Lib.hid ⟨hm.on ((Below.refl _ _).alloc (Nat.le_refl _) _), Kd.R_alloc (Kd.R_tight rfl (Kd.R_lower q2 hle)) _, At.fresh W2 [.int .i64 f0, .int .i64 f1, .int .i64 f2, .string f3, .string f4, .string f5, .slice B6 xs.length e6, .string f7, .bool f8, .slice B9 cs.length e9] 29, (HX1.out.below q3 (by have := HX1.out.lt; omega)).alloc _, (HB1.out.trans (q3.mono hle)).alloc (by have := q3.size; omega) _⟩; have hpw : w.heap.size < W2.heap.size := (by have := q3.size; have := HX1.out.lt; omega); clear q1 q2 q3 hm))
    | go_in)
  go_loopw [16] (fun v16 wr => ∃ x : Int, 0 ≤ x ∧ x ≤ (xs.length : Int) ∧ v16 = .int .i64 x ∧ Hid (∃ cells, LS w xs cs (.slice B6 xs.length e6) (.slice B9 cs.length e9) W2.heap.size w.heap.size [.int .i64 f0, .int .i64 f1, .int .i64 f2, .string f3, .string f4, .string f5, .slice B6 xs.length e6, .string f7, .bool f8, .slice B9 cs.length e9] [.int .i64 f0, .int .i64 f1, .int .i64 f2, .string f3, .string f4, .string f5, .slice A6 xs.length c6, .string f7, .bool f8, .slice A9 cs.length c9] x.toNat cells wr)) (fun v _ => xs.length - (intOf v).toNat)
  case atStart => exact ⟨0, Int.le_refl 0, by omega, rfl, Lib.hid ⟨cells, HL0.out⟩⟩
  case round =>
    clear HL0
    rename World => wo
    obtain ⟨x, p0, p1, rfl, HR⟩ := hrel
    have ex : ((x.toNat : Nat) : Int) = x := Int.toNat_of_nonneg p0
    obtain ⟨cells, hL⟩ := HR.out
    clear HR
    by_cases q : x < (xs.length : Int)
    · have hil : x.toNat < xs.length := by omega
      obtain ⟨v, hv, hr⟩ := hL.mr.old x.toNat (Nat.le_refl _) hil
      obtain ⟨Av, cv, ev⟩ := Kd.R_slice hr
      subst ev
      obtain ⟨g, cg, eg, _, hcell⟩ := own_form hL.mr.arr (by omega)
      injection eg with eg1 eg2 eg3
      subst eg1 eg3
      have hvl := HF.out.fa.vlen x.toNat hil
      have hX : X xs x.toNat = rd_T34 xs x := by show rd_T34 xs ((x.toNat : Nat) : Int) = _; rw [ex]
      have cP := hL.px.get 6 _ rfl
      have cE : wo.cell? ⟨g, x.toNat * 3 + 2, none⟩ = some (.slice Av (X xs x.toNat).f2.length cv) := by rw [hcell _ (by omega), Nat.mul_comm]; exact hv
      have HL := Lib.hid hL
      have HV := Lib.hid hv
      have HRR := Lib.hid hr
      change (X xs x.toNat).f2.length + 1 ≤ 1048576 at hvl
      have hlt := eq_true q
      have hp := eq_true p0
      have w1 : wrap64 (x + 1) = x + 1 := wrp_id _ (by omega) (by omega)
      obtain ⟨i9, hi9, _, hz9, _⟩ := info_parts info9
      clear hL hv hr hcell hX
      go_wp2_with (first
        | ((with_reducible refine gate_builtin (b := .append) (xs := #[.tmp 24, .tmp 25]) rfl ?_); at_builtin; refine Kd.R_append_rows Kd.string (w0 := w) w.heap.size rfl (.tmp 24) (.tmp 25) 32 9 (.string ⟨#[]⟩) 16 rfl Tryd.underlying32 info9 rfl (by decide) (by omega) (.slice Av (X xs x.toNat).f2.length cv) (X xs x.toNat).f2 [markB] _ _ _ (fun _ => True) (fun _ => False) rfl rfl ?aO ?aR (fun _ _ h => h) (fun _ h => h.elim) ?aF ?aB ?aS ?aL ?_; (case aR => exact lit_row _ _); (case aB => exact HL.out.bel.alloc HL.out.bel.size _); (case aF => exact (fun _ _ => trivial)); (case aO => exact Kd.R_mono (Kd.R_alloc HRR.out _) (fun _ _ => trivial)); (case aS => rw [World.size_alloc]; have := HL.out.bel.size; omega); (case aL => omega); intro v2 w2 ho hb hg hat; obtain ⟨A2, c2, ev2⟩ := Kd.R_slice ho; have hln : ((X xs x.toNat).f2 ++ [markB]).length = (X xs x.toNat).f2.length + 1 := (by simp); rw [hln] at ev2; subst ev2; have hcc := (Kd.R_reads' ho).2.1; obtain ⟨hp2, ⟨hfz, u0, hu0⟩, hn⟩ := LS.next (HL.out.on ((Below.refl wo.heap.size wo).alloc (Nat.le_refl _) (.cells #[.string markB] 9))) hil HV.out ho hb hg hat; have cP2 := hp2.get 6 _ rfl; rw [Nat.mul_comm 3] at hfz hu0; have hcut := cut_to (P := Tryd.prog) 32 9 .i64 Tryd.underlying32 hi9 A2 ((X xs x.toNat).f2.length + 1) c2 ((X xs x.toNat).f2.length : Int) (by omega) (by omega) (by omega); have HN := Lib.hid hn; have HB2 := Lib.hid hb; have hs2 := World.block_lt_of_cell? w2 _ cP2; clear ho hb hg hat hcc hn hp2 hln)
        | go_in)
      (try simp only [Int.toNat_natCast] at hcut)
      go_wp2
      have wl : wrap64 (((X xs x.toNat).f2.length : Nat) : Int) = (((X xs x.toNat).f2.length : Nat) : Int) := wrp_id _ (by omega) (by omega)
      refine start_ (n := 11) (S := fun w' => w'.cell? ⟨W2.heap.size, 6, none⟩ = some (.slice (some ⟨g, 0, none⟩) xs.length e6)) (ds := [10]) #[false, false, false, false, false, false, false, false, false, false, false] (by kernel_rfl) rfl rfl (cP2) (fun hHeld => ?_)
      refine pure_ (i := 0) (N := some 27) (v := ?_) (a' := ?_) #[true, false, false, false, false, false, false, false, false, false, false] rfl rfl (by kernel_rfl) (fun _ _ _ h => h) (Or.inl ⟨by rfl, ?_⟩) ?_ ?_
      rotate_left
      · intro w'
        go_simp
        with_reducible rfl
      rotate_left
      · simp only [Act.put, List.setIfInBounds_toArray, List.set_cons_zero, List.set_cons_succ, i64_w, i32_w]
        rfl
      refine pure_ (i := 2) (N := some 29) (v := ?_) (a' := ?_) #[true, false, true, false, false, false, false, false, false, false, false] rfl rfl (by kernel_rfl) (fun _ _ _ h => h) (Or.inl ⟨by rfl, ?_⟩) ?_ ?_
      rotate_left
      · intro w'
        go_simp
        with_reducible rfl
      rotate_left
      · simp only [Act.put, List.setIfInBounds_toArray, List.set_cons_zero, List.set_cons_succ, i64_w, i32_w]
        rfl
      refine pure_ (i := 3) (N := some 30) (v := ?_) (a' := ?_) #[true, false, true, true, false, false, false, false, false, false, false] rfl rfl (by kernel_rfl) (fun _ _ _ h => h) (Or.inl ⟨by rfl, ?_⟩) ?_ ?_
      rotate_left
      · intro w'
        go_simp
        with_reducible rfl
      rotate_left
      · simp only [Act.put, List.setIfInBounds_toArray, List.set_cons_zero, List.set_cons_succ, i64_w, i32_w]
        rfl
      refine pure_ (i := 4) (N := some 31) (v := ?_) (a' := ?_) #[true, false, true, true, true, false, false, false, false, false, false] rfl rfl (by kernel_rfl) (fun _ _ _ h => h) (Or.inl ⟨by rfl, ?_⟩) ?_ ?_
      rotate_left
      · intro w'
        go_simp
        with_reducible rfl
      rotate_left
      · simp only [Act.put, List.setIfInBounds_toArray, List.set_cons_zero, List.set_cons_succ, i64_w, i32_w]
        rfl
      refine pure_ (i := 5) (N := some 32) (v := ?_) (a' := ?_) #[true, false, true, true, true, true, false, false, false, false, false] rfl rfl (by kernel_rfl) (fun _ _ _ h => h) (Or.inl ⟨by rfl, ?_⟩) ?_ ?_
      rotate_left
      · intro w'
        go_simp
        with_reducible rfl
      rotate_left
      · simp only [Act.put, List.setIfInBounds_toArray, List.set_cons_zero, List.set_cons_succ, i64_w, i32_w]
        rfl
      refine pure_ (i := 6) (N := some 33) (v := ?_) (a' := ?_) #[true, false, true, true, true, true, true, false, false, false, false] rfl rfl (by kernel_rfl) (fun _ _ _ h => h) (Or.inl ⟨by rfl, ?_⟩) ?_ ?_
      rotate_left
      · intro w'
        go_simp
        with_reducible rfl
      rotate_left
      · simp only [Act.put, List.setIfInBounds_toArray, List.set_cons_zero, List.set_cons_succ, i64_w, i32_w]
        rfl
      refine pure_ (i := 7) (N := some 34) (v := ?_) (a' := ?_) #[true, false, true, true, true, true, true, true, false, false, false] rfl rfl (by kernel_rfl) (fun _ _ _ h => h) (Or.inl ⟨by rfl, ?_⟩) ?_ ?_
      rotate_left
      · intro w'
        go_simp
        with_reducible rfl
      rotate_left
      · simp only [Act.put, List.setIfInBounds_toArray, List.set_cons_zero, List.set_cons_succ, i64_w, i32_w]
        rfl
      refine take_ (i := 1) (N := some 28) (v := ?_) (a' := ?_) #[true, true, true, true, true, true, true, true, false, false, false] rfl rfl (by kernel_rfl) (fun _ _ _ h => h) (Or.inl ⟨by rfl, ?_⟩) hHeld ?_ ?_
      rotate_left
      · intro w' s0
        go_simp
        with_reducible rfl
      rotate_left
      · simp only [Act.put, List.setIfInBounds_toArray, List.set_cons_zero, List.set_cons_succ, i64_w, i32_w]
        rfl
      refine pure_ (i := 8) (N := some 35) (v := ?_) (a' := ?_) #[true, true, true, true, true, true, true, true, true, false, false] rfl rfl (by kernel_rfl) (fun _ _ _ h => h) (Or.inl ⟨by rfl, ?_⟩) ?_ ?_
      rotate_left
      · intro w'
        go_simp
        with_reducible rfl
      rotate_left
      · simp only [Act.put, List.setIfInBounds_toArray, List.set_cons_zero, List.set_cons_succ, i64_w, i32_w]
        rfl
      refine pure_ (i := 9) (N := some 36) (v := ?_) (a' := ?_) #[true, true, true, true, true, true, true, true, true, true, false] rfl rfl (by kernel_rfl) (fun _ _ _ h => h) (Or.inl ⟨by rfl, ?_⟩) ?_ ?_
      rotate_left
      · intro w'
        go_simp
        with_reducible rfl
      rotate_left
      · simp only [Act.put, List.setIfInBounds_toArray, List.set_cons_zero, List.set_cons_succ, i64_w, i32_w]
        rfl
      refine last_ (i := 10) (N := none) #[true, true, true, true, true, true, true, true, true, true, true] rfl rfl (by kernel_rfl) (by decide) (fun K hK => ?_)
      refine skip_ (w1 := ?_) (by rfl) rfl ?_ ?_
      rotate_left
      · go_simp
        rfl
      refine hK.out _ _ ?_
      clear hK K
      refine done_ (by kernel_rfl) ?_
      go_wp2
      go_roundw
      case rel => exact ⟨x + 1, by omega, by omega, by first | rfl | (simp only [i64_w, w1]), by rw [show (x + 1).toNat = x.toNat + 1 by omega]; have := HN.out; rw [Nat.mul_comm 3] at this; exact Lib.hid ⟨_, this.on (below_drew1 (Below.refl _ _))⟩⟩
      case measure => simp only [intOf, i64_w, w1]; omega
    · have hlt := eq_false q
      obtain rfl : x = (xs.length : Int) := by omega
      rw [Int.toNat_natCast] at hL
      have cP := hL.px.get 6 _ rfl
      have cQ := hL.qx.get 6 _ rfl
      have HL := Lib.hid hL
      obtain ⟨i34, hi34, _, hz34, _⟩ := info_parts info34
      obtain ⟨i36, hi36, _, hz36, _⟩ := info_parts info36
      have hpl := World.block_lt_of_cell? wo _ cP
      have hql := World.block_lt_of_cell? wo _ cQ
      clear hL
      go_wp2
      refine start_ (n := 11) (S := fun w' => w'.cell? ⟨W2.heap.size, 6, none⟩ = some (.slice B6 xs.length e6) ∧ w'.cell? ⟨w.heap.size, 6, none⟩ = some (.slice A6 xs.length c6)) (ds := [10]) #[false, false, false, false, false, false, false, false, false, false, false] (by kernel_rfl) rfl rfl ⟨cP, cQ⟩ (fun hHeld => ?_)
      refine pure_ (i := 0) (N := some 38) (v := ?_) (a' := ?_) #[true, false, false, false, false, false, false, false, false, false, false] rfl rfl (by kernel_rfl) (fun _ _ _ h => h) (Or.inl ⟨by rfl, ?_⟩) ?_ ?_
      rotate_left
      · intro w'
        go_simp
        with_reducible rfl
      rotate_left
      · simp only [Act.put, List.setIfInBounds_toArray, List.set_cons_zero, List.set_cons_succ, i64_w, i32_w]
        rfl
      refine pure_ (i := 2) (N := some 40) (v := ?_) (a' := ?_) #[true, false, true, false, false, false, false, false, false, false, false] rfl rfl (by kernel_rfl) (fun _ _ _ h => h) (Or.inl ⟨by rfl, ?_⟩) ?_ ?_
      rotate_left
      · intro w'
        go_simp
        with_reducible rfl
      rotate_left
      · simp only [Act.put, List.setIfInBounds_toArray, List.set_cons_zero, List.set_cons_succ, i64_w, i32_w]
        rfl
      refine pure_ (i := 5) (N := some 43) (v := ?_) (a' := ?_) #[true, false, true, false, false, true, false, false, false, false, false] rfl rfl (by kernel_rfl) (fun _ _ _ h => h) (Or.inl ⟨by rfl, ?_⟩) ?_ ?_
      rotate_left
      · intro w'
        go_simp
        with_reducible rfl
      rotate_left
      · simp only [Act.put, List.setIfInBounds_toArray, List.set_cons_zero, List.set_cons_succ, i64_w, i32_w]
        rfl
      refine take_ (i := 1) (N := some 39) (v := ?_) (a' := ?_) #[true, true, true, false, false, true, false, false, false, false, false] rfl rfl (by kernel_rfl) (fun _ _ _ h => h) (Or.inl ⟨by rfl, ?_⟩) hHeld ?_ ?_
      rotate_left
      · rintro w' ⟨s0, s1⟩
        go_simp
        with_reducible rfl
      rotate_left
      · simp only [Act.put, List.setIfInBounds_toArray, List.set_cons_zero, List.set_cons_succ, i64_w, i32_w]
        rfl
      refine take_ (i := 6) (N := some 44) (v := ?_) (a' := ?_) #[true, true, true, false, false, true, true, false, false, false, false] rfl rfl (by kernel_rfl) (fun _ _ _ h => h) (Or.inl ⟨by rfl, ?_⟩) hHeld ?_ ?_
      rotate_left
      · rintro w' ⟨s0, s1⟩
        go_simp
        with_reducible rfl
      rotate_left
      · simp only [Act.put, List.setIfInBounds_toArray, List.set_cons_zero, List.set_cons_succ, i64_w, i32_w]
        rfl
      refine pure_ (i := 7) (N := some 45) (v := ?_) (a' := ?_) #[true, true, true, false, false, true, true, true, false, false, false] rfl rfl (by kernel_rfl) (fun _ _ _ h => h) (Or.inl ⟨by rfl, ?_⟩) ?_ ?_
      rotate_left
      · intro w'
        go_simp
        with_reducible rfl
      rotate_left
      · simp only [Act.put, List.setIfInBounds_toArray, List.set_cons_zero, List.set_cons_succ, i64_w, i32_w]
        rfl
      refine one_ (i := 3) (N := some 41) #[true, true, true, true, false, true, true, true, false, false, false] rfl rfl (by kernel_rfl) (by decide) (fun K hK => ?_)
      refine value_ (w1 := ?_) (v := ?_) (by rfl) rfl ?_ ?_
      rotate_left 2
      · go_simp
        constructor
        · rfl
        · rfl
      refine hK.out _ _ ⟨((Below.refl wo.heap.size wo).alloc (Nat.le_refl _) (.cells #[.string ⟨#[109, 97, 114, 107]⟩, .string ⟨#[]⟩, .slice none 0 0] 34)).cell (p := ⟨W2.heap.size, 6, none⟩) hpl |>.trans cP, ((Below.refl wo.heap.size wo).alloc (Nat.le_refl _) (.cells #[.string ⟨#[109, 97, 114, 107]⟩, .string ⟨#[]⟩, .slice none 0 0] 34)).cell (p := ⟨w.heap.size, 6, none⟩) hql |>.trans cQ⟩ (fun hHeld => ?_)
      clear hK K
      refine norm_ (a' := ?_) ?_ ?_
      rotate_left
      · show Act.put _ (some 41) _ = _
        simp only [Act.put, List.setIfInBounds_toArray, List.set_cons_zero, List.set_cons_succ, i64_w, i32_w]
        rfl
      refine one_ (i := 4) (N := some 42) #[true, true, true, true, true, true, true, true, false, false, false] rfl rfl (by kernel_rfl) (by decide) (fun K hK => ?_)
      refine step_append_cells (w0 := w) (W := wo.drew) w.heap.size (by rfl) (.tmp 39) (.tmp 41) 26 34 (.agg #[.string ⟨#[]⟩, .string ⟨#[]⟩, .slice none 0 0]) 3 56 rfl Tryd.underlying26 info34 rfl (by decide) (by omega) (.slice B6 xs.length e6) xs.length cells [.string markB, .string ⟨#[]⟩, .slice none 0 0] rfl rfl rfl ?h1 HL.out.mr.arr ?aB ?aS ?aL ?_
      case h1 => intro u hu; simp at hu; rcases hu with rfl | rfl | rfl <;> rfl
      case aB => exact below_drew1 HL.out.bel
      case aS => exact HL.out.bel.size
      case aL => omega
      intro v1 w1 ho hb hg hat
      obtain ⟨g6, d6_, ev6, hc6, hzz⟩ := own_form ho (by omega)
      subst ev6
      clear hzz
      obtain ⟨hp1, hq1, hlt1⟩ := HL.out.last (W := wo) (by omega) (by omega) ho hb ⟨hg.os, hg.tape, hg.output, hg.size, hg.block⟩ 6 (.slice (some ⟨g6, 0, none⟩) xs.length d6_)
      have hcut6 := cut_to (P := Tryd.prog) 26 34 .i64 Tryd.underlying26 hi34 (some ⟨g6, 0, none⟩) (xs.length + 1) d6_ (xs.length : Int) (by omega) (by omega) (by omega)
      (try simp only [Int.toNat_natCast] at hcut6)
      have cB : w1.cell? ⟨W2.heap.size, 6, none⟩ = some (.slice B6 xs.length e6) := hp1.get 6 _ rfl
      have fB : w1.frozen? ⟨W2.heap.size, 6, none⟩ = false := hp1.free 6
      have cQ1 : w1.cell? ⟨w.heap.size, 6, none⟩ = some (.slice A6 xs.length c6) := hq1.get 6 _ rfl
      have HLT := Lib.hid hlt1
      clear ho hb hg hat hp1 hq1 hlt1
      refine hK.out _ _ ⟨cB, cQ1⟩ (fun hHeld => ?_)
      clear hK K
      refine norm_ (a' := ?_) ?_ ?_
      rotate_left
      · show Act.put _ (some 42) _ = _
        simp only [Act.put, List.setIfInBounds_toArray, List.set_cons_zero, List.set_cons_succ, i64_w, i32_w]
        rfl
      refine pure_ (i := 8) (N := some 46) (v := ?_) (a' := ?_) #[true, true, true, true, true, true, true, true, true, false, false] rfl rfl (by kernel_rfl) (fun _ _ _ h => h) (Or.inl ⟨by rfl, ?_⟩) ?_ ?_
      rotate_left
      · intro w'
        go_simp
        with_reducible rfl
      rotate_left
      · simp only [Act.put, List.setIfInBounds_toArray, List.set_cons_zero, List.set_cons_succ, i64_w, i32_w]
        rfl
      refine pure_ (i := 9) (N := some 47) (v := ?_) (a' := ?_) #[true, true, true, true, true, true, true, true, true, true, false] rfl rfl (by kernel_rfl) (fun _ _ _ h => h) (Or.inl ⟨by rfl, ?_⟩) ?_ ?_
      rotate_left
      · intro w'
        go_simp
        with_reducible rfl
      rotate_left
      · simp only [Act.put, List.setIfInBounds_toArray, List.set_cons_zero, List.set_cons_succ, i64_w, i32_w]
        rfl
      refine last_ (i := 10) (N := none) #[true, true, true, true, true, true, true, true, true, true, true] rfl rfl (by kernel_rfl) (by decide) (fun K hK => ?_)
      refine skip_ (w1 := ?_) (by rfl) rfl ?_ ?_
      rotate_left
      · go_simp
        rfl
      refine hK.out _ _ ?_
      clear hK K
      refine done_ (by kernel_rfl) ?_
      clear cP cQ cB fB cQ1 hHeld hcut6 hpl hql
      go_wp2
      generalize w1.setCell ⟨W2.heap.size, 6, none⟩ (.slice (some ⟨g6, 0, none⟩) xs.length d6_) = Wb at HLT ⊢
      have HLU : Hid (CsMark.LT w xs cs (.slice (some ⟨g6, 0, none⟩) (xs.length + 1) d6_) (.slice B9 cs.length e9) W2.heap.size w.heap.size [.int .i64 f0, .int .i64 f1, .int .i64 f2, .string f3, .string f4, .string f5, .slice (some ⟨g6, 0, none⟩) xs.length d6_, .string f7, .bool f8, .slice B9 cs.length e9] [.int .i64 f0, .int .i64 f1, .int .i64 f2, .string f3, .string f4, .string f5, .slice A6 xs.length c6, .string f7, .bool f8, .slice A9 cs.length c9] cells Wb) := HLT
      clear HLT
      have cP := HLU.out.px.get 9 _ rfl
      have cQ := HLU.out.qx.get 9 _ rfl
      have hpl := World.block_lt_of_cell? Wb _ cP
      have hql := World.block_lt_of_cell? Wb _ cQ
      refine start_ (n := 11) (S := fun w' => w'.cell? ⟨W2.heap.size, 9, none⟩ = some (.slice B9 cs.length e9) ∧ w'.cell? ⟨w.heap.size, 9, none⟩ = some (.slice A9 cs.length c9)) (ds := [10]) #[false, false, false, false, false, false, false, false, false, false, false] (by kernel_rfl) rfl rfl ⟨cP, cQ⟩ (fun hHeld => ?_)
      refine pure_ (i := 0) (N := some 48) (v := ?_) (a' := ?_) #[true, false, false, false, false, false, false, false, false, false, false] rfl rfl (by kernel_rfl) (fun _ _ _ h => h) (Or.inl ⟨by rfl, ?_⟩) ?_ ?_
      rotate_left
      · intro w'
        go_simp
        with_reducible rfl
      rotate_left
      · simp only [Act.put, List.setIfInBounds_toArray, List.set_cons_zero, List.set_cons_succ, i64_w, i32_w]
        rfl
      refine pure_ (i := 2) (N := some 50) (v := ?_) (a' := ?_) #[true, false, true, false, false, false, false, false, false, false, false] rfl rfl (by kernel_rfl) (fun _ _ _ h => h) (Or.inl ⟨by rfl, ?_⟩) ?_ ?_
      rotate_left
      · intro w'
        go_simp
        with_reducible rfl
      rotate_left
      · simp only [Act.put, List.setIfInBounds_toArray, List.set_cons_zero, List.set_cons_succ, i64_w, i32_w]
        rfl
      refine pure_ (i := 5) (N := some 53) (v := ?_) (a' := ?_) #[true, false, true, false, false, true, false, false, false, false, false] rfl rfl (by kernel_rfl) (fun _ _ _ h => h) (Or.inl ⟨by rfl, ?_⟩) ?_ ?_
      rotate_left
      · intro w'
        go_simp
        with_reducible rfl
      rotate_left
      · simp only [Act.put, List.setIfInBounds_toArray, List.set_cons_zero, List.set_cons_succ, i64_w, i32_w]
        rfl
      refine take_ (i := 1) (N := some 49) (v := ?_) (a' := ?_) #[true, true, true, false, false, true, false, false, false, false, false] rfl rfl (by kernel_rfl) (fun _ _ _ h => h) (Or.inl ⟨by rfl, ?_⟩) hHeld ?_ ?_
      rotate_left
      · rintro w' ⟨s0, s1⟩
        go_simp
        with_reducible rfl
      rotate_left
      · simp only [Act.put, List.setIfInBounds_toArray, List.set_cons_zero, List.set_cons_succ, i64_w, i32_w]
        rfl
      refine take_ (i := 6) (N := some 54) (v := ?_) (a' := ?_) #[true, true, true, false, false, true, true, false, false, false, false] rfl rfl (by kernel_rfl) (fun _ _ _ h => h) (Or.inl ⟨by rfl, ?_⟩) hHeld ?_ ?_
      rotate_left
      · rintro w' ⟨s0, s1⟩
        go_simp
        with_reducible rfl
      rotate_left
      · simp only [Act.put, List.setIfInBounds_toArray, List.set_cons_zero, List.set_cons_succ, i64_w, i32_w]
        rfl
      refine pure_ (i := 7) (N := some 55) (v := ?_) (a' := ?_) #[true, true, true, false, false, true, true, true, false, false, false] rfl rfl (by kernel_rfl) (fun _ _ _ h => h) (Or.inl ⟨by rfl, ?_⟩) ?_ ?_
      rotate_left
      · intro w'
        go_simp
        with_reducible rfl
      rotate_left
      · simp only [Act.put, List.setIfInBounds_toArray, List.set_cons_zero, List.set_cons_succ, i64_w, i32_w]
        rfl
      refine one_ (i := 3) (N := some 51) #[true, true, true, true, false, true, true, true, false, false, false] rfl rfl (by kernel_rfl) (by decide) (fun K hK => ?_)
      refine value_ (w1 := ?_) (v := ?_) (by rfl) rfl ?_ ?_
      rotate_left 2
      · go_simp
        constructor
        · rfl
        · rfl
      refine hK.out _ _ ⟨((Below.refl Wb.heap.size Wb).alloc (Nat.le_refl _) (.cells #[.string ⟨#[109, 97, 114, 107]⟩, .bool false, .string ⟨#[]⟩, .bool false] 36)).cell (p := ⟨W2.heap.size, 9, none⟩) hpl |>.trans cP, ((Below.refl Wb.heap.size Wb).alloc (Nat.le_refl _) (.cells #[.string ⟨#[109, 97, 114, 107]⟩, .bool false, .string ⟨#[]⟩, .bool false] 36)).cell (p := ⟨w.heap.size, 9, none⟩) hql |>.trans cQ⟩ (fun hHeld => ?_)
      clear hK K
      refine norm_ (a' := ?_) ?_ ?_
      rotate_left
      · show Act.put _ (some 51) _ = _
        simp only [Act.put, List.setIfInBounds_toArray, List.set_cons_zero, List.set_cons_succ, i64_w, i32_w]
        rfl
      refine one_ (i := 4) (N := some 52) #[true, true, true, true, true, true, true, true, false, false, false] rfl rfl (by kernel_rfl) (by decide) (fun K hK => ?_)
      refine Kd.R_append_step k36 (w0 := w) (W := Wb.drew) w.heap.size (by rfl) (.tmp 49) (.tmp 51) 27 36 (.agg #[.string ⟨#[]⟩, .bool false, .string ⟨#[]⟩, .bool false]) 48 rfl Tryd.underlying27 info36 rfl (by decide) (by omega) (.slice B9 cs.length e9) cs mkC [.string markB, .bool false, .string ⟨#[]⟩, .bool false] (fun _ => True) (fun _ => False) rfl rfl ?aP (fun _ hk => hk.elim) ?aF ?aO ?aB ?aS ?aL ?_
      case aP => exact k36_mkM _ _ _ mkC
      case aF => exact (fun _ _ => trivial)
      case aO => exact Kd.R_mono HLU.out.ctl (fun _ _ => trivial)
      case aB => exact below_drew1 HLU.out.bel
      case aS => exact HLU.out.bel.size
      case aL => omega
      intro v3 w3 ho hb hg hat
      obtain ⟨A9_, c9_, ev9⟩ := Kd.R_slice ho
      rw [show (cs ++ [mkC]).length = cs.length + 1 by simp] at ev9
      subst ev9
      obtain ⟨hp1, hq1, ad6, c6_, ad9, c9x, ea, hca, eb, hcb, hft⟩ := HLU.out.last (W := Wb) (by omega) (by omega) hnl hml ho hb ⟨hg.os, hg.tape, hg.output, hg.size, hg.block⟩ 9 (.slice A9_ cs.length c9_)
      injection ea with ea1 ea2 ea3
      injection ea1 with ea1
      subst ea1 ea3
      injection eb with eb1 eb2 eb3
      subst eb1 eb3
      have hcut9 := cut_to (P := Tryd.prog) 27 36 .i64 Tryd.underlying27 hi36 (some ad9) (cs.length + 1) c9_ (cs.length : Int) (by omega) (by omega) (by omega)
      (try simp only [Int.toNat_natCast] at hcut9)
      have cB : w3.cell? ⟨W2.heap.size, 9, none⟩ = some (.slice B9 cs.length e9) := hp1.get 9 _ rfl
      have fB : w3.frozen? ⟨W2.heap.size, 9, none⟩ = false := hp1.free 9
      have cQ1 : w3.cell? ⟨w.heap.size, 9, none⟩ = some (.slice A9 cs.length c9) := hq1.get 9 _ rfl
      have HFT := Lib.hid hft
      clear ho hb hg hat hp1 hq1 hft ea2 eb2
      refine hK.out _ _ ⟨cB, cQ1⟩ (fun hHeld => ?_)
      clear hK K
      refine norm_ (a' := ?_) ?_ ?_
      rotate_left
      · show Act.put _ (some 52) _ = _
        simp only [Act.put, List.setIfInBounds_toArray, List.set_cons_zero, List.set_cons_succ, i64_w, i32_w]
        rfl
      refine pure_ (i := 8) (N := some 56) (v := ?_) (a' := ?_) #[true, true, true, true, true, true, true, true, true, false, false] rfl rfl (by kernel_rfl) (fun _ _ _ h => h) (Or.inl ⟨by rfl, ?_⟩) ?_ ?_
      rotate_left
      · intro w'
        go_simp
        with_reducible rfl
      rotate_left
      · simp only [Act.put, List.setIfInBounds_toArray, List.set_cons_zero, List.set_cons_succ, i64_w, i32_w]
        rfl
      refine pure_ (i := 9) (N := some 57) (v := ?_) (a' := ?_) #[true, true, true, true, true, true, true, true, true, true, false] rfl rfl (by kernel_rfl) (fun _ _ _ h => h) (Or.inl ⟨by rfl, ?_⟩) ?_ ?_
      rotate_left
      · intro w'
        go_simp
        with_reducible rfl
      rotate_left
      · simp only [Act.put, List.setIfInBounds_toArray, List.set_cons_zero, List.set_cons_succ, i64_w, i32_w]
        rfl
      refine last_ (i := 10) (N := none) #[true, true, true, true, true, true, true, true, true, true, true] rfl rfl (by kernel_rfl) (by decide) (fun K hK => ?_)
      refine skip_ (w1 := ?_) (by rfl) rfl ?_ ?_
      rotate_left
      · go_simp
        rfl
      refine hK.out _ _ ?_
      clear hK K
      refine done_ (by kernel_rfl) ?_
      clear cP cQ cB fB cQ1 hHeld hcut9 hpl hql
      go_wp2
      generalize w3.setCell ⟨W2.heap.size, 9, none⟩ (.slice (some ad9) cs.length c9_) = Wc at HFT ⊢
      have HFU : Hid (FT w xs cs ⟨g6, 0, none⟩ ad9 W2.heap.size w.heap.size [.int .i64 f0, .int .i64 f1, .int .i64 f2, .string f3, .string f4, .string f5, .slice (some ⟨g6, 0, none⟩) xs.length d6_, .string f7, .bool f8, .slice (some ad9) cs.length c9_] [.int .i64 f0, .int .i64 f1, .int .i64 f2, .string f3, .string f4, .string f5, .slice A6 xs.length c6, .string f7, .bool f8, .slice A9 cs.length c9] Wc) := HFT
      clear HFT
      have ma := HFU.out.ma
      rw [XG.add_flat, Nat.zero_add] at ma
      have mc := HFU.out.mc
      have hP := fun k => HFU.out.px.cell k
      have hQ := fun k => HFU.out.qx.cell k
      clear d0 d1 d2 d3 d4 d5 d6 d7 d8 d9 HX0 HB0 HX1 HB1 hle
      have hc6a : ((xs.length : Int) < (xs.length : Int) + 1) = True := eq_true (by omega)
      have hc9a : ((cs.length : Int) < (cs.length : Int) + 1) = True := eq_true (by omega)
      have hb6a : ((0 : Int) ≤ (xs.length : Int) + 1) = True := eq_true (by omega)
      have hb6b : ((xs.length : Int) + 1 ≤ (d6_ : Int)) = True := eq_true (by omega)
      have hb9a : ((0 : Int) ≤ (cs.length : Int) + 1) = True := eq_true (by omega)
      have hb9b : ((cs.length : Int) + 1 ≤ (c9_ : Int)) = True := eq_true (by omega)
      have hn1 : wrap64 ((xs.length : Int) + 1) = (xs.length : Int) + 1 := wrp_id _ (by omega) (by omega)
      have hm1 : wrap64 ((cs.length : Int) + 1) = (cs.length : Int) + 1 := wrp_id _ (by omega) (by omega)
      clear hca hcb
      refine start_ (n := 42) (S := fun w' => (∀ k : Nat, w'.cell? ⟨W2.heap.size, k, none⟩ = ([.int .i64 f0, .int .i64 f1, .int .i64 f2, .string f3, .string f4, .string f5, .slice (some ⟨g6, 0, none⟩) xs.length d6_, .string f7, .bool f8, .slice (some ad9) cs.length c9_] : List Value)[k]?) ∧ (∀ k : Nat, w'.cell? ⟨w.heap.size, k, none⟩ = ([.int .i64 f0, .int .i64 f1, .int .i64 f2, .string f3, .string f4, .string f5, .slice A6 xs.length c6, .string f7, .bool f8, .slice A9 cs.length c9] : List Value)[k]?) ∧ w'.cell? ⟨g6, xs.length * 3, none⟩ = some (.string markB) ∧ w'.cell? (ad9.add (cs.length * 4)) = some (.string markB)) (ds := []) #[false, false, false, false, false, false, false, false, false, false, false, false, false, false, false, false, false, false, false, false, false, false, false, false, false, false, false, false, false, false, false, false, false, false, false, false, false, false, false, false, false, false] (by kernel_rfl) rfl rfl ⟨hP, hQ, ma, mc⟩ (fun hHeld => ?_)
      refine pure_ (i := 2) (N := some 60) (v := ?_) (a' := ?_) #[false, false, true, false, false, false, false, false, false, false, false, false, false, false, false, false, false, false, false, false, false, false, false, false, false, false, false, false, false, false, false, false, false, false, false, false, false, false, false, false, false, false] rfl rfl (by kernel_rfl) (fun _ _ _ h => h) (Or.inl ⟨by rfl, ?_⟩) ?_ ?_
      rotate_left
      · intro w'
        go_simp
        with_reducible rfl
      rotate_left
      · simp only [Act.put, List.setIfInBounds_toArray, List.set_cons_zero, List.set_cons_succ, i64_w, i32_w]
        rfl
      refine take_ (i := 0) (N := some 58) (v := ?_) (a' := ?_) #[true, false, true, false, false, false, false, false, false, false, false, false, false, false, false, false, false, false, false, false, false, false, false, false, false, false, false, false, false, false, false, false, false, false, false, false, false, false, false, false, false, false] rfl rfl (by kernel_rfl) (fun _ _ _ h => h) (Or.inl ⟨by rfl, ?_⟩) hHeld ?_ ?_
      rotate_left
      · rintro w' ⟨s0, s1, s2, s3⟩
        go_simp
        with_reducible rfl
      rotate_left
      · simp only [Act.put, List.setIfInBounds_toArray, List.set_cons_zero, List.set_cons_succ, i64_w, i32_w]
        rfl
      refine one_ (i := 1) (N := some 59) #[true, true, true, false, false, false, false, false, false, false, false, false, false, false, false, false, false, false, false, false, false, false, false, false, false, false, false, false, false, false, false, false, false, false, false, false, false, false, false, false, false, false] rfl rfl (by kernel_rfl) (by decide) (fun K hK => ?_)
      refine goes_ Tryd.func6 (by kernel_rfl) rfl #[.agg #[.int .i64 f0, .int .i64 f1, .int .i64 f2, .string f3, .string f4, .string f5, .slice (some ⟨g6, 0, none⟩) xs.length d6_, .string f7, .bool f8, .slice (some ad9) cs.length c9_]] (by rfl) rfl rfl (by simp only [List.map_toArray, List.map_cons, List.map_nil]; rfl) ?_
      with_reducible refine (show_as f0 f1 f2 f3 f4 f5 (some ⟨g6, 0, none⟩) d6_ xs f7 f8 (some ad9) c9_ cs Wc.drew (Tabs_at HT.out (below_drew1 HFU.out.bel)) HF.out (HFU.out.on (below_drew1 (Below.refl _ _))).a (HFU.out.on (below_drew1 (Below.refl _ _))).k).mono ?_
      rintro e W5 ⟨rfl, hb0⟩
      have HFV := Lib.hid ((HFU.out.on (below_drew1 (Below.refl Wc.heap.size Wc))).on hb0)
      clear hb0
      refine ⟨_, rfl, ?_⟩
      refine hK.out _ _ ⟨fun k => HFV.out.px.cell k, fun k => HFV.out.qx.cell k, (by have := HFV.out.ma; rwa [XG.add_flat, Nat.zero_add] at this), HFV.out.mc⟩ (fun hHeld => ?_)
      clear hK K
      refine norm_ (a' := ?_) ?_ ?_
      rotate_left
      · show Act.put _ (some 59) _ = _
        simp only [Act.put, List.setIfInBounds_toArray, List.set_cons_zero, List.set_cons_succ, i64_w, i32_w]
        rfl
      refine pure_ (i := 3) (N := some 61) (v := ?_) (a' := ?_) #[true, true, true, true, false, false, false, false, false, false, false, false, false, false, false, false, false, false, false, false, false, false, false, false, false, false, false, false, false, false, false, false, false, false, false, false, false, false, false, false, false, false] rfl rfl (by kernel_rfl) (fun _ _ _ h => h) (Or.inl ⟨by rfl, ?_⟩) ?_ ?_
      rotate_left
      · intro w'
        go_simp
        with_reducible rfl
      rotate_left
      · simp only [Act.put, List.setIfInBounds_toArray, List.set_cons_zero, List.set_cons_succ, i64_w, i32_w]
        rfl
      refine pure_ (i := 4) (N := some 62) (v := ?_) (a' := ?_) #[true, true, true, true, true, false, false, false, false, false, false, false, false, false, false, false, false, false, false, false, false, false, false, false, false, false, false, false, false, false, false, false, false, false, false, false, false, false, false, false, false, false] rfl rfl (by kernel_rfl) (fun _ _ _ h => h) (Or.inl ⟨by rfl, ?_⟩) ?_ ?_
      rotate_left
      · intro w'
        go_simp
        with_reducible rfl
      rotate_left
      · simp only [Act.put, List.setIfInBounds_toArray, List.set_cons_zero, List.set_cons_succ, i64_w, i32_w]
        rfl
      refine take_ (i := 5) (N := some 63) (v := ?_) (a' := ?_) #[true, true, true, true, true, true, false, false, false, false, false, false, false, false, false, false, false, false, false, false, false, false, false, false, false, false, false, false, false, false, false, false, false, false, false, false, false, false, false, false, false, false] rfl rfl (by kernel_rfl) (fun _ _ _ h => h) (Or.inl ⟨by rfl, ?_⟩) hHeld ?_ ?_
      rotate_left
      · rintro w' ⟨s0, s1, s2, s3⟩
        go_simp
        with_reducible rfl
      rotate_left
      · simp only [Act.put, List.setIfInBounds_toArray, List.set_cons_zero, List.set_cons_succ, i64_w, i32_w]
        rfl
      refine take_ (i := 6) (N := some 64) (v := ?_) (a' := ?_) #[true, true, true, true, true, true, true, false, false, false, false, false, false, false, false, false, false, false, false, false, false, false, false, false, false, false, false, false, false, false, false, false, false, false, false, false, false, false, false, false, false, false] rfl rfl (by kernel_rfl) (fun _ _ _ h => h) (Or.inl ⟨by rfl, ?_⟩) hHeld ?_ ?_
      rotate_left
      · rintro w' ⟨s0, s1, s2, s3⟩
        go_simp
        with_reducible rfl
      rotate_left
      · simp only [Act.put, List.setIfInBounds_toArray, List.set_cons_zero, List.set_cons_succ, i64_w, i32_w]
        rfl
      refine one_ (i := 7) (N := some 65) #[true, true, true, true, true, true, true, true, false, false, false, false, false, false, false, false, false, false, false, false, false, false, false, false, false, false, false, false, false, false, false, false, false, false, false, false, false, false, false, false, false, false] rfl rfl (by kernel_rfl) (by decide) (fun K hK => ?_)
      refine goes_ Tryd.func7 (by kernel_rfl) rfl #[.agg #[.int .i64 f0, .int .i64 f1, .int .i64 f2, .string f3, .string f4, .string f5, .slice (some ⟨g6, 0, none⟩) xs.length d6_, .string f7, .bool f8, .slice (some ad9) cs.length c9_], .agg #[.int .i64 f0, .int .i64 f1, .int .i64 f2, .string f3, .string f4, .string f5, .slice A6 xs.length c6, .string f7, .bool f8, .slice A9 cs.length c9]] (by rfl) rfl rfl (by simp only [List.map_toArray, List.map_cons, List.map_nil]; rfl) ?_
      with_reducible refine (same_as f0 f1 f2 f3 f4 f5 (some ⟨g6, 0, none⟩) A6 d6_ c6 xs f7 f8 (some ad9) A9 c9_ c9 cs W5 HF.out.fa HF.out.fc HFV.out.a (Kd.C_below HA.out HFV.out.bel) HFV.out.k (Kd.C_below HC.out HFV.out.bel)).mono ?_
      rintro e W6 ⟨rfl, hb1⟩
      have HFW := Lib.hid (HFV.out.on hb1)
      clear hb1
      refine ⟨_, rfl, ?_⟩
      refine hK.out _ _ ⟨fun k => HFW.out.px.cell k, fun k => HFW.out.qx.cell k, (by have := HFW.out.ma; rwa [XG.add_flat, Nat.zero_add] at this), HFW.out.mc⟩ (fun hHeld => ?_)
      clear hK K
      refine norm_ (a' := ?_) ?_ ?_
      rotate_left
      · show Act.put _ (some 65) _ = _
        simp only [Act.put, List.setIfInBounds_toArray, List.set_cons_zero, List.set_cons_succ, i64_w, i32_w]
        rfl
      refine pure_ (i := 8) (N := some 66) (v := ?_) (a' := ?_) #[true, true, true, true, true, true, true, true, true, false, false, false, false, false, false, false, false, false, false, false, false, false, false, false, false, false, false, false, false, false, false, false, false, false, false, false, false, false, false, false, false, false] rfl rfl (by kernel_rfl) (fun _ _ _ h => h) (Or.inl ⟨by rfl, ?_⟩) ?_ ?_
      rotate_left
      · intro w'
        go_simp
        with_reducible rfl
      rotate_left
      · simp only [Act.put, List.setIfInBounds_toArray, List.set_cons_zero, List.set_cons_succ, i64_w, i32_w]
        rfl
      refine pure_ (i := 9) (N := some 67) (v := ?_) (a' := ?_) #[true, true, true, true, true, true, true, true, true, true, false, false, false, false, false, false, false, false, false, false, false, false, false, false, false, false, false, false, false, false, false, false, false, false, false, false, false, false, false, false, false, false] rfl rfl (by kernel_rfl) (fun _ _ _ h => h) (Or.inl ⟨by rfl, ?_⟩) ?_ ?_
      rotate_left
      · intro w'
        go_simp
        with_reducible rfl
      rotate_left
      · simp only [Act.put, List.setIfInBounds_toArray, List.set_cons_zero, List.set_cons_succ, i64_w, i32_w]
        rfl
      refine pure_ (i := 10) (N := some 68) (v := ?_) (a' := ?_) #[true, true, true, true, true, true, true, true, true, true, true, false, false, false, false, false, false, false, false, false, false, false, false, false, false, false, false, false, false, false, false, false, false, false, false, false, false, false, false, false, false, false] rfl rfl (by kernel_rfl) (fun _ _ _ h => h) (Or.inl ⟨by rfl, ?_⟩) ?_ ?_
      rotate_left
      · intro w'
        go_simp
        with_reducible rfl
      rotate_left
      · simp only [Act.put, List.setIfInBounds_toArray, List.set_cons_zero, List.set_cons_succ, i64_w, i32_w]
        rfl
      refine pure_ (i := 11) (N := some 69) (v := ?_) (a' := ?_) #[true, true, true, true, true, true, true, true, true, true, true, true, false, false, false, false, false, false, false, false, false, false, false, false, false, false, false, false, false, false, false, false, false, false, false, false, false, false, false, false, false, false] rfl rfl (by kernel_rfl) (fun _ _ _ h => h) (Or.inl ⟨by rfl, ?_⟩) ?_ ?_
      rotate_left
      · intro w'
        go_simp
        with_reducible rfl
      rotate_left
      · simp only [Act.put, List.setIfInBounds_toArray, List.set_cons_zero, List.set_cons_succ, i64_w, i32_w]
        rfl
      refine pure_ (i := 13) (N := some 71) (v := ?_) (a' := ?_) #[true, true, true, true, true, true, true, true, true, true, true, true, false, true, false, false, false, false, false, false, false, false, false, false, false, false, false, false, false, false, false, false, false, false, false, false, false, false, false, false, false, false] rfl rfl (by kernel_rfl) (fun _ _ _ h => h) (Or.inl ⟨by rfl, ?_⟩) ?_ ?_
      rotate_left
      · intro w'
        go_simp
        with_reducible rfl
      rotate_left
      · simp only [Act.put, List.setIfInBounds_toArray, List.set_cons_zero, List.set_cons_succ, i64_w, i32_w]
        rfl
      refine pure_ (i := 18) (N := some 76) (v := ?_) (a' := ?_) #[true, true, true, true, true, true, true, true, true, true, true, true, false, true, false, false, false, false, true, false, false, false, false, false, false, false, false, false, false, false, false, false, false, false, false, false, false, false, false, false, false, false] rfl rfl (by kernel_rfl) (fun _ _ _ h => h) (Or.inl ⟨by rfl, ?_⟩) ?_ ?_
      rotate_left
      · intro w'
        go_simp
        with_reducible rfl
      rotate_left
      · simp only [Act.put, List.setIfInBounds_toArray, List.set_cons_zero, List.set_cons_succ, i64_w, i32_w]
        rfl
      refine take_ (i := 12) (N := some 70) (v := ?_) (a' := ?_) #[true, true, true, true, true, true, true, true, true, true, true, true, true, true, false, false, false, false, true, false, false, false, false, false, false, false, false, false, false, false, false, false, false, false, false, false, false, false, false, false, false, false] rfl rfl (by kernel_rfl) (fun _ _ _ h => h) (Or.inl ⟨by rfl, ?_⟩) hHeld ?_ ?_
      rotate_left
      · rintro w' ⟨s0, s1, s2, s3⟩
        go_simp
        with_reducible rfl
      rotate_left
      · simp only [Act.put, List.setIfInBounds_toArray, List.set_cons_zero, List.set_cons_succ, i64_w, i32_w]
        rfl
      refine take_ (i := 14) (N := some 72) (v := ?_) (a' := ?_) #[true, true, true, true, true, true, true, true, true, true, true, true, true, true, true, false, false, false, true, false, false, false, false, false, false, false, false, false, false, false, false, false, false, false, false, false, false, false, false, false, false, false] rfl rfl (by kernel_rfl) (fun _ _ _ h => h) (Or.inl ⟨by rfl, ?_⟩) hHeld ?_ ?_
      rotate_left
      · rintro w' ⟨s0, s1, s2, s3⟩
        go_simp
        with_reducible rfl
      rotate_left
      · simp only [Act.put, List.setIfInBounds_toArray, List.set_cons_zero, List.set_cons_succ, i64_w, i32_w]
        rfl
      refine pure_ (i := 15) (N := some 73) (v := ?_) (a' := ?_) #[true, true, true, true, true, true, true, true, true, true, true, true, true, true, true, true, false, false, true, false, false, false, false, false, false, false, false, false, false, false, false, false, false, false, false, false, false, false, false, false, false, false] rfl rfl (by kernel_rfl) (fun _ _ _ h => h) (Or.inl ⟨by rfl, ?_⟩) ?_ ?_
      rotate_left
      · intro w'
        go_simp
        with_reducible rfl
      rotate_left
      · simp only [Act.put, List.setIfInBounds_toArray, List.set_cons_zero, List.set_cons_succ, i64_w, i32_w]
        rfl
      refine pure_ (i := 16) (N := some 74) (v := ?_) (a' := ?_) #[true, true, true, true, true, true, true, true, true, true, true, true, true, true, true, true, true, false, true, false, false, false, false, false, false, false, false, false, false, false, false, false, false, false, false, false, false, false, false, false, false, false] rfl rfl (by kernel_rfl) (fun _ _ _ h => h) (Or.inl ⟨by rfl, ?_⟩) ?_ ?_
      rotate_left
      · intro w'
        go_simp
        with_reducible rfl
      rotate_left
      · simp only [Act.put, List.setIfInBounds_toArray, List.set_cons_zero, List.set_cons_succ, i64_w, i32_w]
        rfl
      refine pure_ (i := 17) (N := some 75) (v := ?_) (a' := ?_) #[true, true, true, true, true, true, true, true, true, true, true, true, true, true, true, true, true, true, true, false, false, false, false, false, false, false, false, false, false, false, false, false, false, false, false, false, false, false, false, false, false, false] rfl rfl (by kernel_rfl) (fun _ _ _ h => h) (Or.inl ⟨by rfl, ?_⟩) ?_ ?_
      rotate_left
      · intro w'
        go_simp
        with_reducible rfl
      rotate_left
      · simp only [Act.put, List.setIfInBounds_toArray, List.set_cons_zero, List.set_cons_succ, i64_w, i32_w]
        rfl
      refine take_ (i := 19) (N := some 77) (v := ?_) (a' := ?_) #[true, true, true, true, true, true, true, true, true, true, true, true, true, true, true, true, true, true, true, true, false, false, false, false, false, false, false, false, false, false, false, false, false, false, false, false, false, false, false, false, false, false] rfl rfl (by kernel_rfl) (fun _ _ _ h => h) (Or.inl ⟨by rfl, ?_⟩) hHeld ?_ ?_
      rotate_left
      · rintro w' ⟨s0, s1, s2, s3⟩
        go_simp
        with_reducible rfl
      rotate_left
      · simp only [Act.put, List.setIfInBounds_toArray, List.set_cons_zero, List.set_cons_succ, i64_w, i32_w]
        rfl
      refine pure_ (i := 20) (N := some 78) (v := ?_) (a' := ?_) #[true, true, true, true, true, true, true, true, true, true, true, true, true, true, true, true, true, true, true, true, true, false, false, false, false, false, false, false, false, false, false, false, false, false, false, false, false, false, false, false, false, false] rfl rfl (by kernel_rfl) (fun _ _ _ h => h) (Or.inl ⟨by rfl, ?_⟩) ?_ ?_
      rotate_left
      · intro w'
        go_simp
        with_reducible rfl
      rotate_left
      · simp only [Act.put, List.setIfInBounds_toArray, List.set_cons_zero, List.set_cons_succ, i64_w, i32_w]
        rfl
      refine pure_ (i := 21) (N := some 79) (v := ?_) (a' := ?_) #[true, true, true, true, true, true, true, true, true, true, true, true, true, true, true, true, true, true, true, true, true, true, false, false, false, false, false, false, false, false, false, false, false, false, false, false, false, false, false, false, false, false] rfl rfl (by kernel_rfl) (fun _ _ _ h => h) (Or.inl ⟨by rfl, ?_⟩) ?_ ?_
      rotate_left
      · intro w'
        go_simp
        with_reducible rfl
      rotate_left
      · simp only [Act.put, List.setIfInBounds_toArray, List.set_cons_zero, List.set_cons_succ, i64_w, i32_w]
        rfl
      refine pure_ (i := 22) (N := some 80) (v := ?_) (a' := ?_) #[true, true, true, true, true, true, true, true, true, true, true, true, true, true, true, true, true, true, true, true, true, true, true, false, false, false, false, false, false, false, false, false, false, false, false, false, false, false, false, false, false, false] rfl rfl (by kernel_rfl) (fun _ _ _ h => h) (Or.inl ⟨by rfl, ?_⟩) ?_ ?_
      rotate_left
      · intro w'
        go_simp
        with_reducible rfl
      rotate_left
      · simp only [Act.put, List.setIfInBounds_toArray, List.set_cons_zero, List.set_cons_succ, i64_w, i32_w]
        rfl
      refine take_ (i := 23) (N := some 81) (v := ?_) (a' := ?_) #[true, true, true, true, true, true, true, true, true, true, true, true, true, true, true, true, true, true, true, true, true, true, true, true, false, false, false, false, false, false, false, false, false, false, false, false, false, false, false, false, false, false] rfl rfl (by kernel_rfl) (fun _ _ _ h => h) (Or.inl ⟨by rfl, ?_⟩) hHeld ?_ ?_
      rotate_left
      · rintro w' ⟨s0, s1, s2, s3⟩
        go_simp
        with_reducible rfl
      rotate_left
      · simp only [Act.put, List.setIfInBounds_toArray, List.set_cons_zero, List.set_cons_succ, i64_w, i32_w]
        rfl
      refine pure_ (i := 24) (N := some 82) (v := ?_) (a' := ?_) #[true, true, true, true, true, true, true, true, true, true, true, true, true, true, true, true, true, true, true, true, true, true, true, true, true, false, false, false, false, false, false, false, false, false, false, false, false, false, false, false, false, false] rfl rfl (by kernel_rfl) (fun _ _ _ h => h) (Or.inl ⟨by rfl, ?_⟩) ?_ ?_
      rotate_left
      · intro w'
        go_simp
        with_reducible rfl
      rotate_left
      · simp only [Act.put, List.setIfInBounds_toArray, List.set_cons_zero, List.set_cons_succ, i64_w, i32_w]
        rfl
      refine pure_ (i := 25) (N := some 83) (v := ?_) (a' := ?_) #[true, true, true, true, true, true, true, true, true, true, true, true, true, true, true, true, true, true, true, true, true, true, true, true, true, true, false, false, false, false, false, false, false, false, false, false, false, false, false, false, false, false] rfl rfl (by kernel_rfl) (fun _ _ _ h => h) (Or.inl ⟨by rfl, ?_⟩) ?_ ?_
      rotate_left
      · intro w'
        go_simp
        with_reducible rfl
      rotate_left
      · simp only [Act.put, List.setIfInBounds_toArray, List.set_cons_zero, List.set_cons_succ, i64_w, i32_w]
        rfl
      refine pure_ (i := 26) (N := some 84) (v := ?_) (a' := ?_) #[true, true, true, true, true, true, true, true, true, true, true, true, true, true, true, true, true, true, true, true, true, true, true, true, true, true, true, false, false, false, false, false, false, false, false, false, false, false, false, false, false, false] rfl rfl (by kernel_rfl) (fun _ _ _ h => h) (Or.inl ⟨by rfl, ?_⟩) ?_ ?_
      rotate_left
      · intro w'
        go_simp
        with_reducible rfl
      rotate_left
      · simp only [Act.put, List.setIfInBounds_toArray, List.set_cons_zero, List.set_cons_succ, i64_w, i32_w]
        rfl
      refine pure_ (i := 27) (N := some 85) (v := ?_) (a' := ?_) #[true, true, true, true, true, true, true, true, true, true, true, true, true, true, true, true, true, true, true, true, true, true, true, true, true, true, true, true, false, false, false, false, false, false, false, false, false, false, false, false, false, false] rfl rfl (by kernel_rfl) (fun _ _ _ h => h) (Or.inl ⟨by rfl, ?_⟩) ?_ ?_
      rotate_left
      · intro w'
        go_simp
        with_reducible rfl
      rotate_left
      · simp only [Act.put, List.setIfInBounds_toArray, List.set_cons_zero, List.set_cons_succ, i64_w, i32_w]
        rfl
      refine pure_ (i := 29) (N := some 87) (v := ?_) (a' := ?_) #[true, true, true, true, true, true, true, true, true, true, true, true, true, true, true, true, true, true, true, true, true, true, true, true, true, true, true, true, false, true, false, false, false, false, false, false, false, false, false, false, false, false] rfl rfl (by kernel_rfl) (fun _ _ _ h => h) (Or.inl ⟨by rfl, ?_⟩) ?_ ?_
      rotate_left
      · intro w'
        go_simp
        with_reducible rfl
      rotate_left
      · simp only [Act.put, List.setIfInBounds_toArray, List.set_cons_zero, List.set_cons_succ, i64_w, i32_w]
        rfl
      refine pure_ (i := 34) (N := some 92) (v := ?_) (a' := ?_) #[true, true, true, true, true, true, true, true, true, true, true, true, true, true, true, true, true, true, true, true, true, true, true, true, true, true, true, true, false, true, false, false, false, false, true, false, false, false, false, false, false, false] rfl rfl (by kernel_rfl) (fun _ _ _ h => h) (Or.inl ⟨by rfl, ?_⟩) ?_ ?_
      rotate_left
      · intro w'
        go_simp
        with_reducible rfl
      rotate_left
      · simp only [Act.put, List.setIfInBounds_toArray, List.set_cons_zero, List.set_cons_succ, i64_w, i32_w]
        rfl
      refine take_ (i := 28) (N := some 86) (v := ?_) (a' := ?_) #[true, true, true, true, true, true, true, true, true, true, true, true, true, true, true, true, true, true, true, true, true, true, true, true, true, true, true, true, true, true, false, false, false, false, true, false, false, false, false, false, false, false] rfl rfl (by kernel_rfl) (fun _ _ _ h => h) (Or.inl ⟨by rfl, ?_⟩) hHeld ?_ ?_
      rotate_left
      · rintro w' ⟨s0, s1, s2, s3⟩
        go_simp
        with_reducible rfl
      rotate_left
      · simp only [Act.put, List.setIfInBounds_toArray, List.set_cons_zero, List.set_cons_succ, i64_w, i32_w]
        rfl
      refine take_ (i := 30) (N := some 88) (v := ?_) (a' := ?_) #[true, true, true, true, true, true, true, true, true, true, true, true, true, true, true, true, true, true, true, true, true, true, true, true, true, true, true, true, true, true, true, false, false, false, true, false, false, false, false, false, false, false] rfl rfl (by kernel_rfl) (fun _ _ _ h => h) (Or.inl ⟨by rfl, ?_⟩) hHeld ?_ ?_
      rotate_left
      · rintro w' ⟨s0, s1, s2, s3⟩
        go_simp
        with_reducible rfl
      rotate_left
      · simp only [Act.put, List.setIfInBounds_toArray, List.set_cons_zero, List.set_cons_succ, i64_w, i32_w]
        rfl
      refine pure_ (i := 31) (N := some 89) (v := ?_) (a' := ?_) #[true, true, true, true, true, true, true, true, true, true, true, true, true, true, true, true, true, true, true, true, true, true, true, true, true, true, true, true, true, true, true, true, false, false, true, false, false, false, false, false, false, false] rfl rfl (by kernel_rfl) (fun _ _ _ h => h) (Or.inl ⟨by rfl, ?_⟩) ?_ ?_
      rotate_left
      · intro w'
        go_simp
        with_reducible rfl
      rotate_left
      · simp only [Act.put, List.setIfInBounds_toArray, List.set_cons_zero, List.set_cons_succ, i64_w, i32_w]
        rfl
      refine pure_ (i := 32) (N := some 90) (v := ?_) (a' := ?_) #[true, true, true, true, true, true, true, true, true, true, true, true, true, true, true, true, true, true, true, true, true, true, true, true, true, true, true, true, true, true, true, true, true, false, true, false, false, false, false, false, false, false] rfl rfl (by kernel_rfl) (fun _ _ _ h => h) (Or.inl ⟨by rfl, ?_⟩) ?_ ?_
      rotate_left
      · intro w'
        go_simp
        with_reducible rfl
      rotate_left
      · simp only [Act.put, List.setIfInBounds_toArray, List.set_cons_zero, List.set_cons_succ, i64_w, i32_w]
        rfl
      refine pure_ (i := 33) (N := some 91) (v := ?_) (a' := ?_) #[true, true, true, true, true, true, true, true, true, true, true, true, true, true, true, true, true, true, true, true, true, true, true, true, true, true, true, true, true, true, true, true, true, true, true, false, false, false, false, false, false, false] rfl rfl (by kernel_rfl) (fun _ _ _ h => h) (Or.inl ⟨by rfl, ?_⟩) ?_ ?_
      rotate_left
      · intro w'
        go_simp
        with_reducible rfl
      rotate_left
      · simp only [Act.put, List.setIfInBounds_toArray, List.set_cons_zero, List.set_cons_succ, i64_w, i32_w]
        rfl
      refine take_ (i := 35) (N := some 93) (v := ?_) (a' := ?_) #[true, true, true, true, true, true, true, true, true, true, true, true, true, true, true, true, true, true, true, true, true, true, true, true, true, true, true, true, true, true, true, true, true, true, true, true, false, false, false, false, false, false] rfl rfl (by kernel_rfl) (fun _ _ _ h => h) (Or.inl ⟨by rfl, ?_⟩) hHeld ?_ ?_
      rotate_left
      · rintro w' ⟨s0, s1, s2, s3⟩
        go_simp
        with_reducible rfl
      rotate_left
      · simp only [Act.put, List.setIfInBounds_toArray, List.set_cons_zero, List.set_cons_succ, i64_w, i32_w]
        rfl
      refine pure_ (i := 36) (N := some 94) (v := ?_) (a' := ?_) #[true, true, true, true, true, true, true, true, true, true, true, true, true, true, true, true, true, true, true, true, true, true, true, true, true, true, true, true, true, true, true, true, true, true, true, true, true, false, false, false, false, false] rfl rfl (by kernel_rfl) (fun _ _ _ h => h) (Or.inl ⟨by rfl, ?_⟩) ?_ ?_
      rotate_left
      · intro w'
        go_simp
        with_reducible rfl
      rotate_left
      · simp only [Act.put, List.setIfInBounds_toArray, List.set_cons_zero, List.set_cons_succ, i64_w, i32_w]
        rfl
      refine pure_ (i := 37) (N := some 95) (v := ?_) (a' := ?_) #[true, true, true, true, true, true, true, true, true, true, true, true, true, true, true, true, true, true, true, true, true, true, true, true, true, true, true, true, true, true, true, true, true, true, true, true, true, true, false, false, false, false] rfl rfl (by kernel_rfl) (fun _ _ _ h => h) (Or.inl ⟨by rfl, ?_⟩) ?_ ?_
      rotate_left
      · intro w'
        go_simp
        with_reducible rfl
      rotate_left
      · simp only [Act.put, List.setIfInBounds_toArray, List.set_cons_zero, List.set_cons_succ, i64_w, i32_w]
        rfl
      refine pure_ (i := 38) (N := some 96) (v := ?_) (a' := ?_) #[true, true, true, true, true, true, true, true, true, true, true, true, true, true, true, true, true, true, true, true, true, true, true, true, true, true, true, true, true, true, true, true, true, true, true, true, true, true, true, false, false, false] rfl rfl (by kernel_rfl) (fun _ _ _ h => h) (Or.inl ⟨by rfl, ?_⟩) ?_ ?_
      rotate_left
      · intro w'
        go_simp
        with_reducible rfl
      rotate_left
      · simp only [Act.put, List.setIfInBounds_toArray, List.set_cons_zero, List.set_cons_succ, i64_w, i32_w]
        rfl
      refine take_ (i := 39) (N := some 97) (v := ?_) (a' := ?_) #[true, true, true, true, true, true, true, true, true, true, true, true, true, true, true, true, true, true, true, true, true, true, true, true, true, true, true, true, true, true, true, true, true, true, true, true, true, true, true, true, false, false] rfl rfl (by kernel_rfl) (fun _ _ _ h => h) (Or.inl ⟨by rfl, ?_⟩) hHeld ?_ ?_
      rotate_left
      · rintro w' ⟨s0, s1, s2, s3⟩
        go_simp
        with_reducible rfl
      rotate_left
      · simp only [Act.put, List.setIfInBounds_toArray, List.set_cons_zero, List.set_cons_succ, i64_w, i32_w]
        rfl
      refine pure_ (i := 40) (N := some 98) (v := ?_) (a' := ?_) #[true, true, true, true, true, true, true, true, true, true, true, true, true, true, true, true, true, true, true, true, true, true, true, true, true, true, true, true, true, true, true, true, true, true, true, true, true, true, true, true, true, false] rfl rfl (by kernel_rfl) (fun _ _ _ h => h) (Or.inl ⟨by rfl, ?_⟩) ?_ ?_
      rotate_left
      · intro w'
        go_simp
        with_reducible rfl
      rotate_left
      · simp only [Act.put, List.setIfInBounds_toArray, List.set_cons_zero, List.set_cons_succ, i64_w, i32_w]
        rfl
      refine pure_ (i := 41) (N := some 99) (v := ?_) (a' := ?_) #[true, true, true, true, true, true, true, true, true, true, true, true, true, true, true, true, true, true, true, true, true, true, true, true, true, true, true, true, true, true, true, true, true, true, true, true, true, true, true, true, true, true] rfl rfl (by kernel_rfl) (fun _ _ _ h => h) (Or.inl ⟨by rfl, ?_⟩) ?_ ?_
      rotate_left
      · intro w'
        go_simp
        with_reducible rfl
      rotate_left
      · simp only [Act.put, List.setIfInBounds_toArray, List.set_cons_zero, List.set_cons_succ, i64_w, i32_w]
        rfl
      refine done_ (by kernel_rfl) ?_
      clear hHeld hP hQ ma mc hb6a hb6b hb9a hb9b hc6a hc9a hn1 hm1
      have cW := HFW.out.px.get 6 _ rfl
      go_wp2
      go_loopw [103] (fun v103 wr => ∃ y : Int, 0 ≤ y ∧ y ≤ (xs.length : Int) ∧ v103 = .int .i64 y ∧ Hid (FT w xs cs ⟨g6, 0, none⟩ ad9 W2.heap.size w.heap.size [.int .i64 f0, .int .i64 f1, .int .i64 f2, .string f3, .string f4, .string f5, .slice (some ⟨g6, 0, none⟩) xs.length d6_, .string f7, .bool f8, .slice (some ad9) cs.length c9_] [.int .i64 f0, .int .i64 f1, .int .i64 f2, .string f3, .string f4, .string f5, .slice A6 xs.length c6, .string f7, .bool f8, .slice A9 cs.length c9] wr)) (fun v _ => xs.length - (intOf v).toNat)
      case atStart => exact ⟨0, Int.le_refl 0, by omega, rfl, Lib.hid (HFW.out.on (by repeat (first | exact Below.refl _ _ | apply pw_below_drewN | apply below_drew1)))⟩
      case round =>
        clear HFU HFV HFW cW
        rename World => wo
        obtain ⟨y, p0, p1, rfl, HR⟩ := hrel
        have ey : ((y.toNat : Nat) : Int) = y := Int.toNat_of_nonneg p0
        by_cases q : y < (xs.length : Int)
        · obtain ⟨b, c, k0, k1, k2, k3, k4⟩ := HR.out.el y p0 q
          simp only [XG.add_flat, Nat.zero_add] at k0 k1 k2
          have hvl := HF.out.fa.vlen y.toNat (by omega)
          rw [ey] at hvl
          have hlt := eq_true q
          have hp := eq_true p0
          have hu1 : ((0 : Int) ≤ ((rd_T34 xs y).f2.length : Int) + 1) = True := eq_true (by omega)
          have hu2 : (((rd_T34 xs y).f2.length : Int) + 1 ≤ (c : Int)) = True := eq_true (by omega)
          have hu3 : (((rd_T34 xs y).f2.length : Int) < ((rd_T34 xs y).f2.length : Int) + 1) = True := eq_true (by omega)
          have hu4 : ((0 : Int) ≤ ((rd_T34 xs y).f2.length : Int)) = True := eq_true (by omega)
          have hBa : Below wo.heap.size wo (wo.alloc (.cells #[.string (rd_T34 xs y).f0, .string (rd_T34 xs y).f1, .slice (some b) (rd_T34 xs y).f2.length c] 34)) := (Below.refl _ _).alloc (Nat.le_refl _) _
          have k5 := cell_on hBa k4
          have HN := Lib.hid (HR.out.on hBa)
          have hw2 : y + 1 ≤ (xs.length : Int) := by omega
          have hw3 : 0 ≤ y + 1 := by omega
          have hw4 : y + 1 ≤ 9223372036854775807 := by omega
          have hw5 : -9223372036854775808 ≤ y + 1 := by omega
          have hw6 : ((rd_T34 xs y).f2.length : Int) + 1 ≤ 9223372036854775807 := by omega
          have hw7 : -9223372036854775808 ≤ ((rd_T34 xs y).f2.length : Int) + 1 := by omega
          have hw8 : (y + 1).toNat = y.toNat + 1 := by omega
          have hw9 : xs.length - (y.toNat + 1) < xs.length - y.toNat := by omega
          have HW1 : Hid (wrap64 (((rd_T34 xs y).f2.length : Int) + 1) = ((rd_T34 xs y).f2.length : Int) + 1) := Lib.hid (wrp_id _ hw7 hw6)
          have HW2 : Hid (wrap64 (y + 1) = y + 1) := Lib.hid (wrp_id _ hw5 hw4)
          clear hBa k4 hw4 hw5 hw6 hw7
          have HW := Lib.hid (And.intro hw2 (And.intro hw3 (And.intro hw8 hw9)))
          clear hw2 hw3 hw8 hw9
          go_wp2
          have cA := (At.fresh wo [.string (rd_T34 xs y).f0, .string (rd_T34 xs y).f1, .slice (some b) (rd_T34 xs y).f2.length c] 34).get 2 _ rfl
          have w1 := HW1.out
          refine start_ (n := 13) (S := fun w' => w'.cell? ⟨wo.heap.size, 2, none⟩ = some (.slice (some b) (rd_T34 xs y).f2.length c) ∧ w'.cell? (b.add (rd_T34 xs y).f2.length) = some (.string markB)) (ds := []) #[false, false, false, false, false, false, false, false, false, false, false, false, false] (by kernel_rfl) rfl rfl ⟨cA, k5⟩ (fun hHeld => ?_)
          refine pure_ (i := 0) (N := some 107) (v := ?_) (a' := ?_) #[true, false, false, false, false, false, false, false, false, false, false, false, false] rfl rfl (by kernel_rfl) (fun _ _ _ h => h) (Or.inl ⟨by rfl, ?_⟩) ?_ ?_
          rotate_left
          · intro w'
            go_simp
            with_reducible rfl
          rotate_left
          · simp only [Act.put, List.setIfInBounds_toArray, List.set_cons_zero, List.set_cons_succ, i64_w, i32_w]
            rfl
          refine pure_ (i := 2) (N := some 109) (v := ?_) (a' := ?_) #[true, false, true, false, false, false, false, false, false, false, false, false, false] rfl rfl (by kernel_rfl) (fun _ _ _ h => h) (Or.inl ⟨by rfl, ?_⟩) ?_ ?_
          rotate_left
          · intro w'
            go_simp
            with_reducible rfl
          rotate_left
          · simp only [Act.put, List.setIfInBounds_toArray, List.set_cons_zero, List.set_cons_succ, i64_w, i32_w]
            rfl
          refine pure_ (i := 7) (N := some 114) (v := ?_) (a' := ?_) #[true, false, true, false, false, false, false, true, false, false, false, false, false] rfl rfl (by kernel_rfl) (fun _ _ _ h => h) (Or.inl ⟨by rfl, ?_⟩) ?_ ?_
          rotate_left
          · intro w'
            go_simp
            with_reducible rfl
          rotate_left
          · simp only [Act.put, List.setIfInBounds_toArray, List.set_cons_zero, List.set_cons_succ, i64_w, i32_w]
            rfl
          refine take_ (i := 1) (N := some 108) (v := ?_) (a' := ?_) #[true, true, true, false, false, false, false, true, false, false, false, false, false] rfl rfl (by kernel_rfl) (fun _ _ _ h => h) (Or.inl ⟨by rfl, ?_⟩) hHeld ?_ ?_
          rotate_left
          · rintro w' ⟨s0, s1⟩
            go_simp
            with_reducible rfl
          rotate_left
          · simp only [Act.put, List.setIfInBounds_toArray, List.set_cons_zero, List.set_cons_succ, i64_w, i32_w]
            rfl
          refine take_ (i := 3) (N := some 110) (v := ?_) (a' := ?_) #[true, true, true, true, false, false, false, true, false, false, false, false, false] rfl rfl (by kernel_rfl) (fun _ _ _ h => h) (Or.inl ⟨by rfl, ?_⟩) hHeld ?_ ?_
          rotate_left
          · rintro w' ⟨s0, s1⟩
            go_simp
            with_reducible rfl
          rotate_left
          · simp only [Act.put, List.setIfInBounds_toArray, List.set_cons_zero, List.set_cons_succ, i64_w, i32_w]
            rfl
          refine pure_ (i := 4) (N := some 111) (v := ?_) (a' := ?_) #[true, true, true, true, true, false, false, true, false, false, false, false, false] rfl rfl (by kernel_rfl) (fun _ _ _ h => h) (Or.inl ⟨by rfl, ?_⟩) ?_ ?_
          rotate_left
          · intro w'
            go_simp
            with_reducible rfl
          rotate_left
          · simp only [Act.put, List.setIfInBounds_toArray, List.set_cons_zero, List.set_cons_succ, i64_w, i32_w]
            rfl
          refine pure_ (i := 5) (N := some 112) (v := ?_) (a' := ?_) #[true, true, true, true, true, true, false, true, false, false, false, false, false] rfl rfl (by kernel_rfl) (fun _ _ _ h => h) (Or.inl ⟨by rfl, ?_⟩) ?_ ?_
          rotate_left
          · intro w'
            go_simp
            with_reducible rfl
          rotate_left
          · simp only [Act.put, List.setIfInBounds_toArray, List.set_cons_zero, List.set_cons_succ, i64_w, i32_w]
            rfl
          refine pure_ (i := 6) (N := some 113) (v := ?_) (a' := ?_) #[true, true, true, true, true, true, true, true, false, false, false, false, false] rfl rfl (by kernel_rfl) (fun _ _ _ h => h) (Or.inl ⟨by rfl, ?_⟩) ?_ ?_
          rotate_left
          · intro w'
            go_simp
            with_reducible rfl
          rotate_left
          · simp only [Act.put, List.setIfInBounds_toArray, List.set_cons_zero, List.set_cons_succ, i64_w, i32_w]
            rfl
          refine take_ (i := 8) (N := some 115) (v := ?_) (a' := ?_) #[true, true, true, true, true, true, true, true, true, false, false, false, false] rfl rfl (by kernel_rfl) (fun _ _ _ h => h) (Or.inl ⟨by rfl, ?_⟩) hHeld ?_ ?_
          rotate_left
          · rintro w' ⟨s0, s1⟩
            go_simp
            with_reducible rfl
          rotate_left
          · simp only [Act.put, List.setIfInBounds_toArray, List.set_cons_zero, List.set_cons_succ, i64_w, i32_w]
            rfl
          refine pure_ (i := 9) (N := some 116) (v := ?_) (a' := ?_) #[true, true, true, true, true, true, true, true, true, true, false, false, false] rfl rfl (by kernel_rfl) (fun _ _ _ h => h) (Or.inl ⟨by rfl, ?_⟩) ?_ ?_
          rotate_left
          · intro w'
            go_simp
            with_reducible rfl
          rotate_left
          · simp only [Act.put, List.setIfInBounds_toArray, List.set_cons_zero, List.set_cons_succ, i64_w, i32_w]
            rfl
          refine pure_ (i := 10) (N := some 117) (v := ?_) (a' := ?_) #[true, true, true, true, true, true, true, true, true, true, true, false, false] rfl rfl (by kernel_rfl) (fun _ _ _ h => h) (Or.inl ⟨by rfl, ?_⟩) ?_ ?_
          rotate_left
          · intro w'
            go_simp
            with_reducible rfl
          rotate_left
          · simp only [Act.put, List.setIfInBounds_toArray, List.set_cons_zero, List.set_cons_succ, i64_w, i32_w]
            rfl
          refine take_ (i := 11) (N := some 118) (v := ?_) (a' := ?_) #[true, true, true, true, true, true, true, true, true, true, true, true, false] rfl rfl (by kernel_rfl) (fun _ _ _ h => h) (Or.inl ⟨by rfl, ?_⟩) hHeld ?_ ?_
          rotate_left
          · rintro w' ⟨s0, s1⟩
            go_simp
            with_reducible rfl
          rotate_left
          · simp only [Act.put, List.setIfInBounds_toArray, List.set_cons_zero, List.set_cons_succ, i64_w, i32_w]
            rfl
          refine pure_ (i := 12) (N := some 119) (v := ?_) (a' := ?_) #[true, true, true, true, true, true, true, true, true, true, true, true, true] rfl rfl (by kernel_rfl) (fun _ _ _ h => h) (Or.inl ⟨by rfl, ?_⟩) ?_ ?_
          rotate_left
          · intro w'
            go_simp
            with_reducible rfl
          rotate_left
          · simp only [Act.put, List.setIfInBounds_toArray, List.set_cons_zero, List.set_cons_succ, i64_w, i32_w]
            rfl
          refine done_ (by kernel_rfl) ?_
          clear w1 hHeld cA
          have w2 := HW2.out
          go_wp2
          go_roundw
          case rel => exact ⟨y + 1, HW.out.2.1, HW.out.1, by first | rfl | (simp only [i64_w, w2]), Lib.hid (HN.out.on (by repeat (first | exact Below.refl _ _ | apply pw_below_drewN | apply below_drew1)))⟩
          case measure =>
            first | (simp only [intOf, i64_w, w2]; rw [HW.out.2.2.1]; exact HW.out.2.2.2) | (simp only [intOf]; rw [HW.out.2.2.1]; exact HW.out.2.2.2)
        · have hlt := eq_false q
          go_wp2
          go_ret
          exact ⟨rfl, by repeat (first | exact HR.out.bel | apply pw_below_drewN | apply below_drew1)⟩
end Go.Proofs.YtogkibhbkapobaaDoor.CsLaw

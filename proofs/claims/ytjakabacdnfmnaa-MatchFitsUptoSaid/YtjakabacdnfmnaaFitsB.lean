/- By hand: the document's Fits: rows of marks. For every text, pattern and world. -/
import Derived.Test.YtjakabacdnfmnaaFitsA
import Derived.Laws.MakeOwn
set_option linter.unusedVariables false
set_option linter.unusedSimpArgs false
namespace Go.Proofs.Ytjakabacdnfmnaa.FitsW
open Go.RowKit Go.Shelf Go.Proofs Go.Proofs.Ytjakabacdnfmnaa.Blk Go.Proofs.Ytjakabacdnfmnaa.XM Go.Proofs.Ytjakabacdnfmnaa.XV Go.Proofs.Ytjakabacdnfmnaa.FitsP Go.Proofs.Ytjakabacdnfmnaa.AttrW Go.Proofs.YtjakabacdnfmnaaW.PrintWords Go.Proofs.YtjakabacdnfmnaaW.PrintLast Go.Proofs.YtjakabacdnfmnaaW.PrintMore
theorem info4 : (Try.prog.info? 4).map (fun i => (i.zero, i.size, i.bytes)) = some (some (.bool false), 1, 1) := by kernel_rfl
def marks (bs : List Bool) : List Value := bs.map Value.bool
theorem made_false (n : Nat) : madeCells (Value.bool false).cells n = (marks (List.replicate n false)).toArray := by
  apply Array.ext
  · rw [size_madeCells]; simp [marks]
  · intro i h1 h2
    have e : i % 1 = 0 := Nat.mod_one i
    simp [madeCells, marks, Value.cells, e]
theorem marks_get {wr : World} {b : Nat} {bs : List Bool} (h : At wr b (marks bs) 4) (k : Nat) (hk : k < bs.length) : wr.cell? ⟨b, k, none⟩ = some (.bool (bs.getD k false)) := by
  refine h.get k _ ?_
  unfold marks
  rw [List.getElem?_map, List.getElem?_eq_getElem hk]
  simp [List.getD_eq_getElem?_getD, List.getElem?_eq_getElem hk]
theorem marks_set {wr : World} {b : Nat} {bs : List Bool} (h : At wr b (marks bs) 4) (k : Nat) : At (wr.setCell ⟨b, k, none⟩ (.bool true)) b (marks (bs.set k true)) 4 := by
  have := h.set k (.bool true)
  unfold marks at this ⊢
  rw [List.map_set]
  exact this
theorem st_as (v p : ByteArray) (k : Nat) (b : Bool) (w : World) (hv : v.size ≤ 1048576) (hp : p.size ≤ 1048576) (hk : k ≤ v.size) (hb : stB v p k = b) : Calls Try.prog 38 #[.string v, .int .i64 (k : Int), .string p] w fun e w' => e = .returned (.bool b) ∧ Drawn0 w w' := by
  subst hb
  exact rosterref06_stands.calls v (k : Int) p _ w (stands_at v p k hv hp hk)
theorem st0_as (v p : ByteArray) (b : Bool) (w : World) (hv : v.size ≤ 1048576) (hp : p.size ≤ 1048576) (hb : stB v p 0 = b) : Calls Try.prog 38 #[.string v, .int .i64 0, .string p] w fun e w' => e = .returned (.bool b) ∧ Drawn0 w w' := by
  subst hb
  exact rosterref06_stands.calls v 0 p _ w (stands_at v p 0 hv hp (Nat.zero_le _))
theorem stneg_as (v p : ByteArray) (k : Int) (w : World) (hk : k < 0) : Calls Try.prog 38 #[.string v, .int .i64 k, .string p] w fun e w' => e = .returned (.bool false) ∧ Drawn0 w w' :=
  rosterref06_stands.calls v k p _ w (stands_neg v p k hk)
/-- The state of the outer loop: j pieces are done; block b holds the marks. -/
structure OR (w : World) (v i f : ByteArray) (A : Option Addr) (c : Nat) (ps : List ByteArray) (j b : Nat) (bs : List Bool) (wr : World) : Prop where
  below : Below w.heap.size w wr
  box : At wr w.heap.size [.string i, .slice A ps.length c, .string f] 37
  row : At wr b (marks bs) 4
  len : bs.length = v.size + 1
  lo : w.heap.size < b
  ft : FT bs (gr v i.size (ps.take j))
/-- The state of the inner loop: k places are looked at. -/
structure IR (w : World) (v p : ByteArray) (g : Option Nat) (k b : Nat) (bs : List Bool) (wr : World) : Prop where
  below : Below w.heap.size w wr
  row : At wr b (marks bs) 4
  len : bs.length = v.size + 1
  lo : b = w.heap.size
  inn : Inn v p g k bs
theorem OR.draw {w wr : World} {v i f : ByteArray} {A : Option Addr} {c j b : Nat} {ps : List ByteArray} {bs : List Bool} (h : OR w v i f A c ps j b bs wr) (n : Nat) : OR w v i f A c ps j b bs (wr.drewN n) := ⟨pw_below_drewN h.below n, h.box, h.row, h.len, h.lo, h.ft⟩
theorem IR.draw {w wr : World} {v p : ByteArray} {g : Option Nat} {k b : Nat} {bs : List Bool} (h : IR w v p g k b bs wr) (n : Nat) : IR w v p g k b bs (wr.drewN n) := ⟨pw_below_drewN h.below n, h.row, h.len, h.lo, h.inn⟩
theorem OR.on {w wr w2 : World} {v i f : ByteArray} {A : Option Addr} {c j b : Nat} {ps : List ByteArray} {bs : List Bool} (h : OR w v i f A c ps j b bs wr) (hb : Below wr.heap.size wr w2) : OR w v i f A c ps j b bs w2 := ⟨h.below.trans (hb.mono h.below.size), h.box.below hb h.box.lt, h.row.below hb h.row.lt, h.len, h.lo, h.ft⟩
theorem IR.no {w wr : World} {v p : ByteArray} {g : Option Nat} {k b : Nat} {bs : List Bool} (h : IR w v p g k b bs wr) (hn : fr g (k + 1) = false ∨ stB v p k = false) : IR w v p g (k + 1) b bs wr := ⟨h.below, h.row, h.len, h.lo, inn_no h.inn hn⟩
theorem IR.yes {w wr : World} {v p : ByteArray} {g : Option Nat} {k b : Nat} {bs : List Bool} (h : IR w v p g k b bs wr) (h1 : fr g (k + 1) = true) (h2 : stB v p k = true) : IR w v p g (k + 1) b (bs.set (k + p.size) true) (wr.setCell ⟨b, k + p.size, none⟩ (.bool true)) :=
  ⟨h.below.setCell (p := ⟨b, k + p.size, none⟩) (by show w.heap.size ≤ b; rw [h.lo]; exact Nat.le_refl _) _, marks_set h.row _, by rw [List.length_set]; exact h.len, h.lo, inn_yes h.inn h1 h2 (by have := st_room h2; have := h.len; omega)⟩
theorem OR.next {w wr w2 : World} {v i f : ByteArray} {A : Option Addr} {c j b b2 : Nat} {ps : List ByteArray} {bs bs2 : List Bool} (h : OR w v i f A c ps j b bs wr) (hj : j < ps.length) (h2 : IR wr v (ps.getD j ByteArray.empty) (gr v i.size (ps.take j)) (v.size + 1) b2 bs2 w2) : OR w v i f A c ps (j + 1) b2 bs2 w2 := by
  refine ⟨h.below.trans (h2.below.mono h.below.size), h.box.below h2.below h.box.lt, h2.row, h2.len, by rw [h2.lo]; exact h.box.lt, ?_⟩
  rw [take_snoc ps hj, gr_snoc]
  exact inn_end h2.inn
theorem OR.found {w wr : World} {v i f : ByteArray} {A : Option Addr} {c b k : Nat} {ps : List ByteArray} {bs : List Bool} (h : OR w v i f A c ps ps.length b bs wr) (hf : f.size ≤ v.size) (h1 : stB v i 0 = true) (h2 : stB v f (v.size - f.size) = true) (hk : k ≤ v.size - f.size) (hb : bs.getD k false = true) : fits v i ps f = true := by
  have := h.ft
  rw [List.take_of_length_le (Nat.le_refl _)] at this
  unfold fits
  rw [h1, h2, decide_eq_true hf]
  cases hg : gr v i.size ps with
  | none => rw [hg] at this; rw [this k] at hb; cases hb
  | some m =>
    rw [hg] at this
    have : ¬ k < m := fun hlt => by rw [this.2 k hlt] at hb; cases hb
    simp
    omega
theorem OR.lost {w wr : World} {v i f : ByteArray} {A : Option Addr} {c b : Nat} {ps : List ByteArray} {bs : List Bool} (h : OR w v i f A c ps ps.length b bs wr) (hb : ∀ k, k < v.size - f.size + 1 → bs.getD k false = false) : fits v i ps f = false := by
  have := h.ft
  rw [List.take_of_length_le (Nat.le_refl _)] at this
  unfold fits
  cases hg : gr v i.size ps with
  | none => simp
  | some m =>
    rw [hg] at this
    have : ¬ m < v.size - f.size + 1 := fun hlt => by have h3 := this.1; rw [hb m hlt] at h3; cases h3
    have : decide (m + f.size ≤ v.size) = false := decide_eq_false (by omega)
    simp only [this, Bool.and_false]
theorem fits_long {v i f : ByteArray} {ps : List ByteArray} (h : v.size < f.size) : fits v i ps f = false := by
  unfold fits
  rw [decide_eq_false (by omega), Bool.false_and, Bool.and_false, Bool.false_and]
theorem mk_run (n : Nat) (h : n ≤ 281474976710656) (w : World) : (Instr.makeSlice 62 (.int .i64 (n : Int)) (.int .i64 (n : Int))).run Try.prog w = .ok (.slice (some ⟨w.heap.size, 0, none⟩) n n) (w.alloc (.cells (marks (List.replicate n false)).toArray 4)) := by
  obtain ⟨i0, hi, hz0, hz1, hz2⟩ := info_parts info4
  have := run_make (P := Try.prog) w 62 4 i0 (.bool false) Try.underlying62 hi hz0 .i64 .i64 (n : Int) (n : Int) (by omega) (by omega) (by rw [hz2]; omega) (by omega)
  rw [hz1] at this
  simp only [Int.toNat_natCast, Nat.mul_one] at this
  rw [made_false] at this
  exact this
set_option maxHeartbeats 8000000 in
set_option maxRecDepth 100000 in
theorem rfits_as (v i f : ByteArray) (A : Option Addr) (c : Nat) (ps : List ByteArray) (w : World) (h : Txts w A ps) (hn : ps.length ≤ 1048576) (hp : ∀ x ∈ ps, x.size ≤ 1048576) (hv : v.size ≤ 1048576) (hi : i.size ≤ 1048576) (hf : f.size ≤ 1048576) :
    Calls Try.prog 22 #[.string v, .agg #[.string i, .slice A ps.length c, .string f]] w fun e w' => e = .returned (.bool (fits v i ps f)) ∧ Below w.heap.size w w' := by
  have HT := Lib.hid h
  have HPS := Lib.hid hp
  have HB := Lib.hid ((Below.refl w.heap.size w).alloc (Nat.le_refl _) (.cells #[.string i, .slice A ps.length c, .string f] 37))
  have hmk : ∀ w : World, (Instr.makeSlice 62 (.int .i64 ((v.size : Int) + 1)) (.int .i64 ((v.size : Int) + 1))).run Try.prog w = .ok (.slice (some ⟨w.heap.size, 0, none⟩) (v.size + 1) (v.size + 1)) (w.alloc (.cells (marks (List.replicate (v.size + 1) false)).toArray 4)) := mk_run (v.size + 1) (by omega)
  clear h hp
  cases h1 : stB v i 0 with
  | false =>
    rw [fits_pre h1]
    have H1 := Lib.hid h1
    clear h1
    go_enter Try.func22, Try.ntmps22
    go_wp2_with (first
      | (go_at_call 38; ((with_reducible refine (st0_as v i false _ hv hi H1.out).mono ?_); rintro e _ ⟨rfl, ⟨n1, rfl⟩⟩))
      | go_in)
    go_ret
    exact ⟨rfl, pw_below_drewN HB.out _⟩
  | true =>
    have H1 := Lib.hid h1
    have hiv : i.size ≤ v.size := by have := st_room h1; omega
    have hlt0 : (i.size : Int) < ((v.size + 1 : Nat) : Int) := by omega
    clear h1
    have hsz1 : (w.alloc (.cells #[.string i, .slice A ps.length c, .string f] 37)).heap.size = w.heap.size + 1 := World.size_alloc _ _
    have HO1 : Hid (∀ n1 : Nat, OR w v i f A c ps 0 (w.heap.size + 1) ((List.replicate (v.size + 1) false).set i.size true) (((w.alloc (.cells #[.string i, .slice A ps.length c, .string f] 37)).drewN n1).alloc (.cells ((marks (List.replicate (v.size + 1) false)).set i.size (.bool true)).toArray 4))) := Lib.hid fun n1 => by
      have a1 := At.fresh ((w.alloc (.cells #[.string i, .slice A ps.length c, .string f] 37)).drewN n1) ((marks (List.replicate (v.size + 1) false)).set i.size (.bool true)) 4
      have hsz2 : ((w.alloc (.cells #[.string i, .slice A ps.length c, .string f] 37)).drewN n1).heap.size = w.heap.size + 1 := hsz1
      rw [hsz2] at a1
      have e : (marks (List.replicate (v.size + 1) false)).set i.size (.bool true) = marks ((List.replicate (v.size + 1) false).set i.size true) := by unfold marks; rw [List.map_set]
      rw [e] at a1 ⊢
      exact ⟨(pw_below_drewN HB.out n1).alloc (by rw [hsz2]; omega) _, ((At.fresh w _ 37).drewN n1).alloc _, a1, by simp, by omega, ft_start _ _ (by omega)⟩
    have hmr : (marks (List.replicate (v.size + 1) false))[i.size]? = some (.bool false) := by
      unfold marks
      rw [List.getElem?_map, List.getElem?_replicate, if_pos (by omega)]
      rfl
    go_enter Try.func22, Try.ntmps22
    go_wp2_with (first
      | (go_at_call 38; ((with_reducible refine (st0_as v i true _ hv hi H1.out).mono ?_); rintro e _ ⟨rfl, ⟨n1, rfl⟩⟩)))
    go_loopw [5, 6] (fun v5 v6 wr => ∃ (j b : Nat) (bs : List Bool), j ≤ ps.length ∧ v6 = .int .i64 (j : Nat) ∧ v5 = .slice (some ⟨b, 0, none⟩) (v.size + 1) (v.size + 1) ∧ Hid (OR w v i f A c ps j b bs wr)) (fun _ v6 _ => ps.length - (intOf v6).toNat)
    case atStart => exact ⟨0, _, _, Nat.zero_le _, rfl, rfl, Lib.hid (HO1.out _)⟩
    case round =>
      clear HO1 hmr hsz1 hlt0
      obtain ⟨j, b, bs, hj, rfl, rfl, HO⟩ := hrel
      obtain ⟨wo, rfl⟩ : ∃ wo : World, wo = wr := ⟨_, rfl⟩
      have hbx := HO.out.box
      have hsz := HO.out.below.size
      by_cases hin : j < ps.length
      · have hlt : (j : Int) < (ps.length : Int) := by omega
        obtain ⟨g, o, rfl, hc⟩ := (HT.out.on HO.out.below) j hin
        have hx : (ps.getD j ByteArray.empty).size ≤ 1048576 := HPS.out _ (by rw [List.getD_eq_getElem?_getD, List.getElem?_eq_getElem hin]; exact List.getElem_mem hin)
        obtain ⟨q, hq⟩ : ∃ q, q = gr v i.size (ps.take j) := ⟨_, rfl⟩
        have HFT : Hid (FT bs q) := Lib.hid (by rw [hq]; exact HO.out.ft)
        have HNX : Hid (∀ b2 bs2 w2, IR wo v (ps.getD j ByteArray.empty) q (v.size + 1) b2 bs2 w2 → OR w v i f (some ⟨g, o, none⟩) c ps (j + 1) b2 bs2 w2) := Lib.hid fun b2 bs2 w2 h2 => HO.out.next hin (by rw [← hq]; exact h2)
        clear hq
        generalize ps.getD j ByteArray.empty = x at hc hx HNX
        have HI0 : Hid (IR wo v x q 0 wo.heap.size (List.replicate (v.size + 1) false) (wo.alloc (.cells (marks (List.replicate (v.size + 1) false)).toArray 4))) := Lib.hid ⟨(Below.refl _ wo).alloc (Nat.le_refl _) _, At.fresh wo _ 4, by simp, rfl, inn_zero _ _ _ _⟩
        have c1 := hbx.get 1 _ rfl
        have hfr0 : fr q 0 = false := by cases q <;> rfl
        have HC := Lib.hid hc
        clear hbx hc
        go_wp2_with fail
        go_loopw [8, 9] (fun v8 v9 wi => ∃ (k : Nat) (bs2 : List Bool), k ≤ v.size + 1 ∧ v9 = .int .i64 (k : Nat) ∧ v8 = .bool (fr q k) ∧ Hid (IR wo v x q k wo.heap.size bs2 wi)) (fun _ v9 _ => v.size + 1 - (intOf v9).toNat)
        case atStart => exact ⟨0, _, Nat.zero_le _, rfl, by rw [hfr0], HI0⟩
        case round =>
          clear HI0 hfr0 c1
          obtain ⟨k, bs2, hk, rfl, rfl, HI⟩ := hrel
          have hbi := HI.out.below
          have e1 := ((HO.out.on hbi).box).get 1 _ rfl
          have hc := (hbi.cell (p := ⟨g, o + j, none⟩) (World.block_lt_of_cell? wo _ HC.out)).trans HC.out
          by_cases hkn : k < v.size + 1
          · have hkv : k ≤ v.size := by omega
            have hkle : (k : Int) ≤ (v.size : Int) := by omega
            have le := marks_get ((HO.out.on hbi).row) k (by rw [HO.out.len]; omega)
            have hfs := fr_step HFT.out k
            clear hbi
            cases hfk : fr q k with
            | true =>
              clear le
              have HF1 : Hid (fr q (k + 1) = true) := Lib.hid (by rw [← hfs, hfk]; rfl)
              clear hfs hfk
              cases hst : stB v x k with
              | true =>
                have HST := Lib.hid hst
                have hroom := st_room hst
                have fs := HI.out.row.free (k + x.size)
                have ms := marks_get HI.out.row (k + x.size) (by rw [HI.out.len]; omega)
                have hwx : IntKind.i64.wrap ((k : Int) + (x.size : Int)) = (k : Int) + (x.size : Int) := IntWalk.i64_in _ (by omega)
                have hkx : (k : Int) + (x.size : Int) < (v.size : Int) + 1 := by omega
                have hkx0 : 0 ≤ (k : Int) + (x.size : Int) := by omega
                have hkt : ((k : Int) + (x.size : Int)).toNat = k + x.size := by omega
                clear hst
                have HN := Lib.hid ((HI.out.draw 0).yes HF1.out HST.out)
                go_wp2_with (first | (go_at_call 38; ((with_reducible refine (st_as v x k true _ hv hx hkv HST.out).mono ?_); rintro e _ ⟨rfl, ⟨n3, rfl⟩⟩)) | go_in)
                go_roundw
                case rel => exact ⟨k + 1, bs2.set (k + x.size) true, by omega, by go_num, by rw [HF1.out], Lib.hid (by repeat (first | exact HI.out.yes HF1.out HST.out | exact (HI.out.draw _).yes HF1.out HST.out | apply IR.draw))⟩
                case measure => simp [intOf]; omega
              | false =>
                have HST := Lib.hid hst
                clear hst
                go_wp2_with (first | (go_at_call 38; ((with_reducible refine (st_as v x k false _ hv hx hkv HST.out).mono ?_); rintro e _ ⟨rfl, ⟨n3, rfl⟩⟩)) | go_in)
                go_roundw
                case rel => exact ⟨k + 1, bs2, by omega, by go_num, by rw [HF1.out], Lib.hid (by repeat (first | exact HI.out.no (.inr HST.out) | apply IR.draw))⟩
                case measure => simp [intOf]; omega
            | false =>
              cases hbk : bs.getD k false with
              | true =>
                rw [hbk] at le
                have HF1 : Hid (fr q (k + 1) = true) := Lib.hid (by rw [← hfs, hfk, hbk]; rfl)
                clear hfs hfk hbk
                cases hst : stB v x k with
                | true =>
                  have HST := Lib.hid hst
                  have hroom := st_room hst
                  have fs := HI.out.row.free (k + x.size)
                  have ms := marks_get HI.out.row (k + x.size) (by rw [HI.out.len]; omega)
                  have hwx : IntKind.i64.wrap ((k : Int) + (x.size : Int)) = (k : Int) + (x.size : Int) := IntWalk.i64_in _ (by omega)
                  have hkx : (k : Int) + (x.size : Int) < (v.size : Int) + 1 := by omega
                  have hkx0 : 0 ≤ (k : Int) + (x.size : Int) := by omega
                  have hkt : ((k : Int) + (x.size : Int)).toNat = k + x.size := by omega
                  clear hst
                  have HN := Lib.hid ((HI.out.draw 0).yes HF1.out HST.out)
                  go_wp2_with (first | (go_at_call 38; ((with_reducible refine (st_as v x k true _ hv hx hkv HST.out).mono ?_); rintro e _ ⟨rfl, ⟨n3, rfl⟩⟩)) | go_in)
                  go_roundw
                  case rel => exact ⟨k + 1, bs2.set (k + x.size) true, by omega, by go_num, by rw [HF1.out], Lib.hid (by repeat (first | exact HI.out.yes HF1.out HST.out | exact (HI.out.draw _).yes HF1.out HST.out | apply IR.draw))⟩
                  case measure => simp [intOf]; omega
                | false =>
                  have HST := Lib.hid hst
                  clear hst
                  go_wp2_with (first | (go_at_call 38; ((with_reducible refine (st_as v x k false _ hv hx hkv HST.out).mono ?_); rintro e _ ⟨rfl, ⟨n3, rfl⟩⟩)) | go_in)
                  go_roundw
                  case rel => exact ⟨k + 1, bs2, by omega, by go_num, by rw [HF1.out], Lib.hid (by repeat (first | exact HI.out.no (.inr HST.out) | apply IR.draw))⟩
                  case measure => simp [intOf]; omega
              | false =>
                rw [hbk] at le
                have HF1 : Hid (fr q (k + 1) = false) := Lib.hid (by rw [← hfs, hfk, hbk]; rfl)
                clear hfs hfk hbk
                clear hc e1
                go_wp2
                go_roundw
                case rel => exact ⟨k + 1, bs2, by omega, by go_num, by rw [HF1.out], Lib.hid (HI.out.no (.inl HF1.out))⟩
                case measure => simp [intOf]; omega
          · have hkle : ¬ (k : Int) ≤ (v.size : Int) := by omega
            obtain rfl : k = v.size + 1 := by omega
            have HN := Lib.hid (HNX.out _ _ _ HI.out)
            clear hbi hc e1
            go_wp2
            go_roundw
            case rel => exact ⟨j + 1, wo.heap.size, bs2, by omega, by go_num, rfl, HN⟩
            case measure => simp [intOf]; omega
      · have hlt : ¬ ((j : Int) < (ps.length : Int)) := by omega
        obtain rfl : j = ps.length := by omega
        have e1 := hbx.get 1 _ rfl
        have e2 := hbx.get 2 _ rfl
        clear hbx
        by_cases hfv : f.size ≤ v.size
        · have hw2 : IntKind.i64.wrap ((v.size : Int) - (f.size : Int)) = ((v.size - f.size : Nat) : Int) := by rw [IntWalk.i64_in _ (by omega)]; omega
          cases h2 : stB v f (v.size - f.size) with
          | false =>
            have H2 := Lib.hid h2
            have HA := Lib.hid (fits_suf (i := i) (ps := ps) h2)
            clear h2
            go_wp2_with (first
              | (go_at_call 38; ((with_reducible refine (st_as v f (v.size - f.size) false _ hv hf (Nat.sub_le _ _) H2.out).mono ?_); rintro e _ ⟨rfl, ⟨n4, rfl⟩⟩))
              | go_in)
            go_ret
            exact ⟨ret_bool HA.out.symm, pw_below_drewN HO.out.below _⟩
          | true =>
            have H2 := Lib.hid h2
            have HFD : Hid (∀ k, k ≤ v.size - f.size → bs.getD k false = true → fits v i ps f = true) := Lib.hid fun k h1 h3 => HO.out.found hfv H1.out h2 h1 h3
            have HLS : Hid ((∀ k, k < v.size - f.size + 1 → bs.getD k false = false) → fits v i ps f = false) := Lib.hid HO.out.lost
            clear h2
            go_wp2_with (first
              | (go_at_call 38; ((with_reducible refine (st_as v f (v.size - f.size) true _ hv hf (Nat.sub_le _ _) H2.out).mono ?_); rintro e _ ⟨rfl, ⟨n4, rfl⟩⟩)))
            have HOD := Lib.hid (HO.out.draw n4)
            go_loopw [11] (fun v11 wi => ∃ k : Nat, k ≤ v.size - f.size + 1 ∧ v11 = .int .i64 (k : Nat) ∧ Hid (∀ q, q < k → bs.getD q false = false) ∧ Hid (OR w v i f A c ps ps.length b bs wi)) (fun v11 _ => v.size - f.size + 1 - (intOf v11).toNat)
            case atStart => exact ⟨0, Nat.zero_le _, rfl, Lib.hid (fun q h => absurd h (Nat.not_lt_zero _)), HOD⟩
            case round =>
              obtain ⟨k, hk, rfl, HK, HW⟩ := hrel
              by_cases hkn : k < v.size - f.size + 1
              · have hkle : (k : Int) ≤ ((v.size - f.size : Nat) : Int) := by omega
                have hkl : (k : Int) < (v.size : Int) + 1 := by omega
                have le := marks_get HW.out.row k (by rw [HW.out.len]; omega)
                cases hbk : bs.getD k false with
                | true =>
                  rw [hbk] at le
                  have HA := Lib.hid (HFD.out k (by omega) hbk)
                  clear hbk
                  go_wp2
                  go_ret
                  exact ⟨ret_bool HA.out.symm, HW.out.below⟩
                | false =>
                  rw [hbk] at le
                  have HK2 : Hid (∀ q, q < k + 1 → bs.getD q false = false) := Lib.hid fun q h => by
                    by_cases e : q = k
                    · subst e; exact hbk
                    · exact HK.out q (by omega)
                  clear hbk
                  go_wp2
                  go_roundw
                  case rel => exact ⟨k + 1, by omega, by go_num, HK2, HW⟩
                  case measure => simp [intOf]; omega
              · have hkle : ¬ (k : Int) ≤ ((v.size - f.size : Nat) : Int) := by omega
                obtain rfl : k = v.size - f.size + 1 := by omega
                have HA := Lib.hid (HLS.out HK.out)
                go_wp2
                go_ret
                exact ⟨ret_bool HA.out.symm, HW.out.below⟩
        · have HA := Lib.hid (fits_long (i := i) (ps := ps) (show v.size < f.size by omega))
          have hw2 : IntKind.i64.wrap ((v.size : Int) - (f.size : Int)) = (v.size : Int) - (f.size : Int) := IntWalk.i64_in _ (by omega)
          go_wp2_with (first
            | (go_at_call 38; ((with_reducible refine (stneg_as v f ((v.size : Int) - (f.size : Int)) _ (by omega)).mono ?_); rintro e _ ⟨rfl, ⟨n4, rfl⟩⟩))
            | go_in)
          go_ret
          exact ⟨ret_bool HA.out.symm, pw_below_drewN HO.out.below _⟩
end Go.Proofs.Ytjakabacdnfmnaa.FitsW

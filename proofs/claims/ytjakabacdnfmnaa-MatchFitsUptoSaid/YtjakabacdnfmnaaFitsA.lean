/- By hand: match.Fits: the pieces sought one behind the other. For every text, pattern and world. -/
import Derived.Test.YtjakabacdnfmnaaFitsP
import Derived.Test.YtjakabacdnfmnaaXM1
import Derived.Test.YtjakabacdnfmnaaXV
import Derived.Test.YtjakabacdnfmnaaAttrC
import Derived.Shelf.Strings.Cut
import Derived.Lib.Hide
set_option linter.unusedVariables false
set_option linter.unusedSimpArgs false
namespace Go.Proofs.Ytjakabacdnfmnaa.FitsW
open Go.RowKit Go.Shelf Go.Proofs Go.Proofs.Ytjakabacdnfmnaa.Blk Go.Proofs.Ytjakabacdnfmnaa.XM Go.Proofs.Ytjakabacdnfmnaa.XV Go.Proofs.Ytjakabacdnfmnaa.FitsP Go.Proofs.Ytjakabacdnfmnaa.AttrW Go.Proofs.YtjakabacdnfmnaaW.PrintWords Go.Proofs.YtjakabacdnfmnaaW.PrintLast Go.Proofs.YtjakabacdnfmnaaW.PrintMore
def L145_ren : Go.Shelf.Ren := ⟨fun | 145 => 37 | 220 => 46 | 219 => 52 | 217 => 53 | 225 => 54 | 224 => 55 | 267 => 56 | 266 => 57 | 314 => 58 | n => n, fun | 9 => 9 | 4 => 4 | 59 => 59 | 3 => 3 | 5 => 5 | 46 => 58 | 146 => 71 | 51 => 70 | n => n, fun | 1 => 0 | n => n⟩
theorem L145 : Go.Proofs.Lays.n145 Try.prog L145_ren := {
  mixed := by kernel_rfl
  f145 := Try.func37.trans (congrArg some (by kernel_rfl))
  f217 := Try.func53.trans (congrArg some (by kernel_rfl))
  f219 := Try.func52.trans (congrArg some (by kernel_rfl))
  f220 := Try.func46.trans (congrArg some (by kernel_rfl))
  f224 := Try.func55.trans (congrArg some (by kernel_rfl))
  f225 := Try.func54.trans (congrArg some (by kernel_rfl))
  f266 := Try.func57.trans (congrArg some (by kernel_rfl))
  f267 := Try.func56.trans (congrArg some (by kernel_rfl))
  f314 := Try.func58.trans (congrArg some (by kernel_rfl))
  t3 := Try.underlying3
  a3 := Try.isAgg3
  z3 := Try.sizeOf3
  v3 := Try.zeroValue3
  t4 := Try.underlying4
  a4 := Try.isAgg4
  z4 := Try.sizeOf4
  v4 := Try.zeroValue4
  t5 := Try.underlying5
  a5 := Try.isAgg5
  z5 := Try.sizeOf5
  v5 := Try.zeroValue5
  t9 := Try.underlying9
  a9 := Try.isAgg9
  z9 := Try.sizeOf9
  v9 := Try.zeroValue9
  t46 := Try.underlying58
  a46 := Try.isAgg58
  z46 := Try.sizeOf58
  v46 := Try.zeroValue58
  t51 := Try.underlying70
  a51 := Try.isAgg70
  z51 := Try.sizeOf70
  v51 := Try.zeroValue70
  t59 := Try.underlying59
  a59 := Try.isAgg59
  z59 := Try.sizeOf59
  v59 := Try.zeroValue59
  t146 := Try.underlying71
  a146 := Try.isAgg71
  z146 := Try.sizeOf71
  v146 := Try.zeroValue71
  g1 := by kernel_rfl }
theorem ret_bool {a b : Bool} (h : a = b) : Ending.returned (.bool a) = .returned (.bool b) := by rw [h]
/-- A variable of the library's holds a number. -/
def MaxV (w : World) : Prop := ∃ m, w.cell? ⟨0, 0, none⟩ = some (.int .i64 m)
theorem MaxV.on {w w' : World} (h : MaxV w) (hb : Below w.heap.size w w') : MaxV w' := by
  obtain ⟨m, hm⟩ := h
  exact ⟨m, (hb.cell (p := ⟨0, 0, none⟩) (World.block_lt_of_cell? w _ hm)).trans hm⟩
theorem cut_as (s p : ByteArray) (w : World) (hs : s.size < 4294967281) (hm : MaxV w) : Calls Try.prog 37 #[.string s, .string p] w fun e w' => e = .returned (.tuple #[.string ⟨(Lib.cut s.data.toList p.data.toList).1.toArray⟩, .string ⟨(Lib.cut s.data.toList p.data.toList).2.1.toArray⟩, .bool (Lib.cut s.data.toList p.data.toList).2.2]) ∧ Drawn0 w w' := by
  obtain ⟨m, hm⟩ := hm
  exact (Any.strings_Cut L145 s p m w hs hm).mono fun e w' ⟨h1, n, h2⟩ => ⟨h1, ⟨n, h2⟩⟩
theorem stands_at (v p : ByteArray) (k : Nat) (hv : v.size ≤ 1048576) (hp : p.size ≤ 1048576) (hk : k ≤ v.size) : rosterref06_stands.f v (k : Int) p = some (stB v p k) := by
  unfold rosterref06_stands.f stB
  rw [wrp_id _ (by omega) (by omega), if_pos (by omega)]
  by_cases h : k + p.size ≤ v.size
  · rw [if_pos (by omega), if_pos (by omega), if_pos (by omega), decide_eq_true h, Bool.true_and, show ((k : Int) + (p.size : Int)).toNat = k + p.size by omega, Int.toNat_natCast, toList_data, toList_data]
  · rw [if_neg (by omega), decide_eq_false h, Bool.false_and]
theorem stands_neg (v p : ByteArray) (k : Int) (hk : k < 0) : rosterref06_stands.f v k p = some false := by
  unfold rosterref06_stands.f
  rw [if_neg (by omega)]
theorem prefix_at (v p : ByteArray) (hv : v.size ≤ 1048576) (hp : p.size ≤ 1048576) : strings_HasPrefix.f v p = some (stB v p 0) := by
  unfold strings_HasPrefix.f stringslite_HasPrefix.f stB
  by_cases h : p.size ≤ v.size
  · rw [if_pos (by omega), if_pos (by omega), if_pos (by omega), decide_eq_true (by omega), Bool.true_and, Int.toNat_natCast, toList_data, toList_data, Nat.zero_add]
    rfl
  · rw [if_neg (by omega), decide_eq_false (by omega), Bool.false_and]
    rfl
theorem suffix_at (v p : ByteArray) (hv : v.size ≤ 1048576) (hp : p.size ≤ v.size) : strings_HasSuffix.f v p = some (stB v p (v.size - p.size)) := by
  unfold strings_HasSuffix.f stringslite_HasSuffix.f stB
  rw [wrp_id _ (by omega) (by omega), if_pos (by omega), if_pos (by omega), if_pos (by omega), decide_eq_true (by omega), Bool.true_and, show ((v.size : Int) - (p.size : Int)).toNat = v.size - p.size by omega, toList_data, toList_data, show v.size - p.size + p.size = v.size by omega]
  rfl
theorem pre_as (v p : ByteArray) (b : Bool) (w : World) (hv : v.size ≤ 1048576) (hp : p.size ≤ 1048576) (hb : stB v p 0 = b) : Calls Try.prog 35 #[.string v, .string p] w fun e w' => e = .returned (.bool b) ∧ Drawn0 w w' := by
  subst hb
  exact strings_HasPrefix.calls v p _ w (prefix_at v p hv hp)
theorem suf_as (v p : ByteArray) (b : Bool) (w : World) (hv : v.size ≤ 1048576) (hp : p.size ≤ v.size) (hb : stB v p (v.size - p.size) = b) : Calls Try.prog 36 #[.string v, .string p] w fun e w' => e = .returned (.bool b) ∧ Drawn0 w w' := by
  subst hb
  exact strings_HasSuffix.calls v p _ w (suffix_at v p hv hp)
/-- The state of the loop: j pieces are found, m bytes are behind. -/
structure FR (w : World) (v i f : ByteArray) (A : Option Addr) (c : Nat) (ps : List ByteArray) (last j m : Nat) (wr : World) : Prop where
  below : Below w.heap.size w wr
  box : At wr w.heap.size [.string i, .slice A ps.length c, .string f] 37
  m1 : m ≤ last
  at_ : gr v i.size (ps.take j) = some m
theorem FR.draw {w wr : World} {v i f : ByteArray} {A : Option Addr} {c last j m : Nat} {ps : List ByteArray} (h : FR w v i f A c ps last j m wr) (n : Nat) : FR w v i f A c ps last j m (wr.drewN n) := ⟨pw_below_drewN h.below n, h.box, h.m1, h.at_⟩
theorem take_snoc (l : List ByteArray) {i : Nat} (hi : i < l.length) : l.take (i + 1) = l.take i ++ [l.getD i ByteArray.empty] := by
  rw [List.take_add_one, List.getElem?_eq_getElem hi]
  simp [List.getD_eq_getElem?_getD, List.getElem?_eq_getElem hi]
theorem FR.hit {w wr : World} {v i f : ByteArray} {A : Option Addr} {c last j m q : Nat} {ps : List ByteArray} (h : FR w v i f A c ps last j m wr) (hj : j < ps.length) (hl : last ≤ v.size) (hx : Lib.index (v.extract m last).data.toList (ps.getD j ByteArray.empty).data.toList = q) : FR w v i f A c ps last (j + 1) (m + q + (ps.getD j ByteArray.empty).size) wr := by
  obtain ⟨h1, h2⟩ := cut_hit hl h.m1 hx
  refine ⟨h.below, h.box, h2, ?_⟩
  rw [take_snoc ps hj, gr_snoc, h.at_]
  unfold stp
  rw [Option.bind_some, h1]
  rfl
theorem FR.miss {w wr : World} {v i f : ByteArray} {A : Option Addr} {c j m : Nat} {ps : List ByteArray} (h : FR w v i f A c ps (v.size - f.size) j m wr) (hf : f.size ≤ v.size) (hj : j < ps.length) (hx : Lib.index (v.extract m (v.size - f.size)).data.toList (ps.getD j ByteArray.empty).data.toList = -1) : fits v i ps f = false := by
  have hm := cut_miss (Nat.sub_le _ _) h.m1 hx
  refine fits_stuck (qs := ps.take j) (p := ps.getD j ByteArray.empty) (fun k hk => ?_) (by rw [← take_snoc ps hj]; exact List.take_prefix _ _)
  rw [h.at_] at hk
  unfold stp at hk
  rw [Option.bind_some, Option.map_eq_some_iff] at hk
  obtain ⟨q, hq, rfl⟩ := hk
  have := hm q hq
  omega
theorem FR.done {w wr : World} {v i f : ByteArray} {A : Option Addr} {c m : Nat} {ps : List ByteArray} (h : FR w v i f A c ps (v.size - f.size) ps.length m wr) (hf : f.size ≤ v.size) (h1 : stB v i 0 = true) (h2 : stB v f (v.size - f.size) = true) : fits v i ps f = true := by
  have := h.at_
  rw [List.take_of_length_le (Nat.le_refl _)] at this
  unfold fits
  rw [this, h1, h2, decide_eq_true hf]
  have hm := h.m1
  simp
  omega
theorem fits_short {v i f : ByteArray} {ps : List ByteArray} (h : v.size < i.size + f.size) : fits v i ps f = false := by
  unfold fits
  cases hg : gr v i.size ps with
  | none => simp
  | some m =>
    obtain ⟨m0, h1, h2⟩ := fold_ge ps (some i.size) m hg
    obtain rfl := Option.some.inj h1
    have : decide (m + f.size ≤ v.size) = false := decide_eq_false (by omega)
    simp only [this, Bool.and_false]
theorem fits_pre {v i f : ByteArray} {ps : List ByteArray} (h : stB v i 0 = false) : fits v i ps f = false := by
  unfold fits
  rw [h, Bool.false_and, Bool.false_and]
theorem fits_suf {v i f : ByteArray} {ps : List ByteArray} (h : stB v f (v.size - f.size) = false) : fits v i ps f = false := by
  unfold fits
  rw [h, Bool.and_false, Bool.and_false, Bool.false_and]
theorem cut_rest (v p : ByteArray) (m last q : Nat) (hl : last ≤ v.size) (hm : m ≤ last) (hq : m + q + p.size ≤ last) (h : Lib.index (v.extract m last).data.toList p.data.toList = q) : (⟨(Lib.cut (v.extract m last).data.toList p.data.toList).2.1.toArray⟩ : ByteArray) = v.extract (m + q + p.size) last ∧ (Lib.cut (v.extract m last).data.toList p.data.toList).2.2 = true := by
  obtain ⟨_, e2, e3⟩ := Lib.cutB_hit (v.extract m last) p q h
  refine ⟨?_, e3⟩
  rw [e2]
  refine ByteArray.ext (Array.toList_inj.1 ?_)
  have hz : (v.extract m last).size = last - m := by rw [size_list, extract_list, List.length_take, List.length_drop, ← size_list]; omega
  rw [hz, extract_list, extract_list, extract_list, List.drop_take, List.drop_drop, List.take_take]
  congr 1
  · omega
  · congr 1; omega
set_option maxHeartbeats 4000000 in
set_option maxRecDepth 100000 in
theorem fits_as (v0 i f : ByteArray) (A : Option Addr) (c : Nat) (ps : List ByteArray) (w : World) (h : Txts w A ps) (hn : ps.length ≤ 1048576) (hv : v0.size ≤ 1048576) (hi : i.size ≤ 1048576) (hf : f.size ≤ 1048576) (hm : MaxV w) :
    Calls Try.prog 21 #[.string v0, .agg #[.string i, .slice A ps.length c, .string f]] w fun e w' => e = .returned (.bool (fits v0 i ps f)) ∧ Below w.heap.size w w' := by
  have HT := Lib.hid h
  have HM := Lib.hid hm
  have HB := Lib.hid ((Below.refl w.heap.size w).alloc (Nat.le_refl _) (.cells #[.string i, .slice A ps.length c, .string f] 37))
  clear h hm
  by_cases hz : v0.size < i.size + f.size
  · rw [fits_short hz]
    have hz1 : (v0.size : Int) < (i.size : Int) + (f.size : Int) := by omega
    clear hz
    go_enter Try.func21, Try.ntmps21
    go_wp2
    go_ret
    exact ⟨rfl, HB.out⟩
  · have hz1 : ¬ (v0.size : Int) < (i.size : Int) + (f.size : Int) := by omega
    have HZ := Lib.hid hz
    have hfv : f.size ≤ v0.size := by omega
    clear hz
    cases h1 : stB v0 i 0 with
    | false =>
      rw [fits_pre h1]
      have H1 := Lib.hid h1
      clear h1
      go_enter Try.func21, Try.ntmps21
      go_wp2_with (first
        | (go_at_call 35; ((with_reducible refine (pre_as v0 i false _ hv hi H1.out).mono ?_); rintro e _ ⟨rfl, ⟨n1, rfl⟩⟩))
        | go_in)
      go_ret
      exact ⟨rfl, pw_below_drewN HB.out _⟩
    | true =>
      have H1 := Lib.hid h1
      clear h1
      cases h2 : stB v0 f (v0.size - f.size) with
      | false =>
        rw [fits_suf h2]
        have H2 := Lib.hid h2
        clear h2
        go_enter Try.func21, Try.ntmps21
        go_wp2_with (first
          | (go_at_call 35; ((with_reducible refine (pre_as v0 i true _ hv hi H1.out).mono ?_); rintro e _ ⟨rfl, ⟨n1, rfl⟩⟩))
          | (go_at_call 36; ((with_reducible refine (suf_as v0 f false _ hv hfv H2.out).mono ?_); rintro e _ ⟨rfl, ⟨n2, rfl⟩⟩))
          | go_in)
        go_ret
        exact ⟨rfl, by repeat (first | exact HB.out | apply pw_below_drewN | apply below_drew1)⟩
      | true =>
        have H2 := Lib.hid h2
        clear h2
        have hw1 : IntKind.i64.wrap ((v0.size : Int) - (f.size : Int)) = ((v0.size - f.size : Nat) : Int) := by rw [IntWalk.i64_in _ (by omega)]; omega
        have hA : (0 : Int) ≤ ((v0.size - f.size : Nat) : Int) := by omega
        have hB : (i.size : Int) ≤ ((v0.size - f.size : Nat) : Int) := by omega
        have hC : ((v0.size - f.size : Nat) : Int) ≤ (v0.size : Int) := by omega
        have HF0 : Hid (FR w v0 i f A c ps (v0.size - f.size) 0 i.size (w.alloc (.cells #[.string i, .slice A ps.length c, .string f] 37))) := Lib.hid ⟨HB.out, At.fresh w _ 37, by omega, rfl⟩
        go_enter Try.func21, Try.ntmps21
        go_wp2_with (first
          | (go_at_call 35; ((with_reducible refine (pre_as v0 i true _ hv hi H1.out).mono ?_); rintro e _ ⟨rfl, ⟨n1, rfl⟩⟩))
          | (go_at_call 36; ((with_reducible refine (suf_as v0 f true _ hv hfv H2.out).mono ?_); rintro e _ ⟨rfl, ⟨n2, rfl⟩⟩)))
        go_loopw [5, 7, 8, 9, 10, 49] (fun v5 v7 v8 v9 v10 v wr => ∃ j m : Nat, j ≤ ps.length ∧ v = .int .i64 (j : Nat) ∧ v5 = .string (v0.extract m (v0.size - f.size)) ∧ Hid (FR w v0 i f A c ps (v0.size - f.size) j m wr)) (fun _ _ _ _ _ v _ => ps.length - (intOf v).toNat)
        case atStart => exact ⟨0, i.size, Nat.zero_le _, rfl, rfl, Lib.hid (by repeat (first | exact HF0.out | apply FR.draw))⟩
        case round =>
          obtain ⟨j, m, hj, rfl, rfl, HR⟩ := hrel
          have hsz := HR.out.below.size
          by_cases hin : j < ps.length
          · have hlt : (j : Int) < (ps.length : Int) := by omega
            obtain ⟨g, o, rfl, hc⟩ := (HT.out.on HR.out.below) j hin
            have HX := Lib.hid (HM.out.on HR.out.below)
            have hes : (v0.extract m (v0.size - f.size)).size < 4294967281 := by rw [size_list, extract_list, List.length_take, List.length_drop, ← size_list]; omega
            have HE := Lib.hid hes
            clear hes
            rcases Lib.indexB_cases (v0.extract m (v0.size - f.size)) (ps.getD j ByteArray.empty) with hix | ⟨q, hix, _⟩
            · have HS := Lib.hid (HR.out.miss hfv hin hix)
              obtain ⟨_, _, hcm⟩ := Lib.cutB_miss (v0.extract m (v0.size - f.size)) (ps.getD j ByteArray.empty) hix
              have K := Lib.hid (cut_as (v0.extract m (v0.size - f.size)) (ps.getD j ByteArray.empty))
              rw [hcm] at K
              clear hix hcm
              generalize ps.getD j ByteArray.empty = x at hc K
              go_wp2_with (first
                | (go_at_call 37; ((with_reducible refine (K.out _ HE.out HX.out).mono ?_); rintro e _ ⟨rfl, ⟨n3, rfl⟩⟩))
                | go_in)
              go_ret
              exact ⟨ret_bool HS.out.symm, pw_below_drewN HR.out.below _⟩
            · have HN := Lib.hid (HR.out.hit hin (Nat.sub_le _ _) hix)
              obtain ⟨hc1, hc2⟩ := cut_rest v0 (ps.getD j ByteArray.empty) m (v0.size - f.size) q (Nat.sub_le _ _) HR.out.m1 HN.out.m1 hix
              have K := Lib.hid (cut_as (v0.extract m (v0.size - f.size)) (ps.getD j ByteArray.empty))
              rw [hc1, hc2] at K
              clear hix hc1 hc2
              generalize ps.getD j ByteArray.empty = x at hc K HN
              go_wp2_with (first
                | (go_at_call 37; ((with_reducible refine (K.out _ HE.out HX.out).mono ?_); rintro e _ ⟨rfl, ⟨n3, rfl⟩⟩))
                | go_in)
              go_roundw
              case rel => exact ⟨j + 1, _, by omega, by go_num, rfl, Lib.hid (HN.out.draw _)⟩
              case measure => simp [intOf]; omega
          · have hlt : ¬ ((j : Int) < (ps.length : Int)) := by omega
            obtain rfl : j = ps.length := by omega
            have HS := Lib.hid (HR.out.done hfv H1.out H2.out)
            go_wp2
            go_ret
            exact ⟨ret_bool HS.out.symm, HR.out.below⟩
end Go.Proofs.Ytjakabacdnfmnaa.FitsW

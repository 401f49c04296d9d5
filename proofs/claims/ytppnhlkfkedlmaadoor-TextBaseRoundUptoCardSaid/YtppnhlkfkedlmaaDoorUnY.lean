/- By hand: text.Unbase64. For every text of at most 2^40 bytes and every world. -/
import Derived.Test.YtppnhlkfkedlmaaDoorUnX
import Derived.Lib.Hide
set_option linter.unusedVariables false
set_option linter.unusedSimpArgs false
namespace Go.Proofs.YtppnhlkfkedlmaaDoor.UnY
open Go.RowKit Go.Proofs.YtppnhlkfkedlmaaDoor.Blk Go.Proofs.YtppnhlkfkedlmaaDoor.L64 Go.Proofs.YtppnhlkfkedlmaaDoor.UnB64 Go.Proofs.YtppnhlkfkedlmaaDoor.RawB64 Go.Proofs.YtppnhlkfkedlmaaDoor.UnW Go.Proofs.YtppnhlkfkedlmaaDoor.UnX Go.Proofs.YtppnhlkfkedlmaaDoorW.PrintWords Go.Proofs.YtppnhlkfkedlmaaDoorW.PrintLast Go.Proofs.YtppnhlkfkedlmaaDoorW.PrintMore
theorem drop_cons (s : ByteArray) (i : Nat) (h : i < s.size) : (bytesOf s).drop i = bt s (i : Int) :: (bytesOf s).drop (i + 1) := by
  have hl : i < (bytesOf s).length := by rw [bytesOf_length]; exact h
  rw [List.drop_eq_getElem_cons hl, ← rd_bytesOf]
  simp [rd, List.getD_eq_getElem?_getD, List.getElem?_eq_getElem hl]
structure UR (w : World) (s : ByteArray) (b k : Nat) (g : G) (acc : List Int) (v : Value) (wr : World) : Prop where
  at_ : AtG wr b g
  own : wr.ownsRow w.heap.size 5 1 v acc.length (nums .u8 acc)
  below : Below w.heap.size w wr
  bb : w.heap.size ≤ b
  ok : OkG g
  len : 4 * (acc.length : Int) + 3 * (if g.at_ = 4 then 0 else g.at_) ≤ 3 * (k : Int)
  spec : loopU g acc k ((bytesOf s).drop k) = unB st0 0 (bytesOf s)
def UQ (w : World) (s : ByteArray) (e : Ending) (w' : World) : Prop := e = .returned (.tuple #[.string (strOfNums (unB st0 0 (bytesOf s)).1), .int .i64 (unB st0 0 (bytesOf s)).2.1, .int .i64 (unB st0 0 (bytesOf s)).2.2]) ∧ Below w.heap.size w w'
theorem own_ne {W : World} {base b n : Nat} {v : Value} {xs : List Value} {g : G} (h : W.ownsRow base 5 1 v n xs) (hA : AtG W b g) : v.ownBlock = none ∨ v.ownBlock ≠ some b := by
  rcases h.2 with ⟨rfl, _⟩ | ⟨k, cap, cur, rfl, _, hh, _⟩
  · exact .inl rfl
  · refine .inr fun hk => ?_
    have : k = b := by simpa [Value.ownBlock] using hk
    subst this
    unfold AtG At at hA
    rw [hh] at hA
    injection hA with hA
    injection hA with _ ht
    exact absurd ht (by decide)
/-- Ahead of the next character. -/
structure PreT (w : World) (s : ByteArray) (b k : Nat) (g : G) (acc : List Int) (v : Value) (W : World) : Prop where
  at_ : AtG W b g
  own : W.ownsRow w.heap.size 5 1 v acc.length (nums .u8 acc)
  below : Below w.heap.size w W
  bb : w.heap.size ≤ b
  ok : OkG g
  lt : g.at_ < 4
  len : 4 * (acc.length : Int) + 3 * g.at_ ≤ 3 * (k : Int)
  klt : k < s.size
  spec : (if (takeG g (bt s (k : Int))).2 = true then loopU (takeG g (bt s (k : Int))).1 (accG (takeG g (bt s (k : Int))).1 acc) ((k : Int) + 1) ((bytesOf s).drop (k + 1)) else ([], 12, (k : Int))) = unB st0 0 (bytesOf s)
theorem ur_shut {w wr : World} {s : ByteArray} {b k : Nat} {g : G} {acc : List Int} {v : Value} (h : UR w s b k g acc v wr) (hk : k < s.size) (h4 : g.at_ = 4) (hp : 0 < g.p) : unB st0 0 (bytesOf s) = ([], 12, (k : Int)) := by
  rw [← h.spec, drop_cons s k hk, loopU, if_pos ⟨h4, hp⟩]
theorem ur_new {w wr : World} {s : ByteArray} {b k : Nat} {g : G} {acc : List Int} {v : Value} (h : UR w s b k g acc v wr) (hk : k < s.size) (h4 : g.at_ = 4) (hp : ¬ 0 < g.p) :
    PreT w s b k G0 acc v ((((((wr.setCell ⟨b, 0, none⟩ (.int .i64 0)).setCell ⟨b, 1, none⟩ (.int .u8 0)).setCell ⟨b, 2, none⟩ (.int .u8 0)).setCell ⟨b, 3, none⟩ (.int .u8 0)).setCell ⟨b, 4, none⟩ (.int .u8 0)).setCell ⟨b, 5, none⟩ (.int .i64 0)) := by
  have hn := own_ne h.own h.at_
  have hg := grown_set (grown_set (grown_set (grown_set (grown_set (grown_set (grown_refl wr (some b)) 0 (.int .i64 0)) 1 (.int .u8 0)) 2 (.int .u8 0)) 3 (.int .u8 0)) 4 (.int .u8 0)) 5 (.int .i64 0)
  refine ⟨(((((h.at_.set 0 _).set 1 _).set 2 _).set 3 _).set 4 _).set 5 _, h.own.kept hg hn, h.below.grown hg h.below.size (fun k hk => by cases hk; exact h.bb), h.bb, ok0, by decide, by have := h.len; rw [if_pos h4] at this; exact this, hk, ?_⟩
  have e := h.spec
  rw [drop_cons s k hk, loopU, if_neg (fun z => hp z.2), if_pos h4] at e
  exact e
theorem ur_on {w wr : World} {s : ByteArray} {b k : Nat} {g : G} {acc : List Int} {v : Value} (h : UR w s b k g acc v wr) (hk : k < s.size) (h4 : g.at_ ≠ 4) : PreT w s b k g acc v wr := by
  have oa := h.ok.a
  refine ⟨h.at_, h.own, h.below, h.bb, h.ok, by omega, by have := h.len; rw [if_neg h4] at this; exact this, hk, ?_⟩
  have e := h.spec
  rw [drop_cons s k hk, loopU, if_neg (fun z => h4 z.1), if_neg h4] at e
  exact e
theorem pre_no {w W : World} {s : ByteArray} {b k : Nat} {g g2 : G} {acc : List Int} {v : Value} (h : PreT w s b k g acc v W) (hg : takeG g (bt s (k : Int)) = (g2, false)) : unB st0 0 (bytesOf s) = ([], 12, (k : Int)) := by
  rw [← h.spec, hg]
  rfl
theorem pre_step {w W W2 : World} {s : ByteArray} {b k : Nat} {g g2 : G} {acc : List Int} {v : Value} (h : PreT w s b k g acc v W) (hg : takeG g (bt s (k : Int)) = (g2, true)) (h4 : g2.at_ ≠ 4) (hA : AtG W2 b g2) (hG : W.grownBy W2 (some b)) : UR w s b (k + 1) g2 acc v W2 := by
  obtain ⟨ok2, ha2⟩ := ok_take h.ok h.lt (bt s (k : Int))
  rw [hg] at ok2 ha2
  have ha3 : g2.at_ = g.at_ + 1 := ha2 rfl
  have sp := h.spec
  rw [hg] at sp
  refine ⟨hA, h.own.kept hG (own_ne h.own h.at_), h.below.grown hG h.below.size (fun k hk => by cases hk; exact h.bb), h.bb, ok2, by have := h.len; rw [if_neg h4]; omega, ?_⟩
  rw [← sp, if_pos rfl]
  unfold accG
  rw [if_neg h4]
  rfl
theorem pre_mid {w W W2 : World} {s : ByteArray} {b k : Nat} {g g2 : G} {acc : List Int} {v : Value} (h : PreT w s b k g acc v W) (hg : takeG g (bt s (k : Int)) = (g2, true)) (hG : W.grownBy W2 (some b)) : W2.ownsRow w.heap.size 5 1 v acc.length (nums .u8 acc) ∧ OkG g2 ∧ g2.p ≤ 2 ∧ w.heap.size ≤ W2.heap.size ∧ 4 * acc.length ≤ 3 * s.size := by
  obtain ⟨ok2, ha⟩ := ok_take h.ok h.lt (bt s (k : Int))
  rw [hg] at ok2 ha
  replace ok2 : OkG g2 := ok2
  have := ok2.p
  have := ok2.a
  have := h.klt
  have := h.len
  have := h.ok.a
  exact ⟨h.own.kept hG (own_ne h.own h.at_), ok2, by omega, Nat.le_trans h.below.size hG.size, by omega⟩
theorem pre_bytes {w W W2 W3 : World} {s : ByteArray} {b k : Nat} {g g2 : G} {acc : List Int} {v v' : Value} (h : PreT w s b k g acc v W) (hg : takeG g (bt s (k : Int)) = (g2, true)) (h4 : g2.at_ = 4) (hA : AtG W2 b g2) (hG : W.grownBy W2 (some b))
    (hO : W3.ownsRow w.heap.size 5 1 v' (acc ++ bytesG g2).length (nums .u8 (acc ++ bytesG g2))) (hG3 : W2.grownBy W3 v.ownBlock) : UR w s b (k + 1) g2 (acc ++ bytesG g2) v' W3 := by
  obtain ⟨o2, ok2, _, hs2, _⟩ := pre_mid h hg hG
  have ha2 := (ok_take h.ok h.lt (bt s (k : Int))).2
  rw [hg] at ha2
  have sp := h.spec
  rw [hg] at sp
  have hn := own_ne o2 hA
  have hbl : (bytesG g2).length ≤ 3 := by unfold bytesG; (repeat' split) <;> simp
  refine ⟨hA.grown hG3 (fun e => ?_), hO, (h.below.grown hG h.below.size (fun k hk => by cases hk; exact h.bb)).grown hG3 hs2 (fun k hk => own_base o2 k hk), h.bb, ok2, by have := h.len; have ha3 : g2.at_ = g.at_ + 1 := ha2 rfl; rw [List.length_append, if_pos h4]; omega, ?_⟩
  · rcases hn with hn | hn
    · rw [hn] at e; cases e
    · exact hn e.symm
  · rw [← sp, if_pos rfl]
    unfold accG
    rw [if_pos h4]
    rfl
theorem take_as (b : Nat) (g g2 : G) (ok2 : Bool) (c : Int) (w : World) (hA : AtG w b g) (ok : OkG g) (h4 : g.at_ < 4) (h0 : 0 ≤ c) (h1 : c ≤ 255) (hq : takeG g c = (g2, ok2)) :
    Calls Tryd.prog 16 #[.pointer (some ⟨b, 0, none⟩), .int .u8 c] w fun e w' => e = .returned (.bool ok2) ∧ AtG w' b g2 ∧ w.grownBy w' (some b) := (take b g c w hA ok h4 h0 h1).mono (by
  rintro e w' ⟨h1, h2, h3⟩
  rw [hq] at h1 h2
  exact ⟨h1, h2, h3⟩)
theorem ret3 {w W : World} {s : ByteArray} {x : ByteArray} {y z : Int} {l : List Int} (h : unB st0 0 (bytesOf s) = (l, y, z)) (hx : x = strOfNums l) (hb : Below w.heap.size w W) : UQ w s (.returned (.tuple #[.string x, .int .i64 y, .int .i64 z])) W := by
  subst hx
  unfold UQ
  rw [h]
  exact ⟨rfl, hb⟩
set_option maxHeartbeats 2000000 in
theorem unbase64 (s : ByteArray) (w : World) (hs : s.size ≤ 140737488355328) : Calls Tryd.prog 10 #[.string s] w (UQ w s) := by
  obtain ⟨i0, hi, hz0, hz1, hz2⟩ := info_parts infoB
  have hq : (s.size : Int) / 4 * 3 = ((s.size / 4 * 3 : Nat) : Int) := by omega
  obtain ⟨Wm, hmk, hown, hgrow⟩ := run_make_own (P := Tryd.prog) w w.heap.size 28 5 i0 (.int .u8 0) 1 Tryd.underlying28 hi hz0 hz1 .i64 .i64 (s.size / 4 * 3) (by rw [hz2]; omega) (by simp only [maxLen]; omega) (Nat.le_refl _)
  rw [← hq] at hmk
  clear hq hi hz0 hz1 hz2
  have HB0 : Below w.heap.size w Wm := (Below.refl _ w).grown hgrow (Nat.le_refl _) (fun k hk => by cases hk)
  have hsz := HB0.size
  have HO : Hid (Wm.ownsRow w.heap.size 5 1 (.slice (some ⟨w.heap.size, 0, none⟩) 0 (s.size / 4 * 3)) 0 []) := hown
  have HB : Hid (Below w.heap.size w Wm) := HB0
  clear hown hgrow HB0
  go_enter Tryd.func10, Tryd.ntmps10
  go_wp2_with fail
  go_loopw [5, 16] (fun v i wr => ∃ (k : Nat) (g : G) (acc : List Int), k ≤ s.size ∧ i = .int .i64 k ∧ Hid (UR w s Wm.heap.size k g acc v wr)) (fun _ i _ => s.size - (intOf i).toNat)
  case atStart =>
    refine ⟨0, G0, [], by omega, rfl, UR.mk (At.fresh Wm (cellsG G0) 39) (HO.out.alloc _) (HB.out.alloc hsz _) hsz ok0 (by show 4 * ((0 : Nat) : Int) + 3 * (if (0 : Int) = 4 then 0 else 0) ≤ 3 * ((0 : Nat) : Int); decide) ?_⟩
    rw [List.drop_zero]
    exact loopU_at _
  case round =>
    obtain ⟨k, g, acc, hk, rfl, HR⟩ := hrel
    by_cases hlt : k < s.size
    · have R := HR.out
      have hb := bt_range s (k : Int)
      have hx : (((s[k]'hlt).toNat : Nat) : Int) = bt s (k : Int) := bt_at s (k : Int) (by simpa using hlt)
      have c0 : wr.cell? ⟨Wm.heap.size, 0, none⟩ = some (.int .i64 g.at_) := R.at_.get 0 _ rfl
      have c1 : wr.cell? ⟨Wm.heap.size, 1, none⟩ = some (.int .u8 g.w0) := R.at_.get 1 _ rfl
      have c2 : wr.cell? ⟨Wm.heap.size, 2, none⟩ = some (.int .u8 g.w1) := R.at_.get 2 _ rfl
      have c3 : wr.cell? ⟨Wm.heap.size, 3, none⟩ = some (.int .u8 g.w2) := R.at_.get 3 _ rfl
      have c4 : wr.cell? ⟨Wm.heap.size, 4, none⟩ = some (.int .u8 g.w3) := R.at_.get 4 _ rfl
      have c5 : wr.cell? ⟨Wm.heap.size, 5, none⟩ = some (.int .i64 g.p) := R.at_.get 5 _ rfl
      have f0 := R.at_.free 0
      have f1 := R.at_.free 1
      have f2 := R.at_.free 2
      have f3 := R.at_.free 3
      have f4 := R.at_.free 4
      have f5 := R.at_.free 5
      have oka := R.ok.a
      have okp := R.ok.p
      clear R
      by_cases h4 : g.at_ = 4
      · by_cases hp : 0 < g.p
        · go_wp2_with fail
          go_ret3
          exact ret3 (ur_shut HR.out hlt h4 hp) rfl HR.out.below
        · have HP : Hid (PreT w s Wm.heap.size k G0 acc u5 _) := ur_new HR.out hlt h4 hp
          obtain ⟨⟨g2, ok2⟩, hg2⟩ : ∃ z, takeG G0 (bt s (k : Int)) = z := ⟨_, rfl⟩
          have HG2 : Hid (takeG G0 (bt s (k : Int)) = (g2, ok2)) := hg2
          clear hg2
          cases ok2 with
          | false =>
            go_wp2_with (go_at_call 16; refine (take_as Wm.heap.size G0 g2 false (bt s (k : Int)) _ HP.out.at_ HP.out.ok HP.out.lt hb.1 hb.2 HG2.out).mono ?_; rintro e W2 ⟨rfl, hA2, hG2⟩)
            go_ret3
            exact ret3 (pre_no HP.out HG2.out) rfl (HP.out.below.grown hG2 HP.out.below.size (fun k hk => by cases hk; exact HP.out.bb))
          | true =>
            by_cases h42 : g2.at_ = 4
            · go_wp2_with (first | (go_at_call 16; refine (take_as Wm.heap.size G0 g2 true (bt s (k : Int)) _ HP.out.at_ HP.out.ok HP.out.lt hb.1 hb.2 HG2.out).mono ?_; rintro e W2 ⟨rfl, hA2, hG2⟩; have d0 : W2.cell? ⟨Wm.heap.size, 0, none⟩ = some (.int .i64 g2.at_) := hA2.get 0 _ rfl; have HA2 := Lib.hid hA2; have HG3 := Lib.hid hG2; clear hA2 hG2) | (go_at_call 17; have M := pre_mid HP.out HG2.out HG3.out; refine (Go.Proofs.YtppnhlkfkedlmaaDoor.UnX.bytes Wm.heap.size g2 w.heap.size u5 acc _ HA2.out M.2.1 M.2.2.1 M.1 M.2.2.2.1 (by have := M.2.2.2.2; omega)).mono ?_; rintro e W3 ⟨v3, rfl, hO3, hG4⟩; clear M; have HO3 := Lib.hid hO3; have HG4 := Lib.hid hG4; clear hO3 hG4))
              go_roundw
              case rel => exact ⟨k + 1, g2, acc ++ bytesG g2, by omega, by go_num, pre_bytes HP.out HG2.out h42 HA2.out HG3.out HO3.out HG4.out⟩
              case measure => simp [intOf]; omega
            · have h42' : (g2.at_ == 4) = false := beq_eq_false_iff_ne.mpr h42
              go_wp2_with (go_at_call 16; refine (take_as Wm.heap.size G0 g2 true (bt s (k : Int)) _ HP.out.at_ HP.out.ok HP.out.lt hb.1 hb.2 HG2.out).mono ?_; rintro e W2 ⟨rfl, hA2, hG2⟩; have d0 : W2.cell? ⟨Wm.heap.size, 0, none⟩ = some (.int .i64 g2.at_) := hA2.get 0 _ rfl; have HA2 := Lib.hid hA2; have HG3 := Lib.hid hG2; clear hA2 hG2)
              go_roundw
              case rel => exact ⟨k + 1, g2, acc, by omega, by go_num, pre_step HP.out HG2.out h42 HA2.out HG3.out⟩
              case measure => simp [intOf]; omega
      · have h4' : (g.at_ == 4) = false := beq_eq_false_iff_ne.mpr h4
        have HP : Hid (PreT w s Wm.heap.size k g acc u5 wr) := ur_on HR.out hlt h4
        obtain ⟨⟨g2, ok2⟩, hg2⟩ : ∃ z, takeG g (bt s (k : Int)) = z := ⟨_, rfl⟩
        have HG2 : Hid (takeG g (bt s (k : Int)) = (g2, ok2)) := hg2
        clear hg2
        cases ok2 with
        | false =>
          go_wp2_with (go_at_call 16; refine (take_as Wm.heap.size g g2 false (bt s (k : Int)) _ HP.out.at_ HP.out.ok HP.out.lt hb.1 hb.2 HG2.out).mono ?_; rintro e W2 ⟨rfl, hA2, hG2⟩)
          go_ret3
          exact ret3 (pre_no HP.out HG2.out) rfl (HP.out.below.grown hG2 HP.out.below.size (fun k hk => by cases hk; exact HP.out.bb))
        | true =>
          by_cases h42 : g2.at_ = 4
          · go_wp2_with (first | (go_at_call 16; refine (take_as Wm.heap.size g g2 true (bt s (k : Int)) _ HP.out.at_ HP.out.ok HP.out.lt hb.1 hb.2 HG2.out).mono ?_; rintro e W2 ⟨rfl, hA2, hG2⟩; have d0 : W2.cell? ⟨Wm.heap.size, 0, none⟩ = some (.int .i64 g2.at_) := hA2.get 0 _ rfl; have HA2 := Lib.hid hA2; have HG3 := Lib.hid hG2; clear hA2 hG2) | (go_at_call 17; have M := pre_mid HP.out HG2.out HG3.out; refine (Go.Proofs.YtppnhlkfkedlmaaDoor.UnX.bytes Wm.heap.size g2 w.heap.size u5 acc _ HA2.out M.2.1 M.2.2.1 M.1 M.2.2.2.1 (by have := M.2.2.2.2; omega)).mono ?_; rintro e W3 ⟨v3, rfl, hO3, hG4⟩; clear M; have HO3 := Lib.hid hO3; have HG4 := Lib.hid hG4; clear hO3 hG4))
            go_roundw
            case rel => exact ⟨k + 1, g2, acc ++ bytesG g2, by omega, by go_num, pre_bytes HP.out HG2.out h42 HA2.out HG3.out HO3.out HG4.out⟩
            case measure => simp [intOf]; omega
          · have h42' : (g2.at_ == 4) = false := beq_eq_false_iff_ne.mpr h42
            go_wp2_with (go_at_call 16; refine (take_as Wm.heap.size g g2 true (bt s (k : Int)) _ HP.out.at_ HP.out.ok HP.out.lt hb.1 hb.2 HG2.out).mono ?_; rintro e W2 ⟨rfl, hA2, hG2⟩; have d0 : W2.cell? ⟨Wm.heap.size, 0, none⟩ = some (.int .i64 g2.at_) := hA2.get 0 _ rfl; have HA2 := Lib.hid hA2; have HG3 := Lib.hid hG2; clear hA2 hG2)
            go_roundw
            case rel => exact ⟨k + 1, g2, acc, by omega, by go_num, pre_step HP.out HG2.out h42 HA2.out HG3.out⟩
            case measure => simp [intOf]; omega
    · obtain rfl : k = s.size := by omega
      have hf : unB st0 0 (bytesOf s) = if (s.size : Int) % 4 = 0 then (acc, 0, (s.size : Int)) else ([], 12, (s.size : Int)) := by
        rw [← HR.out.spec, List.drop_eq_nil_of_le (by rw [bytesOf_length]; exact Nat.le_refl _), loopU]
      have HF := Lib.hid hf
      clear hf
      obtain ⟨A5, c5, rfl⟩ := own_slice HR.out.own
      have hst := own_string (P := Tryd.prog) (src := 28) (dst := 9) Tryd.underlying28 Tryd.underlying5 Tryd.underlying9 HR.out.own
      by_cases hm : (s.size : Int) % 4 = 0
      · go_wp2
        go_ret3
        exact ret3 (HF.out.trans (if_pos hm)) rfl HR.out.below
      · have hm' : ((s.size : Int) % 4 == 0) = false := beq_eq_false_iff_ne.mpr hm
        go_wp2
        go_ret3
        exact ret3 (HF.out.trans (if_neg hm)) rfl HR.out.below
end Go.Proofs.YtppnhlkfkedlmaaDoor.UnY

/- By hand: the law TextHexRound, walked. For every text of at most 1048576 bytes, every list, every world in which the table of digits stands. -/
import Derived.Test.YtjkhdiphcgpbfaaDoorHexUp
import Derived.Test.YtjkhdiphcgpbfaaDoorByteRow
import Derived.Lib.Hide
set_option linter.unusedVariables false
set_option linter.unusedSimpArgs false
namespace Go.Proofs.YtjkhdiphcgpbfaaDoor.RoundW
open Go.RowKit Go.Proofs.YtjkhdiphcgpbfaaDoor.X Go.Proofs.YtjkhdiphcgpbfaaDoor.XG Go.Proofs.YtjkhdiphcgpbfaaDoor.XV Go.Proofs.YtjkhdiphcgpbfaaDoor.Norm Go.Proofs.YtjkhdiphcgpbfaaDoor.HexEv Go.Proofs.YtjkhdiphcgpbfaaDoor.HexUp Go.Proofs.YtjkhdiphcgpbfaaDoor.ByteRow Go.Proofs.YtjkhdiphcgpbfaaDoorW.PrintWords Go.Proofs.YtjkhdiphcgpbfaaDoorW.PrintLast Go.Proofs.YtjkhdiphcgpbfaaDoorW.PrintMore
def hx (s : ByteArray) : ByteArray := strOfNums (hexN (bytesOf s))
theorem hx_size (s : ByteArray) : (hx s).size = 2 * s.size := by unfold hx; rw [strOfNums_size, hex_len, bytesOf_length]
theorem hx_bytes (s : ByteArray) : bytesOf (hx s) = hexN (bytesOf s) := bytesOf_nums _ (rng_hex (bytesOf_range s))
theorem hx_dig (s : ByteArray) (k : Nat) (h : k < (hx s).size) : DigC (bt (hx s) (k : Int)) := by
  rw [bt_byte, Int.toNat_natCast]
  exact dig_at (fun x hx' => dig_hex (bytesOf_range s) x (by rw [← hx_bytes]; exact hx')) k (by rw [bytesOf_length]; exact h)
def fU (s : ByteArray) (us : List Bool) (i j : Nat) : Int := if j < i then upC (us.getD j false) (bt (hx s) (j : Int)) else bt (hx s) (j : Int)
theorem hex_as (s : ByteArray) (hs : s.size ≤ 1048576) (w : World) (hG : Tabs w) : Calls Tryd.prog 10 #[.string s] w fun e w' => e = .returned (.string (hx s)) ∧ Below w.heap.size w w' := by
  obtain ⟨k, hk⟩ := Ev.rounds (hex_at s (by omega))
  exact text_Hex.calls k s _ w hG hk
def upS (s : ByteArray) (us : List Bool) : ByteArray := strOfNums (upL us (hexN (bytesOf s)))
theorem unhex1 (s : ByteArray) (hs : s.size ≤ 1048576) (us : List Bool) (w : World) : Calls Tryd.prog 14 #[.string (upS s us)] w fun e w' => e = .returned (.tuple #[.string s, .int .i64 0, .int .i64 (2 * (s.size : Int))]) ∧ Below w.heap.size w w' := by
  obtain ⟨k, hk⟩ := Ev.rounds (unhex_up s hs us).1
  exact text_Unhex.calls k _ _ _ _ w hk
theorem unhex2 (s : ByteArray) (hs : s.size ≤ 1048576) (us : List Bool) (w : World) : Calls Tryd.prog 14 #[.string (upS s us ++ ⟨#[55]⟩)] w fun e w' => e = .returned (.tuple #[.string ⟨#[]⟩, .int .i64 11, .int .i64 (2 * (s.size : Int) + 1)]) ∧ Below w.heap.size w w' := by
  obtain ⟨k, hk⟩ := Ev.rounds (unhex_up s hs us).2
  exact text_Unhex.calls k _ _ _ _ w hk
theorem end_list (s : ByteArray) (us : List Bool) : (List.range (hx s).size).map (fU s us (hx s).size) = upL us (hexN (bytesOf s)) := by
  unfold upL
  rw [hx_size, hex_len, bytesOf_length]
  apply List.map_congr_left
  intro j hj
  have hj' := List.mem_range.1 hj
  unfold fU upAt
  rw [if_pos hj', bt_byte, hx_bytes, Int.toNat_natCast]
def LQ (w : World) (e : Ending) (w' : World) : Prop := e = .returned (.bool true) ∧ Below w.heap.size w w'
set_option maxHeartbeats 2000000 in
set_option maxRecDepth 100000 in
theorem walk (s : ByteArray) (A1 : Option Addr) (c1 : Nat) (us : List Bool) (w : World) (hs : s.size ≤ 1048576) (hG : Tabs w) (hr : Kd.C Kd.bool w A1 us.length us) : Calls Tryd.prog 5 #[.string s, .slice A1 us.length c1] w (LQ w) := by
  have HR := Lib.hid hr
  have HG := Lib.hid hG
  clear hr hG
  have hsz := hx_size s
  have kb := fun W => Lib.run_convert_string_bytes (P := Tryd.prog) W 9 24 5 (hx s) Tryd.underlying9 Tryd.underlying24 Tryd.underlying5
  go_enter Tryd.func5, Tryd.ntmps5
  go_wp2_with (go_at_call 10; refine (hex_as s hs _ HG.out).mono ?_; rintro e W1 ⟨rfl, hb1⟩; have HB1 := Lib.hid hb1; have hz1 := hb1.size; clear hb1)
  go_loopw [7] (fun i wr => ∃ k : Nat, k ≤ 2 * s.size ∧ i = .int .i64 k ∧ Hid (RowRel W1 (hx s) (fU s us k) wr)) (fun i _ => 2 * s.size - (intOf i).toNat)
  case atStart => exact ⟨0, by omega, rfl, row_like (row_start W1 5 (hx s)) (fun j hj => by unfold fU; rw [if_neg (by omega)])⟩
  case round =>
    obtain ⟨k, hk, rfl, HW⟩ := hrel
    have HSZ := Lib.hid hsz
    by_cases hlt : k < 2 * s.size
    · have hk' : k < (hx s).size := by rw [HSZ.out]; exact hlt
      have hc : wr.cell? ⟨W1.heap.size, k, none⟩ = some (.int .u8 (bt (hx s) (k : Int))) := by
        have := HW.out.cell k hk'
        rwa [show fU s us k k = bt (hx s) (k : Int) from by unfold fU; rw [if_neg (by omega)]] at this
      have hf := HW.out.free k hk'
      have HD := Lib.hid (hx_dig s k hk')
      have hb := bt_range (hx s) (k : Int)
      generalize hcc : bt (hx s) (k : Int) = c at hc hb
      have HC := Lib.hid hcc
      clear hcc hk'
      have kept : Hid (upC (us.getD k false) c = c → RowRel W1 (hx s) (fU s us (k + 1)) wr) := fun hq => row_like HW.out (fun j hj => by
        unfold fU
        by_cases h1 : j < k
        · rw [if_pos (by omega), if_pos h1]
        · by_cases h2 : j = k
          · subst h2; rw [if_pos (by omega), if_neg h1, HC.out, hq]
          · rw [if_neg (by omega), if_neg h1])
      have put : Hid (∀ v, v = upC (us.getD k false) c → RowRel W1 (hx s) (fU s us (k + 1)) (wr.setCell ⟨W1.heap.size, k, none⟩ (.int .u8 v))) := fun v hv => row_like (row_put HW.out k (by rw [HSZ.out]; exact hlt) v) (fun j hj => by
        unfold fU
        by_cases h2 : j = k
        · subst h2; rw [if_pos (by omega), if_pos rfl, HC.out, hv]
        · rw [if_neg h2]
          by_cases h1 : j < k
          · rw [if_pos (by omega), if_pos h1]
          · rw [if_neg (by omega), if_neg h1])
      by_cases hdig : c ≤ 57
      · have hlo : 48 ≤ c := by
          have := HD.out
          rw [HC.out] at this
          rcases this with h | h <;> omega
        go_wp2_with fail
        go_roundw
        case rel => exact ⟨k + 1, by omega, by go_num, kept.out (by unfold upC; rw [if_neg (by omega)])⟩
        case measure => simp [intOf]; omega
      · have hlo : 97 ≤ c ∧ c ≤ 102 := by
          have := HD.out
          rw [HC.out] at this
          rcases this with h | h <;> omega
        by_cases hku : k < us.length
        · have hro := Kd.reads_of_C (d := false) (Kd.C_below HR.out (HB1.out.trans (HW.out.below.mono HB1.out.size)))
          obtain ⟨ad, had, hcu⟩ := hro.2.2 (by omega)
          have hcu' := hcu k hku
          subst had
          clear hro hcu
          cases hu : us.getD k false with
          | true =>
            have HU := Lib.hid hu
            rw [hu] at hcu'
            clear hu
            go_wp2_with fail
            go_roundw
            case rel => exact ⟨k + 1, by omega, by go_num, put.out _ (by rw [HU.out]; unfold upC; rw [if_pos ⟨rfl, hlo.1⟩])⟩
            case measure => simp [intOf]; omega
          | false =>
            have HU := Lib.hid hu
            rw [hu] at hcu'
            clear hu
            go_wp2_with fail
            go_roundw
            case rel => exact ⟨k + 1, by omega, by go_num, kept.out (by rw [HU.out]; rfl)⟩
            case measure => simp [intOf]; omega
        · go_wp2_with fail
          go_roundw
          case rel => exact ⟨k + 1, by omega, by go_num, kept.out (by rw [show us.getD k false = false from by simp [List.getD_eq_getElem?_getD, List.getElem?_eq_none (show us.length ≤ k by omega)]]; rfl)⟩
          case measure => simp [intOf]; omega
    · obtain rfl : k = 2 * s.size := by omega
      have hrd := row_reads (by rw [HSZ.out]; omega) (row_like HW.out (g := fU s us (hx s).size) (fun j hj => by rw [HSZ.out]))
      rw [end_list, HSZ.out] at hrd
      have hstA : Hid (∀ W, Below wr.heap.size wr W → (convert 24 9 (.slice (some ⟨W1.heap.size, 0, none⟩) (2 * s.size) (grownCap W1 (2 * s.size) 0 5))).run Tryd.prog W = .ok (.string (upS s us)) W) := fun W hb =>
        string_of_reads (P := Tryd.prog) (src := 24) (dst := 9) (e := 5) (c := grownCap W1 (2 * s.size) 0 5) Tryd.underlying24 Tryd.underlying5 Tryd.underlying9 (hrd.below hb)
      clear hrd
      have hst := hstA.out wr (Below.refl _ _)
      have hup : (upS s us).size = 2 * s.size := by unfold upS; rw [strOfNums_size, upL_length, hex_len, bytesOf_length]
      go_wp2_with (first | (go_at_call 14; ((with_reducible refine (unhex1 s hs us _).mono ?_); rintro e W2 ⟨rfl, hb2⟩; have HB2 := Lib.hid hb2; have hst2 := hstA.out W2 hb2; clear hb2)) | (go_at_call 14; ((with_reducible refine (unhex2 s hs us _).mono ?_); rintro e W3 ⟨rfl, hb3⟩; have HB3 := Lib.hid hb3; clear hb3)) | go_in)
      go_ret
      refine ⟨rfl, ?_⟩
      have b2 := (HB1.out.trans (HW.out.below.mono HB1.out.size))
      have b3 := b2.trans (HB2.out.mono b2.size)
      exact b3.trans (HB3.out.mono b3.size)
def rosterlaw01_TextHexRound.f (x0 : ByteArray) (x1 : List Bool) : Option Bool := if x0.size ≤ 1048576 then some true else none
theorem rosterlaw01_TextHexRound.calls (x0 : ByteArray) (A1 : Option Addr) (c1 : Nat) (x1 : List Bool) (r : Bool) (w : World) (hG : Tabs w) (hr1 : Kd.C Kd.bool w A1 x1.length x1) (hc1 : x1.length ≤ c1) (h : rosterlaw01_TextHexRound.f x0 x1 = some r) :
    Calls Tryd.prog 5 #[.string x0, .slice A1 x1.length c1] w fun e w' => e = .returned (.bool r) ∧ Below w.heap.size w w' := by
  unfold rosterlaw01_TextHexRound.f at h
  split at h
  case isFalse => cases h
  case isTrue hs =>
  obtain rfl := Option.some.inj h
  exact walk x0 A1 c1 x1 w hs hG hr1
end Go.Proofs.YtjkhdiphcgpbfaaDoor.RoundW

/- By hand: the law TextBaseRound, walked. For every text of at most 1048576 bytes, every place and byte, every world in which the table of letters stands. -/
import Derived.Test.YtppnhlkfkedlmaaDoorUnZ
import Derived.Test.YtppnhlkfkedlmaaDoorB64EvX
import Derived.Test.YtppnhlkfkedlmaaDoorByteRow
import Derived.Lib.Hide
set_option linter.unusedVariables false
set_option linter.unusedSimpArgs false
namespace Go.Proofs.YtppnhlkfkedlmaaDoor.BaseRoundW
open Go.RowKit Go.Proofs.YtppnhlkfkedlmaaDoor.X Go.Proofs.YtppnhlkfkedlmaaDoor.XG Go.Proofs.YtppnhlkfkedlmaaDoor.XV Go.Proofs.YtppnhlkfkedlmaaDoor.L64 Go.Proofs.YtppnhlkfkedlmaaDoor.UnB64 Go.Proofs.YtppnhlkfkedlmaaDoor.UnZ Go.Proofs.YtppnhlkfkedlmaaDoor.B64EvX Go.Proofs.YtppnhlkfkedlmaaDoor.ByteRow Go.Proofs.YtppnhlkfkedlmaaDoorW.PrintWords Go.Proofs.YtppnhlkfkedlmaaDoorW.PrintLast Go.Proofs.YtppnhlkfkedlmaaDoorW.PrintMore
def bs (s : ByteArray) : ByteArray := strOfNums (b64 (bytesOf s))
theorem b64_rng {m : List Int} (hm : ∀ x ∈ m, 0 ≤ x ∧ x ≤ 255) : ∀ x ∈ b64 m, 0 ≤ x ∧ x ≤ 255 := fun x hx => by
  have := b64_ok m hm x hx
  omega
theorem bs_bytes (s : ByteArray) : bytesOf (bs s) = b64 (bytesOf s) := bytesOf_nums _ (b64_rng (bytesOf_range s))
theorem bs_size (s : ByteArray) : (bs s).size = (s.size + 2) / 3 * 4 := by unfold bs; rw [strOfNums_size, b64_len, bytesOf_length]
theorem nums_of (s : ByteArray) : strOfNums (bytesOf s) = s := bytesOf_inj (bytesOf_nums _ (bytesOf_range s))
theorem base_as (s : ByteArray) (hs : s.size ≤ 1048576) (w : World) (hG : Tabs w) : Calls Tryd.prog 7 #[.string s] w fun e w' => e = .returned (.string (bs s)) ∧ Below w.heap.size w w' := by
  obtain ⟨k, hk⟩ := Ev.rounds (base64_at s (by omega))
  exact text_Base64.calls k s _ w hG hk
theorem un1 (s : ByteArray) (hs : s.size ≤ 1048576) (w : World) : Calls Tryd.prog 10 #[.string (bs s)] w fun e w' => e = .returned (.tuple #[.string s, .int .i64 0, .int .i64 ((bs s).size : Int)]) ∧ Below w.heap.size w w' := by
  have e : unS (bs s) = (bytesOf s, 0, ((bs s).size : Int)) := by
    unfold unS
    rw [bs_bytes, unB_b64 _ (bytesOf_range s), b64_len, bs_size, bytesOf_length]
  have := unb_as (bs s) w (by rw [bs_size]; omega)
  rw [e] at this
  simp only [nums_of] at this
  exact this
/-- The text with one place changed. -/
def ch (s : ByteArray) (n : Nat) (c : Int) : List Int := (List.range (bs s).size).map fun j => if j = n then c else bt (bs s) (j : Int)
theorem ch_rng (s : ByteArray) (n : Nat) (c : Int) (h0 : 0 ≤ c) (h1 : c ≤ 255) : ∀ x ∈ ch s n c, 0 ≤ x ∧ x ≤ 255 := by
  intro x hx
  unfold ch at hx
  obtain ⟨j, _, rfl⟩ := List.mem_map.1 hx
  have := bt_range (bs s) (j : Int)
  split <;> omega
theorem ch_ne (s : ByteArray) (n : Nat) (c : Int) (hn : n < (bs s).size) (hc : bt (bs s) (n : Int) ≠ c) : ch s n c ≠ b64 (bytesOf s) := by
  intro e
  have h1 : (ch s n c).getD n 0 = c := by
    unfold ch
    simp [List.getD_eq_getElem?_getD, List.getElem?_map, List.getElem?_range hn]
  rw [e, ← bs_bytes] at h1
  apply hc
  rw [bt_byte, Int.toNat_natCast]
  exact h1
/-- What the reader answers of it. -/
theorem un_ch (s : ByteArray) (n : Nat) (c : Int) (h0 : 0 ≤ c) (h1 : c ≤ 255) (hn : n < (bs s).size) (hc : bt (bs s) (n : Int) ≠ c) :
    (∃ u : ByteArray, u ≠ s ∧ unS (strOfNums (ch s n c)) = (bytesOf u, 0, ((bs s).size : Int))) ∨ ∃ q : Nat, q ≤ (bs s).size ∧ unS (strOfNums (ch s n c)) = ([], 12, (q : Int)) := by
  have hr := ch_rng s n c h0 h1
  have hl : (ch s n c).length = (bs s).size := by simp [ch]
  unfold unS
  rw [bytesOf_nums _ hr]
  rcases unB_spec (ch s n c) with ⟨m, e1, e2, e3⟩ | ⟨q, st', e1, e2, _⟩
  · left
    refine ⟨strOfNums m, fun e => ?_, by rw [e1, bytesOf_nums _ e2, hl]⟩
    apply ch_ne s n c hn hc
    rw [e3, ← e, bytesOf_nums _ e2]
  · exact .inr ⟨q, by omega, e2⟩
def LQ (w : World) (e : Ending) (w' : World) : Prop := e = .returned (.bool true) ∧ Below w.heap.size w w'
set_option maxHeartbeats 2000000 in
set_option maxRecDepth 100000 in
theorem walk (s : ByteArray) (at_ : Int) (c : Int) (w : World) (hs : s.size ≤ 1048576) (ha0 : -9223372036854775808 ≤ at_) (ha1 : at_ ≤ 9223372036854775807) (h0 : 0 ≤ c) (h1 : c ≤ 255) (hG : Tabs w) : Calls Tryd.prog 4 #[.string s, .int .i64 at_, .int .u8 c] w (LQ w) := by
  have HG := Lib.hid hG
  clear hG
  have hle : (bs s).size ≤ 1398108 := by rw [bs_size]; omega
  have hdv : ((s.size : Int) + 2) / 3 * 4 = ((bs s).size : Int) := by rw [bs_size]; omega
  by_cases hneg : at_ < 0
  · go_enter Tryd.func4, Tryd.ntmps4
    go_wp2_with (first | (go_at_call 7; ((with_reducible refine (base_as s hs _ HG.out).mono ?_); rintro e W1 ⟨rfl, hb1⟩; have HB1 := Lib.hid hb1; have hz1 := hb1.size; clear hb1)) | (go_at_call 10; ((with_reducible refine (un1 s hs _).mono ?_); rintro e W2 ⟨rfl, hb2⟩; have HB2 := Lib.hid hb2; clear hb2)) | go_in)
    go_ret
    exact ⟨rfl, HB1.out.trans (HB2.out.mono HB1.out.size)⟩
  · by_cases hbig : ((bs s).size : Int) ≤ at_
    · go_enter Tryd.func4, Tryd.ntmps4
      go_wp2_with (first | (go_at_call 7; ((with_reducible refine (base_as s hs _ HG.out).mono ?_); rintro e W1 ⟨rfl, hb1⟩; have HB1 := Lib.hid hb1; have hz1 := hb1.size; clear hb1)) | (go_at_call 10; ((with_reducible refine (un1 s hs _).mono ?_); rintro e W2 ⟨rfl, hb2⟩; have HB2 := Lib.hid hb2; clear hb2)) | go_in)
      go_ret
      exact ⟨rfl, HB1.out.trans (HB2.out.mono HB1.out.size)⟩
    · obtain ⟨n, rfl⟩ := Int.eq_ofNat_of_zero_le (show 0 ≤ at_ by omega)
      have hn : n < (bs s).size := by omega
      have hx : (((bs s)[n]'hn).toNat : Int) = bt (bs s) (n : Int) := bt_at (bs s) (n : Int) (by simpa using hn)
      by_cases hc : bt (bs s) (n : Int) = c
      · go_enter Tryd.func4, Tryd.ntmps4
        go_wp2_with (first | (go_at_call 7; ((with_reducible refine (base_as s hs _ HG.out).mono ?_); rintro e W1 ⟨rfl, hb1⟩; have HB1 := Lib.hid hb1; have hz1 := hb1.size; clear hb1)) | (go_at_call 10; ((with_reducible refine (un1 s hs _).mono ?_); rintro e W2 ⟨rfl, hb2⟩; have HB2 := Lib.hid hb2; clear hb2)) | go_in)
        go_ret
        exact ⟨rfl, HB1.out.trans (HB2.out.mono HB1.out.size)⟩
      · have hc' : (bt (bs s) (n : Int) == c) = false := beq_eq_false_iff_ne.mpr hc
        have HU := Lib.hid (un_ch s n c h0 h1 hn hc)
        clear hc
        have kb := fun W => Lib.run_convert_string_bytes (P := Tryd.prog) W 9 28 5 (bs s) Tryd.underlying9 Tryd.underlying28 Tryd.underlying5
        have kc : Hid (∀ W, (Lib.bytesWorld W 5 (bs s)).cell? ⟨W.heap.size, n, none⟩ = some (.int .u8 (bt (bs s) (n : Int))) ∧ (Lib.bytesWorld W 5 (bs s)).frozen? ⟨W.heap.size, n, none⟩ = false ∧
            (convert 28 9 (.slice (some ⟨W.heap.size, 0, none⟩) (bs s).size (grownCap W (bs s).size 0 5))).run Tryd.prog ((Lib.bytesWorld W 5 (bs s)).setCell ⟨W.heap.size, n, none⟩ (.int .u8 c)) = .ok (.string (strOfNums (ch s n c))) ((Lib.bytesWorld W 5 (bs s)).setCell ⟨W.heap.size, n, none⟩ (.int .u8 c))) := fun W => by
          have r0 := row_start W 5 (bs s)
          exact ⟨r0.cell n hn, r0.free n hn, string_of_reads (P := Tryd.prog) (src := 28) (dst := 9) (e := 5) (c := grownCap W (bs s).size 0 5) Tryd.underlying28 Tryd.underlying5 Tryd.underlying9 (row_reads (by omega) (row_put r0 n hn c))⟩
        rcases HU.out with ⟨u, hu, hun⟩ | ⟨q, hq, hun⟩
        · have hus : ¬ (u.toList = s.toList) := fun e => hu ((toList_eq_iff u s).1 e)
          have hus' : (u.toList == s.toList) = false := beq_eq_false_iff_ne.mpr hus
          have HN := Lib.hid hun
          clear hun hu hus
          have un2 : Hid (∀ W, Calls Tryd.prog 10 #[.string (strOfNums (ch s n c))] W fun e w' => e = .returned (.tuple #[.string u, .int .i64 0, .int .i64 ((bs s).size : Int)]) ∧ Below W.heap.size W w') := fun W => by
            have := unb_as (strOfNums (ch s n c)) W (by rw [strOfNums_size]; simp [ch]; omega)
            rw [HN.out] at this
            simp only [nums_of] at this
            exact this
          go_enter Tryd.func4, Tryd.ntmps4
          go_wp2_with (first | (go_at_call 7; ((with_reducible refine (base_as s hs _ HG.out).mono ?_); rintro e W1 ⟨rfl, hb1⟩; have HB1 := Lib.hid hb1; have hz1 := hb1.size; clear hb1)) | (go_at_call 10; ((with_reducible refine (un1 s hs _).mono ?_); rintro e W2 ⟨rfl, hb2⟩; have HB2 := Lib.hid hb2; clear hb2; obtain ⟨k1, k2, k3⟩ := kc.out W2)) | (go_at_call 10; ((with_reducible refine (un2.out _).mono ?_); rintro e W3 ⟨rfl, hb3⟩; have HB3 := Lib.hid hb3; clear hb3)) | go_in)
          go_ret
          refine ⟨rfl, ?_⟩
          have b2 := HB1.out.trans (HB2.out.mono HB1.out.size)
          have b3 := b2.trans ((row_put (row_start W2 5 (bs s)) n hn c).below.mono b2.size)
          exact b3.trans (HB3.out.mono b3.size)
        · have HN := Lib.hid hun
          clear hun
          have un2 : Hid (∀ W, Calls Tryd.prog 10 #[.string (strOfNums (ch s n c))] W fun e w' => e = .returned (.tuple #[.string ⟨#[]⟩, .int .i64 12, .int .i64 (q : Int)]) ∧ Below W.heap.size W w') := fun W => by
            have := unb_as (strOfNums (ch s n c)) W (by rw [strOfNums_size]; simp [ch]; omega)
            rw [HN.out] at this
            exact this
          have hq' : (q : Int) ≤ ((bs s).size : Int) := by omega
          go_enter Tryd.func4, Tryd.ntmps4
          go_wp2_with (first | (go_at_call 7; ((with_reducible refine (base_as s hs _ HG.out).mono ?_); rintro e W1 ⟨rfl, hb1⟩; have HB1 := Lib.hid hb1; have hz1 := hb1.size; clear hb1)) | (go_at_call 10; ((with_reducible refine (un1 s hs _).mono ?_); rintro e W2 ⟨rfl, hb2⟩; have HB2 := Lib.hid hb2; clear hb2; obtain ⟨k1, k2, k3⟩ := kc.out W2)) | (go_at_call 10; ((with_reducible refine (un2.out _).mono ?_); rintro e W3 ⟨rfl, hb3⟩; have HB3 := Lib.hid hb3; clear hb3)) | go_in)
          go_ret
          refine ⟨rfl, ?_⟩
          have b2 := HB1.out.trans (HB2.out.mono HB1.out.size)
          have b3 := b2.trans ((row_put (row_start W2 5 (bs s)) n hn c).below.mono b2.size)
          exact b3.trans (HB3.out.mono b3.size)
def rosterlaw01_TextBaseRound.f (x0 : ByteArray) (x1 : Int) (x2 : Int) : Option Bool := if x0.size ≤ 1048576 ∧ (-9223372036854775808 ≤ x1 ∧ x1 ≤ 9223372036854775807) ∧ (0 ≤ x2 ∧ x2 ≤ 255) then some true else none
theorem rosterlaw01_TextBaseRound.calls (x0 : ByteArray) (x1 : Int) (x2 : Int) (r : Bool) (w : World) (hG : Tabs w) (h : rosterlaw01_TextBaseRound.f x0 x1 x2 = some r) :
    Calls Tryd.prog 4 #[.string x0, .int .i64 x1, .int .u8 x2] w fun e w' => e = .returned (.bool r) ∧ Below w.heap.size w w' := by
  unfold rosterlaw01_TextBaseRound.f at h
  split at h
  case isFalse => cases h
  case isTrue hs =>
  obtain rfl := Option.some.inj h
  exact walk x0 x1 x2 w hs.1 hs.2.1.1 hs.2.1.2 hs.2.2.1 hs.2.2.2 hG
end Go.Proofs.YtppnhlkfkedlmaaDoor.BaseRoundW

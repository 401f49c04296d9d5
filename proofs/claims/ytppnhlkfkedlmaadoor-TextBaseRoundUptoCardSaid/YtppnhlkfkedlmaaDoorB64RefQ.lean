/- The document's group, and the bytes of four characters, as printed, on lists of byte numbers. -/
import Derived.Test.YtppnhlkfkedlmaaDoorXQ3
import Derived.Test.YtppnhlkfkedlmaaDoorXV
import Derived.Test.YtppnhlkfkedlmaaDoorDec
namespace Go.Proofs.YtppnhlkfkedlmaaDoor.B64RefQ
open Go.RowKit Go.Proofs.YtppnhlkfkedlmaaDoor.XQ Go.Proofs.YtppnhlkfkedlmaaDoor.XV Go.Proofs.YtppnhlkfkedlmaaDoor.L64 Go.Proofs.YtppnhlkfkedlmaaDoor.UnB64 Go.Proofs.YtppnhlkfkedlmaaDoor.Dec Go.Proofs.YtppnhlkfkedlmaaDoorW.PrintWords Go.Proofs.YtppnhlkfkedlmaaDoorW.PrintLast
set_option linter.unusedVariables false
set_option linter.unusedSimpArgs false
abbrev AB : ByteArray := (⟨#[65, 66, 67, 68, 69, 70, 71, 72, 73, 74, 75, 76, 77, 78, 79, 80, 81, 82, 83, 84, 85, 86, 87, 88, 89, 90, 97, 98, 99, 100, 101, 102, 103, 104, 105, 106, 107, 108, 109, 110, 111, 112, 113, 114, 115, 116, 117, 118, 119, 120, 121, 122, 48, 49, 50, 51, 52, 53, 54, 55, 56, 57, 43, 47]⟩ : ByteArray)
theorem bt_AB (x : Int) (h : 0 ≤ x) (h2 : x < 64) : bt AB x = l64 x := by
  obtain ⟨y, rfl⟩ := fin_of x 64 h (by omega)
  have : ∀ y : Fin 64, bt AB (y.val : Int) = l64 (y.val : Int) := by decide +kernel
  exact this y
theorem at_loop (c : Int) : ∀ m i : Nat, i + m = 64 → (∀ j : Nat, j < i → l64 (j : Int) ≠ c) → Ev (fun k => rosterref01_at.l0 k AB c (i : Int)) (if ∃ j : Fin 64, l64 (j.val : Int) = c then (match w64 c with | some w => w | none => -1) else -1)
  | 0, i, hi, hj => by
    refine ev_round ?_
    simp only [rosterref01_at.l0]
    rw [if_neg (by rintro ⟨j, hj'⟩; exact hj j.val (by have := j.isLt; omega) hj')]
    exact ev_neg (by show ¬ (i : Int) < (64 : Int); omega) (Ev.now _)
  | m + 1, i, hi, hj => by
    have ih := at_loop c m (i + 1) (by omega)
    refine ev_round ?_
    simp only [rosterref01_at.l0]
    rw [wrp_id _ (by omega) (by omega), show bt AB (i : Int) = l64 (i : Int) from bt_AB _ (by omega) (by omega)]
    refine ev_pos (by show (i : Int) < (64 : Int); omega) (ev_pos (by omega) ?_)
    by_cases h : l64 (i : Int) = c
    · refine ev_pos h (ev_eq ?_)
      rw [if_pos ⟨⟨i, by omega⟩, h⟩, ← h, w64_l64 _ (by omega) (by omega)]
    · refine ev_neg h ?_
      have := ih (fun j hj' => by
        by_cases e : j = i
        · subst e; exact h
        · exact hj j (by omega))
      simpa using this
theorem at_ev (c : Int) : Ev (fun k => rosterref01_at.f k AB c) (match w64 c with | some w => w | none => -1) := by
  have := at_loop c 64 0 rfl (fun j hj => by omega)
  simp only [rosterref01_at.f]
  cases hw : w64 c with
  | some w =>
    obtain ⟨w0, w1, w2, _⟩ := w64_some hw
    rw [if_pos ⟨⟨w.toNat, by omega⟩, by simpa [Int.toNat_of_nonneg w0] using w2⟩, hw] at this
    exact this
  | none =>
    rw [if_neg] at this
    · exact this
    · rintro ⟨j, hj⟩
      have := w64_l64 (j.val : Int) (by omega) (by have := j.isLt; omega)
      rw [hj, hw] at this
      cases this

theorem group_in (s : ByteArray) {r : ByteArray} (x : Int) (i : Nat) (hi : i < 3) (hs : i < s.size) (h0 : 0 ≤ x) (h1 : x ≤ 16777216) (h : Ev (fun k => rosterref01_group.l0 k s (x * 256 + bt s (i : Int)) ((i + 1 : Nat) : Int)) r) : Ev (fun k => rosterref01_group.l0 k s x (i : Int)) r := by
  have hb := bt_range s (i : Int)
  refine ev_round ?_
  simp only [rosterref01_group.l0]
  rw [wrp_id (bt s (i : Int)) (by omega) (by omega), wrp_id (x * 256) (by omega) (by omega), wrp_id (x * 256 + bt s (i : Int)) (by omega) (by omega), wrp_id ((i : Int) + 1) (by omega) (by omega)]
  exact ev_pos (by omega) (ev_pos (by omega) (ev_pos (by omega) h))
theorem group_out (s : ByteArray) {r : ByteArray} (x : Int) (i : Nat) (hi : i < 3) (hs : s.size ≤ i) (h0 : 0 ≤ x) (h1 : x ≤ 16777216) (h : Ev (fun k => rosterref01_group.l0 k s (x * 256) ((i + 1 : Nat) : Int)) r) : Ev (fun k => rosterref01_group.l0 k s x (i : Int)) r := by
  refine ev_round ?_
  simp only [rosterref01_group.l0]
  rw [wrp_id (x * 256) (by omega) (by omega), wrp_id ((i : Int) + 1) (by omega) (by omega)]
  exact ev_pos (by omega) (ev_neg (by omega) h)
theorem group_end (s : ByteArray) (n : Int) (h0 : 0 ≤ n) (h1 : n < 16777216) (hs : 1 ≤ s.size) (hs3 : s.size ≤ 3) : Ev (fun k => rosterref01_group.l0 k s n 3) (strOfNums [l64 (n / 262144), l64 (n / 4096 % 64), if s.size > 1 then l64 (n / 64 % 64) else 61, if s.size > 2 then l64 (n % 64) else 61]) := by
  refine ev_round ?_
  simp only [rosterref01_group.l0, Option.bind_some]
  rw [Int.tdiv_eq_ediv_of_nonneg h0, Int.tdiv_eq_ediv_of_nonneg h0, Int.tdiv_eq_ediv_of_nonneg h0, wrp_id (n / 262144) (by omega) (by omega), wrp_id (n / 4096) (by omega) (by omega), wrp_id (n / 64) (by omega) (by omega), Int.tmod_eq_emod_of_nonneg (by omega), Int.tmod_eq_emod_of_nonneg (by omega), Int.tmod_eq_emod_of_nonneg h0]
  rw [show bt AB (n / 262144) = _ from bt_AB _ (by omega) (by omega), show bt AB (n / 4096 % 64) = _ from bt_AB _ (by omega) (by omega), show bt AB (n / 64 % 64) = _ from bt_AB _ (by omega) (by omega), show bt AB (n % 64) = _ from bt_AB _ (by omega) (by omega)]
  refine ev_neg (by decide) (ev_pos (by omega) (ev_pos (by omega) (ev_pos (by omega) (ev_pos (by omega) ?_))))
  by_cases c1 : s.size > 1
  · refine ev_pos (by omega) (ev_pos (by omega) (ev_pos (by omega) (ev_pos (by show (2 : Int) < 4; omega) ?_)))
    by_cases c2 : s.size > 2
    · refine ev_pos (by omega) (ev_pos (by omega) (ev_pos (by omega) (ev_pos (by show (3 : Int) < 4; omega) (ev_eq ?_))))
      rw [if_pos c1, if_pos c2]
      rfl
    · refine ev_neg (by omega) (ev_eq ?_)
      rw [if_pos c1, if_neg c2]
      rfl
  · refine ev_neg (by omega) (ev_neg (by omega) (ev_eq ?_))
    rw [if_neg c1, if_neg (by omega)]
theorem list_of (s : ByteArray) : bytesOf s = (List.range s.size).map fun i : Nat => bt s (i : Int) := by
  apply List.ext_getElem?
  intro i
  by_cases h : i < s.size
  · have hl : i < (bytesOf s).length := by rw [bytesOf_length]; exact h
    simp [h, bt_byte, List.getD_eq_getElem?_getD, List.getElem?_eq_getElem hl]
  · rw [List.getElem?_eq_none (by rw [bytesOf_length]; omega), List.getElem?_eq_none (by simp; omega)]
theorem group_ev (s : ByteArray) (hs : 1 ≤ s.size) (hs3 : s.size ≤ 3) : Ev (fun k => rosterref01_group.f k s) (strOfNums (b64 (bytesOf s))) := by
  have b0 := bt_range s ((0 : Nat) : Int)
  have b1 := bt_range s ((1 : Nat) : Int)
  have b2 := bt_range s ((2 : Nat) : Int)
  have hlo := list_of s
  show Ev (fun k => rosterref01_group.l0 k s 0 ((0 : Nat) : Int)) _
  rcases (show s.size = 1 ∨ s.size = 2 ∨ s.size = 3 by omega) with hz | hz | hz
  · have hd : bytesOf s = [bt s ((0 : Nat) : Int)] := by rw [hlo, hz]; rfl
    refine group_in s 0 0 (by omega) (by omega) (by omega) (by omega) (group_out s _ 1 (by omega) (by omega) (by omega) (by omega) (group_out s _ 2 (by omega) (by omega) (by omega) (by omega) ?_))
    have := group_end s ((0 * 256 + bt s ((0 : Nat) : Int)) * 256 * 256) (by omega) (by omega) hs hs3
    rw [if_neg (by omega), if_neg (by omega)] at this
    rw [hd, b64]
    have e1 : (0 * 256 + bt s ((0 : Nat) : Int)) * 256 * 256 / 262144 = bt s ((0 : Nat) : Int) / 4 := by omega
    have e2 : (0 * 256 + bt s ((0 : Nat) : Int)) * 256 * 256 / 4096 % 64 = bt s ((0 : Nat) : Int) % 4 * 16 := by omega
    rw [e1, e2] at this
    exact this
  · have hd : bytesOf s = [bt s ((0 : Nat) : Int), bt s ((1 : Nat) : Int)] := by rw [hlo, hz]; rfl
    refine group_in s 0 0 (by omega) (by omega) (by omega) (by omega) (group_in s _ 1 (by omega) (by omega) (by omega) (by omega) (group_out s _ 2 (by omega) (by omega) (by omega) (by omega) ?_))
    have := group_end s (((0 * 256 + bt s ((0 : Nat) : Int)) * 256 + bt s ((1 : Nat) : Int)) * 256) (by omega) (by omega) hs hs3
    rw [if_pos (by omega), if_neg (by omega)] at this
    rw [hd, b64]
    have e1 : ((0 * 256 + bt s ((0 : Nat) : Int)) * 256 + bt s ((1 : Nat) : Int)) * 256 / 262144 = bt s ((0 : Nat) : Int) / 4 := by omega
    have e2 : ((0 * 256 + bt s ((0 : Nat) : Int)) * 256 + bt s ((1 : Nat) : Int)) * 256 / 4096 % 64 = bt s ((0 : Nat) : Int) % 4 * 16 + bt s ((1 : Nat) : Int) / 16 := by omega
    have e3 : ((0 * 256 + bt s ((0 : Nat) : Int)) * 256 + bt s ((1 : Nat) : Int)) * 256 / 64 % 64 = bt s ((1 : Nat) : Int) % 16 * 4 := by omega
    rw [e1, e2, e3] at this
    exact this
  · have hd : bytesOf s = [bt s ((0 : Nat) : Int), bt s ((1 : Nat) : Int), bt s ((2 : Nat) : Int)] := by rw [hlo, hz]; rfl
    refine group_in s 0 0 (by omega) (by omega) (by omega) (by omega) (group_in s _ 1 (by omega) (by omega) (by omega) (by omega) (group_in s _ 2 (by omega) (by omega) (by omega) (by omega) ?_))
    have := group_end s (((0 * 256 + bt s ((0 : Nat) : Int)) * 256 + bt s ((1 : Nat) : Int)) * 256 + bt s ((2 : Nat) : Int)) (by omega) (by omega) hs hs3
    rw [if_pos (by omega), if_pos (by omega)] at this
    rw [hd, b64]
    have e1 : (((0 * 256 + bt s ((0 : Nat) : Int)) * 256 + bt s ((1 : Nat) : Int)) * 256 + bt s ((2 : Nat) : Int)) / 262144 = bt s ((0 : Nat) : Int) / 4 := by omega
    have e2 : (((0 * 256 + bt s ((0 : Nat) : Int)) * 256 + bt s ((1 : Nat) : Int)) * 256 + bt s ((2 : Nat) : Int)) / 4096 % 64 = bt s ((0 : Nat) : Int) % 4 * 16 + bt s ((1 : Nat) : Int) / 16 := by omega
    have e3 : (((0 * 256 + bt s ((0 : Nat) : Int)) * 256 + bt s ((1 : Nat) : Int)) * 256 + bt s ((2 : Nat) : Int)) / 64 % 64 = bt s ((1 : Nat) : Int) % 16 * 4 + bt s ((2 : Nat) : Int) / 64 := by omega
    have e4 : (((0 * 256 + bt s ((0 : Nat) : Int)) * 256 + bt s ((1 : Nat) : Int)) * 256 + bt s ((2 : Nat) : Int)) % 64 = bt s ((2 : Nat) : Int) % 64 := by omega
    rw [e1, e2, e3, e4] at this
    exact this

theorem have_loop (g : ByteArray) (c0 c1 c2 c3 : Int) (hg : bytesOf g = [c0, c1, c2, c3]) : ∀ m i : Nat, i + m = 4 → 1 ≤ i → (∀ n, 1 ≤ n → n < i → b64 ((three c0 c1 c2 c3).take n) ≠ [c0, c1, c2, c3]) →
    Ev (fun k => rosterref01_bytesOf.l1 k g (strOfNums (three c0 c1 c2 c3)) (i : Int)) (decR [c0, c1, c2, c3])
  | 0, i, hi, h1, hn => by
    refine ev_round ?_
    simp only [rosterref01_bytesOf.l1]
    refine ev_neg (by omega) (ev_eq ?_)
    rw [dec_no c0 c1 c2 c3 (fun n h1 h2 => hn n h1 (by omega))]
  | m + 1, i, hi, h1, hn => by
    have ih := have_loop g c0 c1 c2 c3 hg m (i + 1) (by omega) (by omega)
    have hr3 := three_rng c0 c1 c2 c3
    have hz : (strOfNums (three c0 c1 c2 c3)).size = 3 := by rw [strOfNums_size]; rfl
    refine ev_round ?_
    simp only [rosterref01_bytesOf.l1]
    rw [wrp_id ((i : Int) + 1) (by omega) (by omega), Int.toNat_natCast]
    have hx : bytesOf ((strOfNums (three c0 c1 c2 c3)).extract 0 i) = (three c0 c1 c2 c3).take i := by rw [bytesOf_extract, bytesOf_nums _ hr3, List.drop_zero]
    have hge := group_ev ((strOfNums (three c0 c1 c2 c3)).extract 0 i) (by rw [ByteArray.size_extract]; omega) (by rw [ByteArray.size_extract]; omega)
    rw [hx] at hge
    have htr : ∀ x ∈ (three c0 c1 c2 c3).take i, 0 ≤ x ∧ x ≤ 255 := fun x hx => hr3 x (List.mem_of_mem_take hx)
    refine ev_pos (by omega) (ev_pos (by omega) (ev_pos (by omega) (Ev.bind hge ?_)))
    by_cases he : b64 ((three c0 c1 c2 c3).take i) = [c0, c1, c2, c3]
    · refine ev_pos ((eq_nums rfl (b64_rng htr) hg).2 he) (ev_eq ?_)
      rw [dec_yes htr he]
      congr 1
      exact bytesOf_inj (by rw [hx, bytesOf_nums _ htr])
    · refine ev_neg (fun z => he ((eq_nums rfl (b64_rng htr) hg).1 z)) ?_
      have := ih (fun n h1 h2 => by
        by_cases e : n = i
        · subst e; exact he
        · exact hn n h1 (by omega))
      simpa using this
theorem val_step (g : ByteArray) {r : ByteArray × Bool} (x : Int) (i : Nat) (hi : i < 4) (hs : i < g.size) (h0 : 0 ≤ x) (h1 : x ≤ 262144) (h : Ev (fun k => rosterref01_bytesOf.l0 k g (x * 64 + val (bt g (i : Int))) ((i + 1 : Nat) : Int)) r) : Ev (fun k => rosterref01_bytesOf.l0 k g x (i : Int)) r := by
  refine ev_round ?_
  simp only [rosterref01_bytesOf.l0]
  rw [wrp_id (x * 64) (by omega) (by omega), wrp_id ((i : Int) + 1) (by omega) (by omega)]
  refine ev_pos (by omega) (ev_pos (by omega) (ev_pos (by omega) (Ev.bind (at_ev _) ?_)))
  unfold val at h
  cases hw : w64 (bt g (i : Int)) with
  | none =>
    rw [hw] at h
    refine ev_pos (show (-1 : Int) < 0 by decide) ?_
    rw [wrp_id (x * 64 + 0) (by omega) (by omega)]
    exact h
  | some w =>
    rw [hw] at h
    have := w64_some hw
    refine ev_neg (show ¬ w < 0 by omega) ?_
    simp only
    rw [wrp_id (x * 64 + w) (by omega) (by omega)]
    exact h
theorem bytesOf_ev (g : ByteArray) (c0 c1 c2 c3 : Int) (hg : bytesOf g = [c0, c1, c2, c3]) : Ev (fun k => rosterref01_bytesOf.f k g) (decR [c0, c1, c2, c3]) := by
  have hz : g.size = 4 := by rw [← bytesOf_length, hg]; rfl
  have hb : ∀ i : Nat, bt g (i : Int) = [c0, c1, c2, c3].getD i 0 := fun i => by rw [bt_byte, hg]; rfl
  have v0 := val_range c0; have v1 := val_range c1; have v2 := val_range c2; have v3 := val_range c3
  show Ev (fun k => rosterref01_bytesOf.l0 k g 0 ((0 : Nat) : Int)) _
  have B0 : bt g ((0 : Nat) : Int) = c0 := hb 0
  have B1 : bt g ((1 : Nat) : Int) = c1 := hb 1
  have B2 : bt g ((2 : Nat) : Int) = c2 := hb 2
  have B3 : bt g ((3 : Nat) : Int) = c3 := hb 3
  refine val_step g 0 0 (by omega) (by omega) (by omega) (by omega) ?_
  rw [B0]
  refine val_step g _ 1 (by omega) (by omega) (by omega) (by omega) ?_
  rw [B1]
  refine val_step g _ 2 (by omega) (by omega) (by omega) (by omega) ?_
  rw [B2]
  refine val_step g _ 3 (by omega) (by omega) (by omega) (by omega) ?_
  rw [B3]
  refine ev_round ?_
  simp only [rosterref01_bytesOf.l0]
  refine ev_neg (by decide) ?_
  have := have_loop g c0 c1 c2 c3 hg 3 1 rfl (by omega) (fun n h1 h2 => by omega)
  generalize hn : (((0 * 64 + val c0) * 64 + val c1) * 64 + val c2) * 64 + val c3 = n
  have hn0 : 0 ≤ n := by omega
  have e : [(wrap64 (Int.tdiv n 65536)) % 256, (Int.tmod (wrap64 (Int.tdiv n 256)) 256) % 256, (Int.tmod n 256) % 256] = three c0 c1 c2 c3 := by
    rw [Int.tdiv_eq_ediv_of_nonneg hn0, Int.tdiv_eq_ediv_of_nonneg hn0, Int.tmod_eq_emod_of_nonneg hn0, wrp_id (n / 65536) (by omega) (by omega), wrp_id (n / 256) (by omega) (by omega), Int.tmod_eq_emod_of_nonneg (by omega)]
    unfold three
    rw [show n / 65536 % 256 = val c0 * 4 + val c1 / 16 from by omega, show n / 256 % 256 % 256 = val c1 % 16 * 16 + val c2 / 4 from by omega, show n % 256 % 256 = val c2 % 4 * 64 + val c3 from by omega]
  rw [e]
  exact this
end Go.Proofs.YtppnhlkfkedlmaaDoor.B64RefQ

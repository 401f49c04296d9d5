/- Hex and Unhex of text and of the document, as printed, on lists of byte numbers. For every text of at most 34359738368 bytes. -/
import Derived.Test.YtjkhdiphcgpbfaaDoorX3
import Derived.Test.YtjkhdiphcgpbfaaDoorXV
import Derived.Test.YtjkhdiphcgpbfaaDoorNorm
namespace Go.Proofs.YtjkhdiphcgpbfaaDoor.HexEv
open Go.RowKit Go.Proofs.YtjkhdiphcgpbfaaDoor.X Go.Proofs.YtjkhdiphcgpbfaaDoor.XE Go.Proofs.YtjkhdiphcgpbfaaDoor.XG Go.Proofs.YtjkhdiphcgpbfaaDoor.XV Go.Proofs.YtjkhdiphcgpbfaaDoor.Norm Go.Proofs.YtjkhdiphcgpbfaaDoorW.PrintWords Go.Proofs.YtjkhdiphcgpbfaaDoorW.PrintLast
set_option linter.unusedVariables false
set_option linter.unusedSimpArgs false

def hexd (n : Int) : Int := if n < 10 then 48 + n else 87 + n
def hexN : List Int → List Int
  | [] => []
  | b :: r => hexd (b / 16) :: hexd (b % 16) :: hexN r
def worth (c : Int) : Option Int := if 48 ≤ c ∧ c ≤ 57 then some (c - 48) else if 97 ≤ c ∧ c ≤ 102 then some (c - 87) else if 65 ≤ c ∧ c ≤ 70 then some (c - 55) else none
/-- What a reader of hex digits gives; odd: in the middle of a pair, of which high is the first. -/
def unL : Bool → Int → List Int → Int → List Int → List Int × Int × Int
  | odd, high, acc, pos, [] => if odd = true then ([], 11, pos) else (acc, 0, pos)
  | odd, high, acc, pos, c :: r => match worth c with
    | none => ([], 11, pos)
    | some w => if odd = true then unL false high (acc ++ [16 * high + w]) (pos + 1) r else unL true w acc (pos + 1) r

def Rng (l : List Int) : Prop := ∀ x ∈ l, 0 ≤ x ∧ x ≤ 255
theorem rng_cons {c : Int} {l : List Int} (h : Rng (c :: l)) : (0 ≤ c ∧ c ≤ 255) ∧ Rng l := ⟨h c (by simp), fun x hx => h x (by simp [hx])⟩
theorem cons_rng {c : Int} {l : List Int} (hc : 0 ≤ c ∧ c ≤ 255) (h : Rng l) : Rng (c :: l) := by
  intro x hx
  rcases List.mem_cons.1 hx with rfl | hx
  · exact hc
  · exact h x hx
theorem hexd_range (n : Int) (h : 0 ≤ n) (h2 : n < 16) : 0 ≤ hexd n ∧ hexd n ≤ 255 := by unfold hexd; split <;> omega
theorem rng_hex : ∀ {l : List Int}, Rng l → Rng (hexN l)
  | [], _ => by intro x hx; simp [hexN] at hx
  | b :: r, h => by
    obtain ⟨hb, hr⟩ := rng_cons h
    exact cons_rng (hexd_range _ (by omega) (by omega)) (cons_rng (hexd_range _ (by omega) (by omega)) (rng_hex hr))
theorem hex_len : ∀ l : List Int, (hexN l).length = 2 * l.length
  | [] => rfl
  | b :: r => by simp only [hexN, List.length_cons, hex_len r]; omega
theorem worth_some {c w : Int} (h : worth c = some w) : 0 ≤ w ∧ w < 16 ∧ hexd w = lowN c := by
  unfold worth at h
  split at h
  · obtain rfl := Option.some.inj h; refine ⟨by omega, by omega, ?_⟩; unfold hexd lowN; rw [if_pos (by omega), if_neg (by omega)]; omega
  · split at h
    · obtain rfl := Option.some.inj h; refine ⟨by omega, by omega, ?_⟩; unfold hexd lowN; rw [if_neg (by omega), if_neg (by omega)]; omega
    · split at h
      · obtain rfl := Option.some.inj h; refine ⟨by omega, by omega, ?_⟩; unfold hexd lowN; rw [if_neg (by omega), if_pos (by omega)]; omega
      · cases h
theorem worth_hexd (n : Int) (h : 0 ≤ n) (h2 : n < 16) : worth (hexd n) = some n := by
  unfold hexd
  by_cases h3 : n < 10
  · rw [if_pos h3]; unfold worth; rw [if_pos (by omega)]; congr 1; omega
  · rw [if_neg h3]; unfold worth; rw [if_neg (by omega), if_pos (by omega)]; congr 1; omega
theorem worth_digit {c w : Int} (h : worth c = some w) : (48 ≤ c ∧ c ≤ 57) ∨ (97 ≤ c ∧ c ≤ 102) ∨ (65 ≤ c ∧ c ≤ 70) := by
  unfold worth at h
  (repeat' split at h) <;> first | omega | cases h
theorem worth_none {c : Int} (h : worth c = none) : ¬ (48 ≤ c ∧ c ≤ 57) ∧ ¬ (97 ≤ c ∧ c ≤ 102) ∧ ¬ (65 ≤ c ∧ c ≤ 70) := by
  unfold worth at h
  (repeat' split at h) <;> first | (cases h; done) | exact ⟨by assumption, by assumption, by assumption⟩

theorem unL_hex : ∀ (l : List Int) (h : Int) (acc : List Int) (pos : Int), Rng l → unL false h acc pos (hexN l) = (acc ++ l, 0, pos + 2 * l.length)
  | [], h, acc, pos, _ => by simp [hexN, unL]
  | b :: r, h, acc, pos, hr => by
    obtain ⟨hb, hr'⟩ := rng_cons hr
    simp only [hexN, unL, worth_hexd (b / 16) (by omega) (by omega), worth_hexd (b % 16) (by omega) (by omega)]
    simp only [if_true, if_false, Bool.false_eq_true]
    rw [unL_hex r _ _ _ hr', show 16 * (b / 16) + b % 16 = b from by omega]
    simp
    omega

theorem unL_spec : ∀ (l : List Int) (odd : Bool) (high : Int) (acc : List Int) (pos : Int), (odd = true → 0 ≤ high ∧ high < 16) →
    ((unL odd high acc pos l).2.1 = 0 ∧ (unL odd high acc pos l).2.2 = pos + l.length ∧ ∃ m, (unL odd high acc pos l).1 = acc ++ m ∧ Rng m ∧ hexN m = if odd = true then hexd high :: foldN l else foldN l) ∨
    ((unL odd high acc pos l).2.1 = 11 ∧ (unL odd high acc pos l).1 = [] ∧ ∃ q : Nat, (unL odd high acc pos l).2.2 = pos + q ∧ q ≤ l.length ∧ (∀ j, j < q → ∃ w, worth (l.getD j 0) = some w) ∧
      (q < l.length → worth (l.getD q 0) = none) ∧ (q = l.length → l.length % 2 = if odd = true then 0 else 1))
  | [], odd, high, acc, pos, hh => by
    cases odd
    · left
      exact ⟨rfl, by simp [unL], [], by simp [unL], (fun x hx => by simp at hx), rfl⟩
    · right
      exact ⟨rfl, rfl, 0, by simp [unL], by simp, fun j hj => by omega, fun h => by simp at h, fun _ => rfl⟩
  | c :: r, odd, high, acc, pos, hh => by
    cases hw : worth c with
    | none =>
      right
      have e : unL odd high acc pos (c :: r) = ([], 11, pos) := by rw [unL, hw]
      rw [e]
      exact ⟨rfl, rfl, 0, by simp, by simp, fun j hj => by omega, fun _ => by simpa using hw, fun h => by simp at h⟩
    | some w =>
      obtain ⟨w0, w1, w2⟩ := worth_some hw
      cases odd with
      | false =>
        have e : unL false high acc pos (c :: r) = unL true w acc (pos + 1) r := by rw [unL, hw]; rfl
        rw [e]
        rcases unL_spec r true w acc (pos + 1) (fun _ => ⟨w0, w1⟩) with ⟨h1, h2, m, h3, h4, h5⟩ | ⟨h1, h2, q, h3, h4, h5, h6, h7⟩
        · left
          refine ⟨h1, by rw [h2]; simp; omega, m, h3, h4, ?_⟩
          rw [h5, w2]
          rfl
        · right
          refine ⟨h1, h2, q + 1, by rw [h3]; simp; omega, by simp; omega, ?_, ?_, ?_⟩
          · intro j hj
            cases j with
            | zero => exact ⟨w, by simpa using hw⟩
            | succ j => simpa using h5 j (by omega)
          · intro h
            simpa using h6 (by simpa using h)
          · intro h
            have := h7 (by simpa using h)
            simp at this ⊢
            omega
      | true =>
        have hhi := hh rfl
        have e : unL true high acc pos (c :: r) = unL false high (acc ++ [16 * high + w]) (pos + 1) r := by rw [unL, hw]; rfl
        rw [e]
        rcases unL_spec r false high (acc ++ [16 * high + w]) (pos + 1) (fun h => by cases h) with ⟨h1, h2, m, h3, h4, h5⟩ | ⟨h1, h2, q, h3, h4, h5, h6, h7⟩
        · left
          refine ⟨h1, by rw [h2]; simp; omega, (16 * high + w) :: m, by rw [h3]; simp, cons_rng (by omega) h4, ?_⟩
          rw [hexN, h5, show (16 * high + w) / 16 = high from by omega, show (16 * high + w) % 16 = w from by omega, w2]
          rfl
        · right
          refine ⟨h1, h2, q + 1, by rw [h3]; simp; omega, by simp; omega, ?_, ?_, ?_⟩
          · intro j hj
            cases j with
            | zero => exact ⟨w, by simpa using hw⟩
            | succ j => simpa using h5 j (by omega)
          · intro h
            simpa using h6 (by simpa using h)
          · intro h
            have := h7 (by simpa using h)
            simp at this ⊢
            omega

/-! ### The printed functions -/
theorem drop_cons (s : ByteArray) (i : Nat) (h : i < s.size) : (bytesOf s).drop i = bt s (i : Int) :: (bytesOf s).drop (i + 1) := by
  have hl : i < (bytesOf s).length := by rw [bytesOf_length]; exact h
  rw [bt_byte, List.drop_eq_getElem_cons hl]
  simp [List.getD_eq_getElem?_getD, List.getElem?_eq_getElem hl]
theorem drop_end (s : ByteArray) (i : Nat) (h : s.size ≤ i) : (bytesOf s).drop i = [] := List.drop_eq_nil_of_le (by rw [bytesOf_length]; exact h)
theorem fin_of (n : Int) (m : Nat) (h : 0 ≤ n) (h2 : n < m) : ∃ x : Fin m, (x.val : Int) = n := ⟨⟨n.toNat, by omega⟩, by simp; omega⟩
theorem and15 (x : Int) (h : 0 ≤ x) (h2 : x ≤ 255) : Go.bits .and .u8 x 15 = x % 16 := by
  obtain ⟨y, rfl⟩ := fin_of x 256 h (by omega)
  have : ∀ y : Fin 256, Go.bits .and .u8 (y.val : Int) 15 = (y.val : Int) % 16 := by decide +kernel
  exact this y
theorem or16 (x w : Int) (h : 0 ≤ x) (h2 : x < 16) (h3 : 0 ≤ w) (h4 : w < 16) : Go.bits .or .u8 ((x * 16) % 256) w = 16 * x + w := by
  obtain ⟨y, rfl⟩ := fin_of x 16 h (by omega)
  obtain ⟨z, rfl⟩ := fin_of w 16 h3 (by omega)
  have : ∀ y z : Fin 16, Go.bits .or .u8 (((y.val : Int) * 16) % 256) (z.val : Int) = 16 * (y.val : Int) + (z.val : Int) := by decide +kernel
  exact this y z
theorem rd_hexL (x : Int) (h : 0 ≤ x) (h2 : x < 16) : rd hexL x = hexd x := by
  obtain ⟨y, rfl⟩ := fin_of x 16 h (by omega)
  have : ∀ y : Fin 16, rd hexL (y.val : Int) = hexd (y.val : Int) := by decide +kernel
  exact this y
theorem bt_digits (x : Int) (h : 0 ≤ x) (h2 : x < 16) : bt (⟨#[48, 49, 50, 51, 52, 53, 54, 55, 56, 57, 97, 98, 99, 100, 101, 102]⟩ : ByteArray) x = hexd x := by
  obtain ⟨y, rfl⟩ := fin_of x 16 h (by omega)
  have : ∀ y : Fin 16, bt (⟨#[48, 49, 50, 51, 52, 53, 54, 55, 56, 57, 97, 98, 99, 100, 101, 102]⟩ : ByteArray) (y.val : Int) = hexd (y.val : Int) := by decide +kernel
  exact this y

theorem hex_loop (s : ByteArray) (hs : s.size ≤ 34359738368) : ∀ m i (acc : List Int), i + m = s.size → acc.length = 2 * i → Ev (fun k => text_Hex.l0 k s acc (s.size : Int) (i : Int)) (strOfNums (acc ++ hexN ((bytesOf s).drop i)))
  | 0, i, acc, hi, ha => by
    refine ev_round ?_
    simp only [text_Hex.l0]
    refine ev_neg (by omega) (ev_eq ?_)
    rw [drop_end s i (by omega)]
    simp [hexN]
  | m + 1, i, acc, hi, ha => by
    have ih := hex_loop s hs m (i + 1)
    have hb := bt_range s (i : Int)
    refine ev_round ?_
    simp only [text_Hex.l0, Option.bind_some]
    rw [wrp_id _ (by omega) (by omega), and15 _ hb.1 hb.2, rd_hexL _ (by omega) (by omega), rd_hexL _ (by omega) (by omega)]
    refine ev_pos (by omega) (ev_pos (by omega) (ev_pos (by omega) (ev_pos (by omega) (ev_pos (by omega) (ev_pos (by omega) (ev_pos (by omega) (ev_pos (by simp; omega) ?_)))))))
    rw [drop_cons s i (by omega), hexN]
    have := ih (acc ++ [hexd (bt s (i : Int) / 16), hexd (bt s (i : Int) % 16)]) (by omega) (by simp; omega)
    simpa using this
theorem hex_at (s : ByteArray) (hs : s.size ≤ 34359738368) : Ev (fun k => text_Hex.f k s) (strOfNums (hexN (bytesOf s))) := by
  have := hex_loop s hs s.size 0 [] (by omega) (by simp)
  simp only [text_Hex.f]
  rw [wrp_id _ (by omega) (by omega)]
  refine ev_pos (by omega) (ev_pos (by omega) ?_)
  simpa using this
theorem rhex_loop (s : ByteArray) (hs : s.size ≤ 34359738368) : ∀ m i (acc : List Int), i + m = s.size → acc.length = 2 * i → Ev (fun k => rosterref01_Hex.l0 k s acc (i : Int)) (strOfNums (acc ++ hexN ((bytesOf s).drop i)))
  | 0, i, acc, hi, ha => by
    refine ev_round ?_
    simp only [rosterref01_Hex.l0]
    refine ev_neg (by omega) (ev_eq ?_)
    rw [drop_end s i (by omega)]
    simp [hexN]
  | m + 1, i, acc, hi, ha => by
    have ih := rhex_loop s hs m (i + 1)
    have hb := bt_range s (i : Int)
    refine ev_round ?_
    simp only [rosterref01_Hex.l0, Option.bind_some]
    rw [wrp_id (bt s (i : Int)) (by omega) (by omega), Int.tdiv_eq_ediv_of_nonneg hb.1, Int.tmod_eq_emod_of_nonneg hb.1, wrp_id (bt s (i : Int) / 16) (by omega) (by omega), wrp_id ((i : Int) + 1) (by omega) (by omega), bt_digits _ (by omega) (by omega), bt_digits _ (by omega) (by omega)]
    refine ev_pos (by omega) (ev_pos (by omega) (ev_pos (by omega) (ev_pos (by omega) (ev_pos (by omega) (ev_pos (by omega) (ev_pos (by omega) (ev_pos (by simp; omega) ?_)))))))
    rw [drop_cons s i (by omega), hexN]
    have := ih ((acc ++ [hexd (bt s (i : Int) / 16)]) ++ [hexd (bt s (i : Int) % 16)]) (by omega) (by simp; omega)
    simpa using this
theorem rhex_at (s : ByteArray) (hs : s.size ≤ 34359738368) : Ev (fun k => rosterref01_Hex.f k s) (strOfNums (hexN (bytesOf s))) := by
  simpa [rosterref01_Hex.f] using rhex_loop s hs s.size 0 [] (by omega) (by simp)

theorem worth_at (k : Nat) (c : Int) (h0 : 0 ≤ c) (h1 : c ≤ 255) : text_hexWorth.f (k + 2) c = some (match worth c with | some w => (w, true) | none => (0, false)) := by
  simp only [text_hexWorth.f, text_hexWorth.j0, text_hexWorth.j1, decide_eq_true_eq]
  have hc : (c < 48) ∨ (48 ≤ c ∧ c ≤ 57) ∨ (57 < c ∧ c < 65) ∨ (65 ≤ c ∧ c ≤ 70) ∨ (70 < c ∧ c < 97) ∨ (97 ≤ c ∧ c ≤ 102) ∨ 102 < c := by omega
  unfold worth
  rcases hc with h | h | h | h | h | h | h
  all_goals (repeat (first | rw [if_pos (by omega)] | rw [if_neg (by omega)] | rw [if_neg (by decide)]))
  all_goals (first | rfl | (simp only [Option.some.injEq, Prod.mk.injEq, and_true]; omega))
theorem worth_ev (c : Int) (h0 : 0 ≤ c) (h1 : c ≤ 255) : Ev (fun k => text_hexWorth.f k c) (match worth c with | some w => (w, true) | none => (0, false)) := ev_at 2 (fun m => worth_at m c h0 h1)

def outp (r : List Int × Int × Int) : ByteArray × Int × Int := (strOfNums r.1, r.2.1, r.2.2)
theorem empty_nums : (⟨#[]⟩ : ByteArray) = strOfNums [] := rfl
theorem unhex_loop (s : ByteArray) (hs : s.size ≤ 34359738368) : ∀ m i (acc : List Int) (high : Int), i + m = s.size → acc.length ≤ i → (i % 2 = 1 → 0 ≤ high ∧ high < 16) →
    Ev (fun k => text_Unhex.l0 k s acc high (s.size : Int) (i : Int)) (outp (unL (decide (i % 2 = 1)) high acc (i : Int) ((bytesOf s).drop i)))
  | 0, i, acc, high, hi, ha, hh => by
    refine ev_round ?_
    simp only [text_Unhex.l0]
    refine ev_neg (by omega) ?_
    rw [drop_end s i (by omega)]
    by_cases h : i % 2 = 1
    · refine ev_neg (by omega) (ev_eq ?_)
      simp [h, unL, outp, empty_nums]
      omega
    · refine ev_pos (by omega) (ev_eq ?_)
      simp [h, unL, outp]
      omega
  | m + 1, i, acc, high, hi, ha, hh => by
    have ih := unhex_loop s hs m (i + 1)
    have hb := bt_range s (i : Int)
    refine ev_round ?_
    simp only [text_Unhex.l0]
    rw [wrp_id _ (by omega) (by omega), Int.tmod_eq_emod_of_nonneg (by omega)]
    refine ev_pos (by omega) (ev_pos (by omega) (ev_pos (by omega) (Ev.bind (worth_ev _ hb.1 hb.2) ?_)))
    rw [drop_cons s i (by omega), unL]
    cases hw : worth (bt s (i : Int)) with
    | none => exact ev_neg (by simp) (ev_eq rfl)
    | some w =>
      obtain ⟨w0, w1, w2⟩ := worth_some hw
      refine ev_pos rfl ?_
      by_cases h : i % 2 = 1
      · have hhi := hh h
        refine ev_neg (by omega) (ev_pos (by omega) ?_)
        have := ih (acc ++ [16 * high + w]) high (by omega) (by simp; omega) (fun z => by omega)
        rw [or16 _ _ hhi.1 hhi.2 w0 w1]
        rw [show decide ((i + 1) % 2 = 1) = false from decide_eq_false (by omega)] at this
        simpa [h] using this
      · refine ev_pos (by omega) ?_
        have := ih acc w (by omega) (by omega) (fun z => ⟨w0, w1⟩)
        rw [show decide ((i + 1) % 2 = 1) = true from decide_eq_true (by omega)] at this
        simpa [h] using this
theorem unhex_at (s : ByteArray) (hs : s.size ≤ 34359738368) : Ev (fun k => text_Unhex.f k s) (outp (unL false 0 [] 0 (bytesOf s))) := by
  have := unhex_loop s hs s.size 0 [] 0 (by omega) (by simp) (fun h => by simp at h)
  simp only [text_Unhex.f]
  rw [wrp_id _ (by omega) (by omega)]
  refine ev_pos (by omega) (ev_pos (by omega) ?_)
  simpa using this

def digitsB : ByteArray := ⟨#[48, 49, 50, 51, 52, 53, 54, 55, 56, 57, 97, 98, 99, 100, 101, 102]⟩
/-- The place of a byte among the digits. -/
theorem at_loop (c : Int) : ∀ m i : Nat, i + m = 16 → (∀ j : Nat, j < i → hexd (j : Int) ≠ c) → Ev (fun k => rosterref01_at.l0 k digitsB c (i : Int)) (if ∃ j : Fin 16, hexd (j.val : Int) = c then (match worth c with | some w => w | none => -1) else -1)
  | 0, i, hi, hj => by
    refine ev_round ?_
    simp only [rosterref01_at.l0]
    rw [if_neg (by rintro ⟨j, hj'⟩; exact hj j.val (by have := j.isLt; omega) hj')]
    exact ev_neg (by show ¬ (i : Int) < (16 : Int); omega) (Ev.now _)
  | m + 1, i, hi, hj => by
    have ih := at_loop c m (i + 1) (by omega)
    refine ev_round ?_
    simp only [rosterref01_at.l0]
    rw [wrp_id _ (by omega) (by omega), show bt digitsB (i : Int) = hexd (i : Int) from bt_digits _ (by omega) (by omega)]
    refine ev_pos (by show (i : Int) < (16 : Int); omega) (ev_pos (by omega) ?_)
    by_cases h : hexd (i : Int) = c
    · refine ev_pos h (ev_eq ?_)
      rw [if_pos ⟨⟨i, by omega⟩, h⟩, ← h, worth_hexd _ (by omega) (by omega)]
    · refine ev_neg h ?_
      have := ih (fun j hj' => by
        by_cases e : j = i
        · subst e; exact h
        · exact hj j (by omega))
      simpa using this
theorem at_ev (c : Int) : Ev (fun k => rosterref01_at.f k digitsB (lowN c)) (match worth c with | some w => w | none => -1) := by
  have := at_loop (lowN c) 16 0 rfl (fun j hj => by omega)
  simp only [rosterref01_at.f]
  cases hw : worth c with
  | some w =>
    obtain ⟨w0, w1, w2⟩ := worth_some hw
    rw [if_pos ⟨⟨w.toNat, by omega⟩, by simpa [Int.toNat_of_nonneg w0] using w2⟩, ← w2, worth_hexd w w0 w1] at this
    rw [← w2]
    exact this
  | none =>
    obtain ⟨n1, n2, n3⟩ := worth_none hw
    rw [if_neg] at this
    · exact this
    · rintro ⟨j, hj⟩
      have hj16 := j.isLt
      unfold hexd lowN at hj
      (repeat' split at hj) <;> omega

theorem rfold_loop (s : ByteArray) (hs : s.size ≤ 140737488351232) : ∀ m i (acc : List Int), i + m = s.size → acc.length = i → Ev (fun k => rosterref01_Fold.l0 k s acc (i : Int)) (strOfNums (acc ++ foldN ((bytesOf s).drop i)))
  | 0, i, acc, hi, ha => by
    refine ev_round ?_
    simp only [rosterref01_Fold.l0]
    refine ev_neg (by omega) (ev_eq ?_)
    rw [drop_end s i (by omega)]
    simp [foldN]
  | m + 1, i, acc, hi, ha => by
    have ih := rfold_loop s hs m (i + 1)
    have hb := bt_range s (i : Int)
    refine ev_round ?_
    simp only [rosterref01_Fold.l0]
    rw [wrp_id _ (by omega) (by omega)]
    refine ev_pos (by omega) (ev_pos (by omega) ?_)
    rw [drop_cons s i (by omega)]
    by_cases h1 : bt s (i : Int) ≥ 65
    · refine ev_pos h1 ?_
      by_cases h2 : bt s (i : Int) ≤ 90
      · refine ev_pos h2 (ev_pos (by omega) ?_)
        have := ih (acc ++ [(bt s (i : Int) + 32) % 256]) (by omega) (by simp; omega)
        rw [show foldN (bt s (i : Int) :: (bytesOf s).drop (i + 1)) = (bt s (i : Int) + 32) % 256 :: foldN ((bytesOf s).drop (i + 1)) from by simp [foldN, lowN, h1, h2]; omega]
        simpa using this
      · refine ev_neg h2 (ev_pos (by omega) ?_)
        have := ih (acc ++ [bt s (i : Int)]) (by omega) (by simp; omega)
        rw [show foldN (bt s (i : Int) :: (bytesOf s).drop (i + 1)) = bt s (i : Int) :: foldN ((bytesOf s).drop (i + 1)) from by simp [foldN, lowN, h1, h2]]
        simpa using this
    · refine ev_neg h1 (ev_pos (by omega) ?_)
      have := ih (acc ++ [bt s (i : Int)]) (by omega) (by simp; omega)
      rw [show foldN (bt s (i : Int) :: (bytesOf s).drop (i + 1)) = bt s (i : Int) :: foldN ((bytesOf s).drop (i + 1)) from by simp [foldN, lowN]; omega]
      simpa using this
theorem rfold_at (a : ByteArray) (h : a.size ≤ 140737488351232) : Ev (fun k => rosterref01_Fold.f k a) (strOfNums (foldN (bytesOf a))) := by
  simpa [rosterref01_Fold.f] using rfold_loop a h a.size 0 [] (by omega) rfl
theorem rng_fold {l : List Int} (h : Rng l) : Rng (foldN l) := by
  intro x hx
  obtain ⟨y, hy, rfl⟩ := List.mem_map.1 hx
  have := h y hy
  unfold lowN
  split <;> omega

theorem runhex_loop (s : ByteArray) (hs : s.size ≤ 34359738368) (t : ByteArray) (ht : bytesOf t = foldN (bytesOf s)) : ∀ m i (acc : List Int) (high : Int), i + m = s.size → acc.length ≤ i → (i % 2 = 1 → 0 ≤ high ∧ high < 16) →
    Ev (fun k => rosterref01_Unhex.l0 k t acc high (i : Int)) (outp (unL (decide (i % 2 = 1)) high acc (i : Int) ((bytesOf s).drop i)))
  | 0, i, acc, high, hi, ha, hh => by
    have hz : t.size = s.size := by rw [← bytesOf_length, ht]; simp [foldN, bytesOf_length]
    refine ev_round ?_
    simp only [rosterref01_Unhex.l0]
    refine ev_neg (by omega) ?_
    rw [drop_end s i (by omega)]
    by_cases h : i % 2 = 1
    · refine ev_neg (by omega) (ev_eq ?_)
      simp [h, unL, outp, empty_nums]
      omega
    · refine ev_pos (by omega) (ev_eq ?_)
      simp [h, unL, outp]
      omega
  | m + 1, i, acc, high, hi, ha, hh => by
    have ih := runhex_loop s hs t ht m (i + 1)
    have hz : t.size = s.size := by rw [← bytesOf_length, ht]; simp [foldN, bytesOf_length]
    have hti : bt t (i : Int) = lowN (bt s (i : Int)) := by
      rw [bt_byte, bt_byte, ht]
      have hl : i < (bytesOf s).length := by rw [bytesOf_length]; omega
      simp [foldN, List.getD_eq_getElem?_getD, List.getElem?_eq_getElem hl]
    have hb := bt_range s (i : Int)
    refine ev_round ?_
    simp only [rosterref01_Unhex.l0]
    rw [wrp_id ((i : Int) + 1) (by omega) (by omega), Int.tmod_eq_emod_of_nonneg (by omega), hti]
    refine ev_pos (by omega) (ev_pos (by omega) (Ev.bind (at_ev _) ?_))
    rw [drop_cons s i (by omega), unL]
    cases hw : worth (bt s (i : Int)) with
    | none => exact ev_pos (show (-1 : Int) < 0 by decide) (ev_eq rfl)
    | some w =>
      obtain ⟨w0, w1, w2⟩ := worth_some hw
      refine ev_neg (show ¬ w < 0 by omega) ?_
      by_cases h : i % 2 = 1
      · have hhi := hh h
        refine ev_neg (by omega) (ev_pos (by omega) ?_)
        have := ih (acc ++ [16 * high + w]) high (by omega) (by simp; omega) (fun z => by omega)
        rw [show decide ((i + 1) % 2 = 1) = false from decide_eq_false (by omega)] at this
        rw [wrp_id (16 * high) (by omega) (by omega)]
        simp only
        rw [wrp_id (16 * high + w) (by omega) (by omega), show (16 * high + w) % 256 = 16 * high + w from by omega]
        simpa [h] using this
      · refine ev_pos (by omega) ?_
        have := ih acc w (by omega) (by omega) (fun z => ⟨w0, w1⟩)
        rw [show decide ((i + 1) % 2 = 1) = true from decide_eq_true (by omega)] at this
        simpa [h] using this
theorem runhex_at (s : ByteArray) (hs : s.size ≤ 34359738368) : Ev (fun k => rosterref01_Unhex.f k s) (outp (unL false 0 [] 0 (bytesOf s))) := by
  have := runhex_loop s hs (strOfNums (foldN (bytesOf s))) (bytesOf_nums _ (rng_fold (bytesOf_range s))) s.size 0 [] 0 (by omega) (by simp) (fun h => by simp at h)
  simp only [rosterref01_Unhex.f]
  refine Ev.bind (rfold_at s (by omega)) ?_
  simpa using this
theorem unhexes_at (s : ByteArray) (hs : s.size ≤ 34359738368) : Ev (fun k => rosterlaw01_unhexes.f k s) true := by
  simp only [rosterlaw01_unhexes.f, rosterlaw01_num.f, Option.bind_some]
  refine Ev.bind (unhex_at s hs) (Ev.bind (runhex_at s hs) (ev_pos rfl (ev_pos rfl (ev_eq ?_))))
  simp
end Go.Proofs.YtjkhdiphcgpbfaaDoor.HexEv

/- The document's Sequence and Check, as printed, tell how far whole sequences of UTF-8 go. For every text of at most 2^62 bytes. -/
import Derived.Test.YtjkhdiphcgpbfaaDoorXC3
import Derived.Test.YtjkhdiphcgpbfaaDoorUtf
import Derived.Test.YtjkhdiphcgpbfaaDoorXV
namespace Go.Proofs.YtjkhdiphcgpbfaaDoor.SeqEv
open Go.RowKit Go.Proofs.YtjkhdiphcgpbfaaDoor.XC Go.Proofs.YtjkhdiphcgpbfaaDoor.XGC Go.Proofs.YtjkhdiphcgpbfaaDoor.XV Go.Proofs.YtjkhdiphcgpbfaaDoorW.PrintWords Go.Proofs.YtjkhdiphcgpbfaaDoorW.PrintLast Go.Proofs.YtjkhdiphcgpbfaaDoor.Utf
set_option linter.unusedVariables false
set_option linter.unusedSimpArgs false

/-- The row's first d bytes from the j-th on fit at place i. -/
def fitR (s : ByteArray) (i r : Int) : Nat → Nat → Prop
  | 0, _ => True
  | d + 1, j => (rd (rowL2 r) (1 + 2 * (j : Int)) ≤ bt s (i + j) ∧ bt s (i + j) ≤ rd (rowL2 r) (2 + 2 * (j : Int))) ∧ fitR s i r d (j + 1)
instance fitDec (s : ByteArray) (i r : Int) : ∀ d j, Decidable (fitR s i r d j)
  | 0, _ => by unfold fitR; infer_instance
  | d + 1, j => by unfold fitR; have := fitDec s i r d (j + 1); infer_instance
theorem rows_at (r : Int) (h0 : 0 ≤ r) (h1 : r < 9) : 1 ≤ rd (rowL2 r) 0 ∧ rd (rowL2 r) 0 ≤ 4 := by
  obtain ⟨y, rfl⟩ : ∃ x : Fin 9, (x.val : Int) = r := ⟨⟨r.toNat, by omega⟩, by simp; omega⟩
  have : ∀ y : Fin 9, 1 ≤ rd (rowL2 (y.val : Int)) 0 ∧ rd (rowL2 (y.val : Int)) 0 ≤ 4 := by decide +kernel
  exact this y
theorem fits_loop (s : ByteArray) (hs : s.size ≤ 4611686018427387904) (i r n : Int) (h0 : 0 ≤ i) (hr : 0 ≤ r) (hr9 : r < 9) (hn : n ≤ 4) (hi : i + n ≤ s.size) : ∀ d j : Nat, (j : Int) + d = n → Ev (fun k => rosterref01_fits.l0 k s i r n (j : Int)) (decide (fitR s i r d j))
  | 0, j, hj => by
    refine ev_round ?_
    simp only [rosterref01_fits.l0]
    exact ev_neg (by omega) (ev_eq (decide_eq_true (show fitR s i r 0 j from trivial)).symm)
  | d + 1, j, hj => by
    have ih := fits_loop s hs i r n h0 hr hr9 hn hi d (j + 1) (by omega)
    have hb := bt_range s (i + j)
    refine ev_round ?_
    simp only [rosterref01_fits.l0]
    rw [wrp_id (i + j) (by omega) (by omega), wrp_id (2 * (j : Int)) (by omega) (by omega), wrp_id (1 + 2 * (j : Int)) (by omega) (by omega), wrp_id (2 + 2 * (j : Int)) (by omega) (by omega), wrp_id (bt s (i + j)) (by omega) (by omega), wrp_id ((j : Int) + 1) (by omega) (by omega)]
    refine ev_pos (by omega) (ev_pos (by omega) (ev_pos (by omega) (ev_pos hr (ev_pos hr9 (ev_pos (by omega) (ev_pos (by omega) ?_))))))
    by_cases h1 : bt s (i + j) < rd (rowL2 r) (1 + 2 * (j : Int))
    · exact ev_pos h1 (ev_eq (decide_eq_false (fun h => by have := h.1.1; omega)).symm)
    · refine ev_neg h1 (ev_pos (by omega) (ev_pos (by omega) ?_))
      by_cases h2 : bt s (i + j) > rd (rowL2 r) (2 + 2 * (j : Int))
      · exact ev_pos h2 (ev_eq (decide_eq_false (fun h => by have := h.1.2; omega)).symm)
      · refine ev_neg h2 ?_
        have e : decide (fitR s i r (d + 1) j) = decide (fitR s i r d (j + 1)) := decide_eq_decide.2 ⟨fun h => h.2, fun h => ⟨⟨by omega, by omega⟩, h⟩⟩
        rw [e]
        simpa using ih
/-- Does the row fit at place i? -/
def fitP (s : ByteArray) (i r : Int) : Prop := i + rd (rowL2 r) 0 ≤ s.size ∧ fitR s i r (rd (rowL2 r) 0).toNat 0
instance (s : ByteArray) (i r : Int) : Decidable (fitP s i r) := by unfold fitP; infer_instance
theorem fits_ev (s : ByteArray) (hs : s.size ≤ 4611686018427387904) (i r : Int) (h0 : 0 ≤ i) (hi : i ≤ s.size) (hr : 0 ≤ r) (hr9 : r < 9) : Ev (fun k => rosterref01_fits.f k s i r) (decide (fitP s i r)) := by
  have hn := rows_at r hr hr9
  simp only [rosterref01_fits.f]
  rw [wrp_id (i + rd (rowL2 r) 0) (by omega) (by omega)]
  refine ev_pos hr (ev_pos hr9 (ev_pos (by decide) ?_))
  by_cases h : i + rd (rowL2 r) 0 > s.size
  · exact ev_pos h (ev_eq (decide_eq_false (fun z => by have := z.1; omega)).symm)
  · refine ev_neg h ?_
    have := fits_loop s hs i r (rd (rowL2 r) 0) h0 hr hr9 hn.2 (by omega) (rd (rowL2 r) 0).toNat 0 (by omega)
    have e : decide (fitP s i r) = decide (fitR s i r (rd (rowL2 r) 0).toNat 0) := decide_eq_decide.2 ⟨fun z => z.2, fun z => ⟨by omega, z⟩⟩
    rw [e]
    exact this
def seqR (s : ByteArray) (i : Int) : Nat → Nat → Int
  | 0, _ => 0
  | d + 1, r => if fitP s i (r : Int) then rd (rowL2 (r : Int)) 0 else seqR s i d (r + 1)
theorem seq_loop (s : ByteArray) (hs : s.size ≤ 4611686018427387904) (i : Int) (h0 : 0 ≤ i) (hi : i ≤ s.size) : ∀ d r : Nat, r + d = 9 → Ev (fun k => rosterref01_Sequence.l0 k s i (r : Int)) (seqR s i d r)
  | 0, r, hr => by
    refine ev_round ?_
    simp only [rosterref01_Sequence.l0]
    exact ev_neg (by omega) (Ev.now _)
  | d + 1, r, hr => by
    have ih := seq_loop s hs i h0 hi d (r + 1) (by omega)
    refine ev_round ?_
    simp only [rosterref01_Sequence.l0]
    rw [wrp_id ((r : Int) + 1) (by omega) (by omega)]
    refine ev_pos (by omega) (Ev.bind (fits_ev s hs i r h0 hi (by omega) (by omega)) ?_)
    by_cases h : fitP s i (r : Int)
    · refine ev_pos (decide_eq_true h) (ev_pos (by omega) (ev_pos (by decide) (ev_eq ?_)))
      rw [seqR, if_pos h]
    · refine ev_neg (by simpa using h) ?_
      rw [seqR, if_neg h]
      simpa using ih
section
variable (s : ByteArray) (i : Int)
theorem F0 : fitP s i ((0 : Nat) : Int) ↔ i + 1 ≤ s.size ∧ (0 ≤ bt s (i + (0 : Nat)) ∧ bt s (i + (0 : Nat)) ≤ 127) ∧ True := Iff.rfl
theorem F1 : fitP s i ((1 : Nat) : Int) ↔ i + 2 ≤ s.size ∧ (194 ≤ bt s (i + (0 : Nat)) ∧ bt s (i + (0 : Nat)) ≤ 223) ∧ (128 ≤ bt s (i + (1 : Nat)) ∧ bt s (i + (1 : Nat)) ≤ 191) ∧ True := Iff.rfl
theorem F2 : fitP s i ((2 : Nat) : Int) ↔ i + 3 ≤ s.size ∧ (224 ≤ bt s (i + (0 : Nat)) ∧ bt s (i + (0 : Nat)) ≤ 224) ∧ (160 ≤ bt s (i + (1 : Nat)) ∧ bt s (i + (1 : Nat)) ≤ 191) ∧ (128 ≤ bt s (i + (2 : Nat)) ∧ bt s (i + (2 : Nat)) ≤ 191) ∧ True := Iff.rfl
theorem F3 : fitP s i ((3 : Nat) : Int) ↔ i + 3 ≤ s.size ∧ (225 ≤ bt s (i + (0 : Nat)) ∧ bt s (i + (0 : Nat)) ≤ 236) ∧ (128 ≤ bt s (i + (1 : Nat)) ∧ bt s (i + (1 : Nat)) ≤ 191) ∧ (128 ≤ bt s (i + (2 : Nat)) ∧ bt s (i + (2 : Nat)) ≤ 191) ∧ True := Iff.rfl
theorem F4 : fitP s i ((4 : Nat) : Int) ↔ i + 3 ≤ s.size ∧ (237 ≤ bt s (i + (0 : Nat)) ∧ bt s (i + (0 : Nat)) ≤ 237) ∧ (128 ≤ bt s (i + (1 : Nat)) ∧ bt s (i + (1 : Nat)) ≤ 159) ∧ (128 ≤ bt s (i + (2 : Nat)) ∧ bt s (i + (2 : Nat)) ≤ 191) ∧ True := Iff.rfl
theorem F5 : fitP s i ((5 : Nat) : Int) ↔ i + 3 ≤ s.size ∧ (238 ≤ bt s (i + (0 : Nat)) ∧ bt s (i + (0 : Nat)) ≤ 239) ∧ (128 ≤ bt s (i + (1 : Nat)) ∧ bt s (i + (1 : Nat)) ≤ 191) ∧ (128 ≤ bt s (i + (2 : Nat)) ∧ bt s (i + (2 : Nat)) ≤ 191) ∧ True := Iff.rfl
theorem F6 : fitP s i ((6 : Nat) : Int) ↔ i + 4 ≤ s.size ∧ (240 ≤ bt s (i + (0 : Nat)) ∧ bt s (i + (0 : Nat)) ≤ 240) ∧ (144 ≤ bt s (i + (1 : Nat)) ∧ bt s (i + (1 : Nat)) ≤ 191) ∧ (128 ≤ bt s (i + (2 : Nat)) ∧ bt s (i + (2 : Nat)) ≤ 191) ∧ (128 ≤ bt s (i + (3 : Nat)) ∧ bt s (i + (3 : Nat)) ≤ 191) ∧ True := Iff.rfl
theorem F7 : fitP s i ((7 : Nat) : Int) ↔ i + 4 ≤ s.size ∧ (241 ≤ bt s (i + (0 : Nat)) ∧ bt s (i + (0 : Nat)) ≤ 243) ∧ (128 ≤ bt s (i + (1 : Nat)) ∧ bt s (i + (1 : Nat)) ≤ 191) ∧ (128 ≤ bt s (i + (2 : Nat)) ∧ bt s (i + (2 : Nat)) ≤ 191) ∧ (128 ≤ bt s (i + (3 : Nat)) ∧ bt s (i + (3 : Nat)) ≤ 191) ∧ True := Iff.rfl
theorem F8 : fitP s i ((8 : Nat) : Int) ↔ i + 4 ≤ s.size ∧ (244 ≤ bt s (i + (0 : Nat)) ∧ bt s (i + (0 : Nat)) ≤ 244) ∧ (128 ≤ bt s (i + (1 : Nat)) ∧ bt s (i + (1 : Nat)) ≤ 143) ∧ (128 ≤ bt s (i + (2 : Nat)) ∧ bt s (i + (2 : Nat)) ≤ 191) ∧ (128 ≤ bt s (i + (3 : Nat)) ∧ bt s (i + (3 : Nat)) ≤ 191) ∧ True := Iff.rfl
end
theorem seqR9 (s : ByteArray) (i : Int) : seqR s i 9 0 = if fitP s i ((0 : Nat) : Int) then 1 else if fitP s i ((1 : Nat) : Int) then 2 else if fitP s i ((2 : Nat) : Int) then 3 else if fitP s i ((3 : Nat) : Int) then 3 else if fitP s i ((4 : Nat) : Int) then 3 else if fitP s i ((5 : Nat) : Int) then 3 else if fitP s i ((6 : Nat) : Int) then 4 else if fitP s i ((7 : Nat) : Int) then 4 else if fitP s i ((8 : Nat) : Int) then 4 else 0 := rfl
theorem seqR_eq (s : ByteArray) (i : Nat) (hi : i < s.size) : seqR s (i : Int) 9 0 = (sq ((bytesOf s).drop i) : Int) := by
  have hl : ((bytesOf s).drop i).length = s.size - i := by rw [List.length_drop, bytesOf_length]
  have hd : ∀ j : Nat, ((bytesOf s).drop i).getD j 0 = bt s ((i : Int) + (j : Nat)) := by
    intro j
    rw [bt_byte, show ((i : Int) + (j : Nat)).toNat = i + j from by omega]
    simp [List.getD_eq_getElem?_getD]
  rw [sq_form _ (by omega), hl, hd 0, hd 1, hd 2, hd 3]
  have hb := bt_range s ((i : Int) + (0 : Nat))
  rw [seqR9]
  simp only [F0, F1, F2, F3, F4, F5, F6, F7, F8, and_true]
  generalize bt s ((i : Int) + (0 : Nat)) = b0 at *
  generalize bt s ((i : Int) + (1 : Nat)) = b1 at *
  generalize bt s ((i : Int) + (2 : Nat)) = b2 at *
  generalize bt s ((i : Int) + (3 : Nat)) = b3 at *
  clear hd hl
  have hc : b0 < 128 ∨ (128 ≤ b0 ∧ b0 < 194) ∨ (194 ≤ b0 ∧ b0 ≤ 223) ∨ b0 = 224 ∨ (225 ≤ b0 ∧ b0 ≤ 236) ∨ b0 = 237 ∨ (238 ≤ b0 ∧ b0 ≤ 239) ∨ b0 = 240 ∨ (241 ≤ b0 ∧ b0 ≤ 243) ∨ b0 = 244 ∨ 245 ≤ b0 := by omega
  have L1 : lo1 b0 = if b0 = 224 then 160 else if b0 = 240 then 144 else 128 := rfl
  have H1 : hi1 b0 = if b0 = 237 then 159 else if b0 = 244 then 143 else 191 := rfl
  simp only [← ite_both]
  rcases hc with h | h | h | h | h | h | h | h | h | h | h
  · (repeat (first | rw [if_neg (by omega)] | rw [if_pos (by omega)])); rfl
  · (repeat (first | rw [if_neg (by omega)] | rw [if_pos (by omega)])); rfl
  · have L : lo1 b0 = 128 := by rw [L1]; (repeat (first | rw [if_neg (by omega)] | rw [if_pos (by omega)]))
    have H : hi1 b0 = 191 := by rw [H1]; (repeat (first | rw [if_neg (by omega)] | rw [if_pos (by omega)]))
    rw [L, H]
    by_cases c : (i : Int) + 2 ≤ s.size ∧ (128 ≤ b1 ∧ b1 ≤ 191)
    · (repeat (first | rw [if_neg (by omega)] | rw [if_pos (by omega)])); rfl
    · (repeat (first | rw [if_neg (by omega)] | rw [if_pos (by omega)])); rfl
  · have L : lo1 b0 = 160 := by rw [L1]; (repeat (first | rw [if_neg (by omega)] | rw [if_pos (by omega)]))
    have H : hi1 b0 = 191 := by rw [H1]; (repeat (first | rw [if_neg (by omega)] | rw [if_pos (by omega)]))
    rw [L, H]
    by_cases c : (i : Int) + 3 ≤ s.size ∧ (160 ≤ b1 ∧ b1 ≤ 191) ∧ (128 ≤ b2 ∧ b2 ≤ 191)
    · (repeat (first | rw [if_neg (by omega)] | rw [if_pos (by omega)])); rfl
    · (repeat (first | rw [if_neg (by omega)] | rw [if_pos (by omega)])); rfl
  · have L : lo1 b0 = 128 := by rw [L1]; (repeat (first | rw [if_neg (by omega)] | rw [if_pos (by omega)]))
    have H : hi1 b0 = 191 := by rw [H1]; (repeat (first | rw [if_neg (by omega)] | rw [if_pos (by omega)]))
    rw [L, H]
    by_cases c : (i : Int) + 3 ≤ s.size ∧ (128 ≤ b1 ∧ b1 ≤ 191) ∧ (128 ≤ b2 ∧ b2 ≤ 191)
    · (repeat (first | rw [if_neg (by omega)] | rw [if_pos (by omega)])); rfl
    · (repeat (first | rw [if_neg (by omega)] | rw [if_pos (by omega)])); rfl
  · have L : lo1 b0 = 128 := by rw [L1]; (repeat (first | rw [if_neg (by omega)] | rw [if_pos (by omega)]))
    have H : hi1 b0 = 159 := by rw [H1]; (repeat (first | rw [if_neg (by omega)] | rw [if_pos (by omega)]))
    rw [L, H]
    by_cases c : (i : Int) + 3 ≤ s.size ∧ (128 ≤ b1 ∧ b1 ≤ 159) ∧ (128 ≤ b2 ∧ b2 ≤ 191)
    · (repeat (first | rw [if_neg (by omega)] | rw [if_pos (by omega)])); rfl
    · (repeat (first | rw [if_neg (by omega)] | rw [if_pos (by omega)])); rfl
  · have L : lo1 b0 = 128 := by rw [L1]; (repeat (first | rw [if_neg (by omega)] | rw [if_pos (by omega)]))
    have H : hi1 b0 = 191 := by rw [H1]; (repeat (first | rw [if_neg (by omega)] | rw [if_pos (by omega)]))
    rw [L, H]
    by_cases c : (i : Int) + 3 ≤ s.size ∧ (128 ≤ b1 ∧ b1 ≤ 191) ∧ (128 ≤ b2 ∧ b2 ≤ 191)
    · (repeat (first | rw [if_neg (by omega)] | rw [if_pos (by omega)])); rfl
    · (repeat (first | rw [if_neg (by omega)] | rw [if_pos (by omega)])); rfl
  · have L : lo1 b0 = 144 := by rw [L1]; (repeat (first | rw [if_neg (by omega)] | rw [if_pos (by omega)]))
    have H : hi1 b0 = 191 := by rw [H1]; (repeat (first | rw [if_neg (by omega)] | rw [if_pos (by omega)]))
    rw [L, H]
    by_cases c : (i : Int) + 4 ≤ s.size ∧ (144 ≤ b1 ∧ b1 ≤ 191) ∧ (128 ≤ b2 ∧ b2 ≤ 191) ∧ (128 ≤ b3 ∧ b3 ≤ 191)
    · (repeat (first | rw [if_neg (by omega)] | rw [if_pos (by omega)])); rfl
    · (repeat (first | rw [if_neg (by omega)] | rw [if_pos (by omega)])); rfl
  · have L : lo1 b0 = 128 := by rw [L1]; (repeat (first | rw [if_neg (by omega)] | rw [if_pos (by omega)]))
    have H : hi1 b0 = 191 := by rw [H1]; (repeat (first | rw [if_neg (by omega)] | rw [if_pos (by omega)]))
    rw [L, H]
    by_cases c : (i : Int) + 4 ≤ s.size ∧ (128 ≤ b1 ∧ b1 ≤ 191) ∧ (128 ≤ b2 ∧ b2 ≤ 191) ∧ (128 ≤ b3 ∧ b3 ≤ 191)
    · (repeat (first | rw [if_neg (by omega)] | rw [if_pos (by omega)])); rfl
    · (repeat (first | rw [if_neg (by omega)] | rw [if_pos (by omega)])); rfl
  · have L : lo1 b0 = 128 := by rw [L1]; (repeat (first | rw [if_neg (by omega)] | rw [if_pos (by omega)]))
    have H : hi1 b0 = 143 := by rw [H1]; (repeat (first | rw [if_neg (by omega)] | rw [if_pos (by omega)]))
    rw [L, H]
    by_cases c : (i : Int) + 4 ≤ s.size ∧ (128 ≤ b1 ∧ b1 ≤ 143) ∧ (128 ≤ b2 ∧ b2 ≤ 191) ∧ (128 ≤ b3 ∧ b3 ≤ 191)
    · (repeat (first | rw [if_neg (by omega)] | rw [if_pos (by omega)])); rfl
    · (repeat (first | rw [if_neg (by omega)] | rw [if_pos (by omega)])); rfl
  · (repeat (first | rw [if_neg (by omega)] | rw [if_pos (by omega)])); rfl
theorem seq_ev (s : ByteArray) (hs : s.size ≤ 4611686018427387904) (i : Nat) (hi : i < s.size) : Ev (fun k => rosterref01_Sequence.f k s (i : Int)) (sq ((bytesOf s).drop i) : Int) := by
  have := seq_loop s hs (i : Int) (by omega) (by omega) 9 0 rfl
  rw [seqR_eq s i hi] at this
  exact this
theorem check_loop (s : ByteArray) (hs : s.size ≤ 4611686018427387904) (d : Nat) : ∀ i : Nat, i + d = s.size →
    Ev (fun k => rosterref01_Check.l0 k s (i : Int)) (if i + vp ((bytesOf s).drop i) = s.size then 0 else 10, ((i + vp ((bytesOf s).drop i) : Nat) : Int)) := by
  induction d using Nat.strongRecOn with
  | _ d ih =>
    intro i hi
    have hl : (bytesOf s).length = s.size := bytesOf_length s
    refine ev_round ?_
    simp only [rosterref01_Check.l0]
    by_cases hlt : i < s.size
    · have hq := sq_le ((bytesOf s).drop i)
      rw [List.length_drop] at hq
      refine ev_pos (by omega) (Ev.bind (seq_ev s hs i hlt) ?_)
      by_cases h0 : sq ((bytesOf s).drop i) = 0
      · rw [vp_zero h0, h0, if_neg (by omega)]
        exact ev_pos rfl (ev_eq rfl)
      · have hv := vp_drop h0
        rw [hv]
        refine ev_neg (by omega) ?_
        rw [wrp_id _ (by omega) (by omega)]
        exact ih (d - sq ((bytesOf s).drop i)) (by omega) (i + sq ((bytesOf s).drop i)) (by omega)
    · obtain rfl : i = s.size := by omega
      rw [List.drop_of_length_le (by omega), vp_nil]
      exact ev_neg (by omega) (ev_eq (by rw [if_pos (by omega)]; rfl))
theorem check_ev (s : ByteArray) (hs : s.size ≤ 4611686018427387904) :
    Ev (fun k => rosterref01_Check.f k s) (if vp (bytesOf s) = s.size then 0 else 10, (vp (bytesOf s) : Int)) := by
  have h := check_loop s hs s.size 0 (by omega)
  simp only [List.drop_zero, Nat.zero_add] at h
  exact h
end Go.Proofs.YtjkhdiphcgpbfaaDoor.SeqEv

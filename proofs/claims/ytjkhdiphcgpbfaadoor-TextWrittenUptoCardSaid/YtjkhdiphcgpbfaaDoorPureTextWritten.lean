/- TextWritten, pure. -/
import Derived.Test.YtjkhdiphcgpbfaaDoorQTextWritten
import Derived.Test.YtjkhdiphcgpbfaaDoorB64Ev
namespace Go.Proofs.YtjkhdiphcgpbfaaDoor.Pure
open Go.RowKit Go.Proofs.YtjkhdiphcgpbfaaDoor.XB Go.Proofs.YtjkhdiphcgpbfaaDoor.XS Go.Proofs.YtjkhdiphcgpbfaaDoor.XGW Go.Proofs.YtjkhdiphcgpbfaaDoor.XV Go.Proofs.YtjkhdiphcgpbfaaDoor.B64Ev Go.Proofs.YtjkhdiphcgpbfaaDoorW.PrintWords Go.Proofs.YtjkhdiphcgpbfaaDoorW.PrintLast
set_option linter.unusedVariables false
set_option linter.unusedSimpArgs false
def hexd (n : Int) : Int := if n < 10 then 48 + n else 87 + n
def hexN : List Int → List Int
  | [] => []
  | b :: r => hexd (b / 16) :: hexd (b % 16) :: hexN r
theorem hex_len : ∀ l : List Int, (hexN l).length = 2 * l.length
  | [] => rfl
  | b :: r => by simp only [hexN, List.length_cons, hex_len r]; omega
theorem rd_hexL (x : Int) (h : 0 ≤ x) (h2 : x < 16) : rd hexL x = hexd x := by
  obtain ⟨y, rfl⟩ := fin_of x 16 h (by omega)
  have : ∀ y : Fin 16, rd hexL (y.val : Int) = hexd (y.val : Int) := by decide +kernel
  exact this y
theorem hex_loop (s : ByteArray) (hs : s.size ≤ 34359738368) : ∀ m i (acc : List Int), i + m = s.size → acc.length = 2 * i → Ev (fun k => text_Hex.l0 k s acc (s.size : Int) (i : Int)) (strOfNums (acc ++ hexN ((bytesOf s).drop i)))
  | 0, i, acc, hi, ha => by
    refine ev_round ?_
    simp only [text_Hex.l0]
    refine ev_neg (by omega) (ev_eq ?_)
    rw [List.drop_eq_nil_of_le (by rw [bytesOf_length]; omega)]
    simp [hexN]
  | m + 1, i, acc, hi, ha => by
    have ih := hex_loop s hs m (i + 1)
    have hb := bt_range s (i : Int)
    refine ev_round ?_
    simp only [text_Hex.l0, Option.bind_some]
    rw [wrp_id _ (by omega) (by omega), and15 _ hb.1 hb.2, rd_hexL _ (by omega) (by omega), rd_hexL _ (by omega) (by omega)]
    refine ev_pos (by omega) (ev_pos (by omega) (ev_pos (by omega) (ev_pos (by omega) (ev_pos (by omega) (ev_pos (by omega) (ev_pos (by omega) (ev_pos (by simp; omega) ?_)))))))
    rw [XS.drop_cons s i (by omega), hexN]
    have := ih (acc ++ [hexd (bt s (i : Int) / 16), hexd (bt s (i : Int) % 16)]) (by omega) (by simp; omega)
    simpa using this
theorem hex_at (s : ByteArray) (hs : s.size ≤ 34359738368) : Ev (fun k => text_Hex.f k s) (strOfNums (hexN (bytesOf s))) := by
  have := hex_loop s hs s.size 0 [] (by omega) (by simp)
  simp only [text_Hex.f]
  rw [wrp_id _ (by omega) (by omega)]
  refine ev_pos (by omega) (ev_pos (by omega) ?_)
  simpa using this
theorem hexd_ok (n : Int) (h : 0 ≤ n) (h2 : n < 16) : 43 ≤ hexd n ∧ hexd n ≤ 122 ∧ hexd n ≠ 58 ∧ hexd n ≠ 60 := by unfold hexd; split <;> omega
theorem hex_ok : ∀ l : List Int, Rng l → ∀ x ∈ hexN l, 43 ≤ x ∧ x ≤ 122 ∧ x ≠ 58 ∧ x ≠ 60
  | [], _ => by simp [hexN]
  | b :: r, h => by
    have hb := h b (by simp)
    have ih := hex_ok r (fun x hx => h x (by simp [hx]))
    intro x hx
    simp only [hexN, List.mem_cons] at hx
    rcases hx with rfl | rfl | hx
    · exact hexd_ok _ (by omega) (by omega)
    · exact hexd_ok _ (by omega) (by omega)
    · exact ih x hx
/-! ### Safe and Plain on lists -/
def okB (c : Int) : Bool := decide (¬ (c = 0 ∨ c = 10 ∨ c = 13 ∨ c > 127))
theorem safe_false : ∀ l : List Int, safeL false l = l.all okB
  | [] => rfl
  | c :: r => by
    rw [safeL, List.all_cons, safe_false r]
    by_cases h : c = 0 ∨ c = 10 ∨ c = 13 ∨ c > 127
    · rw [if_pos h]; simp [okB, h]
    · rw [if_neg h, if_neg (by simp)]; simp [okB, h]
theorem safe_x (l : List Int) : safeL true (120 :: l) = l.all okB := by
  rw [safeL, if_neg (by decide), if_neg (by simp), safe_false]
theorem safe_true (c : Int) (r : List Int) : safeL true (c :: r) = (okB c && !decide (c = 32 ∨ c = 58 ∨ c = 60) && r.all okB) := by
  rw [safeL, safe_false]
  by_cases h : c = 0 ∨ c = 10 ∨ c = 13 ∨ c > 127
  · rw [if_pos h]; simp [okB, h]
  · rw [if_neg h]
    by_cases h2 : c = 32 ∨ c = 58 ∨ c = 60
    · rw [if_pos ⟨rfl, h2⟩]; simp [h2]
    · rw [if_neg (fun z => h2 z.2)]; simp [okB, h, h2]
theorem safe_all (l : List Int) (h : safeL true l = true) : l.all okB = true := by
  cases l with
  | nil => rfl
  | cons c r =>
    rw [safe_true] at h
    simp only [Bool.and_eq_true] at h
    simp [h.1.1, h.2]
theorem safe_take (l : List Int) (n : Nat) (h : safeL true l = true) : safeL true (l.take n) = true := by
  cases l with
  | nil => simpa using h
  | cons c r =>
    cases n with
    | zero => rfl
    | succ n =>
      rw [safe_true] at h
      rw [List.take_succ_cons, safe_true]
      simp only [Bool.and_eq_true] at h ⊢
      exact ⟨h.1, List.all_eq_true.2 fun x hx => List.all_eq_true.1 h.2 x (List.mem_of_mem_take hx)⟩
theorem safe_letters (l : List Int) (h : ∀ x ∈ l, 43 ≤ x ∧ x ≤ 122 ∧ x ≠ 58 ∧ x ≠ 60) : safeL true l = true := by
  have ok : ∀ x ∈ l, okB x = true := fun x hx => by have := h x hx; unfold okB; exact decide_eq_true (by omega)
  cases l with
  | nil => rfl
  | cons c r =>
    rw [safe_true]
    have hc := h c (by simp)
    rw [ok c (by simp), List.all_eq_true.2 (fun x hx => ok x (by simp [hx])), decide_eq_false (by omega)]
    rfl
theorem safe_at (s : ByteArray) (hs : s.size ≤ 4611686018427387904) : text_Safe.f s = some (safeL true (bytesOf s)) := by unfold text_Safe.f; rw [if_pos hs]
/-- Plain: safe, and no space at the end. -/
theorem empty_iff (u : ByteArray) : u.toList = ([] : List UInt8) ↔ u.size = 0 := by
  rw [toList_data]
  constructor
  · intro h; rw [← data_length, h]; rfl
  · intro h; rw [← data_length] at h; exact List.length_eq_zero_iff.1 h
theorem plain_at (s : ByteArray) (hs : s.size ≤ 4611686018427387904) : text_Plain.f s = some (safeL true (bytesOf s) && (decide (s.size = 0) || bt s ((s.size : Int) - 1) != 32)) := by
  unfold text_Plain.f
  rw [safe_at s hs, Option.bind_some, wrp_id _ (by omega) (by omega)]
  by_cases h : safeL true (bytesOf s) = true
  · rw [if_pos h, h]
    by_cases h0 : s.size = 0
    · rw [if_pos ((empty_iff s).2 h0)]; simp [h0]
    · rw [if_neg (fun z => h0 ((empty_iff s).1 z)), if_pos (by omega), if_pos (by omega)]; simp [h0]
  · rw [if_neg h, Bool.eq_false_iff.2 h]; rfl
theorem plain_letters (l : List Int) (hl : l.length ≤ 4611686018427387904) (h : ∀ x ∈ l, 43 ≤ x ∧ x ≤ 122 ∧ x ≠ 58 ∧ x ≠ 60) : text_Plain.f (strOfNums l) = some true := by
  have hr : ∀ x ∈ l, 0 ≤ x ∧ x ≤ 255 := fun x hx => by have := h x hx; omega
  have hb := bytesOf_nums l hr
  rw [plain_at _ (by rw [strOfNums_size]; exact hl), hb, safe_letters l h, strOfNums_size]
  by_cases h0 : l.length = 0
  · simp [h0]
  · have hlt : l.length - 1 < l.length := by omega
    have := h _ (List.getElem_mem hlt)
    have e : bt (strOfNums l) ((l.length : Int) - 1) = l[l.length - 1] := by
      rw [bt_byte, hb, show ((l.length : Int) - 1).toNat = l.length - 1 from by omega]
      simp [List.getD_eq_getElem?_getD, List.getElem?_eq_getElem hlt]
    rw [e]
    have h32 : l[l.length - 1] ≠ 32 := by omega
    simp [h32]
theorem bx : bytesOf (⟨#[120]⟩ : ByteArray) = [120] := by decide +kernel
theorem bsp : bytesOf (⟨#[32]⟩ : ByteArray) = [32] := by decide +kernel
theorem sx : (⟨#[120]⟩ : ByteArray).size = 1 := rfl
theorem ssp : (⟨#[32]⟩ : ByteArray).size = 1 := rfl
theorem TextWritten : QTextWritten.Pure := by
  intro s a c hs ha hc hk
  have hsz : s.size ≤ 1048576 := by omega
  have hcr : 0 ≤ c ∧ c ≤ 255 := by
    have h2 : IntKind.u8.min ≤ c ∧ c ≤ IntKind.u8.max := by simpa [Lit.wf] using hc
    exact h2
  refine Ev.rounds (g := fun k => rosterlaw01_TextWritten.f k s a c) ?_
  have hl := bytesOf_length s
  have hr : Rng (bytesOf s) := bytesOf_range s
  have bl := b64_le (bytesOf s)
  have xl := hex_len (bytesOf s)
  simp only [rosterlaw01_TextWritten.f]
  refine Ev.bind (base64_at s (by omega)) ?_
  rw [plain_letters _ (by omega) (b64_ok _ hr)]
  refine ev_some (ev_pos rfl (Ev.bind (hex_at s (by omega)) ?_))
  rw [plain_letters _ (by omega) (hex_ok _ hr)]
  refine ev_some (ev_round ?_)
  simp only [rosterlaw01_TextWritten.j0]
  refine ev_neg (by decide) ?_
  rw [safe_at s (by omega), plain_at s (by omega)]
  simp only [Option.bind_some]
  generalize hS : safeL true (bytesOf s) = S at *
  have stage1 : Ev (fun k => rosterlaw01_TextWritten.j1 k s a c S false) true := by
    refine ev_round ?_
    simp only [rosterlaw01_TextWritten.j1]
    refine ev_neg (by decide) (ev_pos (by omega) (ev_pos (by rw [ByteArray.size_append, sx]; omega) ?_))
    have z1 : (((⟨#[120]⟩ : ByteArray) ++ s) ++ (⟨#[32]⟩ : ByteArray)).size = s.size + 2 := by rw [ByteArray.size_append, ByteArray.size_append, sx, ssp]; omega
    have z2 : ((⟨#[120]⟩ : ByteArray) ++ s).size = s.size + 1 := by rw [ByteArray.size_append, sx]; omega
    rw [safe_at _ (by omega), safe_at _ (by omega), plain_at _ (by omega), bytesOf_append, bytesOf_append, bx, bsp, List.singleton_append, List.cons_append, safe_x, safe_x]
    simp only [Option.bind_some, List.all_append]
    have e1 : ((bytesOf s).all okB && [(32 : Int)].all okB) = (bytesOf s).all okB := by rw [show [(32 : Int)].all okB = true from by decide, Bool.and_true]
    rw [e1]
    refine ev_neg (by simp) ?_
    have e2 : bt (((⟨#[120]⟩ : ByteArray) ++ s) ++ (⟨#[32]⟩ : ByteArray)) (((((⟨#[120]⟩ : ByteArray) ++ s) ++ (⟨#[32]⟩ : ByteArray)).size : Int) - 1) = 32 := by
      rw [bt_byte, bytesOf_append, bytesOf_append, bx, bsp, z1, show (((s.size + 2 : Nat) : Int) - 1).toNat = s.size + 1 from by omega]
      rw [List.getD_eq_getElem?_getD, List.getElem?_append_right (by simp [hl])]
      simp [hl]
    rw [e2, z1]
    refine ev_round ?_
    simp only [rosterlaw01_TextWritten.j2]
    refine ev_neg (by simp) ?_
    by_cases h0 : a < 0
    · refine ev_pos h0 (ev_round ?_)
      simp only [rosterlaw01_TextWritten.j3]
      exact ev_pos trivial (Ev.now _)
    · refine ev_neg h0 (ev_round ?_)
      simp only [rosterlaw01_TextWritten.j3]
      by_cases h1 : a > s.size
      · exact ev_pos (decide_eq_true h1) (Ev.now _)
      · refine ev_neg (by simpa using h1) ?_
        obtain ⟨n, rfl⟩ : ∃ n : Nat, a = n := ⟨a.toNat, by omega⟩
        have hn : n ≤ s.size := by omega
        simp only [Int.toNat_natCast]
        have ze : (s.extract 0 n).size = n := by rw [ByteArray.size_extract]; omega
        have zr : (s.extract n s.size).size = s.size - n := by rw [ByteArray.size_extract]; omega
        have be : bytesOf (s.extract 0 n) = (bytesOf s).take n := by rw [bytesOf_extract, List.drop_zero]
        have br : bytesOf (s.extract n s.size) = (bytesOf s).drop n := by rw [bytesOf_extract, List.take_of_length_le (by omega)]
        have bc : bytesOf (strOfNums [c]) = [c] := bytesOf_nums _ (by simp [hcr])
        have zc : (strOfNums [c]).size = 1 := by rw [strOfNums_size]; rfl
        have stage4 : Ev (fun k => rosterlaw01_TextWritten.j4 k s (n : Int) c false) true := by
          refine ev_round ?_
          simp only [rosterlaw01_TextWritten.j4]
          refine ev_neg (by decide) ?_
          have stage5 : ∀ b : Bool, (b = !okB c) → Ev (fun k => rosterlaw01_TextWritten.j5 k s (n : Int) c b) true := by
            intro b hb
            refine ev_round ?_
            simp only [rosterlaw01_TextWritten.j5, Option.bind_some, Int.toNat_natCast]
            refine ev_pos (by omega) (ev_pos (by omega) (ev_pos (by omega) (ev_pos (by rw [ByteArray.size_append, sx]; omega) ?_)))
            rw [safe_at _ (by rw [ByteArray.size_append, ByteArray.size_append, sx]; omega), safe_at _ (by rw [ByteArray.size_append, ByteArray.size_append]; omega), safe_at _ (by rw [ByteArray.size_append, sx]; omega)]
            simp only [Option.bind_some, bytesOf_append, bx, be, br, bc, List.singleton_append, List.cons_append, safe_x, List.all_append]
            by_cases hk2 : okB c = true
            · rw [hk2] at hb
              refine ev_neg (by rw [hb]; decide) (ev_eq ?_)
              simp [hk2]
            · rw [Bool.eq_false_iff.2 hk2] at hb
              refine ev_pos (by rw [hb]; rfl) (ev_neg (by simp [hk2]) (ev_pos (by omega) (ev_pos (by rw [ByteArray.size_append]; omega) (ev_eq ?_))))
              have : safeL true ((bytesOf s).take n ++ [c] ++ (bytesOf s).drop n) = false := by
                rw [Bool.eq_false_iff]
                intro h
                have := safe_all _ h
                simp [hk2] at this
              rw [this]
              rfl
          have hb : (!okB c) = decide (c = 0 ∨ c = 10 ∨ c = 13 ∨ c > 127) := by unfold okB; rw [decide_not, Bool.not_not]
          by_cases q0 : c = 0
          · exact ev_pos q0 (stage5 true (by rw [hb]; simp [q0]))
          · refine ev_neg q0 ?_
            by_cases q1 : c = 10
            · exact ev_pos q1 (stage5 true (by rw [hb]; simp [q1]))
            · refine ev_neg q1 ?_
              by_cases q2 : c = 13
              · exact ev_pos q2 (stage5 true (by rw [hb]; simp [q2]))
              · exact ev_neg q2 (stage5 _ (by rw [hb]; simp [q0, q1, q2]))
        by_cases hS1 : S = true
        · refine ev_pos hS1 (ev_pos (by omega) (ev_pos (by omega) ?_))
          rw [safe_at _ (by omega), be, safe_take _ _ (hS.trans hS1)]
          simp only [Option.bind_some]
          exact stage4
        · exact ev_neg hS1 stage4
  by_cases hp : (S && (decide (s.size = 0) || bt s ((s.size : Int) - 1) != 32)) = true
  · have hS1 : S = true := by simp only [Bool.and_eq_true] at hp; exact hp.1
    refine ev_pos hp ?_
    rw [show (!S) = false from by rw [hS1]; rfl]
    exact stage1
  · exact ev_neg hp stage1
end Go.Proofs.YtjkhdiphcgpbfaaDoor.Pure

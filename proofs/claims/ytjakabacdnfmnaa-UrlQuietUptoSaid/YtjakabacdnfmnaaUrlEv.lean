/- Escape and Unescape, as printed, on lists of byte numbers; Unescape of Escape. For every text of at most 1048576 bytes. -/
import Derived.Test.YtjakabacdnfmnaaXU2
import Derived.Test.YtjakabacdnfmnaaXU3
import Derived.Test.YtjakabacdnfmnaaXV
namespace Go.Proofs.Ytjakabacdnfmnaa.UrlEv
open Go.RowKit Go.Proofs.Ytjakabacdnfmnaa.XU Go.Proofs.Ytjakabacdnfmnaa.XV Go.Proofs.Ytjakabacdnfmnaa.UrlD Go.Proofs.Ytjakabacdnfmnaa.UrlW Go.Proofs.YtjakabacdnfmnaaW.PrintWords Go.Proofs.YtjakabacdnfmnaaW.PrintLast
set_option linter.unusedVariables false
set_option linter.unusedSimpArgs false
theorem drop_cons (s : ByteArray) (i : Nat) (h : i < s.size) : (bytesOf s).drop i = bt s (i : Int) :: (bytesOf s).drop (i + 1) := by
  have hl : i < (bytesOf s).length := by rw [bytesOf_length]; exact h
  rw [bt_byte, List.drop_eq_getElem_cons hl]
  simp [List.getD_eq_getElem?_getD, List.getElem?_eq_getElem hl]
theorem drop_end (s : ByteArray) (i : Nat) (h : s.size ≤ i) : (bytesOf s).drop i = [] := List.drop_eq_nil_of_le (by rw [bytesOf_length]; exact h)
theorem fin_of (n : Int) (m : Nat) (h : 0 ≤ n) (h2 : n < m) : ∃ x : Fin m, (x.val : Int) = n := ⟨⟨n.toNat, by omega⟩, by simp; omega⟩
theorem among_fin : ∀ c : Fin 256, rosterref18_among.f 20 (c.val : Int) (⟨#[45, 46, 95, 126, 33, 36, 38, 39, 40, 41, 42, 43, 59, 61, 58, 64, 47]⟩ : ByteArray) = some (markB (c.val : Int)) := by decide +kernel
theorem letter_at (c : Int) : rosterref18_letter.f c = some (letB c) := by
  unfold rosterref18_letter.f letB
  by_cases h1 : 97 ≤ c <;> by_cases h2 : c ≤ 122 <;> by_cases h3 : 65 ≤ c <;> by_cases h4 : c ≤ 90 <;> simp [ge_iff_le, h1, h2, h3, h4]
theorem digit_at (c : Int) : rosterref18_digit.f c = some (digB c) := by
  unfold rosterref18_digit.f digB
  by_cases h1 : 48 ≤ c <;> by_cases h2 : c ≤ 57 <;> simp [ge_iff_le, h1, h2]
theorem quiet_ev (c : Int) (h0 : 0 ≤ c) (h1 : c ≤ 255) : Ev (fun k => rosterref18_quiet.f k c) (qB c) := by
  simp only [rosterref18_quiet.f]
  rw [letter_at, digit_at]
  simp only [Option.bind_some]
  unfold qB
  cases letB c with
  | true => exact ev_pos rfl (ev_eq rfl)
  | false =>
    refine ev_neg (by simp) ?_
    cases digB c with
    | true => exact ev_pos rfl (ev_eq rfl)
    | false =>
      refine ev_neg (by simp) ?_
      refine Ev.bind (a := markB c) ?_ (ev_eq rfl)
      obtain ⟨x, rfl⟩ := fin_of c 256 h0 (by omega)
      exact Ev.of (fun k => rosterref18_among.mono _ _ k) (among_fin x)
theorem hexw_fin : ∀ c : Fin 256, rosterref18_hexWorth.f 2 (c.val : Int) = some (nib (c.val : Int)) := by decide +kernel
theorem hexw_ev (c : Int) (h0 : 0 ≤ c) (h1 : c ≤ 255) : Ev (fun k => rosterref18_hexWorth.f k c) (nib c) := by
  obtain ⟨x, rfl⟩ := fin_of c 256 h0 (by omega)
  exact Ev.of (fun k => rosterref18_hexWorth.mono _ k) (hexw_fin x)
theorem lawquiet_fin : ∀ c : Fin 256, rosterlaw18_quiet.f (c.val : Int) = some (qB (c.val : Int)) := by decide +kernel
theorem lawquiet (c : Int) (h0 : 0 ≤ c) (h1 : c ≤ 255) : rosterlaw18_quiet.f c = some (qB c) := by
  obtain ⟨x, rfl⟩ := fin_of c 256 h0 (by omega)
  exact lawquiet_fin x
theorem bt_digits (x : Int) (h : 0 ≤ x) (h2 : x < 16) : bt (⟨#[48, 49, 50, 51, 52, 53, 54, 55, 56, 57, 65, 66, 67, 68, 69, 70]⟩ : ByteArray) x = UrlW.up x := by
  obtain ⟨y, rfl⟩ := fin_of x 16 h (by omega)
  have : ∀ y : Fin 16, bt (⟨#[48, 49, 50, 51, 52, 53, 54, 55, 56, 57, 65, 66, 67, 68, 69, 70]⟩ : ByteArray) (y.val : Int) = UrlW.up (y.val : Int) := by decide +kernel
  exact this y
theorem escI_cons (c : Int) (l : List Int) : escI (c :: l) = e1 c ++ escI l := rfl
theorem resc_loop (s : ByteArray) (hs : s.size ≤ 1048576) : ∀ m i (acc : List Int), i + m = s.size → acc.length ≤ 3 * i → Ev (fun k => rosterref18_escaped.l0 k s false acc (i : Int)) (strOfNums (acc ++ escI ((bytesOf s).drop i)))
  | 0, i, acc, hi, ha => by
    refine ev_round ?_
    simp only [rosterref18_escaped.l0]
    refine ev_neg (by omega) (ev_eq ?_)
    rw [drop_end s i (by omega)]
    simp [escI]
  | m + 1, i, acc, hi, ha => by
    have ih := resc_loop s hs m (i + 1)
    have hb := bt_range s (i : Int)
    refine ev_round ?_
    simp only [rosterref18_escaped.l0, Option.bind_some]
    rw [wrp_id _ (by omega) (by omega), Int.tdiv_eq_ediv_of_nonneg hb.1, Int.tmod_eq_emod_of_nonneg hb.1, show bt s (i : Int) / 16 % 256 = bt s (i : Int) / 16 by omega, bt_digits _ (by omega) (by omega), bt_digits _ (by omega) (by omega)]
    refine ev_pos (by omega) (ev_pos (by omega) (Ev.bind (quiet_ev _ hb.1 hb.2) ?_))
    rw [drop_cons s i (by omega), escI_cons]
    cases hq : qB (bt s (i : Int)) with
    | true =>
      refine ev_pos rfl (ev_pos (by omega) ?_)
      have := ih (acc ++ [bt s (i : Int)]) (by omega) (by simp; omega)
      rw [show e1 (bt s (i : Int)) = [bt s (i : Int)] by unfold e1; rw [if_pos hq]]
      simpa using this
    | false =>
      refine ev_neg (by simp) (ev_neg (by simp) (ev_pos (by omega) (ev_pos (by omega) (ev_pos (by omega) (ev_pos (by omega) (ev_pos (by simp; omega) ?_))))))
      have := ih (acc ++ [37, UrlW.up (bt s (i : Int) / 16), UrlW.up (bt s (i : Int) % 16)]) (by omega) (by simp; omega)
      rw [show e1 (bt s (i : Int)) = [37, UrlW.up (bt s (i : Int) / 16), UrlW.up (bt s (i : Int) % 16)] by unfold e1; rw [hq]; rfl]
      simpa using this
theorem resc_at (s : ByteArray) (hs : s.size ≤ 1048576) : Ev (fun k => rosterref18_Escape.f k s) (strOfNums (escI (bytesOf s))) := by
  simp only [rosterref18_Escape.f, rosterref18_escaped.f]
  refine Ev.bind (a := strOfNums (escI (bytesOf s))) ?_ (ev_eq rfl)
  simpa using resc_loop s hs s.size 0 [] (by omega) (by simp)
theorem esc_at (s : ByteArray) (hs : s.size ≤ 1048576) : url_Escape.f s = some (strOfNums (escI (bytesOf s))) := by
  unfold url_Escape.f url_escaped.f
  rw [if_pos ⟨rfl, by omega⟩]
  rfl
def outp (l : List Int) (r : List Int × Option Nat) : ByteArray × Int × Int := match r.2 with
  | none => (strOfNums (l ++ r.1), 0, 0)
  | some p => (⟨#[]⟩, 182, (p : Int))
theorem outp_cons (l m : List Int) (x : Int) (o : Option Nat) : outp (l ++ [x]) (m, o) = outp l (x :: m, o) := by
  unfold outp
  cases o with
  | none => simp
  | some p => rfl
theorem nib_ge (c : Int) : -1 ≤ nib c := by
  unfold nib digB
  split
  · rename_i h; simp at h; omega
  · split
    · omega
    · split <;> omega
theorem rune_loop (s : ByteArray) (hs : s.size ≤ 1048576) : ∀ m i (acc : List Int), s.size - i ≤ m → i ≤ s.size → acc.length ≤ i → Ev (fun k => rosterref18_Unescape.l0 k s acc (i : Int)) (outp acc (unx ((bytesOf s).drop i) i)) := by
  intro m
  induction m with
  | zero =>
    intro i acc hm hi ha
    refine ev_round ?_
    simp only [rosterref18_Unescape.l0]
    refine ev_neg (by omega) (ev_eq ?_)
    rw [drop_end s i (by omega)]
    simp [unx, outp]
  | succ m ih =>
    intro i acc hm hi ha
    by_cases hin : i < s.size
    · have hb := bt_range s (i : Int)
      have hw1 : wrap64 ((i : Int) + 1) = ((i + 1 : Nat) : Int) := by rw [wrp_id _ (by omega) (by omega)]; rfl
      have hw2 : wrap64 ((i : Int) + 2) = ((i + 2 : Nat) : Int) := by rw [wrp_id _ (by omega) (by omega)]; rfl
      have hw3 : wrap64 ((i : Int) + 3) = ((i + 3 : Nat) : Int) := by rw [wrp_id _ (by omega) (by omega)]; rfl
      refine ev_round ?_
      simp only [rosterref18_Unescape.l0, hw1, hw2]
      refine ev_pos (by omega) (ev_pos (by omega) ?_)
      by_cases hc : bt s (i : Int) = 37
      · refine ev_pos hc ?_
        by_cases h2 : i + 2 < s.size
        · have hb1 := bt_range s ((i + 1 : Nat) : Int)
          have hb2 := bt_range s ((i + 2 : Nat) : Int)
          refine ev_neg (by omega) (ev_pos (by omega) (ev_pos (by omega) (Ev.bind (hexw_ev _ hb1.1 hb1.2) ?_)))
          rw [drop_cons s i hin, hc, drop_cons s (i + 1) (by omega), drop_cons s (i + 1 + 1) (by omega)]
          have no : ∀ b : Bool, b = true → Ev (fun k => rosterref18_Unescape.j1 k s acc (i : Int) b) (outp acc ([], some i)) := fun b hb => by
            subst hb
            refine ev_round ?_
            simp only [rosterref18_Unescape.j1]
            exact ev_pos trivial (ev_eq rfl)
          by_cases ha1 : nib (bt s ((i + 1 : Nat) : Int)) < 0
          · refine ev_pos ha1 ?_
            rw [unx_no _ _ _ _ (.inl ha1)]
            exact no true rfl
          · refine ev_neg ha1 (ev_pos (by omega) (ev_pos (by omega) (Ev.bind (hexw_ev _ hb2.1 hb2.2) ?_)))
            by_cases hb3 : nib (bt s ((i + 2 : Nat) : Int)) < 0
            · rw [unx_no _ _ _ _ (.inr hb3)]
              exact no _ (decide_eq_true hb3)
            · rw [unx_hex _ _ _ _ ha1 hb3, decide_eq_false hb3]
              have l1 := nib_le (bt s ((i + 1 : Nat) : Int))
              have l2 := nib_le (bt s ((i + 2 : Nat) : Int))
              refine ev_round ?_
              simp only [rosterref18_Unescape.j1, hw1, hw2, hw3]
              refine ev_neg (by simp) (ev_pos (by omega) (ev_pos (by omega) (Ev.bind (hexw_ev _ hb1.1 hb1.2) (ev_pos (by omega) (ev_pos (by omega) (Ev.bind (hexw_ev _ hb2.1 hb2.2) (ev_pos (by omega) ?_)))))))
              rw [wrp_id (16 * _) (by omega) (by omega), wrp_id _ (by omega) (by omega), Int.emod_eq_of_lt (by omega) (by omega), ← outp_cons]
              exact ih (i + 3) _ (by omega) (by omega) (by simp; omega)
        · refine ev_pos (by omega) ?_
          rw [drop_cons s i hin, hc, unx_short _ _ (by rw [List.length_drop, bytesOf_length]; omega)]
          refine ev_round ?_
          simp only [rosterref18_Unescape.j1]
          exact ev_pos trivial (ev_eq rfl)
      · refine ev_neg hc ?_
        by_cases h33 : bt s (i : Int) < 33
        · refine ev_pos h33 (ev_eq ?_)
          rw [drop_cons s i hin, unx_bad _ _ _ hc (.inl h33)]
          rfl
        · refine ev_neg h33 ?_
          by_cases h126 : 126 < bt s (i : Int)
          · refine ev_pos h126 (ev_eq ?_)
            rw [drop_cons s i hin, unx_bad _ _ _ hc (.inr h126)]
            rfl
          · refine ev_neg (by omega) (ev_pos (by omega) ?_)
            rw [drop_cons s i hin, unx_plain _ _ _ hc (by omega) (by omega), ← outp_cons]
            exact ih (i + 1) _ (by omega) (by omega) (by simp; omega)
    · refine ev_round ?_
      simp only [rosterref18_Unescape.l0]
      refine ev_neg (by omega) (ev_eq ?_)
      rw [drop_end s i (by omega)]
      simp [unx, outp]
theorem rune_at (s : ByteArray) (hs : s.size ≤ 1048576) : Ev (fun k => rosterref18_Unescape.f k s) (unR (bytesOf s)) := by
  simp only [rosterref18_Unescape.f]
  have := rune_loop s hs s.size 0 [] (by omega) (by omega) (by simp)
  have e : outp [] (unx (bytesOf s) 0) = unR (bytesOf s) := by unfold outp unR; cases (unx (bytesOf s) 0).2 <;> simp
  rw [← e]
  rw [List.drop_zero] at this
  exact this
theorem une_at (s : ByteArray) (hs : s.size ≤ 140737488355327) : url_Unescape.f s = some (unR (bytesOf s)) := by
  unfold url_Unescape.f
  rw [if_pos hs]
/-! ### Unescape of Escape -/
theorem quiet_fin : ∀ c : Fin 256, qB (c.val : Int) = true → (c.val : Int) ≠ 37 ∧ 33 ≤ (c.val : Int) ∧ (c.val : Int) ≤ 126 := by decide +kernel
theorem up_fin : ∀ d : Fin 16, nib (UrlW.up (d.val : Int)) = (d.val : Int) ∧ qB (UrlW.up (d.val : Int)) = true := by decide +kernel
theorem nib_up (d : Int) (h0 : 0 ≤ d) (h1 : d < 16) : nib (UrlW.up d) = d ∧ qB (UrlW.up d) = true := by
  obtain ⟨x, rfl⟩ := fin_of d 16 h0 (by omega)
  exact up_fin x
theorem unx_esc : ∀ (l : List Int) (p : Nat), (∀ x ∈ l, 0 ≤ x ∧ x ≤ 255) → unx (escI l) p = (l, none)
  | [], p, _ => by unfold escI; simp [unx]
  | c :: l, p, h => by
    have hc := h c (by simp)
    have ih := fun p => unx_esc l p (fun x hx => h x (by simp [hx]))
    rw [escI_cons]
    cases hq : qB c with
    | true =>
      obtain ⟨x, rfl⟩ := fin_of c 256 hc.1 (by omega)
      obtain ⟨q1, q2, q3⟩ := quiet_fin x hq
      rw [show e1 (x.val : Int) = [(x.val : Int)] by unfold e1; rw [if_pos hq], List.singleton_append, unx_plain _ _ _ q1 q2 q3, ih]
    | false =>
      have n1 := (nib_up (c / 16) (by omega) (by omega)).1
      have n2 := (nib_up (c % 16) (by omega) (by omega)).1
      rw [show e1 c = [37, UrlW.up (c / 16), UrlW.up (c % 16)] by unfold e1; rw [hq]; rfl]
      simp only [List.cons_append, List.nil_append]
      rw [unx_hex _ _ _ _ (by omega) (by omega), n1, n2, ih, show 16 * (c / 16) + c % 16 = c by omega]
theorem esc_quiet (l : List Int) (h : ∀ x ∈ l, 0 ≤ x ∧ x ≤ 255) : ∀ x ∈ escI l, qB x = true ∨ x = 37 := by
  intro x hx
  unfold escI at hx
  obtain ⟨l', hl', hx⟩ := List.mem_flatten.1 hx
  obtain ⟨c, hc, rfl⟩ := List.mem_map.1 hl'
  have hc := h c hc
  unfold e1 at hx
  split at hx
  · rename_i hq
    rw [List.mem_singleton] at hx; subst hx; exact .inl hq
  · simp only [List.mem_cons, List.not_mem_nil, or_false] at hx
    rcases hx with rfl | rfl | rfl
    · exact .inr rfl
    · exact .inl (nib_up _ (by omega) (by omega)).2
    · exact .inl (nib_up _ (by omega) (by omega)).2
theorem e1_ge (c : Int) : 1 ≤ (e1 c).length ∧ ((e1 c).length = 1 → e1 c = [c]) := by
  unfold e1
  split <;> simp
theorem escI_ge : ∀ l : List Int, l.length ≤ (escI l).length ∧ ((escI l).length = l.length → escI l = l)
  | [] => by simp [escI]
  | c :: l => by
    obtain ⟨h1, h2⟩ := escI_ge l
    obtain ⟨h3, h4⟩ := e1_ge c
    rw [escI_cons, List.length_append, List.length_cons]
    refine ⟨by omega, fun h => ?_⟩
    rw [h4 (by omega), h2 (by omega)]
    rfl
theorem e1_count (c : Int) : ((e1 c).length : Int) = if qB c = true then 1 else 3 := by
  unfold e1
  split <;> simp
theorem ql1_loop (s t : ByteArray) (n : Int) (b : Bool) (ht : t.size ≤ 3145728) (hq : ∀ x ∈ bytesOf t, qB x = true ∨ x = 37) (hn : (t.size : Int) = n) (hb : ((t.toList == s.toList) == (n == (s.size : Int))) = b) : ∀ m i, i + m = t.size → Ev (fun k => rosterlaw18_UrlQuiet.l1 k s t n (i : Int)) b
  | 0, i, hi => by
    refine ev_round ?_
    simp only [rosterlaw18_UrlQuiet.l1]
    exact ev_neg (by omega) (ev_pos hn (ev_eq hb))
  | m + 1, i, hi => by
    have ih := ql1_loop s t n b ht hq hn hb m (i + 1) (by omega)
    have hr := bt_range t (i : Int)
    have hm : bt t (i : Int) ∈ bytesOf t := by
      have := drop_cons t i (by omega)
      exact List.mem_of_mem_drop (i := i) (by rw [this]; simp)
    refine ev_round ?_
    simp only [rosterlaw18_UrlQuiet.l1]
    rw [lawquiet _ hr.1 hr.2, wrp_id _ (by omega) (by omega)]
    simp only [Option.bind_some]
    refine ev_pos (by omega) (ev_pos (by omega) ?_)
    cases hqb : qB (bt t (i : Int)) with
    | true => exact ev_pos rfl ih
    | false =>
      rcases hq _ hm with h | h
      · rw [hqb] at h; cases h
      · exact ev_neg (by simp) (ev_pos h ih)
theorem ql0_loop (s t : ByteArray) (b : Bool) (hs : s.size ≤ 1048576) (hl : ∀ n : Int, n = ((escI (bytesOf s)).length : Int) → Ev (fun k => rosterlaw18_UrlQuiet.l1 k s t n 0) b) : ∀ m i (n : Int), i + m = s.size → 0 ≤ n → n ≤ 3 * i → n + ((escI ((bytesOf s).drop i)).length : Int) = ((escI (bytesOf s)).length : Int) → Ev (fun k => rosterlaw18_UrlQuiet.l0 k s t n (i : Int)) b
  | 0, i, n, hi, h0, h3, hn => by
    refine ev_round ?_
    simp only [rosterlaw18_UrlQuiet.l0]
    refine ev_neg (by omega) (hl n ?_)
    rw [drop_end s i (by omega)] at hn
    simpa [escI] using hn
  | m + 1, i, n, hi, h0, h3, hn => by
    have ih := ql0_loop s t b hs hl m (i + 1)
    have hr := bt_range s (i : Int)
    rw [drop_cons s i (by omega), escI_cons, List.length_append, Int.natCast_add, e1_count] at hn
    refine ev_round ?_
    simp only [rosterlaw18_UrlQuiet.l0]
    rw [lawquiet _ hr.1 hr.2, wrp_id (n + 1) (by omega) (by omega), wrp_id (n + 1 + 2) (by omega) (by omega), wrp_id ((i : Int) + 1) (by omega) (by omega)]
    simp only [Option.bind_some]
    refine ev_pos (by omega) (ev_pos (by omega) ?_)
    cases hqb : qB (bt s (i : Int)) with
    | true =>
      rw [hqb, if_pos rfl] at hn
      exact ev_pos rfl (ih (n + 1) (by omega) (by omega) (by omega) (by omega))
    | false =>
      rw [hqb, if_neg (by simp)] at hn
      exact ev_neg (by simp) (ih (n + 1 + 2) (by omega) (by omega) (by omega) (by omega))
end Go.Proofs.Ytjakabacdnfmnaa.UrlEv

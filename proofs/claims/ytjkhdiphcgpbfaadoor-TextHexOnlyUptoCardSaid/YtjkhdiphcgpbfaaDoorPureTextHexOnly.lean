/- TextHexOnly, pure. -/
import Derived.Test.YtjkhdiphcgpbfaaDoorQTextHexOnly
import Derived.Test.YtjkhdiphcgpbfaaDoorHexEv
namespace Go.Proofs.YtjkhdiphcgpbfaaDoor.Pure
open Go.RowKit Go.Proofs.YtjkhdiphcgpbfaaDoor.X Go.Proofs.YtjkhdiphcgpbfaaDoor.XE Go.Proofs.YtjkhdiphcgpbfaaDoor.XV Go.Proofs.YtjkhdiphcgpbfaaDoor.HexEv Go.Proofs.YtjkhdiphcgpbfaaDoor.Norm Go.Proofs.YtjkhdiphcgpbfaaDoorW.PrintWords Go.Proofs.YtjkhdiphcgpbfaaDoorW.PrintLast
set_option linter.unusedVariables false
set_option linter.unusedSimpArgs false
theorem only_loop (s : ByteArray) (q : Nat) (hs : s.size ≤ 34359738368) (hq : q ≤ s.size) (hd : ∀ j, j < q → ∃ w, worth ((bytesOf s).getD j 0) = some w) (hn : q < s.size → worth ((bytesOf s).getD q 0) = none) (ho : q = s.size → s.size % 2 = 1) :
    ∀ m i : Nat, i + m = q → Ev (fun k => rosterlaw01_TextHexOnly.l0 k s (q : Int) (i : Int)) true
  | 0, i, hi => by
    refine ev_round ?_
    simp only [rosterlaw01_TextHexOnly.l0]
    refine ev_neg (by omega) ?_
    by_cases h : q = s.size
    · refine ev_pos (by omega) (ev_eq ?_)
      have := ho h
      simp
      omega
    · obtain ⟨n1, n2, n3⟩ := worth_none (hn (by omega))
      rw [show (bytesOf s).getD q 0 = bt s (q : Int) from by rw [bt_byte]; rfl] at n1 n2 n3
      refine ev_neg (by omega) (ev_pos (by omega) (ev_pos (by omega) ?_))
      have hc : (bt s (q : Int) < 48) ∨ (57 < bt s (q : Int) ∧ bt s (q : Int) < 65) ∨ (70 < bt s (q : Int) ∧ bt s (q : Int) < 97) ∨ 102 < bt s (q : Int) := by omega
      rcases hc with h | h | h | h
      all_goals (repeat (first | refine ev_pos (by omega) ?_ | refine ev_neg (by omega) ?_))
      all_goals exact ev_eq (by first | rfl | exact decide_eq_true (by omega))
  | m + 1, i, hi => by
    have ih := only_loop s q hs hq hd hn ho m (i + 1) (by omega)
    obtain ⟨w, hw⟩ := hd i (by omega)
    have hc := worth_digit hw
    rw [show (bytesOf s).getD i 0 = bt s (i : Int) from by rw [bt_byte]; rfl] at hc
    refine ev_round ?_
    simp only [rosterlaw01_TextHexOnly.l0]
    rw [wrp_id _ (by omega) (by omega)]
    have ih' : Ev (fun k => rosterlaw01_TextHexOnly.l0 k s (q : Int) ((i : Int) + 1)) true := by simpa using ih
    refine ev_pos (by omega) (ev_pos (by omega) (ev_pos (by omega) ?_))
    rcases hc with h | h | h
    all_goals (repeat (first | exact ih' | refine ev_pos (by omega) ?_ | refine ev_neg (by omega) ?_))
theorem TextHexOnly : QTextHexOnly.Pure := by
  intro s t hs ht hk
  refine Ev.rounds (g := fun k => rosterlaw01_TextHexOnly.f k s t) ?_
  simp only [rosterlaw01_TextHexOnly.f, rosterlaw01_num.f, Option.bind_some]
  have hu := unhex_at (strOfNums (hexN (bytesOf t))) (by rw [strOfNums_size, hex_len, bytesOf_length]; omega)
  have hrt : Rng (bytesOf t) := bytesOf_range t
  rw [bytesOf_nums _ (rng_hex hrt), unL_hex _ _ _ _ hrt] at hu
  refine Ev.bind (hex_at t (by omega)) (Ev.bind hu (ev_pos rfl ?_))
  have e : outp ([] ++ bytesOf t, 0, 0 + 2 * ((bytesOf t).length : Int)) = (t, 0, 0 + 2 * ((bytesOf t).length : Int)) := by
    unfold outp
    rw [List.nil_append, show strOfNums (bytesOf t) = t from bytesOf_inj (bytesOf_nums _ hrt)]
  rw [e]
  simp only [bne_self_eq_false]
  refine ev_round ?_
  simp only [rosterlaw01_TextHexOnly.j0, rosterlaw01_num.f, Option.bind_some]
  refine ev_neg (by decide) (Ev.bind (unhex_at s (by omega)) ?_)
  have hl := bytesOf_length s
  rcases unL_spec (bytesOf s) false 0 [] 0 (fun h => by cases h) with ⟨h1, h2, m, h3, h4, h5⟩ | ⟨h1, h2, q, h3, h4, h5, h6, h7⟩
  · refine ev_pos h1 (ev_pos (by show (unL false 0 [] 0 (bytesOf s)).2.2 = _; rw [h2, hl]; omega) ?_)
    rw [show (outp (unL false 0 [] 0 (bytesOf s))).1 = strOfNums m from by unfold outp; rw [h3]; rfl]
    have hm : hexN m = foldN (bytesOf s) := h5
    have hml := hex_len m
    rw [hm] at hml
    have hfl : (foldN (bytesOf s)).length = s.size := by simp [foldN, bytesOf_length]
    have hx := hex_at (strOfNums m) (by rw [strOfNums_size]; omega)
    rw [bytesOf_nums _ h4, hm] at hx
    refine Ev.bind hx ?_
    rw [show text_Fold.f s = some (strOfNums (foldN (bytesOf s))) from by unfold text_Fold.f; rw [if_pos (by omega)]; rfl]
    simp only [Option.bind_some]
    exact ev_eq (by simp)
  · have e1 : (outp (unL false 0 [] 0 (bytesOf s))).2.1 = 11 := h1
    have e2 : (outp (unL false 0 [] 0 (bytesOf s))).2.2 = (q : Int) := by show (unL false 0 [] 0 (bytesOf s)).2.2 = _; rw [h3]; omega
    have e3 : (outp (unL false 0 [] 0 (bytesOf s))).1 = strOfNums [] := by unfold outp; rw [h2]
    rw [e1, e2, e3]
    refine ev_neg (by decide) (ev_pos rfl (ev_pos (by rw [toList_data]; rfl) (ev_neg (by omega) (ev_round ?_))))
    simp only [rosterlaw01_TextHexOnly.j1]
    refine ev_neg (by simp; omega) ?_
    exact only_loop s q (by omega) (by omega) h5 (fun h => h6 (by omega)) (fun h => by have := h7 (by omega); simp at this; omega) q 0 (by omega)
end Go.Proofs.YtjkhdiphcgpbfaaDoor.Pure

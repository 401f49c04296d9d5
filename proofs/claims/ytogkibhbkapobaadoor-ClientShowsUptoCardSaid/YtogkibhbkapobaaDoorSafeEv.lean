/- The document's Safe and Plain, as printed, are text's. For every text of at most 2^62 bytes. -/
import Derived.Test.YtogkibhbkapobaaDoorXA1
import Derived.Test.YtogkibhbkapobaaDoorXA7
import Derived.Test.YtogkibhbkapobaaDoorXV
set_option linter.unusedVariables false
set_option linter.unusedSimpArgs false
namespace Go.Proofs.YtogkibhbkapobaaDoor.SafeEv
open Go.RowKit Go.Proofs.YtogkibhbkapobaaDoor.XA Go.Proofs.YtogkibhbkapobaaDoor.XS Go.Proofs.YtogkibhbkapobaaDoor.XV Go.Proofs.YtogkibhbkapobaaDoorW.PrintWords Go.Proofs.YtogkibhbkapobaaDoorW.PrintLast
theorem rsafe_l (s : ByteArray) (hs : s.size ≤ 4611686018427387904) : ∀ m i : Nat, s.size - i = m → i ≤ s.size → Ev (fun k => rosterref01_Safe.l0 k s (i : Int)) (safeL (decide (i = 0)) ((bytesOf s).drop i)) := by
  intro m
  induction m with
  | zero =>
    intro i hm hi
    have hl : (bytesOf s).drop i = [] := List.drop_eq_nil_of_le (by rw [bytesOf_length]; omega)
    rw [hl]
    refine ev_round ?_
    simp only [rosterref01_Safe.l0]
    exact ev_neg (by omega) (ev_eq rfl)
  | succ m ih =>
    intro i hm hi
    have hlt : i < s.size := by omega
    refine ev_round ?_
    simp only [rosterref01_Safe.l0]
    refine ev_pos (by omega) (ev_pos (by omega) ?_)
    have hn : Ev (fun k => rosterref01_Safe.l0 k s (wrap64 ((i : Int) + 1))) (safeL false ((bytesOf s).drop (i + 1))) := by
      rw [wrp_id _ (by omega) (by omega)]
      exact ih (i + 1) (by omega) (by omega)
    rw [drop_cons s i hlt]
    have j : ∀ b : Bool, (b = true ↔ bt s (i : Int) = 0 ∨ bt s (i : Int) = 10 ∨ bt s (i : Int) = 13 ∨ bt s (i : Int) > 127) → Ev (fun k => rosterref01_Safe.j1 k s (i : Int) (bt s (i : Int)) b) (safeL (decide (i = 0)) (bt s (i : Int) :: (bytesOf s).drop (i + 1))) := by
      intro b hb
      refine ev_round ?_
      simp only [rosterref01_Safe.j1]
      by_cases hbt : b = true
      · refine ev_pos hbt (ev_eq ?_)
        rw [safeL, if_pos (hb.1 hbt)]
      · have hb' := fun z => hbt (hb.2 z)
        refine ev_neg hbt ?_
        rw [safeL, if_neg hb']
        by_cases h0 : (i : Int) = 0
        · refine ev_pos h0 ?_
          have hd : decide (i = 0) = true := decide_eq_true (by omega)
          by_cases c1 : bt s (i : Int) = 32
          · exact ev_pos c1 (ev_eq (by rw [if_pos ⟨hd, .inl c1⟩]))
          by_cases c2 : bt s (i : Int) = 58
          · exact ev_neg c1 (ev_pos c2 (ev_eq (by rw [if_pos ⟨hd, .inr (.inl c2)⟩])))
          by_cases c3 : bt s (i : Int) = 60
          · exact ev_neg c1 (ev_neg c2 (ev_pos c3 (ev_eq (by rw [if_pos ⟨hd, .inr (.inr c3)⟩]))))
          · rw [if_neg (fun z => by omega)]
            exact ev_neg c1 (ev_neg c2 (ev_neg c3 hn))
        · refine ev_neg h0 ?_
          rw [if_neg (fun z => h0 (by have := of_decide_eq_true z.1; omega))]
          exact hn
    by_cases c1 : bt s (i : Int) = 0
    · exact ev_pos c1 (j true ⟨fun _ => .inl c1, fun _ => rfl⟩)
    by_cases c2 : bt s (i : Int) > 127
    · exact ev_neg c1 (ev_pos c2 (j true ⟨fun _ => .inr (.inr (.inr c2)), fun _ => rfl⟩))
    by_cases c3 : bt s (i : Int) = 10
    · exact ev_neg c1 (ev_neg c2 (ev_pos c3 (j true ⟨fun _ => .inr (.inl c3), fun _ => rfl⟩)))
    · refine ev_neg c1 (ev_neg c2 (ev_neg c3 (j _ ⟨fun z => .inr (.inr (.inl (beq_iff_eq.1 z))), fun z => beq_iff_eq.2 (by omega)⟩)))
theorem safe_at (s : ByteArray) (hs : s.size ≤ 4611686018427387904) : text_Safe.f s = some (safeL true (bytesOf s)) := if_pos hs
theorem rsafe_at (s : ByteArray) (hs : s.size ≤ 4611686018427387904) : Ev (fun k => rosterref01_Safe.f k s) (safeL true (bytesOf s)) := by
  have := rsafe_l s hs s.size 0 (by omega) (by omega)
  simpa [rosterref01_Safe.f] using this
theorem plain_at (s : ByteArray) (hs : s.size ≤ 4611686018427387904) : ∃ r, text_Plain.f s = some r ∧ Ev (fun k => rosterref01_Plain.f k s) r := by
  have hF : ∃ r, (if safeL true (bytesOf s) = true then (if s.toList = ([] : List UInt8) then (some true) else (if 0 ≤ (wrap64 ((s.size : Int) - 1)) then (if (wrap64 ((s.size : Int) - 1)) < (s.size : Int) then (some ((bt s (wrap64 ((s.size : Int) - 1))) != 32)) else (none)) else (none))) else (some false)) = some r := by
    by_cases h1 : safeL true (bytesOf s) = true
    · rw [if_pos h1]
      by_cases h2 : s.toList = ([] : List UInt8)
      · exact ⟨_, if_pos h2⟩
      · have hp : 0 < s.size := by
          rcases Nat.eq_zero_or_pos s.size with h | h
          · exfalso; apply h2
            rw [toList_data]
            have : s.data.size = 0 := h
            exact List.eq_nil_of_length_eq_zero (by simpa using this)
          · exact h
        rw [if_neg h2, wrp_id _ (by omega) (by omega), if_pos (by omega), if_pos (by omega)]
        exact ⟨_, rfl⟩
    · exact ⟨_, if_neg h1⟩
  obtain ⟨r, hr⟩ := hF
  refine ⟨r, ?_, ?_⟩
  · unfold text_Plain.f
    rw [safe_at s hs]
    exact hr
  · unfold rosterref01_Plain.f
    exact Ev.bind (rsafe_at s hs) (Ev.congr (fun _ => hr) (Ev.now r))
end Go.Proofs.YtogkibhbkapobaaDoor.SafeEv

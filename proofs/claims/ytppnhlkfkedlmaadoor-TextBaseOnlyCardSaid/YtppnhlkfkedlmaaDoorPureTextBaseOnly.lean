/- TextBaseOnly, pure. -/
import Derived.Test.YtppnhlkfkedlmaaDoorQTextBaseOnly
import Derived.Test.YtppnhlkfkedlmaaDoorBasesEvX
namespace Go.Proofs.YtppnhlkfkedlmaaDoor.Pure
open Go.RowKit Go.Proofs.YtppnhlkfkedlmaaDoor.X Go.Proofs.YtppnhlkfkedlmaaDoor.XV Go.Proofs.YtppnhlkfkedlmaaDoor.L64 Go.Proofs.YtppnhlkfkedlmaaDoor.UnB64 Go.Proofs.YtppnhlkfkedlmaaDoor.UnZ Go.Proofs.YtppnhlkfkedlmaaDoor.Dec Go.Proofs.YtppnhlkfkedlmaaDoor.B64EvX Go.Proofs.YtppnhlkfkedlmaaDoor.BasesEvX Go.Proofs.YtppnhlkfkedlmaaDoorW.PrintWords Go.Proofs.YtppnhlkfkedlmaaDoorW.PrintLast
set_option linter.unusedVariables false
set_option linter.unusedSimpArgs false
theorem ends_b : bytesOf (endAt 0) = [] ∧ bytesOf (endAt 1) = [61] ∧ bytesOf (endAt 2) = [65] ∧ bytesOf (endAt 3) = [65, 65] ∧ bytesOf (endAt 4) = [65, 65, 65] := ⟨rfl, rfl, rfl, rfl, rfl⟩
theorem uns_app (x e : ByteArray) {st : St} (h : runC st0 (bytesOf x) = some st) : unS (x ++ e) = unB st ((bytesOf x).length : Int) (bytesOf e) := by
  unfold unS
  rw [bytesOf_append, unB_run _ _ h, Int.zero_add]
/-- A front goes on to a whole text. -/
theorem goes_yes (x : ByteArray) {st : St} (h : runC st0 (bytesOf x) = some st) : goesB x = true := by
  have R := rep_run rep0 h
  rw [List.nil_append] at R
  obtain ⟨E0, E1, E2, E3, E4⟩ := ends_b
  have u := fun e => uns_app x e h
  have cl : st.g ≠ [] → st.closed = false := fun hg => by
    cases hc : st.closed with
    | false => rfl
    | true => exact absurd (R.shut hc).2.1 hg
  have key : ∃ k, k < 5 ∧ hits x k = true := by
    obtain ⟨cl0, g, p, acc⟩ := st
    rcases R.form with ⟨h1, h2⟩ | ⟨a, h1, h2⟩ | ⟨a, b, h1, h2 | ⟨h2, h3⟩⟩ | ⟨a, b, c, h1, h2⟩
    · simp only at h1 h2
      subst h1; subst h2
      exact ⟨0, by omega, decide_eq_true (by rw [u, E0]; rfl)⟩
    · simp only at h1 h2
      subst h1; subst h2
      obtain rfl : cl0 = false := cl (by simp)
      exact ⟨4, by omega, decide_eq_true (by rw [u, E4]; simp only [unB, on_65, more, List.cons_append, List.nil_append]; rfl)⟩
    · simp only at h1 h2
      subst h1; subst h2
      obtain rfl : cl0 = false := cl (by simp)
      exact ⟨3, by omega, decide_eq_true (by rw [u, E3]; simp only [unB, on_65, more, List.cons_append, List.nil_append]; rfl)⟩
    · simp only at h1 h2 h3
      subst h1; subst h2
      obtain rfl : cl0 = false := cl (by simp)
      exact ⟨1, by omega, decide_eq_true (by rw [u, E1]; simp [unB, stepC, pad, fin])⟩
    · simp only at h1 h2
      subst h1; subst h2
      obtain rfl : cl0 = false := cl (by simp)
      exact ⟨2, by omega, decide_eq_true (by rw [u, E2]; simp only [unB, on_65, more]; rfl)⟩
  obtain ⟨k, hk, hh⟩ := key
  unfold goesB
  rcases (show k = 0 ∨ k = 1 ∨ k = 2 ∨ k = 3 ∨ k = 4 by omega) with rfl | rfl | rfl | rfl | rfl <;> simp [hh]
theorem goes_not (x : ByteArray) (h : ∀ r, (unB st0 0 (bytesOf x ++ r)).2.1 = 12) : goesB x = false := by
  have hf : ∀ k, hits x k = false := fun k => by
    unfold hits unS
    rw [bytesOf_append, h]
    rfl
  unfold goesB
  rw [hf, hf, hf, hf, hf]
  rfl
theorem goes_zm : goesB (⟨#[90, 109, 57, 118]⟩ : ByteArray) = true := by
  have : (runC st0 (bytesOf (⟨#[90, 109, 57, 118]⟩ : ByteArray))).isSome = true := by decide +kernel
  cases h : runC st0 (bytesOf (⟨#[90, 109, 57, 118]⟩ : ByteArray)) with
  | none => rw [h] at this; cases this
  | some st => exact goes_yes _ h
theorem goes_at (x : ByteArray) (h : x.size ≤ 140737488355320) : rosterlaw01_goes.f x = some (goesB x) := by unfold rosterlaw01_goes.f; exact if_pos h
theorem TextBaseOnly : QTextBaseOnly.Pure := by
  intro s hs
  refine Ev.rounds (g := fun k => rosterlaw01_TextBaseOnly.f k s) ?_
  have hl := bytesOf_length s
  have hu : text_Unbase64.f s = some (strOfNums (unS s).1, (unS s).2.1, (unS s).2.2) := by unfold text_Unbase64.f; exact if_pos (by omega)
  simp only [rosterlaw01_TextBaseOnly.f, rosterlaw01_num.f, Option.bind_some, hu]
  rw [goes_at _ (by show (4 : Nat) ≤ _; omega), goes_zm]
  refine ev_some (ev_pos rfl ?_)
  rcases unB_spec (bytesOf s) with ⟨m, h1, h2, h3⟩ | ⟨q, st', h1, h2, h3, h4, h5⟩
  · have e : unS s = (m, 0, ((bytesOf s).length : Int)) := h1
    rw [e]
    refine ev_pos rfl (ev_pos (by simp only; omega) ?_)
    simp only
    have hml : (m.length + 2) / 3 * 4 = s.size := by rw [← b64_len, ← h3, hl]
    have hb := base64_at (strOfNums m) (by rw [strOfNums_size]; omega)
    rw [bytesOf_nums _ h2, ← h3] at hb
    refine Ev.bind hb (ev_eq ?_)
    rw [show strOfNums (bytesOf s) = s from bytesOf_inj (bytesOf_nums _ (bytesOf_range s))]
    simp
  · have e : unS s = ([], 12, (q : Int)) := h2
    rw [e]
    simp only
    have hx : bytesOf (s.extract 0 q) = (bytesOf s).take q := by rw [bytesOf_extract, List.drop_zero]
    refine ev_neg (by decide) (ev_pos (by first | trivial | rfl) (ev_pos (by first | trivial | (rw [toList_data]; rfl)) (ev_neg (by omega) ?_)))
    have hq : ¬ (q : Int) > (s.size : Int) := by omega
    rw [show decide ((q : Int) > (s.size : Int)) = false from decide_eq_false hq]
    refine ev_round ?_
    simp only [rosterlaw01_TextBaseOnly.j0]
    refine ev_neg (by decide) (ev_pos (by omega) (ev_pos (by omega) ?_))
    rw [Int.toNat_natCast, goes_at _ (by rw [ByteArray.size_extract]; omega), goes_yes (s.extract 0 q) (by rw [hx]; exact h3)]
    refine ev_some (ev_pos rfl ?_)
    by_cases hlt : q = s.size
    · exact ev_pos (by omega) (ev_eq rfl)
    · refine ev_neg (by omega) ?_
      rw [wrp_id _ (by omega) (by omega)]
      refine ev_pos (by omega) (ev_pos (by omega) ?_)
      have hx1 : bytesOf (s.extract 0 (q + 1)) = (bytesOf s).take (q + 1) := by rw [bytesOf_extract, List.drop_zero]
      rw [show ((q : Int) + 1).toNat = q + 1 from by omega, goes_at _ (by rw [ByteArray.size_extract]; omega), goes_not (s.extract 0 (q + 1)) (fun r => by
        have hsp : (bytesOf s).take (q + 1) = (bytesOf s).take q ++ [(bytesOf s).getD q 0] := by
          rw [List.take_succ_eq_append_getElem (by omega)]
          simp [List.getD_eq_getElem?_getD, List.getElem?_eq_getElem (show q < (bytesOf s).length by omega)]
        rw [hx1, hsp, List.append_assoc, unB_run _ _ h3, List.singleton_append, unB, h4 (by omega)])]
      exact ev_some (ev_eq rfl)
end Go.Proofs.YtppnhlkfkedlmaaDoor.Pure

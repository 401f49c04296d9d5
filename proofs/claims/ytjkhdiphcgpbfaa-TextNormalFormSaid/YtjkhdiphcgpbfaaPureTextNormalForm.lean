/- TextNormalForm, pure: what is left of the normal form at a place is the normal form of what is left of the text. -/
import Derived.Test.YtjkhdiphcgpbfaaQTextNormalForm
import Derived.Test.YtjkhdiphcgpbfaaNormEv
namespace Go.Proofs.Ytjkhdiphcgpbfaa.Pure
open Go.RowKit Go.Proofs.Ytjkhdiphcgpbfaa.X Go.Proofs.Ytjkhdiphcgpbfaa.XV Go.Proofs.Ytjkhdiphcgpbfaa.NormEv Go.Proofs.Ytjkhdiphcgpbfaa.Norm Go.Proofs.YtjkhdiphcgpbfaaW.PrintWords Go.Proofs.YtjkhdiphcgpbfaaW.PrintLast
set_option linter.unusedVariables false
set_option linter.unusedSimpArgs false

theorem lblank_at (b : Int) : rosterlaw01_blank.f b = some (blankI b) := by
  unfold rosterlaw01_blank.f blankI
  by_cases h : b = 32
  · simp [h]
  · rw [if_neg h]
    by_cases h2 : b ≥ 9
    · rw [if_pos h2]; simp [h, h2]
    · rw [if_neg h2]; simp [h, h2]
theorem lsmall_at (b : Int) : rosterlaw01_small.f b = some (lowN b) := by
  unfold rosterlaw01_small.f lowN
  by_cases h : b ≥ 65
  · rw [if_pos h]
    by_cases h2 : b ≤ 90
    · rw [if_pos h2, if_pos ⟨h, h2⟩]; congr 1; omega
    · rw [if_neg h2, if_neg (fun z => h2 z.2)]
  · rw [if_neg h, if_neg (fun z => h z.1)]
/-- What is left of s from i on, small. -/
def rst (s : ByteArray) (i : Nat) : List Int := foldN ((bytesOf s).drop i)
theorem rst_cons (s : ByteArray) (i : Nat) (h : i < s.size) : rst s i = lowN (bt s (i : Int)) :: rst s (i + 1) := by
  unfold rst
  rw [drop_cons s i h]
  rfl
theorem rst_end (s : ByteArray) (i : Nat) (h : s.size ≤ i) : rst s i = [] := by
  unfold rst
  rw [List.drop_eq_nil_of_le (by rw [bytesOf_length]; exact h)]
  rfl
theorem next_at (s : ByteArray) (hs : s.size ≤ 140737488351232) : ∀ m i, i + m = s.size → ∃ j : Nat, Ev (fun k => rosterlaw01_next.f k s (i : Int)) (j : Int) ∧ i ≤ j ∧ j ≤ s.size ∧ (j < s.size → blankI (bt s (j : Int)) = false) ∧ nm (rst s i) = nm (rst s j) ∧ (∀ p, em p (rst s i) = em (p || decide (i < j)) (rst s j))
  | 0, i, hi => by
    refine ⟨i, ev_round ?_, by omega, by omega, by omega, rfl, fun p => by simp⟩
    simp only [rosterlaw01_next.f, rosterlaw01_next.l0]
    exact ev_neg (by omega) (Ev.now _)
  | m + 1, i, hi => by
    by_cases hb : blankI (bt s (i : Int)) = true
    · obtain ⟨j, he, h1, h2, h3, h4, h5⟩ := next_at s hs m (i + 1) (by omega)
      have hb' : blankI (lowN (bt s (i : Int))) = true := by rw [blank_low, hb]
      refine ⟨j, ev_round ?_, by omega, h2, h3, ?_, fun p => ?_⟩
      · simp only [rosterlaw01_next.f, rosterlaw01_next.l0, lblank_at, Option.bind_some]
        rw [wrp_id _ (by omega) (by omega)]
        exact ev_pos (by omega) (ev_pos (by omega) (ev_pos hb (by simpa [rosterlaw01_next.f] using he)))
      · rw [rst_cons s i (by omega), nm_blank hb', h4]
      · rw [rst_cons s i (by omega), em_blank hb', h5]
        simp
        congr 1
        simp
        omega
    · refine ⟨i, ev_round ?_, by omega, by omega, fun _ => Bool.eq_false_iff.2 hb, rfl, fun p => by simp⟩
      simp only [rosterlaw01_next.f, rosterlaw01_next.l0, lblank_at, Option.bind_some]
      exact ev_pos (by omega) (ev_pos (by omega) (ev_neg hb (Ev.now _)))

theorem form_loop (s n : ByteArray) (hs : s.size ≤ 140737488351232) (hn : n.size ≤ 140737488351232) : ∀ m (i at_ : Nat), i + m = s.size → (i < s.size → blankI (bt s (i : Int)) = false) → at_ ≤ n.size → (bytesOf n).drop at_ = nm (rst s i) → Ev (fun k => rosterlaw01_TextNormalForm.l0 k s n (at_ : Int) (i : Int)) true := by
  intro m
  induction m using Nat.strongRecOn with
  | ind m ih =>
    intro i at_ hi hb ha hd
    refine ev_round ?_
    simp only [rosterlaw01_TextNormalForm.l0, lsmall_at, Option.bind_some]
    by_cases h0 : i < s.size
    · have hb0 := hb h0
      have hb' : blankI (lowN (bt s (i : Int))) = false := by rw [blank_low, hb0]
      rw [rst_cons s i h0, nm, if_neg (by rw [hb']; decide)] at hd
      have hlt : at_ < n.size := by
        have := congrArg List.length hd
        simp [bytesOf_length] at this
        omega
      rw [drop_cons n at_ hlt] at hd
      obtain ⟨hd1, hd2⟩ := List.cons.inj hd
      refine ev_pos (by omega) (ev_neg (by omega) (ev_pos (by omega) (ev_pos (by omega) (ev_pos (by omega) (ev_round ?_)))))
      obtain ⟨j, he, h1, h2, h3, h4, h5⟩ := next_at s hs (s.size - (i + 1)) (i + 1) (by omega)
      simp only [rosterlaw01_TextNormalForm.j1, hd1, bne_self_eq_false]
      rw [wrp_id ((i : Int) + 1) (by omega) (by omega), wrp_id ((at_ : Int) + 1) (by omega) (by omega)]
      refine ev_neg (by decide) (Ev.bind he ?_)
      have step := ih (s.size - j) (by omega) j
      rw [h5 false, Bool.false_or] at hd2
      by_cases h6 : (j : Int) > (i : Int) + 1
      · refine ev_pos h6 (ev_round ?_)
        simp only [rosterlaw01_TextNormalForm.j2]
        rw [show decide (i + 1 < j) = true from decide_eq_true (by omega)] at hd2
        by_cases h7 : j < s.size
        · have hb2 := h3 h7
          have hb3 : blankI (lowN (bt s (j : Int))) = false := by rw [blank_low, hb2]
          have hq : em true (rst s j) = 32 :: nm (rst s j) := by
            rw [rst_cons s j h7, em, if_neg (by rw [hb3]; decide), if_pos rfl, nm, if_neg (by rw [hb3]; decide)]
          rw [hq] at hd2
          have hlt2 : at_ + 1 < n.size := by
            have := congrArg List.length hd2
            simp [bytesOf_length] at this
            omega
          rw [drop_cons n (at_ + 1) hlt2] at hd2
          obtain ⟨hd3, hd4⟩ := List.cons.inj hd2
          rw [wrp_id ((at_ : Int) + 1 + 1) (by omega) (by omega)]
          refine ev_pos (decide_eq_true (by omega)) (ev_neg (by omega) (ev_pos (by omega) (ev_pos (by omega) (ev_pos (by simpa using hd3) ?_))))
          have := step (at_ + 1 + 1) (by omega) h3 (by omega) hd4
          simpa using this
        · refine ev_neg (by simp; omega) ?_
          rw [rst_end s j (by omega)] at hd2
          have := step (at_ + 1) (by omega) h3 (by omega) (by rw [rst_end s j (by omega), hd2]; rfl)
          simpa using this
      · refine ev_neg h6 (ev_round ?_)
        simp only [rosterlaw01_TextNormalForm.j2]
        refine ev_neg (by decide) ?_
        rw [show decide (i + 1 < j) = false from decide_eq_false (by omega)] at hd2
        have hq : em false (rst s j) = nm (rst s j) := by
          by_cases h7 : j < s.size
          · have hb3 : blankI (lowN (bt s (j : Int))) = false := by rw [blank_low, h3 h7]
            rw [rst_cons s j h7, em, if_neg (by rw [hb3]; decide), if_neg (by decide), nm, if_neg (by rw [hb3]; decide)]
          · rw [rst_end s j (by omega)]; rfl
        have := step (at_ + 1) (by omega) h3 (by omega) (by rw [hd2, hq])
        simpa using this
    · rw [rst_end s i (by omega)] at hd
      have := congrArg List.length hd
      simp [bytesOf_length, nm] at this
      exact ev_neg (by omega) (ev_eq (by simp; omega))

theorem TextNormalForm : QTextNormalForm.Pure := by
  intro s hs
  refine Ev.rounds (g := fun k => rosterlaw01_TextNormalForm.f k s) ?_
  simp only [rosterlaw01_TextNormalForm.f]
  obtain ⟨j, he, h1, h2, h3, h4, h5⟩ := next_at s hs s.size 0 (by omega)
  refine Ev.bind (normal_at s hs) (Ev.bind he ?_)
  have hr := rng_nm (rng_fold (bytesOf_range s))
  have := form_loop s (strOfNums (nm (foldN (bytesOf s)))) hs (by rw [strOfNums_size]; have := nm_len (foldN (bytesOf s)); simp [foldN, bytesOf_length] at this ⊢; omega) (s.size - j) j 0 (by omega) h3 (by omega) (by rw [bytesOf_nums _ hr, ← h4]; rfl)
  exact this
end Go.Proofs.Ytjkhdiphcgpbfaa.Pure

/- DnTogether, pure: what lies within a base stands together, behind the base. -/
import Derived.Test.YtdkohenilbkmkaaQDnTogether
import Derived.Test.YtdkohenilbkmkaaDnEv
set_option linter.unusedVariables false
set_option linter.unusedSimpArgs false
namespace Go.Proofs.Ytdkohenilbkmkaa.Pure
open Go.RowKit Go.Proofs.Ytdkohenilbkmkaa.X Go.Proofs.YtdkohenilbkmkaaW.PrintWords Go.Proofs.YtdkohenilbkmkaaW.PrintLast Go.Proofs.Ytdkohenilbkmkaa.XV Go.Proofs.Ytdkohenilbkmkaa.Keys Go.Proofs.Ytdkohenilbkmkaa.DnEv
theorem sum_len' (l : List ByteArray) : l.length ≤ (l.map fun x_ => x_.size + 1).sum := by
  induction l with
  | nil => simp
  | cons x l ih => simp only [List.length_cons, List.map_cons, List.sum_cons]; omega
theorem front_append (b r : List (List UInt8)) : front b (b ++ r) = true := by simp [front]
theorem front_true {b x : List (List UInt8)} (h : front b x = true) : b.length ≤ x.length ∧ b = x.take b.length := by simpa [front] using h
theorem DnTogether : QDnTogether.Pure := by
  intro x0 x1 x2 x3 f0 f1 f2 f3 hb
  have s0 := sum_len' x0
  have s1 := sum_len' x1
  have s2 := sum_len' x2
  have s3 := sum_len' x3
  have l0 : x0.length ≤ 1048576 := by omega
  have l1 : x1.length ≤ 1048576 := by omega
  have l2 : x2.length ≤ 1048576 := by omega
  have l3 : x3.length ≤ 1048576 := by omega
  clear s0 s1 s2 s3 hb f0 f1 f2 f3
  have la : (x0 ++ x1).length ≤ 2097152 := by rw [List.length_append]; omega
  have lc : (x0 ++ x3).length ≤ 2097152 := by rw [List.length_append]; omega
  refine Ev.rounds ?_
  unfold rosterlaw05_DnTogether.f
  simp only [Option.bind_some, List.nil_append, List.length_nil]
  refine ev_pos (by omega) (ev_pos (by omega) (ev_pos (by omega) (ev_pos (by omega) ?_)))
  refine Ev.bind (within_ev x0 (x0 ++ x1) (by omega) la) (Ev.bind (within_ev x0 (x0 ++ x3) (by omega) lc) (Ev.bind (compare_ev x0 (x0 ++ x1) (by omega) la) ?_))
  rw [kl_append, kl_append, front_append, front_append, cmpK_front]
  refine ev_pos rfl (ev_pos rfl (ev_neg (by split <;> decide) ?_))
  have e1 : (((if kl x1 = [] then (0 : Int) else -1) == 0) != ((x1.length : Int) == 0)) = false := by
    cases x1 with
    | nil => simp [kl]
    | cons y x1 => simp [kl]; omega
  rw [e1]
  refine ev_round ?_
  simp only [rosterlaw05_DnTogether.j0]
  refine ev_neg (by simp) (Ev.bind (compare_ev (x0 ++ x1) x2 la (by omega)) (Ev.bind (compare_ev x2 (x0 ++ x3) (by omega) lc) (Ev.bind (within_ev x0 x2 (by omega) (by omega)) ?_)))
  have fin : front (kl x0) (kl x2) = true → Ev (fun k => if (x2.length : Int) ≥ (x0.length : Int) then (if 0 ≤ (x0.length : Int) then (if (x0.length : Int) ≤ (x2.length : Int) then ((rosterlaw05_sameTexts.f k (x2.take ((x0.length : Int) : Int).toNat) x0).bind fun t177 => (some t177)) else (none)) else (none)) else (some false)) true := by
    intro h
    obtain ⟨h1, h2⟩ := front_true h
    rw [kl_length, kl_length] at h1
    rw [kl_length] at h2
    refine ev_pos (by omega) (ev_pos (by omega) (ev_pos (by omega) (ev_bindsome ?_)))
    rw [Int.toNat_natCast]
    have := same_ev (x2.take x0.length) x0 (by rw [List.length_take]; omega)
    rw [kl_take, ← h2, decide_eq_true rfl] at this
    exact this
  by_cases hf : front (kl x0) (kl x2) = true
  · simp only [hf, if_true]
    by_cases h1 : cmpK (kl (x0 ++ x1)) (kl x2) ≤ 0
    · refine ev_pos h1 ?_
      by_cases h2 : cmpK (kl x2) (kl (x0 ++ x3)) ≤ 0
      · exact ev_pos h2 (fin hf)
      · exact ev_neg h2 (fin hf)
    · exact ev_neg h1 (fin hf)
  · by_cases h1 : cmpK (kl (x0 ++ x1)) (kl x2) ≤ 0
    · refine ev_pos h1 ?_
      by_cases h2 : cmpK (kl x2) (kl (x0 ++ x3)) ≤ 0
      · rw [kl_append] at h1 h2
        obtain ⟨r, hr⟩ := cmpK_between _ _ _ _ h1 h2
        rw [hr, front_append] at hf
        exact absurd rfl hf
      · exact ev_neg h2 (ev_neg hf (ev_eq rfl))
    · exact ev_neg h1 (ev_neg hf (ev_eq rfl))
end Go.Proofs.Ytdkohenilbkmkaa.Pure

/- DnOrder, pure: of any three keys: the order is total, turned about when the two are, and it goes through; a shorter front stands ahead. -/
import Derived.Test.YtdkohenilbkmkaaQDnOrder
import Derived.Test.YtdkohenilbkmkaaDnEv
set_option linter.unusedVariables false
set_option linter.unusedSimpArgs false
namespace Go.Proofs.Ytdkohenilbkmkaa.Pure
open Go.RowKit Go.Proofs.Ytdkohenilbkmkaa.X Go.Proofs.YtdkohenilbkmkaaW.PrintWords Go.Proofs.YtdkohenilbkmkaaW.PrintLast Go.Proofs.Ytdkohenilbkmkaa.XV Go.Proofs.Ytdkohenilbkmkaa.Keys Go.Proofs.Ytdkohenilbkmkaa.DnEv
theorem sum_len (l : List ByteArray) : l.length ≤ (l.map fun x_ => x_.size + 1).sum := by
  induction l with
  | nil => simp
  | cons x l ih => simp only [List.length_cons, List.map_cons, List.sum_cons]; omega
theorem DnOrder : QDnOrder.Pure := by
  intro x0 x1 x2 f0 f1 f2 hb
  have s0 := sum_len x0
  have s1 := sum_len x1
  have s2 := sum_len x2
  have l0 : x0.length ≤ 1048576 := by omega
  have l1 : x1.length ≤ 1048576 := by omega
  have l2 : x2.length ≤ 1048576 := by omega
  clear s0 s1 s2 hb f0 f1 f2
  refine Ev.rounds ?_
  unfold rosterlaw05_DnOrder.f
  refine Ev.bind (compare_ev x0 x1 (by omega) (by omega)) (Ev.bind (compare_ev x1 x0 (by omega) (by omega)) (Ev.bind (compare_ev x1 x2 (by omega) (by omega)) (Ev.bind (compare_ev x0 x2 (by omega) (by omega)) ?_)))
  have n01 := cmpK_neg (kl x0) (kl x1)
  have r01 := cmpK_range (kl x0) (kl x1)
  have r10 := cmpK_range (kl x1) (kl x0)
  have n12 := cmpK_neg (kl x1) (kl x2)
  have n02 := cmpK_neg (kl x0) (kl x2)
  have t1 := cmpK_trans (kl x0) (kl x1) (kl x2)
  have t2 := cmpK_trans (kl x2) (kl x1) (kl x0)
  refine ev_pos (by rw [wrp_id _ (by omega) (by omega)]; exact n01) (ev_neg (by omega) (ev_neg (by omega) (Ev.bind (same_ev x0 x1 (by omega)) ?_)))
  have e1 : ((cmpK (kl x0) (kl x1) == 0) != decide (kl x0 = kl x1)) = false := by
    by_cases h : kl x0 = kl x1
    · rw [h, cmpK_self]
      simp
    · have : ¬ cmpK (kl x0) (kl x1) = 0 := fun e => h (cmpK_zero _ _ e)
      simp [h, this]
  rw [e1]
  refine ev_round ?_
  simp only [rosterlaw05_DnOrder.j0]
  refine ev_neg (by simp) ?_
  have j3 : Ev (fun k => rosterlaw05_DnOrder.j3 k x0 x2 false) true := by
    refine ev_round ?_
    simp only [rosterlaw05_DnOrder.j3, Option.bind_some, List.nil_append, List.length_nil]
    refine ev_neg (by simp) (ev_pos (by omega) (ev_pos (by omega) (Ev.bind (compare_ev x0 (x0 ++ x2) (by omega) (by rw [List.length_append]; omega)) ?_)))
    rw [kl_append, cmpK_front]
    by_cases h : (x2.length : Int) = 0
    · refine ev_pos h (ev_eq ?_)
      have : x2 = [] := List.eq_nil_of_length_eq_zero (by omega)
      subst this
      simp [kl]
    · refine ev_neg h (ev_eq ?_)
      rw [if_neg]
      · simp
      · intro e
        have := congrArg List.length e
        rw [kl_length] at this
        simp at this
        subst this
        simp at h
  have j2 : Ev (fun k => rosterlaw05_DnOrder.j2 k x0 x2 (cmpK (kl x0) (kl x1)) (cmpK (kl x1) (kl x2)) (cmpK (kl x0) (kl x2)) false) true := by
    refine ev_round ?_
    simp only [rosterlaw05_DnOrder.j2]
    refine ev_neg (by simp) ?_
    by_cases h : cmpK (kl x0) (kl x1) = 0
    · refine ev_pos h ?_
      rw [cmpK_zero _ _ h]
      simp only [bne_self_eq_false]
      exact j3
    · exact ev_neg h j3
  have j1 : Ev (fun k => rosterlaw05_DnOrder.j1 k x0 x2 (cmpK (kl x0) (kl x1)) (cmpK (kl x1) (kl x2)) (cmpK (kl x0) (kl x2)) false) true := by
    refine ev_round ?_
    simp only [rosterlaw05_DnOrder.j1]
    refine ev_neg (by simp) ?_
    by_cases h : cmpK (kl x0) (kl x1) ≥ 0
    · refine ev_pos h ?_
      by_cases h2 : cmpK (kl x1) (kl x2) ≥ 0
      · refine ev_pos h2 ?_
        rw [decide_eq_false (by
          have n20 := cmpK_neg (kl x2) (kl x0)
          have n21 := cmpK_neg (kl x2) (kl x1)
          have := t2 (by omega) (by omega)
          omega)]
        exact j2
      · exact ev_neg h2 j2
    · exact ev_neg h j2
  by_cases h : cmpK (kl x0) (kl x1) ≤ 0
  · refine ev_pos h ?_
    by_cases h2 : cmpK (kl x1) (kl x2) ≤ 0
    · refine ev_pos h2 ?_
      rw [decide_eq_false (by have := t1 h h2; omega)]
      exact j1
    · exact ev_neg h2 j1
  · exact ev_neg h j1
end Go.Proofs.Ytdkohenilbkmkaa.Pure

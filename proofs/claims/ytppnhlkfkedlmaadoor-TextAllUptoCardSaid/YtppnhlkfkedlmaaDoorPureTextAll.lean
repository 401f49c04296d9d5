/- TextAll, pure. -/
import Derived.Test.YtppnhlkfkedlmaaDoorQTextAll
import Derived.Test.YtppnhlkfkedlmaaDoorEvs
namespace Go.Proofs.YtppnhlkfkedlmaaDoor.Pure
open Go.RowKit Go.Proofs.YtppnhlkfkedlmaaDoor.XA Go.Proofs.YtppnhlkfkedlmaaDoor.XV Go.Proofs.YtppnhlkfkedlmaaDoorW.PrintWords Go.Proofs.YtppnhlkfkedlmaaDoorW.PrintLast
theorem checks_ev (a : ByteArray) (h : a.size ≤ 1048576) : Ev (fun k => rosterlaw01_TextChecks.f k a) true := by
  simp only [rosterlaw01_TextChecks.f, rosterlaw01_num.f, Option.bind_some]
  refine Ev.bind (UtfEvA.check_ev a (by omega)) (Ev.bind (SeqEvA.check_ev a (by omega)) (ev_pos rfl (ev_eq ?_)))
  simp
theorem ev_of {α : Type} {x : Option α} {r : α} (h : x = some r) : Ev (fun _ => x) r := h ▸ Ev.now r
theorem plays_ev (o : Int) (s : ByteArray) (h : s.size ≤ 1048576) : Ev (fun k => rosterlaw01_plays.f k o s) true := by
  unfold rosterlaw01_plays.f
  have two : ∀ {α : Type} [BEq α] [LawfulBEq α] {f g : Nat → Option α} {r : α}, Ev f r → Ev g r → Ev (fun k => (f k).bind fun t => (g k).bind fun u => some (t == u)) true := fun hf hg => Ev.bind hf (Ev.bind hg (ev_eq (by simp)))
  have twoB : ∀ {f g : Nat → Option ByteArray} {r : ByteArray}, Ev f r → Ev g r → Ev (fun k => (f k).bind fun t => (g k).bind fun u => some (t.toList == u.toList)) true := fun hf hg => Ev.bind hf (Ev.bind hg (ev_eq (by simp)))
  by_cases h0 : o = 0
  · exact ev_pos h0 (ev_bindsome (checks_ev s h))
  refine ev_neg h0 ?_
  by_cases h1 : o = 1
  · refine ev_pos h1 ?_
    exact twoB (ev_of (NormEvA.fold_at s (by omega))) (NormEvA.rfold_at s (by omega))
  refine ev_neg h1 ?_
  by_cases h2 : o = 2
  · exact ev_pos h2 (twoB (NormEvA.col_at s (by omega)) (NormEvA.rcol_at s (by omega)))
  refine ev_neg h2 ?_
  by_cases h3 : o = 3
  · exact ev_pos h3 (twoB (NormEvA.squeeze_at s (by omega)) (NormEvA.rsqueeze_at s (by omega)))
  refine ev_neg h3 ?_
  by_cases h4 : o = 4
  · exact ev_pos h4 (twoB (NormEvA.normal_at s (by omega)) (NormEvA.rnormal_at s (by omega)))
  refine ev_neg h4 ?_
  by_cases h5 : o = 5
  · exact ev_pos h5 (twoB (HexEvA.hex_at s (by omega)) (HexEvA.rhex_at s (by omega)))
  refine ev_neg h5 ?_
  by_cases h6 : o = 6
  · exact ev_pos h6 (ev_bindsome (HexEvA.unhexes_at s (by omega)))
  refine ev_neg h6 ?_
  by_cases h7 : o = 7
  · exact ev_pos h7 (twoB (B64EvA.base64_at s (by omega)) (BasesEvA.rbase64_at s (by omega)))
  refine ev_neg h7 ?_
  by_cases h8 : o = 8
  · exact ev_pos h8 (ev_bindsome (BasesEvA.unbases_at s (by omega)))
  refine ev_neg h8 ?_
  by_cases h9 : o = 9
  · refine ev_pos h9 ?_
    exact two (ev_of (SafeEv.safe_at s (by omega))) (SafeEv.rsafe_at s (by omega))
  refine ev_neg h9 ?_
  by_cases h10 : o = 10
  · refine ev_pos h10 ?_
    obtain ⟨r, e1, e2⟩ := SafeEv.plain_at s (by omega)
    exact two (ev_of e1) e2
  exact ev_neg h10 (ev_eq rfl)
theorem all_ev (l : List S33) (hl : l.length ≤ 1048576) (hs : ∀ o ∈ l, o.f1.size ≤ 1048576) : ∀ m i : Nat, l.length - i = m → i ≤ l.length → Ev (fun k => rosterlaw01_TextAll.l0 k l (i : Int)) true := by
  intro m
  induction m with
  | zero =>
    intro i hm hi
    refine ev_round ?_
    simp only [rosterlaw01_TextAll.l0]
    exact ev_neg (by omega) (ev_eq rfl)
  | succ m ih =>
    intro i hm hi
    refine ev_round ?_
    simp only [rosterlaw01_TextAll.l0]
    refine ev_pos (by omega) (ev_pos (by omega) ?_)
    have hin : i < l.length := by omega
    have hr : rd_T33 l (i : Int) = l[i] := by
      unfold rd_T33
      simp [List.getD_eq_getElem?_getD, List.getElem?_eq_getElem hin]
    rw [hr, wrp_id _ (by omega) (by omega)]
    exact Ev.bind (plays_ev _ _ (hs _ (List.getElem_mem hin))) (ev_pos rfl (ih (i + 1) (by omega) (by omega)))
theorem sum_len {α : Type} (f : α → Nat) (l : List α) : l.length ≤ (l.map fun x => f x + 1).sum := by
  induction l with
  | nil => simp
  | cons x l ih => simp only [List.length_cons, List.map_cons, List.sum_cons]; omega
theorem sum_mem {α : Type} (f : α → Nat) {l : List α} {x : α} (h : x ∈ l) : f x ≤ (l.map f).sum := by
  induction l with
  | nil => simp at h
  | cons y l ih =>
    simp only [List.map_cons, List.sum_cons]
    rcases List.mem_cons.1 h with rfl | h
    · omega
    · have := ih h; omega
theorem TextAll : QTextAll.Pure := by
  intro x0 h0 hb
  have h1 := sum_len (fun x_ : S33 => (1) + (x_.f1.size + 1)) x0
  have h2 : ∀ o ∈ x0, o.f1.size ≤ 1048576 := fun o ho => by
    have := sum_mem (fun x_ : S33 => (1) + (x_.f1.size + 1) + 1) ho
    omega
  exact (all_ev x0 (by omega) h2 _ 0 rfl (by omega)).rounds
end Go.Proofs.YtppnhlkfkedlmaaDoor.Pure

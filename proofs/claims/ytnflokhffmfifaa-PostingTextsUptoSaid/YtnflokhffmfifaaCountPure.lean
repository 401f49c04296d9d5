/- What lies in rising lists, counted, least first: how it goes on when the least is taken off each. Over any total order. No program. -/
import Derived.Test.YtnflokhffmfifaaRis
set_option linter.unusedVariables false
set_option linter.unusedSimpArgs false
namespace Go.Proofs.Ytnflokhffmfifaa.CountPure
open Go.Proofs.Ytnflokhffmfifaa.Ris
section
variable {α : Type} [DecidableEq α] {lt : α → α → Bool}
/-- Each element with the number of the lists in which it stands, rising. -/
def counts (lt : α → α → Bool) (ls : List (List α)) : List (α × Nat) := (setL lt ls.flatten).map fun x => (x, cnt ls x)
theorem mem_flat (ls : List (List α)) (x : α) : x ∈ ls.flatten ↔ 0 < cnt ls x := by rw [cnt_pos, List.mem_flatten]
theorem counts_nil : counts lt ([] : List (List α)) = [] := rfl
theorem counts_len (o : Tot lt) (ls : List (List α)) : (counts lt ls).length ≤ ls.flatten.length := by
  unfold counts
  rw [List.length_map]
  exact setL_len o _
theorem counts_perm (o : Tot lt) {ls ms : List (List α)} (h : ls.Perm ms) : counts lt ls = counts lt ms := by
  unfold counts
  rw [setL_congr o (l := ls.flatten) (m := ms.flatten) (fun x => by rw [mem_flat, mem_flat, cnt_perm h])]
  exact List.map_congr_left (fun x _ => by rw [cnt_perm h])
theorem counts_same (o : Tot lt) {ls ms : List (List α)} (h : ∀ x, cnt ls x = cnt ms x) : counts lt ls = counts lt ms := by
  unfold counts
  rw [setL_congr o (l := ls.flatten) (m := ms.flatten) (fun x => by rw [mem_flat, mem_flat, h])]
  exact List.map_congr_left (fun x _ => by rw [h])
theorem counts_next (o : Tot lt) {ls ms : List (List α)} {x : α} (h1 : ∀ y, y ≠ x → cnt ms y = cnt ls y) (h2 : cnt ms x = 0) (h3 : 0 < cnt ls x) (h4 : ∀ y, 0 < cnt ms y → lt x y = true) : counts lt ls = (x, cnt ls x) :: counts lt ms := by
  have e : setL lt ls.flatten = x :: setL lt ms.flatten := by
    refine ris_ext o (ris_setL o _) (ris_cons.2 ⟨fun b hb => h4 b ((mem_flat _ _).1 ((mem_setL o _ _).1 hb)), ris_setL o _⟩) (fun y => ?_)
    rw [mem_setL o, List.mem_cons, mem_setL o, mem_flat, mem_flat]
    by_cases e : y = x
    · subst e; simp [h3]
    · rw [h1 y e]; simp [e]
  unfold counts
  rw [e, List.map_cons]
  congr 1
  refine List.map_congr_left (fun y hy => ?_)
  have hy' : 0 < cnt ms y := (mem_flat _ _).1 ((mem_setL o _ _).1 hy)
  rw [h1 y (fun e => by rw [e, h2] at hy'; cases hy')]
/-- So many of the lists have given x already; the rest is ms. -/
structure Inn (lt : α → α → Bool) (ls : List (List α)) (x : α) (m : Nat) (ms : List (List α)) : Prop where
  here : m + cnt ms x = cnt ls x
  else_ : ∀ y, y ≠ x → cnt ms y = cnt ls y
  ge : ∀ y, 0 < cnt ms y → lt y x = false
theorem Inn.start (o : Tot lt) {ls : List (List α)} {x : α} (h : ∀ y, 0 < cnt ls y → lt y x = false) : Inn lt ls x 0 ls := ⟨Nat.zero_add _, fun _ _ => rfl, h⟩
theorem Inn.like {ls ms ns : List (List α)} {x : α} {m : Nat} (h : Inn lt ls x m ms) (e : ∀ y, cnt ns y = cnt ms y) : Inn lt ls x m ns := ⟨by rw [e]; exact h.here, fun y hy => by rw [e]; exact h.else_ y hy, fun y hy => h.ge y (by rw [← e]; exact hy)⟩
/-- One list that begins with x gives it. -/
theorem Inn.step (o : Tot lt) {ls t : List (List α)} {x : α} {l : List α} {m : Nat} (h : Inn lt ls x m ((x :: l) :: t)) (hr : Ris lt (x :: l)) : Inn lt ls x (m + 1) (l :: t) := by
  have hx : x ∉ l := fun hm => o.ne ((ris_cons.1 hr).1 x hm) rfl
  refine ⟨?_, fun y hy => ?_, fun y hy => h.ge y ?_⟩
  · have := h.here
    rw [cnt_cons, if_pos (by simp)] at this
    rw [cnt_cons, if_neg hx]
    omega
  · have := h.else_ y hy
    rw [cnt_cons] at this ⊢
    rw [← this]
    simp [hy]
  · rw [cnt_cons] at hy ⊢
    by_cases e : y ∈ l
    · rw [if_pos (List.mem_cons_of_mem _ e)]; omega
    · rw [if_neg e] at hy; omega
theorem cnt_drop_nil (t : List (List α)) (y : α) : cnt ([] :: t) y = cnt t y := by rw [cnt_cons]; simp
theorem Inn.done (o : Tot lt) {ls ms : List (List α)} {x : α} {m : Nat} (h : Inn lt ls x m ms) (h0 : cnt ms x = 0) (h3 : 0 < cnt ls x) : counts lt ls = (x, m) :: counts lt ms := by
  have e := h.here
  rw [h0, Nat.add_zero] at e
  rw [e]
  refine counts_next o h.else_ h0 h3 (fun y hy => ?_)
  cases hc : lt x y with
  | true => rfl
  | false =>
    have := o.tot _ _ (h.ge y hy) hc
    subst this
    rw [h0] at hy; cases hy
theorem cnt_zero (o : Tot lt) {ms : List (List α)} {x : α} (h : ∀ l ∈ ms, ∀ y ∈ l, lt x y = true) : cnt ms x = 0 := by
  rcases Nat.eq_zero_or_pos (cnt ms x) with e | e
  · exact e
  · obtain ⟨l, hl, hx⟩ := (cnt_pos ms x).1 e
    have := h l hl x hx
    rw [o.irr] at this
    cases this
omit [DecidableEq α] in
/-- What stands in a rising list that begins with z is not below z. -/
theorem head_le (o : Tot lt) {z : α} {l : List α} (h : Ris lt (z :: l)) : ∀ y ∈ z :: l, lt y z = false := fun y hy => by
  rcases List.mem_cons.1 hy with rfl | hy
  · exact o.irr _
  · exact o.asym ((ris_cons.1 h).1 y hy)
end
end Go.Proofs.Ytnflokhffmfifaa.CountPure

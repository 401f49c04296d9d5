/- Rising lists as sets, over any total order given by a test: their elements tell them; a list's set; how many of some lists hold an element. No program. -/
set_option linter.unusedVariables false
set_option linter.unusedSimpArgs false
namespace Go.Proofs.Ytnflokhffmfifaa.Ris
/-- A strict total order, as a test. -/
structure Tot {α : Type} (lt : α → α → Bool) : Prop where
  irr : ∀ a, lt a a = false
  tr : ∀ a b c, lt a b = true → lt b c = true → lt a c = true
  tot : ∀ a b, lt a b = false → lt b a = false → a = b
section
variable {α : Type} {lt : α → α → Bool}
theorem Tot.asym (o : Tot lt) {a b : α} (h : lt a b = true) : lt b a = false := by
  cases hb : lt b a with
  | false => rfl
  | true => have := o.tr _ _ _ h hb; rw [o.irr] at this; cases this
theorem Tot.ne (o : Tot lt) {a b : α} (h : lt a b = true) : a ≠ b := by
  rintro rfl
  rw [o.irr] at h
  cases h
/-- not below, and below -/
theorem Tot.le_lt (o : Tot lt) {a b c : α} (h : lt b a = false) (k : lt b c = true) : lt a c = true := by
  cases h2 : lt a c with
  | true => rfl
  | false =>
    cases h3 : lt c a with
    | true => have := o.tr _ _ _ k h3; rw [h] at this; cases this
    | false => obtain rfl := o.tot _ _ h2 h3; rw [h] at k; cases k
theorem Tot.lt_le (o : Tot lt) {a b c : α} (h : lt a b = true) (k : lt c b = false) : lt a c = true := by
  cases h3 : lt b c with
  | true => exact o.tr _ _ _ h h3
  | false => obtain rfl := o.tot _ _ h3 k; exact h
theorem Tot.le_tr (o : Tot lt) {a b c : α} (h : lt b a = false) (k : lt c b = false) : lt c a = false := by
  cases h2 : lt c a with
  | false => rfl
  | true => have := o.lt_le h2 h; rw [k] at this; cases this
/-- Each below all that stand behind it. -/
def Ris (lt : α → α → Bool) (l : List α) : Prop := l.Pairwise fun a b => lt a b = true
theorem ris_nil : Ris lt [] := List.Pairwise.nil
theorem ris_cons {a : α} {l : List α} : Ris lt (a :: l) ↔ (∀ b ∈ l, lt a b = true) ∧ Ris lt l := List.pairwise_cons
/-- Two rising lists with the same elements are one. -/
theorem ris_ext (o : Tot lt) : ∀ {l m : List α}, Ris lt l → Ris lt m → (∀ x, x ∈ l ↔ x ∈ m) → l = m
  | [], [], _, _, _ => rfl
  | [], b :: m, _, _, h => by have := (h b).2 (by simp); simp at this
  | a :: l, [], _, _, h => by have := (h a).1 (by simp); simp at this
  | a :: l, b :: m, hl, hm, h => by
    obtain ⟨h1, h2⟩ := ris_cons.1 hl
    obtain ⟨k1, k2⟩ := ris_cons.1 hm
    have e : a = b := by
      rcases List.mem_cons.1 ((h a).1 (by simp)) with e | e
      · exact e
      · rcases List.mem_cons.1 ((h b).2 (by simp)) with e2 | e2
        · exact e2.symm
        · have := o.asym (h1 _ e2); rw [k1 _ e] at this; cases this
    subst e
    rw [ris_ext o h2 k2 (fun x => ?_)]
    constructor
    · intro hx
      rcases List.mem_cons.1 ((h x).1 (by simp [hx])) with e | e
      · subst e; exact absurd rfl (o.ne (h1 _ hx))
      · exact e
    · intro hx
      rcases List.mem_cons.1 ((h x).2 (by simp [hx])) with e | e
      · subst e; exact absurd rfl (o.ne (k1 _ hx))
      · exact e
/-- An element laid into a rising list. -/
def ins (lt : α → α → Bool) (x : α) : List α → List α
  | [] => [x]
  | a :: l => if lt x a = true then x :: a :: l else if lt a x = true then a :: ins lt x l else a :: l
def setL (lt : α → α → Bool) : List α → List α
  | [] => []
  | a :: l => ins lt a (setL lt l)
theorem mem_ins (o : Tot lt) (x y : α) : ∀ l : List α, y ∈ ins lt x l ↔ y = x ∨ y ∈ l
  | [] => by simp [ins]
  | a :: l => by
    unfold ins
    split
    · simp
    · split
      · rw [List.mem_cons, mem_ins o x y l, List.mem_cons]
        constructor <;> (intro h; rcases h with h | h | h <;> simp [h])
      · rename_i h1 h2
        have e : x = a := o.tot _ _ (by simpa using h1) (by simpa using h2)
        subst e
        simp
theorem ris_ins (o : Tot lt) (x : α) : ∀ {l : List α}, Ris lt l → Ris lt (ins lt x l)
  | [], _ => by simp [ins, Ris]
  | a :: l, h => by
    obtain ⟨h1, h2⟩ := ris_cons.1 h
    unfold ins
    split
    · rename_i hx
      exact ris_cons.2 ⟨fun b hb => by rcases List.mem_cons.1 hb with rfl | hb; exact hx; exact o.tr _ _ _ hx (h1 _ hb), h⟩
    · split
      · rename_i hx
        exact ris_cons.2 ⟨fun b hb => by rcases (mem_ins o x b l).1 hb with rfl | hb; exact hx; exact h1 _ hb, ris_ins o x h2⟩
      · exact h
theorem mem_setL (o : Tot lt) (y : α) : ∀ l : List α, y ∈ setL lt l ↔ y ∈ l
  | [] => by simp [setL]
  | a :: l => by rw [setL, mem_ins o, mem_setL o y l, List.mem_cons]
theorem ris_setL (o : Tot lt) : ∀ l : List α, Ris lt (setL lt l)
  | [] => ris_nil
  | a :: l => ris_ins o a (ris_setL o l)
theorem setL_eq (o : Tot lt) {l m : List α} (h : Ris lt m) (he : ∀ x, x ∈ m ↔ x ∈ l) : m = setL lt l := ris_ext o h (ris_setL o l) (fun x => (he x).trans (mem_setL o x l).symm)
theorem setL_of_ris (o : Tot lt) {l : List α} (h : Ris lt l) : setL lt l = l := (setL_eq o h (fun _ => Iff.rfl)).symm
theorem setL_congr (o : Tot lt) {l m : List α} (he : ∀ x, x ∈ l ↔ x ∈ m) : setL lt l = setL lt m := setL_eq o (ris_setL o l) (fun x => (mem_setL o x l).trans (he x))
theorem ris_nodup (o : Tot lt) {l : List α} (h : Ris lt l) : l.Nodup := h.imp (fun hab => o.ne hab)
theorem ris_filter {l : List α} (p : α → Bool) (h : Ris lt l) : Ris lt (l.filter p) := h.filter p
theorem setL_len (o : Tot lt) : ∀ l : List α, (setL lt l).length ≤ l.length
  | [] => by simp [setL]
  | a :: l => by
    have ih := setL_len o l
    have hi : ∀ (x : α) (m : List α), (ins lt x m).length ≤ m.length + 1 := by
      intro x m
      induction m with
      | nil => simp [ins]
      | cons b m ih =>
        unfold ins
        split
        · simp
        · split
          · simp only [List.length_cons]; omega
          · simp
    have := hi a (setL lt l)
    simp only [setL, List.length_cons]
    omega
/-- The test of Rising, place by place. -/
def risB (lt : α → α → Bool) : List α → Bool
  | a :: b :: l => lt a b && risB lt (b :: l)
  | _ => true
theorem risB_iff (o : Tot lt) : ∀ l : List α, risB lt l = true ↔ Ris lt l
  | [] => by simp [risB, Ris]
  | [a] => by simp [risB, Ris]
  | a :: b :: l => by
    rw [risB, Bool.and_eq_true, risB_iff o (b :: l), ris_cons (a := a)]
    constructor
    · rintro ⟨h1, h2⟩
      exact ⟨fun c hc => by rcases List.mem_cons.1 hc with rfl | hc; exact h1; exact o.tr _ _ _ h1 ((ris_cons.1 h2).1 _ hc), h2⟩
    · rintro ⟨h1, h2⟩
      exact ⟨h1 b (by simp), h2⟩
theorem risB_setL (o : Tot lt) [DecidableEq α] (l : List α) : risB lt l = decide (setL lt l = l) := by
  by_cases h : Ris lt l
  · rw [(risB_iff o l).2 h, setL_of_ris o h]; simp
  · rw [show risB lt l = false by cases hr : risB lt l with | false => rfl | true => exact absurd ((risB_iff o l).1 hr) h]
    symm
    rw [decide_eq_false_iff_not]
    intro e
    exact h (e ▸ ris_setL o l)
/-- In how many of the lists an element stands. -/
def cnt [DecidableEq α] (ls : List (List α)) (x : α) : Nat := (ls.filter fun l => decide (x ∈ l)).length
theorem cnt_nil [DecidableEq α] (x : α) : cnt ([] : List (List α)) x = 0 := rfl
theorem cnt_cons [DecidableEq α] (l : List α) (ls : List (List α)) (x : α) : cnt (l :: ls) x = (if x ∈ l then 1 else 0) + cnt ls x := by
  unfold cnt
  by_cases h : x ∈ l <;> simp [h]; omega
theorem cnt_pos [DecidableEq α] (ls : List (List α)) (x : α) : 0 < cnt ls x ↔ ∃ l ∈ ls, x ∈ l := by
  unfold cnt
  rw [List.length_pos_iff_exists_mem]
  simp
theorem cnt_le [DecidableEq α] (ls : List (List α)) (x : α) : cnt ls x ≤ ls.length := List.length_filter_le _ _
theorem cnt_perm [DecidableEq α] {ls ms : List (List α)} (h : ls.Perm ms) (x : α) : cnt ls x = cnt ms x := (h.filter _).length_eq
/-- What stands in k of the lists, and in one at least. -/
def atLeast (lt : α → α → Bool) [DecidableEq α] (k : Int) (ls : List (List α)) : List α := (setL lt ls.flatten).filter fun x => decide (k ≤ (cnt ls x : Int))
theorem ris_atLeast (o : Tot lt) [DecidableEq α] (k : Int) (ls : List (List α)) : Ris lt (atLeast lt k ls) := ris_filter _ (ris_setL o _)
theorem mem_atLeast (o : Tot lt) [DecidableEq α] (k : Int) (ls : List (List α)) (x : α) : x ∈ atLeast lt k ls ↔ 0 < cnt ls x ∧ k ≤ (cnt ls x : Int) := by
  unfold atLeast
  rw [List.mem_filter, mem_setL o, decide_eq_true_iff, cnt_pos, List.mem_flatten]
end
/-- The whole numbers' order. -/
def ltI (a b : Int) : Bool := decide (a < b)
theorem totI : Tot ltI := ⟨fun a => by simp [ltI], fun a b c h k => by simp [ltI] at *; omega, fun a b h k => by simp [ltI] at *; omega⟩
end Go.Proofs.Ytnflokhffmfifaa.Ris

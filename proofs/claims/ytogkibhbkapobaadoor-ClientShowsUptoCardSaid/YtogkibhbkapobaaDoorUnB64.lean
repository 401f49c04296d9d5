/- A reader of base64, character by character, on lists of byte numbers: what it takes is what a writer of base64 writes. No program. -/
import Derived.Test.YtogkibhbkapobaaDoorL64
namespace Go.Proofs.YtogkibhbkapobaaDoor.UnB64
open Go.RowKit Go.Proofs.YtogkibhbkapobaaDoor.L64 Go.Proofs.YtogkibhbkapobaaDoorW.PrintWords Go.Proofs.YtogkibhbkapobaaDoorW.PrintLast
set_option linter.unusedVariables false
set_option linter.unusedSimpArgs false

/-- What a character is worth. -/
def w64 (c : Int) : Option Int := if 65 ≤ c ∧ c ≤ 90 then some (c - 65) else if 97 ≤ c ∧ c ≤ 122 then some (c - 71) else if 48 ≤ c ∧ c ≤ 57 then some (c + 4) else if c = 43 then some 62 else if c = 47 then some 63 else none
theorem w64_some {c n : Int} (h : w64 c = some n) : 0 ≤ n ∧ n < 64 ∧ l64 n = c ∧ c ≠ 61 ∧ 0 ≤ c ∧ c ≤ 255 := by
  have hc : 0 ≤ c ∧ c ≤ 255 := by
    unfold w64 at h
    (repeat' split at h) <;> first | omega | cases h
  obtain ⟨y, rfl⟩ := fin_of c 256 hc.1 (by omega)
  have k : ∀ y : Fin 256, (match w64 (y.val : Int) with | some n => decide (0 ≤ n ∧ n < 64 ∧ l64 n = (y.val : Int) ∧ (y.val : Int) ≠ 61) | none => true) = true := by decide +kernel
  have := k y
  rw [h] at this
  have := of_decide_eq_true this
  exact ⟨this.1, this.2.1, this.2.2.1, this.2.2.2, hc⟩
theorem w64_l64 (n : Int) (h : 0 ≤ n) (h2 : n < 64) : w64 (l64 n) = some n := by
  obtain ⟨y, rfl⟩ := fin_of n 64 h (by omega)
  have : ∀ y : Fin 64, w64 (l64 (y.val : Int)) = some (y.val : Int) := by decide +kernel
  exact this y
theorem l64_ne (n : Int) (h : 0 ≤ n) (h2 : n < 64) : l64 n ≠ 61 := (l64_ok n h h2).2.2.2.2
theorem w64_61 : w64 61 = none := by decide

/-- Where the reader stands: closed (a group with pads lies behind it); the letters of the group that is read; its pads; the bytes so far. -/
structure St where
  closed : Bool
  g : List Int
  p : Nat
  acc : List Int

def out3 : List Int → List Int
  | [a, b, c, d] => [a * 4 + b / 16, b % 16 * 16 + c / 4, c % 4 * 64 + d]
  | [a, b, c] => [a * 4 + b / 16, b % 16 * 16 + c / 4]
  | [a, b] => [a * 4 + b / 16]
  | _ => []
def pad : List Int → Nat → List Int → Option St
  | [a, b], 0, acc => if b % 16 = 0 then some ⟨false, [a, b], 1, acc⟩ else none
  | [a, b], 1, acc => some ⟨true, [], 0, acc ++ out3 [a, b]⟩
  | [a, b, c], 0, acc => if c % 4 = 0 then some ⟨true, [], 0, acc ++ out3 [a, b, c]⟩ else none
  | _, _, _ => none
def more : List Int → Int → List Int → St
  | [a, b, c], w, acc => ⟨false, [], 0, acc ++ out3 [a, b, c, w]⟩
  | g, w, acc => ⟨false, g ++ [w], 0, acc⟩
def stepC (st : St) (c : Int) : Option St :=
  if st.closed = true then none else if c = 61 then pad st.g st.p st.acc else match w64 c with
    | none => none
    | some w => if st.p = 0 then some (more st.g w st.acc) else none
def runC : St → List Int → Option St
  | st, [] => some st
  | st, c :: r => match stepC st c with | none => none | some st' => runC st' r
def fin (st : St) (pos : Int) : List Int × Int × Int := if st.g = [] then (st.acc, 0, pos) else ([], 12, pos)
def unB : St → Int → List Int → List Int × Int × Int
  | st, pos, [] => fin st pos
  | st, pos, c :: r => match stepC st c with | none => ([], 12, pos) | some st' => unB st' (pos + 1) r
def st0 : St := ⟨false, [], 0, []⟩

theorem unB_run : ∀ {l : List Int} {st st' : St} (r : List Int) (pos : Int), runC st l = some st' → unB st pos (l ++ r) = unB st' (pos + l.length) r
  | [], st, st', r, pos, h => by
    obtain rfl := Option.some.inj h
    simp
  | c :: l, st, st', r, pos, h => by
    rw [runC] at h
    rw [List.cons_append, unB]
    cases hs : stepC st c with
    | none => rw [hs] at h; cases h
    | some s1 =>
      rw [hs] at h
      have := unB_run r (pos + 1) h
      simp only [this, List.length_cons]
      congr 1
      omega
theorem run_append : ∀ {l : List Int} {st st' : St} (r : List Int), runC st l = some st' → runC st (l ++ r) = runC st' r
  | [], st, st', r, h => by obtain rfl := Option.some.inj h; rfl
  | c :: l, st, st', r, h => by
    rw [runC] at h
    rw [List.cons_append, runC]
    cases hs : stepC st c with
    | none => rw [hs] at h; cases h
    | some s1 => rw [hs] at h; exact run_append r h
/-- Either all is taken, or there is a first character that is refused. -/
theorem run_or : ∀ (l : List Int) (st : St), (∃ st', runC st l = some st') ∨ ∃ q st', q < l.length ∧ runC st (l.take q) = some st' ∧ stepC st' (l.getD q 0) = none
  | [], st => .inl ⟨st, rfl⟩
  | c :: l, st => by
    cases hs : stepC st c with
    | none => exact .inr ⟨0, st, by simp, rfl, by simpa using hs⟩
    | some s1 =>
      rcases run_or l s1 with ⟨st', h⟩ | ⟨q, st', h1, h2, h3⟩
      · exact .inl ⟨st', by rw [runC, hs]; exact h⟩
      · exact .inr ⟨q + 1, st', by simp; omega, by rw [List.take_succ_cons, runC, hs]; exact h2, by simpa using h3⟩
theorem unB_refused {l : List Int} {st st' : St} {q : Nat} (pos : Int) (hq : q < l.length) (h : runC st (l.take q) = some st') (h2 : stepC st' (l.getD q 0) = none) : unB st pos l = ([], 12, pos + q) := by
  have e : l = l.take q ++ l.getD q 0 :: l.drop (q + 1) := by
    conv => lhs; rw [← List.take_append_drop q l]
    rw [List.drop_eq_getElem_cons hq]
    simp [List.getD_eq_getElem?_getD, List.getElem?_eq_getElem hq]
  rw [e, unB_run _ _ h, unB, h2]
  simp only [List.length_take]
  rw [Nat.min_eq_left (by omega)]

/-- What has been read stands so. -/
structure Rep (st : St) (l : List Int) : Prop where
  all : l = b64 st.acc ++ st.g.map l64 ++ List.replicate st.p 61
  rng : ∀ x ∈ st.g, 0 ≤ x ∧ x < 64
  accr : ∀ x ∈ st.acc, 0 ≤ x ∧ x ≤ 255
  whole : st.closed = false → st.acc.length % 3 = 0
  shut : st.closed = true → st.acc.length % 3 ≠ 0 ∧ st.g = [] ∧ st.p = 0
  form : (st.g = [] ∧ st.p = 0) ∨ (∃ a, st.g = [a] ∧ st.p = 0) ∨ (∃ a b, st.g = [a, b] ∧ (st.p = 0 ∨ st.p = 1 ∧ b % 16 = 0)) ∨ (∃ a b c, st.g = [a, b, c] ∧ st.p = 0)

theorem b64_append : ∀ (l m : List Int), l.length % 3 = 0 → b64 (l ++ m) = b64 l ++ b64 m
  | [], m, _ => by simp [b64]
  | [a], m, h => by simp at h
  | [a, b], m, h => by simp at h
  | a :: b :: c :: r, m, h => by
    have := b64_append r m (by simp at h; omega)
    simp only [List.cons_append, b64, this]
theorem b64_4 (a b c d : Int) (ha : 0 ≤ a ∧ a < 64) (hb : 0 ≤ b ∧ b < 64) (hc : 0 ≤ c ∧ c < 64) (hd : 0 ≤ d ∧ d < 64) : b64 (out3 [a, b, c, d]) = [l64 a, l64 b, l64 c, l64 d] := by
  simp only [out3, b64]
  rw [show (a * 4 + b / 16) / 4 = a from by omega, show (a * 4 + b / 16) % 4 * 16 + (b % 16 * 16 + c / 4) / 16 = b from by omega, show (b % 16 * 16 + c / 4) % 16 * 4 + (c % 4 * 64 + d) / 64 = c from by omega, show (c % 4 * 64 + d) % 64 = d from by omega]
theorem b64_3 (a b c : Int) (ha : 0 ≤ a ∧ a < 64) (hb : 0 ≤ b ∧ b < 64) (hc : 0 ≤ c ∧ c < 64) (h : c % 4 = 0) : b64 (out3 [a, b, c]) = [l64 a, l64 b, l64 c, 61] := by
  simp only [out3, b64]
  rw [show (a * 4 + b / 16) / 4 = a from by omega, show (a * 4 + b / 16) % 4 * 16 + (b % 16 * 16 + c / 4) / 16 = b from by omega, show (b % 16 * 16 + c / 4) % 16 * 4 = c from by omega]
theorem b64_2 (a b : Int) (ha : 0 ≤ a ∧ a < 64) (hb : 0 ≤ b ∧ b < 64) (h : b % 16 = 0) : b64 (out3 [a, b]) = [l64 a, l64 b, 61, 61] := by
  simp only [out3, b64]
  rw [show (a * 4 + b / 16) / 4 = a from by omega, show (a * 4 + b / 16) % 4 * 16 = b from by omega]
theorem out3_rng {g : List Int} (h : ∀ x ∈ g, 0 ≤ x ∧ x < 64) : ∀ x ∈ out3 g, 0 ≤ x ∧ x ≤ 255 := by
  match g, h with
  | [], _ => intro x hx; simp [out3] at hx
  | [a], _ => intro x hx; simp [out3] at hx
  | [a, b], h =>
    have := h a (by simp); have := h b (by simp)
    intro x hx; simp [out3] at hx; omega
  | [a, b, c], h =>
    have := h a (by simp); have := h b (by simp); have := h c (by simp)
    intro x hx; simp only [out3, List.mem_cons, List.not_mem_nil, or_false] at hx; omega
  | [a, b, c, d], h =>
    have := h a (by simp); have := h b (by simp); have := h c (by simp); have := h d (by simp)
    intro x hx; simp only [out3, List.mem_cons, List.not_mem_nil, or_false] at hx; omega
  | a :: b :: c :: d :: e :: r, _ => intro x hx; simp [out3] at hx
theorem rep0 : Rep st0 [] := ⟨rfl, by simp [st0], by simp [st0], by simp [st0], by simp [st0], .inl ⟨rfl, rfl⟩⟩
theorem mem_app {l m : List Int} {p : Int → Prop} (h : ∀ x ∈ l, p x) (k : ∀ x ∈ m, p x) : ∀ x ∈ l ++ m, p x := by
  intro x hx
  rcases List.mem_append.1 hx with hx | hx
  · exact h x hx
  · exact k x hx
theorem rep_step {st st' : St} {l : List Int} {c : Int} (h : Rep st l) (hs : stepC st c = some st') : Rep st' (l ++ [c]) := by
  obtain ⟨cl, g, p, acc⟩ := st
  obtain ⟨h1, h2, h3, h4, h5, h6⟩ := h
  simp only at h1 h2 h3 h4 h5 h6
  unfold stepC at hs
  simp only at hs
  by_cases hc : cl = true
  · rw [if_pos hc] at hs; cases hs
  rw [if_neg hc] at hs
  have hcl : cl = false := by simpa using hc
  have hw := h4 hcl
  by_cases he : c = 61
  · subst he
    rw [if_pos rfl] at hs
    rcases h6 with ⟨rfl, rfl⟩ | ⟨a, rfl, rfl⟩ | ⟨a, b, rfl, rfl | ⟨rfl, hb⟩⟩ | ⟨a, b, c, rfl, rfl⟩
    · simp [pad] at hs
    · simp [pad] at hs
    · simp only [pad] at hs
      split at hs
      · rename_i hb
        obtain rfl := Option.some.inj hs
        exact ⟨by simp [h1], h2, h3, fun _ => hw, fun h => (by cases h), .inr (.inr (.inl ⟨a, b, rfl, .inr ⟨rfl, hb⟩⟩))⟩
      · cases hs
    · simp only [pad] at hs
      obtain rfl := Option.some.inj hs
      have ha := h2 a (by simp); have hbr := h2 b (by simp)
      refine ⟨?_, by simp, mem_app h3 (out3_rng h2), fun h => (by cases h), fun _ => ⟨by simp [out3]; omega, rfl, rfl⟩, .inl ⟨rfl, rfl⟩⟩
      rw [h1, b64_append _ _ hw, b64_2 a b ha hbr hb]
      simp
    · simp only [pad] at hs
      split at hs
      · rename_i hc4
        obtain rfl := Option.some.inj hs
        have ha := h2 a (by simp); have hbr := h2 b (by simp); have hcr := h2 c (by simp)
        refine ⟨?_, by simp, mem_app h3 (out3_rng h2), fun h => (by cases h), fun _ => ⟨by simp [out3]; omega, rfl, rfl⟩, .inl ⟨rfl, rfl⟩⟩
        rw [h1, b64_append _ _ hw, b64_3 a b c ha hbr hcr hc4]
        simp
      · cases hs
  · rw [if_neg he] at hs
    cases hx : w64 c with
    | none => rw [hx] at hs; cases hs
    | some w =>
      rw [hx] at hs
      obtain ⟨w0, w1, w2, _⟩ := w64_some hx
      simp only at hs
      split at hs
      · rename_i hp
        subst hp
        obtain rfl := Option.some.inj hs
        rcases h6 with ⟨rfl, _⟩ | ⟨a, rfl, _⟩ | ⟨a, b, rfl, _⟩ | ⟨a, b, d, rfl, _⟩
        · exact ⟨by simp [more, h1, w2], by simp [more]; omega, h3, fun _ => hw, fun h => (by cases h), .inr (.inl ⟨w, rfl, rfl⟩)⟩
        · exact ⟨by simp [more, h1, w2], by intro x hx; simp [more] at hx; rcases hx with rfl | rfl; exact h2 _ (by simp); exact ⟨w0, w1⟩, h3, fun _ => hw, fun h => (by cases h), .inr (.inr (.inl ⟨a, w, rfl, .inl rfl⟩))⟩
        · exact ⟨by simp [more, h1, w2], by intro x hx; simp [more] at hx; rcases hx with rfl | rfl | rfl; exact h2 _ (by simp); exact h2 _ (by simp); exact ⟨w0, w1⟩, h3, fun _ => hw, fun h => (by cases h), .inr (.inr (.inr ⟨a, b, w, rfl, rfl⟩))⟩
        · have ha := h2 a (by simp); have hbr := h2 b (by simp); have hdr := h2 d (by simp)
          have h4r : ∀ x ∈ [a, b, d, w], 0 ≤ x ∧ x < 64 := by intro x hx; simp at hx; rcases hx with rfl | rfl | rfl | rfl <;> first | assumption | exact ⟨w0, w1⟩
          refine ⟨?_, by simp [more], mem_app h3 (out3_rng h4r), fun _ => by simp [more, out3]; omega, fun h => (by cases h), .inl ⟨rfl, rfl⟩⟩
          simp only [more]
          rw [h1, b64_append _ _ hw, b64_4 a b d w ha hbr hdr ⟨w0, w1⟩]
          simp [w2]
      · cases hs
theorem rep_run : ∀ {l : List Int} {st st' : St} {k : List Int}, Rep st k → runC st l = some st' → Rep st' (k ++ l)
  | [], st, st', k, h, hr => by obtain rfl := Option.some.inj hr; simpa using h
  | c :: l, st, st', k, h, hr => by
    rw [runC] at hr
    cases hs : stepC st c with
    | none => rw [hs] at hr; cases hr
    | some s1 =>
      rw [hs] at hr
      have := rep_run (rep_step h hs) hr
      simpa using this
/-- The writer's text is taken, and gives the bytes back. -/
theorem run_b64 : ∀ (m acc : List Int), (∀ x ∈ m, 0 ≤ x ∧ x ≤ 255) → runC ⟨false, [], 0, acc⟩ (b64 m) = some ⟨decide (m.length % 3 ≠ 0), [], 0, acc ++ m⟩
  | [], acc, _ => by simp [b64, runC]
  | [a], acc, h => by
    have ha := h a (by simp)
    have n1 := l64_ne (a / 4) (by omega) (by omega)
    have n2 := l64_ne (a % 4 * 16) (by omega) (by omega)
    simp only [b64, runC, stepC, n1, n2, w64_l64 (a / 4) (by omega) (by omega), w64_l64 (a % 4 * 16) (by omega) (by omega), more, pad, out3]
    simp
    omega
  | [a, b], acc, h => by
    have ha := h a (by simp); have hb := h b (by simp)
    have n1 := l64_ne (a / 4) (by omega) (by omega)
    have n2 := l64_ne (a % 4 * 16 + b / 16) (by omega) (by omega)
    have n3 := l64_ne (b % 16 * 4) (by omega) (by omega)
    simp only [b64, runC, stepC, n1, n2, n3, w64_l64 (a / 4) (by omega) (by omega), w64_l64 (a % 4 * 16 + b / 16) (by omega) (by omega), w64_l64 (b % 16 * 4) (by omega) (by omega), more, pad, out3]
    simp
    omega
  | a :: b :: c :: r, acc, h => by
    have ha := h a (by simp); have hb := h b (by simp); have hc := h c (by simp)
    have n1 := l64_ne (a / 4) (by omega) (by omega)
    have n2 := l64_ne (a % 4 * 16 + b / 16) (by omega) (by omega)
    have n3 := l64_ne (b % 16 * 4 + c / 64) (by omega) (by omega)
    have n4 := l64_ne (c % 64) (by omega) (by omega)
    have ih := run_b64 r (acc ++ [a, b, c]) (fun x hx => h x (by simp [hx]))
    have e : out3 [a / 4, a % 4 * 16 + b / 16, b % 16 * 4 + c / 64, c % 64] = [a, b, c] := by
      simp only [out3, List.cons.injEq, and_true]
      omega
    simp only [b64, runC, stepC, n1, n2, n3, n4, w64_l64 (a / 4) (by omega) (by omega), w64_l64 (a % 4 * 16 + b / 16) (by omega) (by omega), w64_l64 (b % 16 * 4 + c / 64) (by omega) (by omega), w64_l64 (c % 64) (by omega) (by omega), more, List.nil_append, List.cons_append, if_false, if_true, Bool.false_eq_true, e, ih]
    simp
    omega
theorem unB_b64 (m : List Int) (h : ∀ x ∈ m, 0 ≤ x ∧ x ≤ 255) : unB st0 0 (b64 m) = (m, 0, ((b64 m).length : Int)) := by
  have := unB_run (l := b64 m) [] 0 (run_b64 m [] h)
  rw [List.append_nil] at this
  show unB ⟨false, [], 0, []⟩ 0 (b64 m) = _
  rw [this]
  simp [unB, fin]
/-- What the reader answers: taken, and then it is what the writer writes; or refused at a place. -/
theorem unB_spec (l : List Int) : (∃ m, unB st0 0 l = (m, 0, (l.length : Int)) ∧ (∀ x ∈ m, 0 ≤ x ∧ x ≤ 255) ∧ l = b64 m) ∨
    ∃ q st', q ≤ l.length ∧ unB st0 0 l = ([], 12, (q : Int)) ∧ runC st0 (l.take q) = some st' ∧ (q < l.length → stepC st' (l.getD q 0) = none) ∧ (q = l.length → st'.g ≠ []) := by
  rcases run_or l st0 with ⟨st', h⟩ | ⟨q, st', h1, h2, h3⟩
  · have hr := rep_run rep0 h
    rw [List.nil_append] at hr
    have hu := unB_run [] 0 h
    rw [List.append_nil, Int.zero_add] at hu
    by_cases hg : st'.g = []
    · left
      have hp : st'.p = 0 := by
        rcases hr.form with ⟨_, hp⟩ | ⟨a, hp, _⟩ | ⟨a, b, hp, _⟩ | ⟨a, b, c, hp, _⟩
        · exact hp
        all_goals (rw [hg] at hp; cases hp)
      refine ⟨st'.acc, by rw [hu]; simp [unB, fin, hg], hr.accr, ?_⟩
      rw [hr.all, hg, hp]
      simp
    · right
      exact ⟨l.length, st', Nat.le_refl _, by rw [hu]; simp [unB, fin, hg], by rw [List.take_of_length_le (Nat.le_refl _)]; exact h, fun z => absurd z (by omega), fun _ => hg⟩
  · exact .inr ⟨q, st', by omega, by have := unB_refused 0 h1 h2 h3; simpa using this, h2, fun _ => h3, fun z => by omega⟩
end Go.Proofs.YtogkibhbkapobaaDoor.UnB64

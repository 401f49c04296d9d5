/- The program's reader of base64 as it keeps its group, on numbers: it answers what the plain reader answers. No program. -/
import Derived.Test.YtppnhlkfkedlmaaDoorUnB64
namespace Go.Proofs.YtppnhlkfkedlmaaDoor.RawB64
open Go.RowKit Go.Proofs.YtppnhlkfkedlmaaDoor.L64 Go.Proofs.YtppnhlkfkedlmaaDoor.UnB64 Go.Proofs.YtppnhlkfkedlmaaDoorW.PrintWords Go.Proofs.YtppnhlkfkedlmaaDoorW.PrintLast
set_option linter.unusedVariables false
set_option linter.unusedSimpArgs false
/-- The group: characters read of it, what they are worth, its pads. -/
structure G where
  at_ : Int
  w0 : Int
  w1 : Int
  w2 : Int
  w3 : Int
  p : Int
def G0 : G := ⟨0, 0, 0, 0, 0, 0⟩
def setW (g : G) (w : Int) : G := if g.at_ = 0 then ⟨1, w, g.w1, g.w2, g.w3, g.p⟩ else if g.at_ = 1 then ⟨2, g.w0, w, g.w2, g.w3, g.p⟩ else if g.at_ = 2 then ⟨3, g.w0, g.w1, w, g.w3, g.p⟩ else ⟨g.at_ + 1, g.w0, g.w1, g.w2, w, g.p⟩
def padG (g : G) : G := ⟨g.at_ + 1, g.w0, g.w1, g.w2, g.w3, g.p + 1⟩
def takeG (g : G) (c : Int) : G × Bool :=
  if c = 61 then (if g.at_ < 2 then (g, false) else if 0 < g.p ∨ (g.at_ = 2 ∧ g.w1 % 16 = 0) ∨ (g.at_ = 3 ∧ g.w2 % 4 = 0) then (padG g, true) else (g, false))
  else match w64 c with
    | none => (g, false)
    | some w => if 0 < g.p then (g, false) else (setW g w, true)
def bytesG (g : G) : List Int := if g.p = 0 then [g.w0 * 4 + g.w1 / 16, g.w1 % 16 * 16 + g.w2 / 4, g.w2 % 4 * 64 + g.w3] else if g.p = 1 then [g.w0 * 4 + g.w1 / 16, g.w1 % 16 * 16 + g.w2 / 4] else [g.w0 * 4 + g.w1 / 16]
def accG (g : G) (acc : List Int) : List Int := if g.at_ = 4 then acc ++ bytesG g else acc
def loopU : G → List Int → Int → List Int → List Int × Int × Int
  | g, acc, pos, [] => if pos % 4 = 0 then (acc, 0, pos) else ([], 12, pos)
  | g, acc, pos, c :: r => if g.at_ = 4 ∧ 0 < g.p then ([], 12, pos) else
      if (takeG (if g.at_ = 4 then G0 else g) c).2 = true then loopU (takeG (if g.at_ = 4 then G0 else g) c).1 (accG (takeG (if g.at_ = 4 then G0 else g) c).1 acc) (pos + 1) r else ([], 12, pos)
/-- All of it within its bounds. -/
structure OkG (g : G) : Prop where
  a : 0 ≤ g.at_ ∧ g.at_ ≤ 4
  h0 : 0 ≤ g.w0 ∧ g.w0 < 64
  h1 : 0 ≤ g.w1 ∧ g.w1 < 64
  h2 : 0 ≤ g.w2 ∧ g.w2 < 64
  h3 : 0 ≤ g.w3 ∧ g.w3 < 64
  p : 0 ≤ g.p ∧ (g.p = 0 ∨ g.p + 2 ≤ g.at_)
theorem ok0 : OkG G0 := ⟨by decide, by decide, by decide, by decide, by decide, by decide⟩
theorem ok_take {g : G} (h : OkG g) (h4 : g.at_ < 4) (c : Int) : OkG (takeG g c).1 ∧ ((takeG g c).2 = true → (takeG g c).1.at_ = g.at_ + 1) := by
  obtain ⟨a, h0, h1, h2, h3, p⟩ := h
  have ok : OkG g := ⟨a, h0, h1, h2, h3, p⟩
  unfold takeG
  split
  · split
    · exact ⟨ok, fun z => by cases z⟩
    · split
      · exact ⟨⟨by simp only [padG]; omega, h0, h1, h2, h3, by simp only [padG]; omega⟩, fun _ => rfl⟩
      · exact ⟨ok, fun z => by cases z⟩
  · cases hw : w64 c with
    | none => exact ⟨ok, fun z => by cases z⟩
    | some w =>
      obtain ⟨w0, w1, _⟩ := w64_some hw
      simp only
      split
      · exact ⟨ok, fun z => by cases z⟩
      · unfold setW
        refine ⟨?_, fun _ => ?_⟩
        · split
          · exact ⟨by simp, ⟨w0, w1⟩, h1, h2, h3, by simp only; omega⟩
          · split
            · exact ⟨by simp, h0, ⟨w0, w1⟩, h2, h3, by simp only; omega⟩
            · split
              · exact ⟨by simp, h0, h1, ⟨w0, w1⟩, h3, by simp only; omega⟩
              · exact ⟨by simp only; omega, h0, h1, h2, ⟨w0, w1⟩, by simp only; omega⟩
        · split
          · simp only; omega
          · split
            · simp only; omega
            · split
              · simp only; omega
              · rfl
/-- Inside a group. -/
def In (g : G) (st : St) : Prop := st.closed = false ∧ ((st.g = [] ∧ st.p = 0 ∧ g.at_ = 0 ∧ g.p = 0) ∨ (st.g = [g.w0] ∧ st.p = 0 ∧ g.at_ = 1 ∧ g.p = 0) ∨ (st.g = [g.w0, g.w1] ∧ st.p = 0 ∧ g.at_ = 2 ∧ g.p = 0) ∨ (st.g = [g.w0, g.w1] ∧ st.p = 1 ∧ g.at_ = 3 ∧ g.p = 1) ∨ (st.g = [g.w0, g.w1, g.w2] ∧ st.p = 0 ∧ g.at_ = 3 ∧ g.p = 0))
def Rel (g : G) (st : St) : Prop := (g.at_ = 4 ∧ st.g = [] ∧ st.p = 0 ∧ 0 ≤ g.p ∧ st.closed = decide (0 < g.p)) ∨ In g st
theorem take_in {g : G} {st : St} (h : In g st) (c : Int) : ((takeG g c).2 = false ∧ stepC st c = none) ∨
    ((takeG g c).2 = true ∧ ∃ st', stepC st c = some st' ∧ Rel (takeG g c).1 st' ∧ st'.acc = accG (takeG g c).1 st.acc ∧ (takeG g c).1.at_ = g.at_ + 1) := by
  obtain ⟨cl, sg, sp, acc⟩ := st
  obtain ⟨a, w0, w1, w2, w3, p⟩ := g
  obtain ⟨hc, h⟩ := h
  simp only at hc h
  subst hc
  by_cases he : c = 61
  · subst he
    rcases h with ⟨rfl, rfl, rfl, rfl⟩ | ⟨rfl, rfl, rfl, rfl⟩ | ⟨rfl, rfl, rfl, rfl⟩ | ⟨rfl, rfl, rfl, rfl⟩ | ⟨rfl, rfl, rfl, rfl⟩
    · left; simp [takeG, stepC, pad]
    · left; simp [takeG, stepC, pad]
    · by_cases hb : w1 % 16 = 0
      · right
        simp [takeG, stepC, pad, hb, padG, Rel, In, accG]
      · left
        simp [takeG, stepC, pad, hb]
    · right
      simp [takeG, stepC, pad, padG, Rel, In, accG, bytesG, out3]
    · by_cases hb : w2 % 4 = 0
      · right
        simp [takeG, stepC, pad, hb, padG, Rel, In, accG, bytesG, out3]
      · left
        simp [takeG, stepC, pad, hb]
  · cases hw : w64 c with
    | none => left; simp [takeG, stepC, he, hw]
    | some w =>
      rcases h with ⟨rfl, rfl, rfl, rfl⟩ | ⟨rfl, rfl, rfl, rfl⟩ | ⟨rfl, rfl, rfl, rfl⟩ | ⟨rfl, rfl, rfl, rfl⟩ | ⟨rfl, rfl, rfl, rfl⟩
      · right; simp [takeG, stepC, he, hw, setW, more, Rel, In, accG]
      · right; simp [takeG, stepC, he, hw, setW, more, Rel, In, accG]
      · right; simp [takeG, stepC, he, hw, setW, more, Rel, In, accG]
      · left; simp [takeG, stepC, he, hw]
      · right; simp [takeG, stepC, he, hw, setW, more, Rel, In, accG, bytesG, out3]
theorem loopU_eq : ∀ (l : List Int) (g : G) (st : St) (pos : Int), Rel g st → pos % 4 = g.at_ % 4 → loopU g st.acc pos l = unB st pos l
  | [], g, st, pos, h, hp => by
    unfold loopU unB fin
    rcases h with ⟨h1, h2, h3, _⟩ | ⟨_, h⟩
    · rw [if_pos (by omega), if_pos h2]
    · rcases h with ⟨h, _, ha, _⟩ | ⟨h, _, ha, _⟩ | ⟨h, _, ha, _⟩ | ⟨h, _, ha, _⟩ | ⟨h, _, ha, _⟩
      · rw [if_pos (by omega), if_pos h]
      all_goals rw [if_neg (by omega), if_neg (by rw [h]; simp)]
  | c :: r, g, st, pos, h, hp => by
    have key : ∀ g' st', In g' st' → st'.acc = st.acc → pos % 4 = g'.at_ % 4 → stepC st' c = stepC st c → (if (takeG g' c).2 = true then loopU (takeG g' c).1 (accG (takeG g' c).1 st.acc) (pos + 1) r else ([], 12, pos)) = unB st pos (c :: r) := by
      intro g' st' hin hacc hpos hst
      rw [unB, ← hst]
      rcases take_in hin c with ⟨h1, h2⟩ | ⟨h1, s2, h2, h3, h4, h5⟩
      · rw [h1, h2]; simp
      · rw [h1, h2, if_pos rfl]
        simp only
        rw [← hacc, ← h4]
        exact loopU_eq r _ s2 (pos + 1) h3 (by omega)
    unfold loopU
    rcases h with ⟨h1, h2, h3, h4, h5⟩ | h
    · by_cases hp0 : 0 < g.p
      · rw [if_pos ⟨h1, hp0⟩, unB]
        have : st.closed = true := by rw [h5]; exact decide_eq_true hp0
        simp [stepC, this]
      · rw [if_neg (fun z => hp0 z.2), if_pos h1]
        have hc : st.closed = false := by rw [h5]; exact decide_eq_false hp0
        exact key G0 st ⟨hc, .inl ⟨h2, h3, rfl, rfl⟩⟩ rfl (by show _ = (0 : Int) % 4; omega) rfl
    · have h4 : g.at_ ≠ 4 := by
        obtain ⟨_, h⟩ := h
        rcases h with ⟨_, _, h, _⟩ | ⟨_, _, h, _⟩ | ⟨_, _, h, _⟩ | ⟨_, _, h, _⟩ | ⟨_, _, h, _⟩ <;> omega
      rw [if_neg (fun z => h4 z.1), if_neg h4]
      exact key g st h rfl hp rfl
theorem loopU_at (l : List Int) : loopU G0 [] 0 l = unB st0 0 l := loopU_eq l G0 st0 0 (.inr ⟨rfl, .inl ⟨rfl, rfl, rfl, rfl⟩⟩) rfl
end Go.Proofs.YtppnhlkfkedlmaaDoor.RawB64

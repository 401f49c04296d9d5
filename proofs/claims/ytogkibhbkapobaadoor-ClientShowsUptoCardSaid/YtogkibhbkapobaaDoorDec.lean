/- Four characters of base64, decoded: plain. No program. -/
import Derived.Test.YtogkibhbkapobaaDoorXV
import Derived.Test.YtogkibhbkapobaaDoorUnB64
namespace Go.Proofs.YtogkibhbkapobaaDoor.Dec
open Go.RowKit Go.Proofs.YtogkibhbkapobaaDoor.XV Go.Proofs.YtogkibhbkapobaaDoor.L64 Go.Proofs.YtogkibhbkapobaaDoor.UnB64 Go.Proofs.YtogkibhbkapobaaDoorW.PrintWords Go.Proofs.YtogkibhbkapobaaDoorW.PrintLast
set_option linter.unusedVariables false
set_option linter.unusedSimpArgs false
def decR (l : List Int) : ByteArray × Bool := match runC st0 l with | some st => (strOfNums st.acc, true) | none => (⟨#[]⟩, false)
def val (c : Int) : Int := (w64 c).getD 0
theorem val_range (c : Int) : 0 ≤ val c ∧ val c < 64 := by
  unfold val
  cases h : w64 c with
  | none => simp
  | some w => have := w64_some h; simp; omega
theorem val_l64 (n : Int) (h : 0 ≤ n) (h2 : n < 64) : val (l64 n) = n := by unfold val; rw [w64_l64 n h h2]; rfl
theorem val_61 : val 61 = 0 := by decide
def three (c0 c1 c2 c3 : Int) : List Int := [val c0 * 4 + val c1 / 16, val c1 % 16 * 16 + val c2 / 4, val c2 % 4 * 64 + val c3]
theorem three_rng (c0 c1 c2 c3 : Int) : ∀ x ∈ three c0 c1 c2 c3, 0 ≤ x ∧ x ≤ 255 := by
  have := val_range c0; have := val_range c1; have := val_range c2; have := val_range c3
  intro x hx
  simp only [three, List.mem_cons, List.not_mem_nil, or_false] at hx
  omega
theorem dec_yes {l m : List Int} (hm : ∀ x ∈ m, 0 ≤ x ∧ x ≤ 255) (h : b64 m = l) : decR l = (strOfNums m, true) := by
  unfold decR
  have := run_b64 m [] hm
  rw [h] at this
  rw [show st0 = ⟨false, [], 0, []⟩ from rfl, this]
  simp
theorem dec_no (c0 c1 c2 c3 : Int) (h : ∀ n, 1 ≤ n → n ≤ 3 → b64 ((three c0 c1 c2 c3).take n) ≠ [c0, c1, c2, c3]) : decR [c0, c1, c2, c3] = (⟨#[]⟩, false) := by
  unfold decR
  cases hr : runC st0 [c0, c1, c2, c3] with
  | none => rfl
  | some st =>
    exfalso
    have R := rep_run rep0 hr
    rw [List.nil_append] at R
    have ha := R.all
    have hl := congrArg List.length ha
    simp only [List.length_append, List.length_map, List.length_replicate, List.length_cons, List.length_nil, b64_len] at hl
    have hg : st.g = [] ∧ st.p = 0 := by
      rcases R.form with h | ⟨a, h1, h2⟩ | ⟨a, b, h1, h2⟩ | ⟨a, b, c, h1, h2⟩
      · exact h
      all_goals (rw [h1] at hl; simp at hl; omega)
    rw [hg.1, hg.2] at ha hl
    simp only [List.map_nil, List.append_nil, List.replicate_zero] at ha
    simp at hl
    have acr := R.accr
    generalize st.acc = m at ha hl acr
    match m, ha, hl, acr with
    | [], _, hl, _ => simp at hl
    | [a], ha, _, acr =>
      have := acr a (by simp)
      refine h 1 (by omega) (by omega) ?_
      simp only [b64, List.cons.injEq, and_true] at ha
      obtain ⟨rfl, rfl, rfl, rfl⟩ := ha
      simp only [three, List.take_succ_cons, List.take_zero, val_l64 (a / 4) (by omega) (by omega), val_l64 (a % 4 * 16) (by omega) (by omega)]
      rw [show a / 4 * 4 + a % 4 * 16 / 16 = a from by omega]
      rfl
    | [a, b], ha, _, acr =>
      have := acr a (by simp); have := acr b (by simp)
      refine h 2 (by omega) (by omega) ?_
      simp only [b64, List.cons.injEq, and_true] at ha
      obtain ⟨rfl, rfl, rfl, rfl⟩ := ha
      simp only [three, List.take_succ_cons, List.take_zero, val_l64 (a / 4) (by omega) (by omega), val_l64 (a % 4 * 16 + b / 16) (by omega) (by omega), val_l64 (b % 16 * 4) (by omega) (by omega)]
      rw [show a / 4 * 4 + (a % 4 * 16 + b / 16) / 16 = a from by omega, show (a % 4 * 16 + b / 16) % 16 * 16 + b % 16 * 4 / 4 = b from by omega]
      rfl
    | [a, b, c], ha, _, acr =>
      have := acr a (by simp); have := acr b (by simp); have := acr c (by simp)
      refine h 3 (by omega) (by omega) ?_
      simp only [b64, List.cons.injEq, and_true] at ha
      obtain ⟨rfl, rfl, rfl, rfl⟩ := ha
      simp only [three, List.take_succ_cons, List.take_zero, val_l64 (a / 4) (by omega) (by omega), val_l64 (a % 4 * 16 + b / 16) (by omega) (by omega), val_l64 (b % 16 * 4 + c / 64) (by omega) (by omega), val_l64 (c % 64) (by omega) (by omega)]
      rw [show a / 4 * 4 + (a % 4 * 16 + b / 16) / 16 = a from by omega, show (a % 4 * 16 + b / 16) % 16 * 16 + (b % 16 * 4 + c / 64) / 4 = b from by omega, show (b % 16 * 4 + c / 64) % 4 * 64 + c % 64 = c from by omega]
      rfl
    | a :: b :: c :: d :: r, _, hl, _ => simp at hl; omega
theorem eq_nums {t g : ByteArray} {l m : List Int} (ht : t = strOfNums m) (hm : ∀ x ∈ m, 0 ≤ x ∧ x ≤ 255) (hg : bytesOf g = l) : t.toList = g.toList ↔ m = l := by
  rw [toList_eq_iff, ht]
  constructor
  · intro h
    rw [← hg, ← h, bytesOf_nums m hm]
  · intro h
    exact bytesOf_inj (by rw [bytesOf_nums m hm, hg, h])
theorem b64_rng {m : List Int} (hm : ∀ x ∈ m, 0 ≤ x ∧ x ≤ 255) : ∀ x ∈ b64 m, 0 ≤ x ∧ x ≤ 255 := fun x hx => by
  have := b64_ok m hm x hx
  omega
theorem size4 (g : ByteArray) (h : g.size = 4) : ∃ c0 c1 c2 c3, bytesOf g = [c0, c1, c2, c3] := by
  have hl := bytesOf_length g
  rw [h] at hl
  match hb : bytesOf g, hl with
  | [a, b, c, d], _ => exact ⟨a, b, c, d, rfl⟩
def decG (g : ByteArray) : ByteArray × Bool := decR (bytesOf g)
end Go.Proofs.YtogkibhbkapobaaDoor.Dec

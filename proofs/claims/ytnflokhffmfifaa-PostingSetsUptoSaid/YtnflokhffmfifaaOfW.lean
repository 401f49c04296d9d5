/- By hand: Rising and Of, at numbers. For every list and world. -/
import Derived.Test.YtnflokhffmfifaaCurSkip
import Derived.Shelf.SortM.Plain
import Derived.Sort.OwnSortedInts
import Derived.Ground.SlgmProg
set_option linter.unusedVariables false
set_option linter.unusedSimpArgs false
namespace Go.Proofs.Ytnflokhffmfifaa.OfW
open Go.RowKit Go.Sort Go.Shelf Go.Proofs.Ytnflokhffmfifaa.Blk Go.Proofs.Ytnflokhffmfifaa.Ris Go.Proofs.Ytnflokhffmfifaa.Cur Go.Proofs.YtnflokhffmfifaaW.PrintWords Go.Proofs.YtnflokhffmfifaaW.PrintLast Go.Proofs.YtnflokhffmfifaaW.PrintMore
theorem risB_at : ∀ l : List Int, risB ltI l = true ↔ ∀ i, i + 1 < l.length → l.getD i 0 < l.getD (i + 1) 0
  | [] => by simp [risB]
  | [a] => by simp [risB]
  | a :: b :: l => by
    rw [risB, Bool.and_eq_true, risB_at (b :: l)]
    constructor
    · rintro ⟨h1, h2⟩ i hi
      cases i with
      | zero => simpa [ltI] using h1
      | succ i => have := h2 i (by simp at hi ⊢; omega); simpa using this
    · intro h
      exact ⟨by have := h 0 (by simp); simpa [ltI] using this, fun i hi => by have := h (i + 1) (by simp at hi ⊢; omega); simpa using this⟩
structure RR (w : World) (l : List Int) (k : Nat) (wr : World) : Prop where
  up : ∀ i, i + 1 < k → l.getD i 0 < l.getD (i + 1) 0
  drawn : Drawn0 w wr
set_option maxRecDepth 100000 in
theorem rising_as (w : World) (g : Nat) (A : Option Addr) (c : Nat) (l : List Int) (h : Row w g A c l) (hn : l.length ≤ 1048576) : Calls Try.prog 34 #[.slice A l.length c] w fun e w' => e = .returned (.bool (risB ltI l)) ∧ Drawn0 w w' := by
  have hrow : Hid (∀ k : Nat, k < l.length → ∃ o, A = some ⟨g, o, none⟩ ∧ ∀ i, i < l.length → w.cell? ⟨g, o + i, none⟩ = some (.int .i64 (l.getD i 0))) := fun k hk => h.at_ (by omega)
  clear h
  go_enter Try.func34, Try.ntmps34
  go_wp2_with fail
  go_loopw [3] (fun i wr => ∃ k : Nat, 1 ≤ k ∧ (k ≤ l.length ∨ k = 1) ∧ i = .int .i64 k ∧ Hid (RR w l k wr)) (fun i _ => l.length - (intOf i).toNat)
  case atStart => exact ⟨1, by omega, by omega, rfl, ⟨fun i hi => by omega, by repeat (first | exact Drawn0.refl _ | apply Drawn0.step)⟩⟩
  case round =>
    obtain ⟨k, hk1, hk2, rfl, HW⟩ := hrel
    obtain ⟨n, rfl⟩ := HW.out.drawn.out
    by_cases hin : k < l.length
    · obtain ⟨o, rfl, hc⟩ := hrow.out k hin
      have hlt : (k : Int) < (l.length : Int) := by omega
      obtain ⟨m, rfl⟩ : ∃ m, k = m + 1 := ⟨k - 1, by omega⟩
      have hs : IntKind.i64.wrap (((m + 1 : Nat) : Int) - 1) = (m : Int) := (i64_w _).trans (by unfold wrap64; omega)
      have ca := hc m (by omega)
      have cb := hc (m + 1) hin
      generalize hx : l.getD m 0 = x at ca
      generalize hy : l.getD (m + 1) 0 = y at cb
      have HX := Lib.hid (And.intro hx hy)
      have hm0 : (m : Int) < (l.length : Int) := by omega
      clear hx hy hc
      by_cases t : x < y
      · have td : decide (x < y) = true := decide_eq_true t
        have tn : (!decide (x < y)) = false := by rw [td]; rfl
        go_wp2
        repeat (go_quiet (fail); try go_wp2)
        all_goals
          go_roundw
          case rel => exact ⟨m + 2, by omega, by omega, by go_num, ⟨fun i hi => by
            by_cases h1 : i = m
            · subst h1; rw [HX.out.1, HX.out.2]; exact t
            · exact HW.out.up i (by omega), by repeat (first | exact Drawn0.refl _ | apply Drawn0.step)⟩⟩
          case measure => simp [intOf]; omega
      · have HF : Hid (risB ltI l = false) := by
          cases hr : risB ltI l with
          | false => exact Lib.hid rfl
          | true => have := (risB_at l).1 hr m hin; rw [HX.out.1, HX.out.2] at this; exact absurd this t
        have td : decide (x < y) = false := decide_eq_false t
        have tn : (!decide (x < y)) = true := by rw [td]; rfl
        go_wp2
        repeat (go_quiet (fail); try go_wp2)
        all_goals
          go_ret
          exact ⟨by rw [HF.out]; rfl, by repeat (first | exact Drawn0.refl _ | apply Drawn0.step)⟩
    · have hlt : ¬ ((k : Int) < (l.length : Int)) := by omega
      have HT : Hid (risB ltI l = true) := Lib.hid ((risB_at l).2 (fun i hi => HW.out.up i (by omega)))
      go_wp2
      go_ret
      exact ⟨by rw [HT.out]; rfl, by repeat (first | exact Drawn0.refl _ | apply Drawn0.step)⟩
shelf_lay_g SlLaysM.n5 Slgm 5 at Try 55 as Try.sortI
theorem own_block {W : World} {b : Nat} {ok : Nat → Prop} {v : Value} {l : List Int} (h : Kd.R (Kd.int .i64) 2 W b ok v l) (hp : 0 < l.length) :
    ∃ g cap cur, v = .slice (some ⟨g, 0, none⟩) l.length cap ∧ b ≤ g ∧ At W g cur 2 ∧ l.length ≤ cap ∧ cap ≤ maxLen ∧ cur.length = cap ∧ cur.take l.length = l.map (Value.int .i64) := by
  rcases (Kd.own_of_R h).2 with ⟨_, h0⟩ | ⟨g, cap, cur, rfl, hg, hh, h1, h2, h3, h4⟩
  · omega
  · exact ⟨g, cap, cur.toList, rfl, hg, hh, h1, h2, by simpa using h3, by simpa [encs] using h4⟩
end Go.Proofs.Ytnflokhffmfifaa.OfW

/- By hand: Rising and Of, at numbers. For every list and world. -/
import Derived.Test.YtnflokhffmfifaaCurSkip
import Derived.Shelf.SortM.Plain
import Derived.Sort.OwnSortedInts
set_option linter.unusedVariables false
set_option linter.unusedSimpArgs false
namespace Go.Proofs.Ytnflokhffmfifaa.OfW
open Go.RowKit Go.Sort Go.Shelf Go.Proofs.Ytnflokhffmfifaa.Blk Go.Proofs.Ytnflokhffmfifaa.Ris Go.Proofs.Ytnflokhffmfifaa.Cur Go.Proofs.YtnflokhffmfifaaW.PrintWords Go.Proofs.YtnflokhffmfifaaW.PrintLast Go.Proofs.YtnflokhffmfifaaW.PrintMore
theorem risB_at : ∀ l : List Int, risB ltI l = true ↔ ∀ i, i + 1 < l.length → l.getD i 0 < l.getD (i + 1) 0
  | [] => by simp [risB]
  | [a] => by simp [risB]
  | a :: b :: l => by
    rw [risB, Bool.and_eq_true, risB_at (b :: l)]
    constructor
    · rintro ⟨h1, h2⟩ i hi
      cases i with
      | zero => simpa [ltI] using h1
      | succ i => have := h2 i (by simp at hi ⊢; omega); simpa using this
    · intro h
      exact ⟨by have := h 0 (by simp); simpa [ltI] using this, fun i hi => by have := h (i + 1) (by simp at hi ⊢; omega); simpa using this⟩
structure RR (w : World) (l : List Int) (k : Nat) (wr : World) : Prop where
  up : ∀ i, i + 1 < k → l.getD i 0 < l.getD (i + 1) 0
  drawn : Drawn0 w wr
set_option maxRecDepth 100000 in
theorem rising_as (w : World) (g : Nat) (A : Option Addr) (c : Nat) (l : List Int) (h : Row w g A c l) (hn : l.length ≤ 1048576) : Calls Try.prog 34 #[.slice A l.length c] w fun e w' => e = .returned (.bool (risB ltI l)) ∧ Drawn0 w w' := by
  have hrow : Hid (∀ k : Nat, k < l.length → ∃ o, A = some ⟨g, o, none⟩ ∧ ∀ i, i < l.length → w.cell? ⟨g, o + i, none⟩ = some (.int .i64 (l.getD i 0))) := fun k hk => h.at_ (by omega)
  clear h
  go_enter Try.func34, Try.ntmps34
  go_wp2_with fail
  go_loopw [3] (fun i wr => ∃ k : Nat, 1 ≤ k ∧ (k ≤ l.length ∨ k = 1) ∧ i = .int .i64 k ∧ Hid (RR w l k wr)) (fun i _ => l.length - (intOf i).toNat)
  case atStart => exact ⟨1, by omega, by omega, rfl, ⟨fun i hi => by omega, by repeat (first | exact Drawn0.refl _ | apply Drawn0.step)⟩⟩
  case round =>
    obtain ⟨k, hk1, hk2, rfl, HW⟩ := hrel
    obtain ⟨n, rfl⟩ := HW.out.drawn.out
    by_cases hin : k < l.length
    · obtain ⟨o, rfl, hc⟩ := hrow.out k hin
      have hlt : (k : Int) < (l.length : Int) := by omega
      obtain ⟨m, rfl⟩ : ∃ m, k = m + 1 := ⟨k - 1, by omega⟩
      have hs : IntKind.i64.wrap (((m + 1 : Nat) : Int) - 1) = (m : Int) := (i64_w _).trans (by unfold wrap64; omega)
      have ca := hc m (by omega)
      have cb := hc (m + 1) hin
      generalize hx : l.getD m 0 = x at ca
      generalize hy : l.getD (m + 1) 0 = y at cb
      have HX := Lib.hid (And.intro hx hy)
      have hm0 : (m : Int) < (l.length : Int) := by omega
      clear hx hy hc
      by_cases t : x < y
      · have td : decide (x < y) = true := decide_eq_true t
        have tn : (!decide (x < y)) = false := by rw [td]; rfl
        go_wp2
        repeat (go_quiet (fail); try go_wp2)
        all_goals
          go_roundw
          case rel => exact ⟨m + 2, by omega, by omega, by go_num, ⟨fun i hi => by
            by_cases h1 : i = m
            · subst h1; rw [HX.out.1, HX.out.2]; exact t
            · exact HW.out.up i (by omega), by repeat (first | exact Drawn0.refl _ | apply Drawn0.step)⟩⟩
          case measure => simp [intOf]; omega
      · have HF : Hid (risB ltI l = false) := by
          cases hr : risB ltI l with
          | false => exact Lib.hid rfl
          | true => have := (risB_at l).1 hr m hin; rw [HX.out.1, HX.out.2] at this; exact absurd this t
        have td : decide (x < y) = false := decide_eq_false t
        have tn : (!decide (x < y)) = true := by rw [td]; rfl
        go_wp2
        repeat (go_quiet (fail); try go_wp2)
        all_goals
          go_ret
          exact ⟨by rw [HF.out]; rfl, by repeat (first | exact Drawn0.refl _ | apply Drawn0.step)⟩
    · have hlt : ¬ ((k : Int) < (l.length : Int)) := by omega
      have HT : Hid (risB ltI l = true) := Lib.hid ((risB_at l).2 (fun i hi => HW.out.up i (by omega)))
      go_wp2
      go_ret
      exact ⟨by rw [HT.out]; rfl, by repeat (first | exact Drawn0.refl _ | apply Drawn0.step)⟩
def Try.sortI_ren : Go.Shelf.Ren := ⟨fun | 5 => 55 | 8 => 68 | 7 => 67 | 19 => 87 | 20 => 88 | 10 => 78 | 11 => 79 | 12 => 80 | 13 => 81 | 14 => 82 | 15 => 83 | 16 => 84 | 17 => 85 | 18 => 86 | 30 => 100 | 31 => 101 | 32 => 102 | 33 => 103 | 34 => 104 | 35 => 105 | 40 => 110 | n => n, fun | 23 => 22 | 25 => 2 | 3 => 3 | 32 => 95 | 22 => 22 | 0 => 0 | 44 => 119 | 46 => 121 | 4 => 4 | 36 => 111 | 35 => 110 | 41 => 116 | 5 => 5 | 9 => 9 | 53 => 133 | 57 => 137 | 63 => 143 | 64 => 144 | n => n, fun | n => n⟩
theorem Try.sortI : Go.Proofs.SlLaysM.n5 Try.prog Try.sortI_ren := {
  mixed := by kernel_rfl
  f5 := ⟨Try.f55.name, by decide, Try.func55.trans (congrArg some (by kernel_rfl))⟩
  f7 := ⟨Try.f67.name, by decide, Try.func67.trans (congrArg some (by kernel_rfl))⟩
  f8 := Try.func68.trans (congrArg some (by kernel_rfl))
  f10 := ⟨Try.f78.name, by decide, Try.func78.trans (congrArg some (by kernel_rfl))⟩
  f11 := ⟨Try.f79.name, by decide, Try.func79.trans (congrArg some (by kernel_rfl))⟩
  f12 := ⟨Try.f80.name, by decide, Try.func80.trans (congrArg some (by kernel_rfl))⟩
  f13 := ⟨Try.f81.name, by decide, Try.func81.trans (congrArg some (by kernel_rfl))⟩
  f14 := ⟨Try.f82.name, by decide, Try.func82.trans (congrArg some (by kernel_rfl))⟩
  f15 := ⟨Try.f83.name, by decide, Try.func83.trans (congrArg some (by kernel_rfl))⟩
  f16 := ⟨Try.f84.name, by decide, Try.func84.trans (congrArg some (by kernel_rfl))⟩
  f17 := ⟨Try.f85.name, by decide, Try.func85.trans (congrArg some (by kernel_rfl))⟩
  f18 := ⟨Try.f86.name, by decide, Try.func86.trans (congrArg some (by kernel_rfl))⟩
  f19 := Try.func87.trans (congrArg some (by kernel_rfl))
  f20 := Try.func88.trans (congrArg some (by kernel_rfl))
  f30 := ⟨Try.f100.name, by decide, Try.func100.trans (congrArg some (by kernel_rfl))⟩
  f31 := Try.func101.trans (congrArg some (by kernel_rfl))
  f32 := Try.func102.trans (congrArg some (by kernel_rfl))
  f33 := ⟨Try.f103.name, by decide, Try.func103.trans (congrArg some (by kernel_rfl))⟩
  f34 := ⟨Try.f104.name, by decide, Try.func104.trans (congrArg some (by kernel_rfl))⟩
  f35 := ⟨Try.f105.name, by decide, Try.func105.trans (congrArg some (by kernel_rfl))⟩
  f40 := ⟨Try.f110.name, by decide, Try.func110.trans (congrArg some (by kernel_rfl))⟩
  t0 := Try.underlying0
  a0 := Try.isAgg0
  z0 := Try.sizeOf0
  v0 := Try.zeroValue0
  t3 := Try.underlying3
  a3 := Try.isAgg3
  z3 := Try.sizeOf3
  v3 := Try.zeroValue3
  t4 := Try.underlying4
  a4 := Try.isAgg4
  z4 := Try.sizeOf4
  v4 := Try.zeroValue4
  t5 := Try.underlying5
  a5 := Try.isAgg5
  z5 := Try.sizeOf5
  v5 := Try.zeroValue5
  t9 := Try.underlying9
  a9 := Try.isAgg9
  z9 := Try.sizeOf9
  v9 := Try.zeroValue9
  t22 := Try.underlying22
  a22 := Try.isAgg22
  z22 := Try.sizeOf22
  v22 := Try.zeroValue22
  t23 := Try.underlying22
  a23 := Try.isAgg22
  z23 := Try.sizeOf22
  v23 := Try.zeroValue22
  t25 := Try.underlying2
  a25 := Try.isAgg2
  z25 := Try.sizeOf2
  v25 := Try.zeroValue2
  t32 := Try.underlying95
  a32 := Try.isAgg95
  z32 := Try.sizeOf95
  v32 := Try.zeroValue95
  t35 := Try.underlying110
  a35 := Try.isAgg110
  z35 := Try.sizeOf110
  v35 := Try.zeroValue110
  t36 := Try.underlying111
  a36 := Try.isAgg111
  z36 := Try.sizeOf111
  v36 := Try.zeroValue111
  t41 := Try.underlying116
  a41 := Try.isAgg116
  z41 := Try.sizeOf116
  v41 := Try.zeroValue116
  t44 := Try.underlying119
  a44 := Try.isAgg119
  z44 := Try.sizeOf119
  v44 := Try.zeroValue119
  t46 := Try.underlying121
  a46 := Try.isAgg121
  z46 := Try.sizeOf121
  v46 := Try.zeroValue121
  t53 := Try.underlying133
  a53 := Try.isAgg133
  z53 := Try.sizeOf133
  v53 := Try.zeroValue133
  t57 := Try.underlying137
  a57 := Try.isAgg137
  z57 := Try.sizeOf137
  v57 := Try.zeroValue137
  t63 := Try.underlying143
  a63 := Try.isAgg143
  z63 := Try.sizeOf143
  v63 := Try.zeroValue143
  t64 := Try.underlying144
  a64 := Try.isAgg144
  z64 := Try.sizeOf144
  v64 := Try.zeroValue144 }
theorem own_block {W : World} {b : Nat} {ok : Nat → Prop} {v : Value} {l : List Int} (h : Kd.R (Kd.int .i64) 2 W b ok v l) (hp : 0 < l.length) :
    ∃ g cap cur, v = .slice (some ⟨g, 0, none⟩) l.length cap ∧ b ≤ g ∧ At W g cur 2 ∧ l.length ≤ cap ∧ cap ≤ maxLen ∧ cur.length = cap ∧ cur.take l.length = l.map (Value.int .i64) := by
  rcases (Kd.own_of_R h).2 with ⟨_, h0⟩ | ⟨g, cap, cur, rfl, hg, hh, h1, h2, h3, h4⟩
  · omega
  · exact ⟨g, cap, cur.toList, rfl, hg, hh, h1, h2, by simpa using h3, by simpa [encs] using h4⟩
end Go.Proofs.Ytnflokhffmfifaa.OfW

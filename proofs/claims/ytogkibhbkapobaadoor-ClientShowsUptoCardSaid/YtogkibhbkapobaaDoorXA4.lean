-- PRINTED by print.py (a twelfth state) out of the translation. Not trusted: Lean checks it.
import Derived.Test.YtogkibhbkapobaaDoorXA0
import Derived.Test.YtogkibhbkapobaaDoorXA1
import Derived.Test.YtogkibhbkapobaaDoorXA3
namespace Go.Proofs.YtogkibhbkapobaaDoor.XA
open Go.Proofs.YtogkibhbkapobaaDoor.XG
open Go.Proofs.YtogkibhbkapobaaDoor.XS
attribute [local go_sem] Go.Proofs.YtogkibhbkapobaaDoor.XW.u8_wrap
open Go.RowKit Go.Proofs.YtogkibhbkapobaaDoorW.PrintWords Go.Proofs.YtogkibhbkapobaaDoorW.PrintLast Go.Proofs.YtogkibhbkapobaaDoorW.PrintMore
attribute [local go_sem] max2_int min2_int max_two min_two max_three min_three max_four min_four   -- for this text's walks alone
set_option linter.unusedVariables false
set_option linter.unusedSimpArgs false

/-! ### rosterref19_Show: function 4 -/
mutual
def rosterref19_Show.l0 : Nat → ByteArray → List (S34) → Int → Int → Option (ByteArray)
  | 0, _, _, _, _ => none
  | k + 1, x4, x27, x28, x29 => if x29 < x28 then (if 0 ≤ x29 then (if x29 < (x27.length : Int) then (if (((rd_T34 x27 x29).f2).length : Int) = 0 then (if 2 + ((rd_T34 x27 x29).f0).size ≤ 9223372036854775807 then (if ((⟨#[35, 32]⟩ : ByteArray) ++ ((rd_T34 x27 x29).f0)).size + 1 ≤ 9223372036854775807 then (if x4.size + (((⟨#[35, 32]⟩ : ByteArray) ++ ((rd_T34 x27 x29).f0)) ++ (⟨#[10]⟩ : ByteArray)).size ≤ 9223372036854775807 then (rosterref19_Show.j1 k (x4 ++ (((⟨#[35, 32]⟩ : ByteArray) ++ ((rd_T34 x27 x29).f0)) ++ (⟨#[10]⟩ : ByteArray))) x27 x28 x29 ((rd_T34 x27 x29).f0) ((rd_T34 x27 x29).f1) ((rd_T34 x27 x29).f2)) else (none)) else (none)) else (none)) else (rosterref19_Show.j1 k x4 x27 x28 x29 ((rd_T34 x27 x29).f0) ((rd_T34 x27 x29).f1) ((rd_T34 x27 x29).f2))) else (none)) else (none)) else (if x4.size + 1 ≤ 9223372036854775807 then (some (x4 ++ (⟨#[10]⟩ : ByteArray))) else (none))
def rosterref19_Show.j1 : Nat → ByteArray → List (S34) → Int → Int → ByteArray → ByteArray → List ByteArray → Option (ByteArray)
  | 0, _, _, _, _, _, _, _ => none
  | k + 1, x4, x27, x28, x29, x131000, x131001, x131002 => rosterref19_Show.l1 k x4 x27 x28 x29 x131002 (x131002.length : Int) 0 x131000 x131001 x131002
def rosterref19_Show.l1 : Nat → ByteArray → List (S34) → Int → Int → List ByteArray → Int → Int → ByteArray → ByteArray → List ByteArray → Option (ByteArray)
  | 0, _, _, _, _, _, _, _, _, _, _ => none
  | k + 1, x4, x27, x28, x29, x44, x45, x46, x131000, x131001, x131002 => if x46 < x45 then (if 0 ≤ x46 then (if x46 < (x44.length : Int) then ((rosterref19_line.f k x131000 (rdOf ByteArray.empty x44 x46)).bind fun t132 => (if x4.size + t132.size ≤ 9223372036854775807 then (rosterref19_Show.l1 k (x4 ++ t132) x27 x28 x29 x44 x45 (wrap64 (x46 + 1)) x131000 x131001 x131002) else (none))) else (none)) else (none)) else (rosterref19_Show.l0 k x4 x27 x28 (wrap64 (x29 + 1)))
def rosterref19_Show.j3 : Nat → List ByteArray → ByteArray → Bool → Int → Int → Int → ByteArray → ByteArray → ByteArray → List (S34) → ByteArray → Bool → List (S36) → Option (ByteArray)
  | 0, _, _, _, _, _, _, _, _, _, _, _, _, _ => none
  | k + 1, x3, x9, x69, x124000, x124001, x124002, x124003, x124004, x124005, x124006, x124007, x124008, x124009 => if x69 = true then (if 0 ≤ x124001 then (if x124001 < (x3.length : Int) then (rosterref19_Show.j4 k (rdOf ByteArray.empty x3 x124001) x124000 x124001 x124002 x124003 x124004 x124005 x124006 x124007 x124008 x124009) else (none)) else (none)) else (rosterref19_Show.j4 k x9 x124000 x124001 x124002 x124003 x124004 x124005 x124006 x124007 x124008 x124009)
def rosterref19_Show.j4 : Nat → ByteArray → Int → Int → Int → ByteArray → ByteArray → ByteArray → List (S34) → ByteArray → Bool → List (S36) → Option (ByteArray)
  | 0, _, _, _, _, _, _, _, _, _, _, _ => none
  | k + 1, x9, x124000, x124001, x124002, x124003, x124004, x124005, x124006, x124007, x124008, x124009 => (rosterref19_decimal.f k x124000).bind fun t134 => (if 2 + t134.size ≤ 9223372036854775807 then (if ((⟨#[35, 32]⟩ : ByteArray) ++ t134).size + 1 ≤ 9223372036854775807 then (if (((⟨#[35, 32]⟩ : ByteArray) ++ t134) ++ (⟨#[32]⟩ : ByteArray)).size + x9.size ≤ 9223372036854775807 then (if ((((⟨#[35, 32]⟩ : ByteArray) ++ t134) ++ (⟨#[32]⟩ : ByteArray)) ++ x9).size + 1 ≤ 9223372036854775807 then ((rosterref19_decimal.f k x124002).bind fun t135 => (if (((((⟨#[35, 32]⟩ : ByteArray) ++ t134) ++ (⟨#[32]⟩ : ByteArray)) ++ x9) ++ (⟨#[32]⟩ : ByteArray)).size + t135.size ≤ 9223372036854775807 then (if ((((((⟨#[35, 32]⟩ : ByteArray) ++ t134) ++ (⟨#[32]⟩ : ByteArray)) ++ x9) ++ (⟨#[32]⟩ : ByteArray)) ++ t135).size + 1 ≤ 9223372036854775807 then (if x124003.toList = ([] : List UInt8) then (rosterref19_Show.j5 k (((((((⟨#[35, 32]⟩ : ByteArray) ++ t134) ++ (⟨#[32]⟩ : ByteArray)) ++ x9) ++ (⟨#[32]⟩ : ByteArray)) ++ t135) ++ (⟨#[10]⟩ : ByteArray)) x124000 x124001 x124002 x124003 x124004 x124005 x124006 x124007 x124008 x124009) else ((rosterref19_line.f k (⟨#[109, 97, 116, 99, 104, 101, 100]⟩ : ByteArray) x124003).bind fun t136 => (if (((((((⟨#[35, 32]⟩ : ByteArray) ++ t134) ++ (⟨#[32]⟩ : ByteArray)) ++ x9) ++ (⟨#[32]⟩ : ByteArray)) ++ t135) ++ (⟨#[10]⟩ : ByteArray)).size + t136.size ≤ 9223372036854775807 then (rosterref19_Show.j5 k ((((((((⟨#[35, 32]⟩ : ByteArray) ++ t134) ++ (⟨#[32]⟩ : ByteArray)) ++ x9) ++ (⟨#[32]⟩ : ByteArray)) ++ t135) ++ (⟨#[10]⟩ : ByteArray)) ++ t136) x124000 x124001 x124002 x124003 x124004 x124005 x124006 x124007 x124008 x124009) else (none)))) else (none)) else (none))) else (none)) else (none)) else (none)) else (none))
def rosterref19_Show.j5 : Nat → ByteArray → Int → Int → Int → ByteArray → ByteArray → ByteArray → List (S34) → ByteArray → Bool → List (S36) → Option (ByteArray)
  | 0, _, _, _, _, _, _, _, _, _, _, _ => none
  | k + 1, x10, x124000, x124001, x124002, x124003, x124004, x124005, x124006, x124007, x124008, x124009 => if x124004.toList = ([] : List UInt8) then (rosterref19_Show.j6 k x10 x124000 x124001 x124002 x124003 x124004 x124005 x124006 x124007 x124008 x124009) else ((rosterref19_line.f k (⟨#[116, 101, 120, 116]⟩ : ByteArray) x124004).bind fun t137 => (if x10.size + t137.size ≤ 9223372036854775807 then (rosterref19_Show.j6 k (x10 ++ t137) x124000 x124001 x124002 x124003 x124004 x124005 x124006 x124007 x124008 x124009) else (none)))
def rosterref19_Show.j6 : Nat → ByteArray → Int → Int → Int → ByteArray → ByteArray → ByteArray → List (S34) → ByteArray → Bool → List (S36) → Option (ByteArray)
  | 0, _, _, _, _, _, _, _, _, _, _, _ => none
  | k + 1, x10, x124000, x124001, x124002, x124003, x124004, x124005, x124006, x124007, x124008, x124009 => if x124008 = true then ((rosterref19_line.f k (⟨#[111, 105, 100]⟩ : ByteArray) x124007).bind fun t138 => (if x10.size + t138.size ≤ 9223372036854775807 then (rosterref19_Show.j7 k (x10 ++ t138) x124000 x124001 x124002 x124003 x124004 x124005 x124006 x124007 x124008 x124009) else (none))) else (rosterref19_Show.j7 k x10 x124000 x124001 x124002 x124003 x124004 x124005 x124006 x124007 x124008 x124009)
def rosterref19_Show.j7 : Nat → ByteArray → Int → Int → Int → ByteArray → ByteArray → ByteArray → List (S34) → ByteArray → Bool → List (S36) → Option (ByteArray)
  | 0, _, _, _, _, _, _, _, _, _, _, _ => none
  | k + 1, x10, x124000, x124001, x124002, x124003, x124004, x124005, x124006, x124007, x124008, x124009 => rosterref19_Show.l2 k x10 x124009 (x124009.length : Int) 0
def rosterref19_Show.l2 : Nat → ByteArray → List (S36) → Int → Int → Option (ByteArray)
  | 0, _, _, _, _ => none
  | k + 1, x10, x117, x118, x119 => if x119 < x118 then (if 0 ≤ x119 then (if x119 < (x117.length : Int) then ((rosterref19_line.f k (⟨#[99, 111, 110, 116, 114, 111, 108]⟩ : ByteArray) ((rd_T36 x117 x119).f0)).bind fun t141 => (if x10.size + t141.size ≤ 9223372036854775807 then (rosterref19_Show.l2 k (x10 ++ t141) x117 x118 (wrap64 (x119 + 1))) else (none))) else (none)) else (none)) else (some x10)
end
def rosterref19_Show.f (k : Nat) (a0_0 : Int) (a0_1 : Int) (a0_2 : Int) (a0_3 : ByteArray) (a0_4 : ByteArray) (a0_5 : ByteArray) (l0_6 : List (S34)) (a0_7 : ByteArray) (a0_8 : Bool) (l0_9 : List (S36)) : Option (ByteArray) := (some (([(⟨#[98, 105, 110, 100]⟩ : ByteArray), (⟨#[101, 110, 116, 114, 121]⟩ : ByteArray), (⟨#[100, 111, 110, 101]⟩ : ByteArray), (⟨#[109, 111, 100, 105, 102, 121]⟩ : ByteArray), (⟨#[97, 100, 100]⟩ : ByteArray), (⟨#[100, 101, 108, 101, 116, 101]⟩ : ByteArray), (⟨#[114, 101, 110, 97, 109, 101]⟩ : ByteArray), (⟨#[99, 111, 109, 112, 97, 114, 101]⟩ : ByteArray), (⟨#[101, 120, 116, 101, 110, 100, 101, 100]⟩ : ByteArray)] : List ByteArray) : List ByteArray)).bind fun y124 => (if a0_1 = 1 then ((rosterref19_decimal.f k a0_0).bind fun t127 => (if 2 + t127.size ≤ 9223372036854775807 then (if ((⟨#[35, 32]⟩ : ByteArray) ++ t127).size + 7 ≤ 9223372036854775807 then ((rosterref19_line.f k (⟨#[100, 110]⟩ : ByteArray) a0_5).bind fun t128 => (if (((⟨#[35, 32]⟩ : ByteArray) ++ t127) ++ (⟨#[32, 101, 110, 116, 114, 121, 10]⟩ : ByteArray)).size + t128.size ≤ 9223372036854775807 then (rosterref19_Show.l0 k ((((⟨#[35, 32]⟩ : ByteArray) ++ t127) ++ (⟨#[32, 101, 110, 116, 114, 121, 10]⟩ : ByteArray)) ++ t128) l0_6 (l0_6.length : Int) 0) else (none))) else (none)) else (none))) else (if a0_1 ≥ 0 then (rosterref19_Show.j3 k y124 (⟨#[111, 116, 104, 101, 114]⟩ : ByteArray) (decide (a0_1 < (y124.length : Int))) a0_0 a0_1 a0_2 a0_3 a0_4 a0_5 l0_6 a0_7 a0_8 l0_9) else (rosterref19_Show.j3 k y124 (⟨#[111, 116, 104, 101, 114]⟩ : ByteArray) false a0_0 a0_1 a0_2 a0_3 a0_4 a0_5 l0_6 a0_7 a0_8 l0_9)))
theorem rosterref19_Show.mono_l : ∀ k, (∀ y0 y1 y2 y3, LeO (rosterref19_Show.l0 k y0 y1 y2 y3) (rosterref19_Show.l0 (k + 1) y0 y1 y2 y3)) ∧ (∀ y0 y1 y2 y3 y4 y5 y6, LeO (rosterref19_Show.j1 k y0 y1 y2 y3 y4 y5 y6) (rosterref19_Show.j1 (k + 1) y0 y1 y2 y3 y4 y5 y6)) ∧ (∀ y0 y1 y2 y3 y4 y5 y6 y7 y8 y9, LeO (rosterref19_Show.l1 k y0 y1 y2 y3 y4 y5 y6 y7 y8 y9) (rosterref19_Show.l1 (k + 1) y0 y1 y2 y3 y4 y5 y6 y7 y8 y9)) ∧ (∀ y0 y1 y2 y3 y4 y5 y6 y7 y8 y9 y10 y11 y12, LeO (rosterref19_Show.j3 k y0 y1 y2 y3 y4 y5 y6 y7 y8 y9 y10 y11 y12) (rosterref19_Show.j3 (k + 1) y0 y1 y2 y3 y4 y5 y6 y7 y8 y9 y10 y11 y12)) ∧ (∀ y0 y1 y2 y3 y4 y5 y6 y7 y8 y9 y10, LeO (rosterref19_Show.j4 k y0 y1 y2 y3 y4 y5 y6 y7 y8 y9 y10) (rosterref19_Show.j4 (k + 1) y0 y1 y2 y3 y4 y5 y6 y7 y8 y9 y10)) ∧ (∀ y0 y1 y2 y3 y4 y5 y6 y7 y8 y9 y10, LeO (rosterref19_Show.j5 k y0 y1 y2 y3 y4 y5 y6 y7 y8 y9 y10) (rosterref19_Show.j5 (k + 1) y0 y1 y2 y3 y4 y5 y6 y7 y8 y9 y10)) ∧ (∀ y0 y1 y2 y3 y4 y5 y6 y7 y8 y9 y10, LeO (rosterref19_Show.j6 k y0 y1 y2 y3 y4 y5 y6 y7 y8 y9 y10) (rosterref19_Show.j6 (k + 1) y0 y1 y2 y3 y4 y5 y6 y7 y8 y9 y10)) ∧ (∀ y0 y1 y2 y3 y4 y5 y6 y7 y8 y9 y10, LeO (rosterref19_Show.j7 k y0 y1 y2 y3 y4 y5 y6 y7 y8 y9 y10) (rosterref19_Show.j7 (k + 1) y0 y1 y2 y3 y4 y5 y6 y7 y8 y9 y10)) ∧ (∀ y0 y1 y2 y3, LeO (rosterref19_Show.l2 k y0 y1 y2 y3) (rosterref19_Show.l2 (k + 1) y0 y1 y2 y3))
  | 0 => ⟨fun _ _ _ _ r h => by simp [rosterref19_Show.l0] at h, fun _ _ _ _ _ _ _ r h => by simp [rosterref19_Show.j1] at h, fun _ _ _ _ _ _ _ _ _ _ r h => by simp [rosterref19_Show.l1] at h, fun _ _ _ _ _ _ _ _ _ _ _ _ _ r h => by simp [rosterref19_Show.j3] at h, fun _ _ _ _ _ _ _ _ _ _ _ r h => by simp [rosterref19_Show.j4] at h, fun _ _ _ _ _ _ _ _ _ _ _ r h => by simp [rosterref19_Show.j5] at h, fun _ _ _ _ _ _ _ _ _ _ _ r h => by simp [rosterref19_Show.j6] at h, fun _ _ _ _ _ _ _ _ _ _ _ r h => by simp [rosterref19_Show.j7] at h, fun _ _ _ _ r h => by simp [rosterref19_Show.l2] at h⟩
  | k + 1 => by
    obtain ⟨ih0, ih1, ih2, ih3, ih4, ih5, ih6, ih7, ih8⟩ := rosterref19_Show.mono_l k
    refine ⟨?_, ?_, ?_, ?_, ?_, ?_, ?_, ?_, ?_⟩
    · intro y0 y1 y2 y3
      unfold rosterref19_Show.l0
      repeat' first
      | (with_reducible exact ih0 _ _ _ _)
      | (with_reducible exact ih1 _ _ _ _ _ _ _)
      | (with_reducible exact ih2 _ _ _ _ _ _ _ _ _ _)
      | (with_reducible exact ih3 _ _ _ _ _ _ _ _ _ _ _ _ _)
      | (with_reducible exact ih4 _ _ _ _ _ _ _ _ _ _ _)
      | (with_reducible exact ih5 _ _ _ _ _ _ _ _ _ _ _)
      | (with_reducible exact ih6 _ _ _ _ _ _ _ _ _ _ _)
      | (with_reducible exact ih7 _ _ _ _ _ _ _ _ _ _ _)
      | (with_reducible exact ih8 _ _ _ _)
      | (with_reducible exact rosterref19_decimal.mono _ _)
      | (with_reducible exact rosterref19_line.mono _ _ _)
      | (with_reducible exact LeO.refl _)
      | (with_reducible exact LeO.none _)
      | (with_reducible refine LeO.ite ?_ ?_)
      | (with_reducible refine LeO.bind ?_ (fun _ => ?_))
      | exact ih0 _ _ _ _
      | exact ih1 _ _ _ _ _ _ _
      | exact ih2 _ _ _ _ _ _ _ _ _ _
      | exact ih3 _ _ _ _ _ _ _ _ _ _ _ _ _
      | exact ih4 _ _ _ _ _ _ _ _ _ _ _
      | exact ih5 _ _ _ _ _ _ _ _ _ _ _
      | exact ih6 _ _ _ _ _ _ _ _ _ _ _
      | exact ih7 _ _ _ _ _ _ _ _ _ _ _
      | exact ih8 _ _ _ _
      | exact rosterref19_decimal.mono _ _
      | exact rosterref19_line.mono _ _ _
      | exact LeO.none _
      | refine LeO.ite ?_ ?_
      | refine LeO.bind ?_ (fun _ => ?_)
    · intro y0 y1 y2 y3 y4 y5 y6
      unfold rosterref19_Show.j1
      repeat' first
      | (with_reducible exact ih0 _ _ _ _)
      | (with_reducible exact ih1 _ _ _ _ _ _ _)
      | (with_reducible exact ih2 _ _ _ _ _ _ _ _ _ _)
      | (with_reducible exact ih3 _ _ _ _ _ _ _ _ _ _ _ _ _)
      | (with_reducible exact ih4 _ _ _ _ _ _ _ _ _ _ _)
      | (with_reducible exact ih5 _ _ _ _ _ _ _ _ _ _ _)
      | (with_reducible exact ih6 _ _ _ _ _ _ _ _ _ _ _)
      | (with_reducible exact ih7 _ _ _ _ _ _ _ _ _ _ _)
      | (with_reducible exact ih8 _ _ _ _)
      | (with_reducible exact rosterref19_decimal.mono _ _)
      | (with_reducible exact rosterref19_line.mono _ _ _)
      | (with_reducible exact LeO.refl _)
      | (with_reducible exact LeO.none _)
      | (with_reducible refine LeO.ite ?_ ?_)
      | (with_reducible refine LeO.bind ?_ (fun _ => ?_))
      | exact ih0 _ _ _ _
      | exact ih1 _ _ _ _ _ _ _
      | exact ih2 _ _ _ _ _ _ _ _ _ _
      | exact ih3 _ _ _ _ _ _ _ _ _ _ _ _ _
      | exact ih4 _ _ _ _ _ _ _ _ _ _ _
      | exact ih5 _ _ _ _ _ _ _ _ _ _ _
      | exact ih6 _ _ _ _ _ _ _ _ _ _ _
      | exact ih7 _ _ _ _ _ _ _ _ _ _ _
      | exact ih8 _ _ _ _
      | exact rosterref19_decimal.mono _ _
      | exact rosterref19_line.mono _ _ _
      | exact LeO.none _
      | refine LeO.ite ?_ ?_
      | refine LeO.bind ?_ (fun _ => ?_)
    · intro y0 y1 y2 y3 y4 y5 y6 y7 y8 y9
      unfold rosterref19_Show.l1
      repeat' first
      | (with_reducible exact ih0 _ _ _ _)
      | (with_reducible exact ih1 _ _ _ _ _ _ _)
      | (with_reducible exact ih2 _ _ _ _ _ _ _ _ _ _)
      | (with_reducible exact ih3 _ _ _ _ _ _ _ _ _ _ _ _ _)
      | (with_reducible exact ih4 _ _ _ _ _ _ _ _ _ _ _)
      | (with_reducible exact ih5 _ _ _ _ _ _ _ _ _ _ _)
      | (with_reducible exact ih6 _ _ _ _ _ _ _ _ _ _ _)
      | (with_reducible exact ih7 _ _ _ _ _ _ _ _ _ _ _)
      | (with_reducible exact ih8 _ _ _ _)
      | (with_reducible exact rosterref19_decimal.mono _ _)
      | (with_reducible exact rosterref19_line.mono _ _ _)
      | (with_reducible exact LeO.refl _)
      | (with_reducible exact LeO.none _)
      | (with_reducible refine LeO.ite ?_ ?_)
      | (with_reducible refine LeO.bind ?_ (fun _ => ?_))
      | exact ih0 _ _ _ _
      | exact ih1 _ _ _ _ _ _ _
      | exact ih2 _ _ _ _ _ _ _ _ _ _
      | exact ih3 _ _ _ _ _ _ _ _ _ _ _ _ _
      | exact ih4 _ _ _ _ _ _ _ _ _ _ _
      | exact ih5 _ _ _ _ _ _ _ _ _ _ _
      | exact ih6 _ _ _ _ _ _ _ _ _ _ _
      | exact ih7 _ _ _ _ _ _ _ _ _ _ _
      | exact ih8 _ _ _ _
      | exact rosterref19_decimal.mono _ _
      | exact rosterref19_line.mono _ _ _
      | exact LeO.none _
      | refine LeO.ite ?_ ?_
      | refine LeO.bind ?_ (fun _ => ?_)
    · intro y0 y1 y2 y3 y4 y5 y6 y7 y8 y9 y10 y11 y12
      unfold rosterref19_Show.j3
      repeat' first
      | (with_reducible exact ih0 _ _ _ _)
      | (with_reducible exact ih1 _ _ _ _ _ _ _)
      | (with_reducible exact ih2 _ _ _ _ _ _ _ _ _ _)
      | (with_reducible exact ih3 _ _ _ _ _ _ _ _ _ _ _ _ _)
      | (with_reducible exact ih4 _ _ _ _ _ _ _ _ _ _ _)
      | (with_reducible exact ih5 _ _ _ _ _ _ _ _ _ _ _)
      | (with_reducible exact ih6 _ _ _ _ _ _ _ _ _ _ _)
      | (with_reducible exact ih7 _ _ _ _ _ _ _ _ _ _ _)
      | (with_reducible exact ih8 _ _ _ _)
      | (with_reducible exact rosterref19_decimal.mono _ _)
      | (with_reducible exact rosterref19_line.mono _ _ _)
      | (with_reducible exact LeO.refl _)
      | (with_reducible exact LeO.none _)
      | (with_reducible refine LeO.ite ?_ ?_)
      | (with_reducible refine LeO.bind ?_ (fun _ => ?_))
      | exact ih0 _ _ _ _
      | exact ih1 _ _ _ _ _ _ _
      | exact ih2 _ _ _ _ _ _ _ _ _ _
      | exact ih3 _ _ _ _ _ _ _ _ _ _ _ _ _
      | exact ih4 _ _ _ _ _ _ _ _ _ _ _
      | exact ih5 _ _ _ _ _ _ _ _ _ _ _
      | exact ih6 _ _ _ _ _ _ _ _ _ _ _
      | exact ih7 _ _ _ _ _ _ _ _ _ _ _
      | exact ih8 _ _ _ _
      | exact rosterref19_decimal.mono _ _
      | exact rosterref19_line.mono _ _ _
      | exact LeO.none _
      | refine LeO.ite ?_ ?_
      | refine LeO.bind ?_ (fun _ => ?_)
    · intro y0 y1 y2 y3 y4 y5 y6 y7 y8 y9 y10
      unfold rosterref19_Show.j4
      repeat' first
      | (with_reducible exact ih0 _ _ _ _)
      | (with_reducible exact ih1 _ _ _ _ _ _ _)
      | (with_reducible exact ih2 _ _ _ _ _ _ _ _ _ _)
      | (with_reducible exact ih3 _ _ _ _ _ _ _ _ _ _ _ _ _)
      | (with_reducible exact ih4 _ _ _ _ _ _ _ _ _ _ _)
      | (with_reducible exact ih5 _ _ _ _ _ _ _ _ _ _ _)
      | (with_reducible exact ih6 _ _ _ _ _ _ _ _ _ _ _)
      | (with_reducible exact ih7 _ _ _ _ _ _ _ _ _ _ _)
      | (with_reducible exact ih8 _ _ _ _)
      | (with_reducible exact rosterref19_decimal.mono _ _)
      | (with_reducible exact rosterref19_line.mono _ _ _)
      | (with_reducible exact LeO.refl _)
      | (with_reducible exact LeO.none _)
      | (with_reducible refine LeO.ite ?_ ?_)
      | (with_reducible refine LeO.bind ?_ (fun _ => ?_))
      | exact ih0 _ _ _ _
      | exact ih1 _ _ _ _ _ _ _
      | exact ih2 _ _ _ _ _ _ _ _ _ _
      | exact ih3 _ _ _ _ _ _ _ _ _ _ _ _ _
      | exact ih4 _ _ _ _ _ _ _ _ _ _ _
      | exact ih5 _ _ _ _ _ _ _ _ _ _ _
      | exact ih6 _ _ _ _ _ _ _ _ _ _ _
      | exact ih7 _ _ _ _ _ _ _ _ _ _ _
      | exact ih8 _ _ _ _
      | exact rosterref19_decimal.mono _ _
      | exact rosterref19_line.mono _ _ _
      | exact LeO.none _
      | refine LeO.ite ?_ ?_
      | refine LeO.bind ?_ (fun _ => ?_)
    · intro y0 y1 y2 y3 y4 y5 y6 y7 y8 y9 y10
      unfold rosterref19_Show.j5
      repeat' first
      | (with_reducible exact ih0 _ _ _ _)
      | (with_reducible exact ih1 _ _ _ _ _ _ _)
      | (with_reducible exact ih2 _ _ _ _ _ _ _ _ _ _)
      | (with_reducible exact ih3 _ _ _ _ _ _ _ _ _ _ _ _ _)
      | (with_reducible exact ih4 _ _ _ _ _ _ _ _ _ _ _)
      | (with_reducible exact ih5 _ _ _ _ _ _ _ _ _ _ _)
      | (with_reducible exact ih6 _ _ _ _ _ _ _ _ _ _ _)
      | (with_reducible exact ih7 _ _ _ _ _ _ _ _ _ _ _)
      | (with_reducible exact ih8 _ _ _ _)
      | (with_reducible exact rosterref19_decimal.mono _ _)
      | (with_reducible exact rosterref19_line.mono _ _ _)
      | (with_reducible exact LeO.refl _)
      | (with_reducible exact LeO.none _)
      | (with_reducible refine LeO.ite ?_ ?_)
      | (with_reducible refine LeO.bind ?_ (fun _ => ?_))
      | exact ih0 _ _ _ _
      | exact ih1 _ _ _ _ _ _ _
      | exact ih2 _ _ _ _ _ _ _ _ _ _
      | exact ih3 _ _ _ _ _ _ _ _ _ _ _ _ _
      | exact ih4 _ _ _ _ _ _ _ _ _ _ _
      | exact ih5 _ _ _ _ _ _ _ _ _ _ _
      | exact ih6 _ _ _ _ _ _ _ _ _ _ _
      | exact ih7 _ _ _ _ _ _ _ _ _ _ _
      | exact ih8 _ _ _ _
      | exact rosterref19_decimal.mono _ _
      | exact rosterref19_line.mono _ _ _
      | exact LeO.none _
      | refine LeO.ite ?_ ?_
      | refine LeO.bind ?_ (fun _ => ?_)
    · intro y0 y1 y2 y3 y4 y5 y6 y7 y8 y9 y10
      unfold rosterref19_Show.j6
      repeat' first
      | (with_reducible exact ih0 _ _ _ _)
      | (with_reducible exact ih1 _ _ _ _ _ _ _)
      | (with_reducible exact ih2 _ _ _ _ _ _ _ _ _ _)
      | (with_reducible exact ih3 _ _ _ _ _ _ _ _ _ _ _ _ _)
      | (with_reducible exact ih4 _ _ _ _ _ _ _ _ _ _ _)
      | (with_reducible exact ih5 _ _ _ _ _ _ _ _ _ _ _)
      | (with_reducible exact ih6 _ _ _ _ _ _ _ _ _ _ _)
      | (with_reducible exact ih7 _ _ _ _ _ _ _ _ _ _ _)
      | (with_reducible exact ih8 _ _ _ _)
      | (with_reducible exact rosterref19_decimal.mono _ _)
      | (with_reducible exact rosterref19_line.mono _ _ _)
      | (with_reducible exact LeO.refl _)
      | (with_reducible exact LeO.none _)
      | (with_reducible refine LeO.ite ?_ ?_)
      | (with_reducible refine LeO.bind ?_ (fun _ => ?_))
      | exact ih0 _ _ _ _
      | exact ih1 _ _ _ _ _ _ _
      | exact ih2 _ _ _ _ _ _ _ _ _ _
      | exact ih3 _ _ _ _ _ _ _ _ _ _ _ _ _
      | exact ih4 _ _ _ _ _ _ _ _ _ _ _
      | exact ih5 _ _ _ _ _ _ _ _ _ _ _
      | exact ih6 _ _ _ _ _ _ _ _ _ _ _
      | exact ih7 _ _ _ _ _ _ _ _ _ _ _
      | exact ih8 _ _ _ _
      | exact rosterref19_decimal.mono _ _
      | exact rosterref19_line.mono _ _ _
      | exact LeO.none _
      | refine LeO.ite ?_ ?_
      | refine LeO.bind ?_ (fun _ => ?_)
    · intro y0 y1 y2 y3 y4 y5 y6 y7 y8 y9 y10
      unfold rosterref19_Show.j7
      repeat' first
      | (with_reducible exact ih0 _ _ _ _)
      | (with_reducible exact ih1 _ _ _ _ _ _ _)
      | (with_reducible exact ih2 _ _ _ _ _ _ _ _ _ _)
      | (with_reducible exact ih3 _ _ _ _ _ _ _ _ _ _ _ _ _)
      | (with_reducible exact ih4 _ _ _ _ _ _ _ _ _ _ _)
      | (with_reducible exact ih5 _ _ _ _ _ _ _ _ _ _ _)
      | (with_reducible exact ih6 _ _ _ _ _ _ _ _ _ _ _)
      | (with_reducible exact ih7 _ _ _ _ _ _ _ _ _ _ _)
      | (with_reducible exact ih8 _ _ _ _)
      | (with_reducible exact rosterref19_decimal.mono _ _)
      | (with_reducible exact rosterref19_line.mono _ _ _)
      | (with_reducible exact LeO.refl _)
      | (with_reducible exact LeO.none _)
      | (with_reducible refine LeO.ite ?_ ?_)
      | (with_reducible refine LeO.bind ?_ (fun _ => ?_))
      | exact ih0 _ _ _ _
      | exact ih1 _ _ _ _ _ _ _
      | exact ih2 _ _ _ _ _ _ _ _ _ _
      | exact ih3 _ _ _ _ _ _ _ _ _ _ _ _ _
      | exact ih4 _ _ _ _ _ _ _ _ _ _ _
      | exact ih5 _ _ _ _ _ _ _ _ _ _ _
      | exact ih6 _ _ _ _ _ _ _ _ _ _ _
      | exact ih7 _ _ _ _ _ _ _ _ _ _ _
      | exact ih8 _ _ _ _
      | exact rosterref19_decimal.mono _ _
      | exact rosterref19_line.mono _ _ _
      | exact LeO.none _
      | refine LeO.ite ?_ ?_
      | refine LeO.bind ?_ (fun _ => ?_)
    · intro y0 y1 y2 y3
      unfold rosterref19_Show.l2
      repeat' first
      | (with_reducible exact ih0 _ _ _ _)
      | (with_reducible exact ih1 _ _ _ _ _ _ _)
      | (with_reducible exact ih2 _ _ _ _ _ _ _ _ _ _)
      | (with_reducible exact ih3 _ _ _ _ _ _ _ _ _ _ _ _ _)
      | (with_reducible exact ih4 _ _ _ _ _ _ _ _ _ _ _)
      | (with_reducible exact ih5 _ _ _ _ _ _ _ _ _ _ _)
      | (with_reducible exact ih6 _ _ _ _ _ _ _ _ _ _ _)
      | (with_reducible exact ih7 _ _ _ _ _ _ _ _ _ _ _)
      | (with_reducible exact ih8 _ _ _ _)
      | (with_reducible exact rosterref19_decimal.mono _ _)
      | (with_reducible exact rosterref19_line.mono _ _ _)
      | (with_reducible exact LeO.refl _)
      | (with_reducible exact LeO.none _)
      | (with_reducible refine LeO.ite ?_ ?_)
      | (with_reducible refine LeO.bind ?_ (fun _ => ?_))
      | exact ih0 _ _ _ _
      | exact ih1 _ _ _ _ _ _ _
      | exact ih2 _ _ _ _ _ _ _ _ _ _
      | exact ih3 _ _ _ _ _ _ _ _ _ _ _ _ _
      | exact ih4 _ _ _ _ _ _ _ _ _ _ _
      | exact ih5 _ _ _ _ _ _ _ _ _ _ _
      | exact ih6 _ _ _ _ _ _ _ _ _ _ _
      | exact ih7 _ _ _ _ _ _ _ _ _ _ _
      | exact ih8 _ _ _ _
      | exact rosterref19_decimal.mono _ _
      | exact rosterref19_line.mono _ _ _
      | exact LeO.none _
      | refine LeO.ite ?_ ?_
      | refine LeO.bind ?_ (fun _ => ?_)
theorem rosterref19_Show.mono : ∀ a0 a1 a2 a3 a4 a5 a6 a7 a8 a9 k, LeO (rosterref19_Show.f k a0 a1 a2 a3 a4 a5 a6 a7 a8 a9) (rosterref19_Show.f (k + 1) a0 a1 a2 a3 a4 a5 a6 a7 a8 a9) := by
  intro a0 a1 a2 a3 a4 a5 a6 a7 a8 a9 k
  obtain ⟨ih0, ih1, ih2, ih3, ih4, ih5, ih6, ih7, ih8⟩ := rosterref19_Show.mono_l k
  unfold rosterref19_Show.f
  repeat' first
      | (with_reducible exact ih0 _ _ _ _)
      | (with_reducible exact ih1 _ _ _ _ _ _ _)
      | (with_reducible exact ih2 _ _ _ _ _ _ _ _ _ _)
      | (with_reducible exact ih3 _ _ _ _ _ _ _ _ _ _ _ _ _)
      | (with_reducible exact ih4 _ _ _ _ _ _ _ _ _ _ _)
      | (with_reducible exact ih5 _ _ _ _ _ _ _ _ _ _ _)
      | (with_reducible exact ih6 _ _ _ _ _ _ _ _ _ _ _)
      | (with_reducible exact ih7 _ _ _ _ _ _ _ _ _ _ _)
      | (with_reducible exact ih8 _ _ _ _)
      | (with_reducible exact rosterref19_decimal.mono _ _)
      | (with_reducible exact rosterref19_line.mono _ _ _)
      | (with_reducible exact LeO.refl _)
      | (with_reducible exact LeO.none _)
      | (with_reducible refine LeO.ite ?_ ?_)
      | (with_reducible refine LeO.bind ?_ (fun _ => ?_))
      | exact ih0 _ _ _ _
      | exact ih1 _ _ _ _ _ _ _
      | exact ih2 _ _ _ _ _ _ _ _ _ _
      | exact ih3 _ _ _ _ _ _ _ _ _ _ _ _ _
      | exact ih4 _ _ _ _ _ _ _ _ _ _ _
      | exact ih5 _ _ _ _ _ _ _ _ _ _ _
      | exact ih6 _ _ _ _ _ _ _ _ _ _ _
      | exact ih7 _ _ _ _ _ _ _ _ _ _ _
      | exact ih8 _ _ _ _
      | exact rosterref19_decimal.mono _ _
      | exact rosterref19_line.mono _ _ _
      | exact LeO.none _
      | refine LeO.ite ?_ ?_
      | refine LeO.bind ?_ (fun _ => ?_)
def rosterref19_Show.T3 : Bool × List (List Nat × List Nat) := (true, [([], []), ([0], [0]), ([1], [1]), ([2], [2]), ([3], [3]), ([], []), ([5], [5]), ([6, 2], [6]), ([4, 7], [4, 7]), ([8, 7, 0, 1, 2, 3, 4, 5, 6, 7, 8], [8])])
def rosterref19_Show.B3 : List Nat := [0, 1, 3, 7, 15, 0, 32, 103, 255, 511]
theorem rosterref19_Show.tab3 : rtab .any (opsOf Tryd.f4 3) = rosterref19_Show.T3 := by kernel_rfl
theorem rosterref19_Show.bits3 : waitsOk rosterref19_Show.T3.2 rosterref19_Show.B3 = true := by kernel_rfl
def rosterref19_Show.T19 : Bool × List (List Nat × List Nat) := (true, [([], []), ([0], [0]), ([1], [1]), ([2], [2]), ([3], [3]), ([], []), ([4, 5], [4, 5]), ([6], [6]), ([], []), ([8], [8]), ([9], [9]), ([10, 2], [10]), ([7, 11], [7, 11]), ([12], [12]), ([13, 11, 0, 1, 2, 3, 4, 5, 6, 7, 8, 9, 10, 11, 12, 13], [13])])
def rosterref19_Show.B19 : List Nat := [0, 1, 3, 7, 15, 0, 63, 127, 0, 256, 768, 1799, 4095, 8191, 16383]
theorem rosterref19_Show.tab19 : rtab .any (opsOf Tryd.f4 19) = rosterref19_Show.T19 := by kernel_rfl
theorem rosterref19_Show.bits19 : waitsOk rosterref19_Show.T19.2 rosterref19_Show.B19 = true := by kernel_rfl
set_option maxHeartbeats 8000000 in
set_option maxRecDepth 100000 in
theorem rosterref19_Show.calls (k : Nat) (a0_0 : Int) (a0_1 : Int) (a0_2 : Int) (a0_3 : ByteArray) (a0_4 : ByteArray) (a0_5 : ByteArray) (A0_6 : Option Addr) (c0_6 : Nat) (l0_6 : List (S34)) (a0_7 : ByteArray) (a0_8 : Bool) (A0_9 : Option Addr) (c0_9 : Nat) (l0_9 : List (S36)) (r : ByteArray) (w : World) (hr0_6 : Kd.C k34 w A0_6 l0_6.length l0_6) (hc0_6 : l0_6.length ≤ c0_6) (hr0_9 : Kd.C k36 w A0_9 l0_9.length l0_9) (hc0_9 : l0_9.length ≤ c0_9) (h : rosterref19_Show.f k a0_0 a0_1 a0_2 a0_3 a0_4 a0_5 l0_6 a0_7 a0_8 l0_9 = some r) :
    Calls Tryd.prog 4 #[.agg #[.int .i64 a0_0, .int .i64 a0_1, .int .i64 a0_2, .string a0_3, .string a0_4, .string a0_5, .slice A0_6 l0_6.length c0_6, .string a0_7, .bool a0_8, .slice A0_9 l0_9.length c0_9]] w fun e w' => e = .returned (.string r) ∧ Below w.heap.size w w' := by
  have hu29 := Tryd.underlying29
  have hu34 := Tryd.underlying34
  have hu36 := Tryd.underlying36
  have HR0_6 := Aside0.mk hr0_6
  have HC0_6 := Aside0.mk hc0_6
  clear hr0_6 hc0_6
  have HR0_9 := Aside0.mk hr0_9
  have HC0_9 := Aside0.mk hc0_9
  clear hr0_9 hc0_9
  have HB := Aside0.mk (Below.refl w.heap.size w)
  have H : ((some (([(⟨#[98, 105, 110, 100]⟩ : ByteArray), (⟨#[101, 110, 116, 114, 121]⟩ : ByteArray), (⟨#[100, 111, 110, 101]⟩ : ByteArray), (⟨#[109, 111, 100, 105, 102, 121]⟩ : ByteArray), (⟨#[97, 100, 100]⟩ : ByteArray), (⟨#[100, 101, 108, 101, 116, 101]⟩ : ByteArray), (⟨#[114, 101, 110, 97, 109, 101]⟩ : ByteArray), (⟨#[99, 111, 109, 112, 97, 114, 101]⟩ : ByteArray), (⟨#[101, 120, 116, 101, 110, 100, 101, 100]⟩ : ByteArray)] : List ByteArray) : List ByteArray)).bind fun y124 => (if a0_1 = 1 then ((rosterref19_decimal.f k a0_0).bind fun t127 => (if 2 + t127.size ≤ 9223372036854775807 then (if ((⟨#[35, 32]⟩ : ByteArray) ++ t127).size + 7 ≤ 9223372036854775807 then ((rosterref19_line.f k (⟨#[100, 110]⟩ : ByteArray) a0_5).bind fun t128 => (if (((⟨#[35, 32]⟩ : ByteArray) ++ t127) ++ (⟨#[32, 101, 110, 116, 114, 121, 10]⟩ : ByteArray)).size + t128.size ≤ 9223372036854775807 then (rosterref19_Show.l0 k ((((⟨#[35, 32]⟩ : ByteArray) ++ t127) ++ (⟨#[32, 101, 110, 116, 114, 121, 10]⟩ : ByteArray)) ++ t128) l0_6 (l0_6.length : Int) 0) else (none))) else (none)) else (none))) else (if a0_1 ≥ 0 then (rosterref19_Show.j3 k y124 (⟨#[111, 116, 104, 101, 114]⟩ : ByteArray) (decide (a0_1 < (y124.length : Int))) a0_0 a0_1 a0_2 a0_3 a0_4 a0_5 l0_6 a0_7 a0_8 l0_9) else (rosterref19_Show.j3 k y124 (⟨#[111, 116, 104, 101, 114]⟩ : ByteArray) false a0_0 a0_1 a0_2 a0_3 a0_4 a0_5 l0_6 a0_7 a0_8 l0_9)))) = some r := h
  clear h
  obtain ⟨y124, hy124⟩ : ∃ y_ : List ByteArray, y_ = (([(⟨#[98, 105, 110, 100]⟩ : ByteArray), (⟨#[101, 110, 116, 114, 121]⟩ : ByteArray), (⟨#[100, 111, 110, 101]⟩ : ByteArray), (⟨#[109, 111, 100, 105, 102, 121]⟩ : ByteArray), (⟨#[97, 100, 100]⟩ : ByteArray), (⟨#[100, 101, 108, 101, 116, 101]⟩ : ByteArray), (⟨#[114, 101, 110, 97, 109, 101]⟩ : ByteArray), (⟨#[99, 111, 109, 112, 97, 114, 101]⟩ : ByteArray), (⟨#[101, 120, 116, 101, 110, 100, 101, 100]⟩ : ByteArray)] : List ByteArray)) := ⟨_, rfl⟩
  replace H : (if a0_1 = 1 then ((rosterref19_decimal.f k a0_0).bind fun t127 => (if 2 + t127.size ≤ 9223372036854775807 then (if ((⟨#[35, 32]⟩ : ByteArray) ++ t127).size + 7 ≤ 9223372036854775807 then ((rosterref19_line.f k (⟨#[100, 110]⟩ : ByteArray) a0_5).bind fun t128 => (if (((⟨#[35, 32]⟩ : ByteArray) ++ t127) ++ (⟨#[32, 101, 110, 116, 114, 121, 10]⟩ : ByteArray)).size + t128.size ≤ 9223372036854775807 then (rosterref19_Show.l0 k ((((⟨#[35, 32]⟩ : ByteArray) ++ t127) ++ (⟨#[32, 101, 110, 116, 114, 121, 10]⟩ : ByteArray)) ++ t128) l0_6 (l0_6.length : Int) 0) else (none))) else (none)) else (none))) else (if a0_1 ≥ 0 then (rosterref19_Show.j3 k y124 (⟨#[111, 116, 104, 101, 114]⟩ : ByteArray) (decide (a0_1 < (y124.length : Int))) a0_0 a0_1 a0_2 a0_3 a0_4 a0_5 l0_6 a0_7 a0_8 l0_9) else (rosterref19_Show.j3 k y124 (⟨#[111, 116, 104, 101, 114]⟩ : ByteArray) false a0_0 a0_1 a0_2 a0_3 a0_4 a0_5 l0_6 a0_7 a0_8 l0_9))) = some r := by first | (rw [hy124]; with_reducible exact H) | (have H2_ := (Option.bind_some _ _).symm.trans H; rw [hy124]; with_reducible exact H2_) | (have H2_ := (Option.bind_some _ _).symm.trans H; with_reducible exact H2_) | with_reducible exact H | (rw [hy124]; exact H) | exact H
  have Ny124 := Aside0.mk hy124
  clear hy124
  by_cases c2 : a0_1 = 1
  · rw [if_pos c2] at H
    have c2b0 : (a0_1 == 1) = true := beq_iff_eq.mpr c2
    have c2b1 : (a0_1 != 1) = false := bne_eq_false_iff_eq.mpr c2
    clear c2
    replace H := Option.bind_eq_some_iff.mp H
    obtain ⟨t127, A30, H⟩ := H
    replace H : (if 2 + t127.size ≤ 9223372036854775807 then (if ((⟨#[35, 32]⟩ : ByteArray) ++ t127).size + 7 ≤ 9223372036854775807 then ((rosterref19_line.f k (⟨#[100, 110]⟩ : ByteArray) a0_5).bind fun t128 => (if (((⟨#[35, 32]⟩ : ByteArray) ++ t127) ++ (⟨#[32, 101, 110, 116, 114, 121, 10]⟩ : ByteArray)).size + t128.size ≤ 9223372036854775807 then (rosterref19_Show.l0 k ((((⟨#[35, 32]⟩ : ByteArray) ++ t127) ++ (⟨#[32, 101, 110, 116, 114, 121, 10]⟩ : ByteArray)) ++ t128) l0_6 (l0_6.length : Int) 0) else (none))) else (none)) else (none)) = some r := H
    have A3 := Aside0.mk A30
    clear A30
    by_cases c4 : 2 + t127.size ≤ 9223372036854775807
    · rw [if_pos c4] at H
      have c4b0 := eq_true c4
      have c4b1 : decide (2 + t127.size ≤ 9223372036854775807) = true := decide_eq_true c4
      try have c4b2 : (9223372036854775807 < 2 + t127.size) = False := eq_false (Nat.not_lt.2 c4)
      by_cases c5 : ((⟨#[35, 32]⟩ : ByteArray) ++ t127).size + 7 ≤ 9223372036854775807
      · rw [if_pos c5] at H
        have c5b0 := eq_true c5
        have c5b1 : decide (((⟨#[35, 32]⟩ : ByteArray) ++ t127).size + 7 ≤ 9223372036854775807) = true := decide_eq_true c5
        try have c5b2 : (9223372036854775807 < ((⟨#[35, 32]⟩ : ByteArray) ++ t127).size + 7) = False := eq_false (Nat.not_lt.2 c5)
        (try (have c5b3 : (9223372036854775807 < ((⟨#[35, 32]⟩ : ByteArray) ++ t127).size + 7) = False := c5b2; conv at c5b3 => (lhs; rhs; simp [go_sem])))
        replace H := Option.bind_eq_some_iff.mp H
        obtain ⟨t128, A60, H⟩ := H
        replace H : (if (((⟨#[35, 32]⟩ : ByteArray) ++ t127) ++ (⟨#[32, 101, 110, 116, 114, 121, 10]⟩ : ByteArray)).size + t128.size ≤ 9223372036854775807 then (rosterref19_Show.l0 k ((((⟨#[35, 32]⟩ : ByteArray) ++ t127) ++ (⟨#[32, 101, 110, 116, 114, 121, 10]⟩ : ByteArray)) ++ t128) l0_6 (l0_6.length : Int) 0) else (none)) = some r := H
        have A6 := Aside0.mk A60
        clear A60
        by_cases c7 : (((⟨#[35, 32]⟩ : ByteArray) ++ t127) ++ (⟨#[32, 101, 110, 116, 114, 121, 10]⟩ : ByteArray)).size + t128.size ≤ 9223372036854775807
        · rw [if_pos c7] at H
          have c7b0 := eq_true c7
          have c7b1 : decide ((((⟨#[35, 32]⟩ : ByteArray) ++ t127) ++ (⟨#[32, 101, 110, 116, 114, 121, 10]⟩ : ByteArray)).size + t128.size ≤ 9223372036854775807) = true := decide_eq_true c7
          try have c7b2 : (9223372036854775807 < (((⟨#[35, 32]⟩ : ByteArray) ++ t127) ++ (⟨#[32, 101, 110, 116, 114, 121, 10]⟩ : ByteArray)).size + t128.size) = False := eq_false (Nat.not_lt.2 c7)
          (try (have c7b3 : (9223372036854775807 < (((⟨#[35, 32]⟩ : ByteArray) ++ t127) ++ (⟨#[32, 101, 110, 116, 114, 121, 10]⟩ : ByteArray)).size + t128.size) = False := c7b2; conv at c7b3 => (lhs; rhs; simp [go_sem])))
          have H' := Aside0.mk H
          clear H
          go_enter Tryd.func4, Tryd.ntmps4
          try go_wp2_with (first | ((with_reducible refine gate_dst (N := 1) rfl ?_); (try (refine gate_guard (by rfl) ?_; dsimp only)); refine box_event ?hg (N := 1) ?hd (cs := #[.int .i64 a0_0, .int .i64 a0_1, .int .i64 a0_2, .string a0_3, .string a0_4, .string a0_5, .slice A0_6 l0_6.length c0_6, .string a0_7, .bool a0_8, .slice A0_9 l0_9.length c0_9]) (t := 29) ?hr ?_; (case hd => rfl); (case hg => rfl); (case hr => first | (go_simp; done) | (go_simp; rfl)); intro gb123 hg w8 hbox hb; have n0_ := Aside0.mk (below_step (by repeat (first | (with_reducible first | exact HB.out | apply below_alloc | apply pw_below_drewN | apply below_drew1) | exact HB.out)) hb); have n1_ := Aside0.mk (hbox); have n2_ := Aside0.mk ((by rw [hg]; exact (below_size (by repeat (first | (with_reducible first | exact HB.out | apply below_alloc | apply pw_below_drewN | apply below_drew1) | exact HB.out))) : w.heap.size ≤ gb123)); have n3_ := Aside0.mk ((by rw [hg]; exact (below_size (by repeat (first | (with_reducible first | exact HB.out | apply below_alloc | apply pw_below_drewN | apply below_drew1) | exact HB.out))) : w.heap.size ≤ gb123)); clear HB; have HB := n0_; have BK123 := n1_; have GW123 := n2_; have GE123 := n3_; clear n0_ n1_ n2_ n3_; clear hb hbox hg) | ((with_reducible refine gate_dst (N := 13) rfl ?_); (try (refine gate_guard (by rfl) ?_; dsimp only)); refine Kd.R_lit Kd.string _ 9 ?hg (N := 13) ?hd (xs := ([(⟨#[98, 105, 110, 100]⟩ : ByteArray), (⟨#[101, 110, 116, 114, 121]⟩ : ByteArray), (⟨#[100, 111, 110, 101]⟩ : ByteArray), (⟨#[109, 111, 100, 105, 102, 121]⟩ : ByteArray), (⟨#[97, 100, 100]⟩ : ByteArray), (⟨#[100, 101, 108, 101, 116, 101]⟩ : ByteArray), (⟨#[114, 101, 110, 97, 109, 101]⟩ : ByteArray), (⟨#[99, 111, 109, 112, 97, 114, 101]⟩ : ByteArray), (⟨#[101, 120, 116, 101, 110, 100, 101, 100]⟩ : ByteArray)] : List ByteArray)) (inner := [.string (⟨#[98, 105, 110, 100]⟩ : ByteArray), .string (⟨#[101, 110, 116, 114, 121]⟩ : ByteArray), .string (⟨#[100, 111, 110, 101]⟩ : ByteArray), .string (⟨#[109, 111, 100, 105, 102, 121]⟩ : ByteArray), .string (⟨#[97, 100, 100]⟩ : ByteArray), .string (⟨#[100, 101, 108, 101, 116, 101]⟩ : ByteArray), .string (⟨#[114, 101, 110, 97, 109, 101]⟩ : ByteArray), .string (⟨#[99, 111, 109, 112, 97, 114, 101]⟩ : ByteArray), .string (⟨#[101, 120, 116, 101, 110, 100, 101, 100]⟩ : ByteArray)]) (ok := fun _ => True) (okp := fun _ => True) ?hr ?hp (fun _ hk => hk) trivial (Below.refl _ _) (Nat.le_refl _) (by simp) ?_; (case hd => rfl); (case hg => rfl); (case hr => first | (go_simp; done) | (go_simp; rfl)); (case hp => exact (Reps.one (show Kd.M Kd.string _ _ _ (⟨#[98, 105, 110, 100]⟩ : ByteArray) [.string (⟨#[98, 105, 110, 100]⟩ : ByteArray)] from rfl) (Reps.one (show Kd.M Kd.string _ _ _ (⟨#[101, 110, 116, 114, 121]⟩ : ByteArray) [.string (⟨#[101, 110, 116, 114, 121]⟩ : ByteArray)] from rfl) (Reps.one (show Kd.M Kd.string _ _ _ (⟨#[100, 111, 110, 101]⟩ : ByteArray) [.string (⟨#[100, 111, 110, 101]⟩ : ByteArray)] from rfl) (Reps.one (show Kd.M Kd.string _ _ _ (⟨#[109, 111, 100, 105, 102, 121]⟩ : ByteArray) [.string (⟨#[109, 111, 100, 105, 102, 121]⟩ : ByteArray)] from rfl) (Reps.one (show Kd.M Kd.string _ _ _ (⟨#[97, 100, 100]⟩ : ByteArray) [.string (⟨#[97, 100, 100]⟩ : ByteArray)] from rfl) (Reps.one (show Kd.M Kd.string _ _ _ (⟨#[100, 101, 108, 101, 116, 101]⟩ : ByteArray) [.string (⟨#[100, 101, 108, 101, 116, 101]⟩ : ByteArray)] from rfl) (Reps.one (show Kd.M Kd.string _ _ _ (⟨#[114, 101, 110, 97, 109, 101]⟩ : ByteArray) [.string (⟨#[114, 101, 110, 97, 109, 101]⟩ : ByteArray)] from rfl) (Reps.one (show Kd.M Kd.string _ _ _ (⟨#[99, 111, 109, 112, 97, 114, 101]⟩ : ByteArray) [.string (⟨#[99, 111, 109, 112, 97, 114, 101]⟩ : ByteArray)] from rfl) (Reps.one (show Kd.M Kd.string _ _ _ (⟨#[101, 120, 116, 101, 110, 100, 101, 100]⟩ : ByteArray) [.string (⟨#[101, 120, 116, 101, 110, 100, 101, 100]⟩ : ByteArray)] from rfl) (Reps.none _ _))))))))))); intro v125 w9 ho10 hb hg_ hnew_; clear hg_ hnew_; (first | rw [← Ny124.out] at ho10 | (simp only [Int.reduceToNat] at ho10; rw [← Ny124.out] at ho10)); have n0_ := Aside0.mk (Kd.R_lower ho10 (below_size (by repeat (first | (with_reducible first | exact HB.out | apply below_alloc | apply pw_below_drewN | apply below_drew1 | refine below_set ?_ GE123.out) | exact HB.out)))); have n1_ := Aside0.mk (blk_below (g := gb123) (o := .cells #[.int .i64 a0_0, .int .i64 a0_1, .int .i64 a0_2, .string a0_3, .string a0_4, .string a0_5, .slice A0_6 l0_6.length c0_6, .string a0_7, .bool a0_8, .slice A0_9 l0_9.length c0_9] 29 (0, 0)) (by (with_reducible repeat (first | refine blk_drewN ?_ _ | refine blk_drew ?_ | refine blk_alloc ?_ _)); exact BK123.out) hb); have n2_ := Aside0.mk (below_step (by repeat (first | (with_reducible first | exact HB.out | apply below_alloc | apply pw_below_drewN | apply below_drew1 | refine below_set ?_ GE123.out) | exact HB.out)) hb); clear BK123; clear HB; have HO126 := n0_; have BK123 := n1_; have HB := n2_; clear n0_ n1_ n2_; clear hb ho10; have hcz11_0 : w9.cell? ⟨gb123, 0, none⟩ = some (.int .i64 a0_0) := (blk_cell BK123.out 0).trans rfl; have hcz11_1 : w9.cell? ⟨gb123, 1, none⟩ = some (.int .i64 a0_1) := (blk_cell BK123.out 1).trans rfl; have hcz11_2 : w9.cell? ⟨gb123, 2, none⟩ = some (.int .i64 a0_2) := (blk_cell BK123.out 2).trans rfl; have hcz11_3 : w9.cell? ⟨gb123, 3, none⟩ = some (.string a0_3) := (blk_cell BK123.out 3).trans rfl; have hcz11_4 : w9.cell? ⟨gb123, 4, none⟩ = some (.string a0_4) := (blk_cell BK123.out 4).trans rfl; have hcz11_5 : w9.cell? ⟨gb123, 5, none⟩ = some (.string a0_5) := (blk_cell BK123.out 5).trans rfl; have hcz11_6 : w9.cell? ⟨gb123, 6, none⟩ = some (.slice A0_6 l0_6.length c0_6) := (blk_cell BK123.out 6).trans rfl; have hcz11_7 : w9.cell? ⟨gb123, 7, none⟩ = some (.string a0_7) := (blk_cell BK123.out 7).trans rfl; have hcz11_8 : w9.cell? ⟨gb123, 8, none⟩ = some (.bool a0_8) := (blk_cell BK123.out 8).trans rfl; have hcz11_9 : w9.cell? ⟨gb123, 9, none⟩ = some (.slice A0_9 l0_9.length c0_9) := (blk_cell BK123.out 9).trans rfl; have hfz11_0 := blk_frozen BK123.out 0; have hfz11_1 := blk_frozen BK123.out 1; have hfz11_2 := blk_frozen BK123.out 2; have hfz11_3 := blk_frozen BK123.out 3; have hfz11_4 := blk_frozen BK123.out 4; have hfz11_5 := blk_frozen BK123.out 5; have hfz11_6 := blk_frozen BK123.out 6; have hfz11_7 := blk_frozen BK123.out 7; have hfz11_8 := blk_frozen BK123.out 8; have hfz11_9 := blk_frozen BK123.out 9))
          have n0_ := Aside0.mk (Kd.R_drew HO126.out)
          have n1_ := Aside0.mk (blk_drew BK123.out)
          have n2_ := Aside0.mk (below_drew1 HB.out)
          clear HO126
          clear BK123
          clear HB
          have HO126 := n0_
          have BK123 := n1_
          have HB := n2_
          clear n0_ n1_ n2_
          refine start_ (n := 10) (S := fun w' => w'.cell? ⟨gb123, 0, none⟩ = some (.int .i64 a0_0) ∧ w'.cell? ⟨gb123, 1, none⟩ = some (.int .i64 a0_1) ∧ w'.cell? ⟨gb123, 2, none⟩ = some (.int .i64 a0_2) ∧ w'.cell? ⟨gb123, 3, none⟩ = some (.string a0_3) ∧ w'.cell? ⟨gb123, 4, none⟩ = some (.string a0_4) ∧ w'.cell? ⟨gb123, 5, none⟩ = some (.string a0_5) ∧ w'.cell? ⟨gb123, 6, none⟩ = some (.slice A0_6 l0_6.length c0_6) ∧ w'.cell? ⟨gb123, 7, none⟩ = some (.string a0_7) ∧ w'.cell? ⟨gb123, 8, none⟩ = some (.bool a0_8) ∧ w'.cell? ⟨gb123, 9, none⟩ = some (.slice A0_9 l0_9.length c0_9)) (ds := []) #[false, false, false, false, false, false, false, false, false, false] (by kernel_rfl) rfl rfl ⟨(blk_cell BK123.out 0).trans rfl, (blk_cell BK123.out 1).trans rfl, (blk_cell BK123.out 2).trans rfl, (blk_cell BK123.out 3).trans rfl, (blk_cell BK123.out 4).trans rfl, (blk_cell BK123.out 5).trans rfl, (blk_cell BK123.out 6).trans rfl, (blk_cell BK123.out 7).trans rfl, (blk_cell BK123.out 8).trans rfl, (blk_cell BK123.out 9).trans rfl⟩ (fun hHeld => ?_); refine with_tabW rosterref19_Show.tab3 rosterref19_Show.bits3 (fun HT_ HW_ => ?_)
          generalize w9.drew = w12 at HO126 BK123 HB hHeld ⊢
          refine pure_ (i := 0) (N := some 17) (v := ?_) (a' := ?_) #[true, false, false, false, false, false, false, false, false, false] rfl rfl (any_of HT_.out (by kernel_rfl)) (fun _ _ _ h => h) (Or.inl ⟨by rfl, ?_⟩) ?_ ?_
          rotate_left
          · intro w'
            go_simp
            with_reducible rfl
          rotate_left
          · simp only [Act.put, List.setIfInBounds_toArray, List.set_cons_zero, List.set_cons_succ, i64_w, i32_w]
            rfl
          refine pure_ (i := 5) (N := some 22) (v := ?_) (a' := ?_) #[true, false, false, false, false, true, false, false, false, false] rfl rfl (any_of HT_.out (by kernel_rfl)) (fun _ _ _ h => h) (Or.inl ⟨by rfl, ?_⟩) ?_ ?_
          rotate_left
          · intro w'
            go_simp
            with_reducible rfl
          rotate_left
          · simp only [Act.put, List.setIfInBounds_toArray, List.set_cons_zero, List.set_cons_succ, i64_w, i32_w]
            rfl
          refine take_ (i := 1) (N := some 18) (v := ?_) (a' := ?_) #[true, true, false, false, false, true, false, false, false, false] rfl rfl (take_ofW HT_.out HW_.out (by kernel_rfl)) (fun _ _ _ h => h) (Or.inl ⟨by rfl, ?_⟩) hHeld ?_ ?_
          rotate_left
          · rintro w' ⟨s0, s1, s2, s3, s4, s5, s6, s7, s8, s9⟩
            go_simp
            with_reducible rfl
          rotate_left
          · simp only [Act.put, List.setIfInBounds_toArray, List.set_cons_zero, List.set_cons_succ, i64_w, i32_w]
            rfl
          refine take_ (i := 6) (N := some 23) (v := ?_) (a' := ?_) #[true, true, false, false, false, true, true, false, false, false] rfl rfl (take_ofW HT_.out HW_.out (by kernel_rfl)) (fun _ _ _ h => h) (Or.inl ⟨by rfl, ?_⟩) hHeld ?_ ?_
          rotate_left
          · rintro w' ⟨s0, s1, s2, s3, s4, s5, s6, s7, s8, s9⟩
            go_simp
            with_reducible rfl
          rotate_left
          · simp only [Act.put, List.setIfInBounds_toArray, List.set_cons_zero, List.set_cons_succ, i64_w, i32_w]
            rfl
          refine one_ (i := 2) (N := some 19) #[true, true, true, false, false, true, true, false, false, false] rfl rfl (one_of HT_.out (by kernel_rfl)) (by decide) (fun K hK => ?_)
          refine goes_ Tryd.func8 (by kernel_rfl) rfl #[.int .i64 a0_0] (by rfl) rfl rfl (by (try simp only [List.map_toArray, List.map_cons, List.map_nil]); first | done | rfl | (simp only [List.length_drop, List.length_take]; rfl)) ?_
          with_reducible refine (rosterref19_decimal.calls k a0_0 t127 _ A3.out).mono ?_
          rintro e w' ⟨rfl, ⟨nd, rfl⟩⟩
          refine ⟨_, rfl, ?_⟩
          refine hK.out _ _ ⟨(blk_cell BK123.out 0).trans rfl, (blk_cell BK123.out 1).trans rfl, (blk_cell BK123.out 2).trans rfl, (blk_cell BK123.out 3).trans rfl, (blk_cell BK123.out 4).trans rfl, (blk_cell BK123.out 5).trans rfl, (blk_cell BK123.out 6).trans rfl, (blk_cell BK123.out 7).trans rfl, (blk_cell BK123.out 8).trans rfl, (blk_cell BK123.out 9).trans rfl⟩ (fun hHeld => ?_)
          clear hK K
          refine norm_ (a' := ?_) ?_ ?_
          rotate_left
          · show Act.put _ (some 19) _ = _
            simp only [Act.put, List.setIfInBounds_toArray, List.set_cons_zero, List.set_cons_succ, i64_w, i32_w]
            rfl
          refine pure_ (i := 3) (N := some 20) (v := ?_) (a' := ?_) #[true, true, true, true, false, true, true, false, false, false] rfl rfl (any_of HT_.out (by kernel_rfl)) (fun _ _ _ h => h) (Or.inl ⟨by rfl, ?_⟩) ?_ ?_
          rotate_left
          · intro w'
            go_simp
            with_reducible rfl
          rotate_left
          · simp only [Act.put, List.setIfInBounds_toArray, List.set_cons_zero, List.set_cons_succ, i64_w, i32_w]
            rfl
          refine pure_ (i := 4) (N := some 21) (v := ?_) (a' := ?_) #[true, true, true, true, true, true, true, false, false, false] rfl rfl (any_of HT_.out (by kernel_rfl)) (fun _ _ _ h => h) (Or.inl ⟨by rfl, ?_⟩) ?_ ?_
          rotate_left
          · intro w'
            go_simp
            with_reducible rfl
          rotate_left
          · simp only [Act.put, List.setIfInBounds_toArray, List.set_cons_zero, List.set_cons_succ, i64_w, i32_w]
            rfl
          refine one_ (i := 7) (N := some 24) #[true, true, true, true, true, true, true, true, false, false] rfl rfl (one_of HT_.out (by kernel_rfl)) (by decide) (fun K hK => ?_)
          refine goes_ Tryd.func9 (by kernel_rfl) rfl #[.string (⟨#[100, 110]⟩ : ByteArray), .string a0_5] (by rfl) rfl rfl (by (try simp only [List.map_toArray, List.map_cons, List.map_nil]); first | done | rfl | (simp only [List.length_drop, List.length_take]; rfl)) ?_
          with_reducible refine (rosterref19_line.calls k (⟨#[100, 110]⟩ : ByteArray) a0_5 t128 _ A6.out).mono ?_
          rintro e w13 ⟨rfl, hb⟩
          refine ⟨_, rfl, ?_⟩
          have n0_ := Aside0.mk (Kd.R_below (by (with_reducible repeat (first | apply Kd.R_alloc | apply Kd.R_drewN | apply Kd.R_drew)); exact HO126.out) hb)
          have n1_ := Aside0.mk (blk_below (g := gb123) (o := .cells #[.int .i64 a0_0, .int .i64 a0_1, .int .i64 a0_2, .string a0_3, .string a0_4, .string a0_5, .slice A0_6 l0_6.length c0_6, .string a0_7, .bool a0_8, .slice A0_9 l0_9.length c0_9] 29 (0, 0)) (by (with_reducible repeat (first | refine blk_drewN ?_ _ | refine blk_drew ?_ | refine blk_alloc ?_ _)); exact BK123.out) hb)
          have n2_ := Aside0.mk (below_step (by repeat (first | (with_reducible first | exact HB.out | apply below_alloc | apply pw_below_drewN | apply below_drew1 | refine below_set ?_ GE123.out) | exact HB.out)) hb)
          clear HO126
          clear BK123
          clear HB
          have HO126 := n0_
          have BK123 := n1_
          have HB := n2_
          clear n0_ n1_ n2_
          (try clear hb)
          (try clear hb2)
          (try clear hk)
          (try clear hi)
          refine hK.out _ _ ⟨(blk_cell BK123.out 0).trans rfl, (blk_cell BK123.out 1).trans rfl, (blk_cell BK123.out 2).trans rfl, (blk_cell BK123.out 3).trans rfl, (blk_cell BK123.out 4).trans rfl, (blk_cell BK123.out 5).trans rfl, (blk_cell BK123.out 6).trans rfl, (blk_cell BK123.out 7).trans rfl, (blk_cell BK123.out 8).trans rfl, (blk_cell BK123.out 9).trans rfl⟩ (fun hHeld => ?_)
          clear hK K
          refine norm_ (a' := ?_) ?_ ?_
          rotate_left
          · show Act.put _ (some 24) _ = _
            simp only [Act.put, List.setIfInBounds_toArray, List.set_cons_zero, List.set_cons_succ, i64_w, i32_w]
            rfl
          refine pure_ (i := 8) (N := some 25) (v := ?_) (a' := ?_) #[true, true, true, true, true, true, true, true, true, false] rfl rfl (any_of HT_.out (by kernel_rfl)) (fun _ _ _ h => h) (Or.inl ⟨by rfl, ?_⟩) ?_ ?_
          rotate_left
          · intro w'
            go_simp
            with_reducible rfl
          rotate_left
          · simp only [Act.put, List.setIfInBounds_toArray, List.set_cons_zero, List.set_cons_succ, i64_w, i32_w]
            rfl
          refine pure_ (i := 9) (N := some 4) (v := ?_) (a' := ?_) #[true, true, true, true, true, true, true, true, true, true] rfl rfl (any_of HT_.out (by kernel_rfl)) (fun _ _ _ h => h) (Or.inl ⟨by rfl, ?_⟩) ?_ ?_
          rotate_left
          · intro w'
            go_simp
            with_reducible rfl
          rotate_left
          · simp only [Act.put, List.setIfInBounds_toArray, List.set_cons_zero, List.set_cons_succ, i64_w, i32_w]
            rfl
          refine done_ (done_of HT_.out (by kernel_rfl)) ?_
          have hcz14_0 : w13.cell? ⟨gb123, 0, none⟩ = some (.int .i64 a0_0) := (blk_cell BK123.out 0).trans rfl
          have hcz14_1 : w13.cell? ⟨gb123, 1, none⟩ = some (.int .i64 a0_1) := (blk_cell BK123.out 1).trans rfl
          have hcz14_2 : w13.cell? ⟨gb123, 2, none⟩ = some (.int .i64 a0_2) := (blk_cell BK123.out 2).trans rfl
          have hcz14_3 : w13.cell? ⟨gb123, 3, none⟩ = some (.string a0_3) := (blk_cell BK123.out 3).trans rfl
          have hcz14_4 : w13.cell? ⟨gb123, 4, none⟩ = some (.string a0_4) := (blk_cell BK123.out 4).trans rfl
          have hcz14_5 : w13.cell? ⟨gb123, 5, none⟩ = some (.string a0_5) := (blk_cell BK123.out 5).trans rfl
          have hcz14_6 : w13.cell? ⟨gb123, 6, none⟩ = some (.slice A0_6 l0_6.length c0_6) := (blk_cell BK123.out 6).trans rfl
          have hcz14_7 : w13.cell? ⟨gb123, 7, none⟩ = some (.string a0_7) := (blk_cell BK123.out 7).trans rfl
          have hcz14_8 : w13.cell? ⟨gb123, 8, none⟩ = some (.bool a0_8) := (blk_cell BK123.out 8).trans rfl
          have hcz14_9 : w13.cell? ⟨gb123, 9, none⟩ = some (.slice A0_9 l0_9.length c0_9) := (blk_cell BK123.out 9).trans rfl
          have hfz14_0 := blk_frozen BK123.out 0
          have hfz14_1 := blk_frozen BK123.out 1
          have hfz14_2 := blk_frozen BK123.out 2
          have hfz14_3 := blk_frozen BK123.out 3
          have hfz14_4 := blk_frozen BK123.out 4
          have hfz14_5 := blk_frozen BK123.out 5
          have hfz14_6 := blk_frozen BK123.out 6
          have hfz14_7 := blk_frozen BK123.out 7
          have hfz14_8 := blk_frozen BK123.out 8
          have hfz14_9 := blk_frozen BK123.out 9
          try go_wp2
          go_loopg [4, 29] k (fun kq v4 v29 w' => ∃ (x4_1 : ByteArray) (x29_1 : Int), v4 = .string x4_1 ∧ v29 = .int .i64 x29_1 ∧ Aside0 (rosterref19_Show.l0 kq x4_1 l0_6 (l0_6.length : Int) x29_1 = some r) ∧ Aside0 (kq ≤ k) ∧ Aside0 (w'.heap[gb123]? = some (.cells #[.int .i64 a0_0, .int .i64 a0_1, .int .i64 a0_2, .string a0_3, .string a0_4, .string a0_5, (.slice A0_6 l0_6.length c0_6), .string a0_7, .bool a0_8, (.slice A0_9 l0_9.length c0_9)] 29 (0, 0))) ∧ Aside0 (Below w.heap.size w w'))
          case atStart => exact ⟨((((⟨#[35, 32]⟩ : ByteArray) ++ t127) ++ (⟨#[32, 101, 110, 116, 114, 121, 10]⟩ : ByteArray)) ++ t128), (0), (by first | rfl | (simp; done) | (simp [*]; done)), (by first | rfl | (simp; done) | (simp [*]; done)), H', ⟨Nat.le_refl _⟩, ⟨by (with_reducible repeat (first | refine blk_drewN ?_ _ | refine blk_drew ?_ | refine blk_alloc ?_ _)); exact BK123.out⟩, ⟨by repeat (first | (with_reducible first | exact HB.out | apply below_alloc | apply pw_below_drewN | apply below_drew1 | refine below_set ?_ GE123.out) | exact HB.out)⟩⟩
          case round =>
            clear H'
            try clear c2
            try clear c2b0
            try clear c2b1
            try clear p2
            try clear c4
            try clear c4b0
            try clear c4b1
            try clear c4b2
            try clear c5
            try clear c5b0
            try clear c5b1
            try clear c5b2
            try clear c7
            try clear c7b0
            try clear c7b1
            try clear c7b2
            try clear c8
            try clear c9
            try clear hcz11_0
            try clear hcz11_1
            try clear hcz11_2
            try clear hcz11_3
            try clear hcz11_4
            try clear hcz11_5
            try clear hcz11_6
            try clear hcz11_7
            try clear hcz11_8
            try clear hcz11_9
            try clear hcz14_0
            try clear hcz14_1
            try clear hcz14_2
            try clear hcz14_3
            try clear hcz14_4
            try clear hcz14_5
            try clear hcz14_6
            try clear hcz14_7
            try clear hcz14_8
            try clear hcz14_9
            try clear hfz11_0
            try clear hfz11_1
            try clear hfz11_2
            try clear hfz11_3
            try clear hfz11_4
            try clear hfz11_5
            try clear hfz11_6
            try clear hfz11_7
            try clear hfz11_8
            try clear hfz11_9
            try clear hfz14_0
            try clear hfz14_1
            try clear hfz14_2
            try clear hfz14_3
            try clear hfz14_4
            try clear hfz14_5
            try clear hfz14_6
            try clear hfz14_7
            try clear hfz14_8
            try clear hfz14_9
            obtain ⟨x4_1, x29_1, rfl, rfl, HA, HK1, BK123, HB⟩ := hrel
            cases gk with
            | zero => exact absurd HA.out (by simp [rosterref19_Show.l0])
            | succ k1 =>
              have H := HA.out
              clear HA
              simp only [rosterref19_Show.l0] at H
              by_cases c15 : x29_1 < (l0_6.length : Int)
              · rw [if_pos c15] at H
                have c15b0 : decide (x29_1 < (l0_6.length : Int)) = true := decide_eq_true c15
                clear c15
                by_cases c16 : 0 ≤ x29_1
                · rw [if_pos c16] at H
                  have c16b0 : decide (0 ≤ x29_1) = true := decide_eq_true c16
                  clear c16
                  by_cases c17 : x29_1 < (l0_6.length : Int)
                  · rw [if_pos c17] at H
                    have c17b0 : decide (x29_1 < (l0_6.length : Int)) = true := decide_eq_true c17
                    clear c17
                    have HC18 := Aside0.mk H
                    clear H
                    have p129 : 0 ≤ (x29_1 : Int) := of_decide_eq_true (by first | (with_reducible assumption) | assumption)
                    have q129 : x29_1 < (l0_6.length : Int) := of_decide_eq_true (by first | (with_reducible assumption) | assumption)
                    obtain ⟨ad129, A129_2, c129_2, e129, hx129_0, hx129_1, hx129_2, hl129_2, hi129_2⟩ := at_T34 HR0_6.out x29_1 p129 q129
                    cases e129
                    replace hx129_0 := (HB.out.cell (World.block_lt_of_cell? w _ hx129_0)).trans hx129_0
                    replace hx129_1 := (HB.out.cell (World.block_lt_of_cell? w _ hx129_1)).trans hx129_1
                    replace hx129_2 := (HB.out.cell (World.block_lt_of_cell? w _ hx129_2)).trans hx129_2
                    have HR129_2 := Aside0.mk hi129_2
                    have HC129_2 := Aside0.mk hl129_2
                    clear hi129_2 hl129_2
                    replace p129 := eq_true p129
                    replace q129 := eq_true q129
                    go_upto_if 36 with (first | ((with_reducible refine gate_dst (N := 6) rfl ?_); (try (refine gate_guard (by rfl) ?_; dsimp only)); refine box_event ?hg (N := 6) ?hd (cs := #[.string (⟨#[]⟩ : ByteArray), .string (⟨#[]⟩ : ByteArray), .slice none 0 0]) (t := 34) ?hr ?_; (case hd => rfl); (case hg => rfl); (case hr => first | (go_simp; done) | (go_simp; rfl)); intro gb130 hg w19 hbox hb; have n0_ := Aside0.mk (blk_below (g := gb123) (o := .cells #[.int .i64 a0_0, .int .i64 a0_1, .int .i64 a0_2, .string a0_3, .string a0_4, .string a0_5, .slice (some ad129) l0_6.length c0_6, .string a0_7, .bool a0_8, .slice A0_9 l0_9.length c0_9] 29 (0, 0)) (by (with_reducible repeat (first | refine blk_drewN ?_ _ | refine blk_drew ?_ | refine blk_alloc ?_ _)); exact BK123.out) hb); have n1_ := Aside0.mk (below_step (by repeat (first | (with_reducible first | exact HB.out | apply below_alloc | apply pw_below_drewN | apply below_drew1 | refine below_set ?_ GE123.out) | exact HB.out)) hb); have n2_ := Aside0.mk (hbox); have n3_ := Aside0.mk ((by rw [hg]; exact (below_size (by repeat (first | (with_reducible first | exact HB.out | apply below_alloc | apply pw_below_drewN | apply below_drew1 | refine below_set ?_ GE123.out) | exact HB.out))) : w.heap.size ≤ gb130)); have n4_ := Aside0.mk ((by rw [hg]; exact (below_size (by repeat (first | (with_reducible first | exact HB.out | apply below_alloc | apply pw_below_drewN | apply below_drew1 | refine below_set ?_ GE123.out) | exact HB.out))) : w.heap.size ≤ gb130)); have n5_ := Aside0.mk ((by rw [hg]; exact Nat.ne_of_lt (blk_lt (g := gb123) (o := .cells #[.int .i64 a0_0, .int .i64 a0_1, .int .i64 a0_2, .string a0_3, .string a0_4, .string a0_5, .slice (some ad129) l0_6.length c0_6, .string a0_7, .bool a0_8, .slice A0_9 l0_9.length c0_9] 29 (0, 0)) (by (with_reducible repeat (first | refine blk_drewN ?_ _ | refine blk_drew ?_ | refine blk_alloc ?_ _)); exact BK123.out)) : gb123 ≠ gb130)); have n6_ := Aside0.mk ((by rw [hg]; exact Nat.ne_of_gt (blk_lt (g := gb123) (o := .cells #[.int .i64 a0_0, .int .i64 a0_1, .int .i64 a0_2, .string a0_3, .string a0_4, .string a0_5, .slice (some ad129) l0_6.length c0_6, .string a0_7, .bool a0_8, .slice A0_9 l0_9.length c0_9] 29 (0, 0)) (by (with_reducible repeat (first | refine blk_drewN ?_ _ | refine blk_drew ?_ | refine blk_alloc ?_ _)); exact BK123.out)) : gb130 ≠ gb123)); clear BK123; clear HB; have BK123 := n0_; have HB := n1_; have BK130 := n2_; have GW130 := n3_; have GE130 := n4_; have NB123_130 := n5_; have NB130_123 := n6_; clear n0_ n1_ n2_ n3_ n4_ n5_ n6_; clear hb hbox hg; have hnb20 := NB130_123.out; have hnc20 := NB123_130.out; have hcz21_0 : w19.cell? ⟨gb130, 0, none⟩ = some (.string (⟨#[]⟩ : ByteArray)) := (blk_cell BK130.out 0).trans rfl; have hcz21_1 : w19.cell? ⟨gb130, 1, none⟩ = some (.string (⟨#[]⟩ : ByteArray)) := (blk_cell BK130.out 1).trans rfl; have hcz21_2 : w19.cell? ⟨gb130, 2, none⟩ = some (.slice none 0 0) := (blk_cell BK130.out 2).trans rfl; have hfz21_0 := blk_frozen BK130.out 0; have hfz21_1 := blk_frozen BK130.out 1; have hfz21_2 := blk_frozen BK130.out 2))
                    (try simp only [Act.put, List.setIfInBounds_toArray, List.set_cons_zero, List.set_cons_succ])
                    go_cut [4] (fun v4 wc => ∃ (kq : Nat) (x4_17 : ByteArray), v4 = .string x4_17 ∧ Aside0 (rosterref19_Show.j1 kq x4_17 l0_6 (l0_6.length : Int) x29_1 ((rd_T34 l0_6 x29_1).f0) ((rd_T34 l0_6 x29_1).f1) ((rd_T34 l0_6 x29_1).f2) = some r) ∧ Aside0 (kq ≤ k1) ∧ Aside0 (wc.heap[gb123]? = some (.cells #[.int .i64 a0_0, .int .i64 a0_1, .int .i64 a0_2, .string a0_3, .string a0_4, .string a0_5, (.slice (some ad129) l0_6.length c0_6), .string a0_7, .bool a0_8, (.slice A0_9 l0_9.length c0_9)] 29 (0, 0))) ∧ Aside0 (wc.heap[gb130]? = some (.cells #[.string ((rd_T34 l0_6 x29_1).f0), .string ((rd_T34 l0_6 x29_1).f1), (.slice A129_2 ((rd_T34 l0_6 x29_1).f2).length c129_2)] 34 (0, 0))) ∧ Aside0 (Below w.heap.size w wc))
                    case first =>
                      have H := HC18.out
                      clear HC18
                      by_cases c22 : (((rd_T34 l0_6 x29_1).f2).length : Int) = 0
                      · rw [if_pos c22] at H
                        have c22b0 : ((((rd_T34 l0_6 x29_1).f2).length : Int) == 0) = true := beq_iff_eq.mpr c22
                        have c22b1 : ((((rd_T34 l0_6 x29_1).f2).length : Int) != 0) = false := bne_eq_false_iff_eq.mpr c22
                        clear c22
                        (first | rw [c22b0] | (simp only [i64_w, i32_w]; rw [c22b0]) | skip)
                        by_cases c23 : 2 + ((rd_T34 l0_6 x29_1).f0).size ≤ 9223372036854775807
                        · rw [if_pos c23] at H
                          have c23b0 := eq_true c23
                          have c23b1 : decide (2 + ((rd_T34 l0_6 x29_1).f0).size ≤ 9223372036854775807) = true := decide_eq_true c23
                          try have c23b2 : (9223372036854775807 < 2 + ((rd_T34 l0_6 x29_1).f0).size) = False := eq_false (Nat.not_lt.2 c23)
                          by_cases c24 : ((⟨#[35, 32]⟩ : ByteArray) ++ ((rd_T34 l0_6 x29_1).f0)).size + 1 ≤ 9223372036854775807
                          · rw [if_pos c24] at H
                            have c24b0 := eq_true c24
                            have c24b1 : decide (((⟨#[35, 32]⟩ : ByteArray) ++ ((rd_T34 l0_6 x29_1).f0)).size + 1 ≤ 9223372036854775807) = true := decide_eq_true c24
                            try have c24b2 : (9223372036854775807 < ((⟨#[35, 32]⟩ : ByteArray) ++ ((rd_T34 l0_6 x29_1).f0)).size + 1) = False := eq_false (Nat.not_lt.2 c24)
                            (try (have c24b3 : (9223372036854775807 < ((⟨#[35, 32]⟩ : ByteArray) ++ ((rd_T34 l0_6 x29_1).f0)).size + 1) = False := c24b2; conv at c24b3 => (lhs; rhs; simp [go_sem])))
                            by_cases c25 : x4_1.size + (((⟨#[35, 32]⟩ : ByteArray) ++ ((rd_T34 l0_6 x29_1).f0)) ++ (⟨#[10]⟩ : ByteArray)).size ≤ 9223372036854775807
                            · rw [if_pos c25] at H
                              have c25b0 := eq_true c25
                              have c25b1 : decide (x4_1.size + (((⟨#[35, 32]⟩ : ByteArray) ++ ((rd_T34 l0_6 x29_1).f0)) ++ (⟨#[10]⟩ : ByteArray)).size ≤ 9223372036854775807) = true := decide_eq_true c25
                              try have c25b2 : (9223372036854775807 < x4_1.size + (((⟨#[35, 32]⟩ : ByteArray) ++ ((rd_T34 l0_6 x29_1).f0)) ++ (⟨#[10]⟩ : ByteArray)).size) = False := eq_false (Nat.not_lt.2 c25)
                              (try (have c25b3 : (9223372036854775807 < x4_1.size + (((⟨#[35, 32]⟩ : ByteArray) ++ ((rd_T34 l0_6 x29_1).f0)) ++ (⟨#[10]⟩ : ByteArray)).size) = False := c25b2; conv at c25b3 => (lhs; rhs; simp [go_sem])))
                              have H' := Aside0.mk H
                              clear H
                              have hnb26 := NB130_123.out
                              have hnc26 := NB123_130.out
                              have hcz27_0 : w19.cell? ⟨gb130, 0, none⟩ = some (.string (⟨#[]⟩ : ByteArray)) := (blk_cell BK130.out 0).trans rfl
                              have hcz27_1 : w19.cell? ⟨gb130, 1, none⟩ = some (.string (⟨#[]⟩ : ByteArray)) := (blk_cell BK130.out 1).trans rfl
                              have hcz27_2 : w19.cell? ⟨gb130, 2, none⟩ = some (.slice none 0 0) := (blk_cell BK130.out 2).trans rfl
                              have hfz27_0 := blk_frozen BK130.out 0
                              have hfz27_1 := blk_frozen BK130.out 1
                              have hfz27_2 := blk_frozen BK130.out 2
                              go_wp2
                              go_meet
                              case rel => exact ⟨_, (x4_1 ++ (((⟨#[35, 32]⟩ : ByteArray) ++ ((rd_T34 l0_6 x29_1).f0)) ++ (⟨#[10]⟩ : ByteArray))), (by first | rfl | (simp; done) | (simp [*]; done)), H', ⟨by have := HK1.out; first | omega | exact Nat.le_refl _⟩, ⟨by (with_reducible repeat (first | refine blk_drewN ?_ _ | refine blk_drew ?_ | refine blk_alloc ?_ _)); refine blk_far ?_ NB123_130.out _; (with_reducible repeat (first | refine blk_drewN ?_ _ | refine blk_drew ?_ | refine blk_alloc ?_ _)); refine blk_far ?_ NB123_130.out _; (with_reducible repeat (first | refine blk_drewN ?_ _ | refine blk_drew ?_ | refine blk_alloc ?_ _)); refine blk_far ?_ NB123_130.out _; (with_reducible repeat (first | refine blk_drewN ?_ _ | refine blk_drew ?_ | refine blk_alloc ?_ _)); exact BK123.out⟩, ⟨by (with_reducible repeat (first | refine blk_drewN ?_ _ | refine blk_drew ?_ | refine blk_alloc ?_ _)); refine blk_put (cs := #[.string ((rd_T34 l0_6 x29_1).f0), .string ((rd_T34 l0_6 x29_1).f1), .slice none 0 0]) ?_ 2 _ rfl; (with_reducible repeat (first | refine blk_drewN ?_ _ | refine blk_drew ?_ | refine blk_alloc ?_ _)); refine blk_put (cs := #[.string ((rd_T34 l0_6 x29_1).f0), .string (⟨#[]⟩ : ByteArray), .slice none 0 0]) ?_ 1 _ rfl; (with_reducible repeat (first | refine blk_drewN ?_ _ | refine blk_drew ?_ | refine blk_alloc ?_ _)); refine blk_put (cs := #[.string (⟨#[]⟩ : ByteArray), .string (⟨#[]⟩ : ByteArray), .slice none 0 0]) ?_ 0 _ rfl; (with_reducible repeat (first | refine blk_drewN ?_ _ | refine blk_drew ?_ | refine blk_alloc ?_ _)); exact BK130.out⟩, ⟨by repeat (first | (with_reducible first | exact HB.out | apply below_alloc | apply pw_below_drewN | apply below_drew1 | refine below_set ?_ GE123.out | refine below_set ?_ GE130.out) | exact HB.out)⟩⟩
                            · rw [if_neg c25] at H
                              exact absurd H (by simp)
                          · rw [if_neg c24] at H
                            exact absurd H (by simp)
                        · rw [if_neg c23] at H
                          exact absurd H (by simp)
                      · rw [if_neg c22] at H
                        have c22b0 : ((((rd_T34 l0_6 x29_1).f2).length : Int) == 0) = false := beq_eq_false_iff_ne.mpr c22
                        have c22b1 : ((((rd_T34 l0_6 x29_1).f2).length : Int) != 0) = true := bne_iff_ne.mpr c22
                        have c22b2 : ¬ (((rd_T34 l0_6 x29_1).f2) = []) := fun h_ => c22 (by rw [h_]; rfl)
                        (first | rw [c22b0] | (simp only [i64_w, i32_w]; rw [c22b0]) | skip)
                        have H' := Aside0.mk H
                        clear H
                        go_wp2
                        go_meet
                        case rel => exact ⟨_, (x4_1), (by first | rfl | (simp; done) | (simp [*]; done)), H', ⟨by have := HK1.out; first | omega | exact Nat.le_refl _⟩, ⟨by (with_reducible repeat (first | refine blk_drewN ?_ _ | refine blk_drew ?_ | refine blk_alloc ?_ _)); refine blk_far ?_ NB123_130.out _; (with_reducible repeat (first | refine blk_drewN ?_ _ | refine blk_drew ?_ | refine blk_alloc ?_ _)); refine blk_far ?_ NB123_130.out _; (with_reducible repeat (first | refine blk_drewN ?_ _ | refine blk_drew ?_ | refine blk_alloc ?_ _)); refine blk_far ?_ NB123_130.out _; (with_reducible repeat (first | refine blk_drewN ?_ _ | refine blk_drew ?_ | refine blk_alloc ?_ _)); exact BK123.out⟩, ⟨by (with_reducible repeat (first | refine blk_drewN ?_ _ | refine blk_drew ?_ | refine blk_alloc ?_ _)); refine blk_put (cs := #[.string ((rd_T34 l0_6 x29_1).f0), .string ((rd_T34 l0_6 x29_1).f1), .slice none 0 0]) ?_ 2 _ rfl; (with_reducible repeat (first | refine blk_drewN ?_ _ | refine blk_drew ?_ | refine blk_alloc ?_ _)); refine blk_put (cs := #[.string ((rd_T34 l0_6 x29_1).f0), .string (⟨#[]⟩ : ByteArray), .slice none 0 0]) ?_ 1 _ rfl; (with_reducible repeat (first | refine blk_drewN ?_ _ | refine blk_drew ?_ | refine blk_alloc ?_ _)); refine blk_put (cs := #[.string (⟨#[]⟩ : ByteArray), .string (⟨#[]⟩ : ByteArray), .slice none 0 0]) ?_ 0 _ rfl; (with_reducible repeat (first | refine blk_drewN ?_ _ | refine blk_drew ?_ | refine blk_alloc ?_ _)); exact BK130.out⟩, ⟨by repeat (first | (with_reducible first | exact HB.out | apply below_alloc | apply pw_below_drewN | apply below_drew1 | refine below_set ?_ GE123.out | refine below_set ?_ GE130.out) | exact HB.out)⟩⟩
                    case rest =>
                      clear HC18
                      try clear c1
                      try clear p1
                      try clear q1
                      try clear hx1
                      try clear c2
                      try clear c2b0
                      try clear c2b1
                      try clear p2
                      try clear c4
                      try clear c4b0
                      try clear c4b1
                      try clear c4b2
                      try clear c5
                      try clear c5b0
                      try clear c5b1
                      try clear c5b2
                      try clear c7
                      try clear c7b0
                      try clear c7b1
                      try clear c7b2
                      try clear c8
                      try clear c9
                      try clear c12
                      try clear p12
                      try clear q12
                      try clear hx12
                      try clear c15
                      try clear c15b0
                      try clear c16
                      try clear c16b0
                      try clear c17
                      try clear c17b0
                      try clear c20
                      try clear c22
                      try clear c22b0
                      try clear c22b1
                      try clear c22b2
                      try clear c23
                      try clear c23b0
                      try clear c23b1
                      try clear c23b2
                      try clear c24
                      try clear c24b0
                      try clear c24b1
                      try clear c24b2
                      try clear c25
                      try clear c25b0
                      try clear c25b1
                      try clear c25b2
                      try clear c26
                      try clear hcz11_0
                      try clear hcz11_1
                      try clear hcz11_2
                      try clear hcz11_3
                      try clear hcz11_4
                      try clear hcz11_5
                      try clear hcz11_6
                      try clear hcz11_7
                      try clear hcz11_8
                      try clear hcz11_9
                      try clear hcz14_0
                      try clear hcz14_1
                      try clear hcz14_2
                      try clear hcz14_3
                      try clear hcz14_4
                      try clear hcz14_5
                      try clear hcz14_6
                      try clear hcz14_7
                      try clear hcz14_8
                      try clear hcz14_9
                      try clear hcz21_0
                      try clear hcz21_1
                      try clear hcz21_2
                      try clear hcz27_0
                      try clear hcz27_1
                      try clear hcz27_2
                      try clear hfz11_0
                      try clear hfz11_1
                      try clear hfz11_2
                      try clear hfz11_3
                      try clear hfz11_4
                      try clear hfz11_5
                      try clear hfz11_6
                      try clear hfz11_7
                      try clear hfz11_8
                      try clear hfz11_9
                      try clear hfz14_0
                      try clear hfz14_1
                      try clear hfz14_2
                      try clear hfz14_3
                      try clear hfz14_4
                      try clear hfz14_5
                      try clear hfz14_6
                      try clear hfz14_7
                      try clear hfz14_8
                      try clear hfz14_9
                      try clear hfz21_0
                      try clear hfz21_1
                      try clear hfz21_2
                      try clear hfz27_0
                      try clear hfz27_1
                      try clear hfz27_2
                      try clear hx129_0
                      try clear hx129_1
                      try clear hx129_2
                      try clear p129
                      try clear p2
                      try clear q129
                      obtain ⟨kq, x4_17, rfl, HA, HJ17, BK123, BK130, HB⟩ := hcut
                      cases kq with
                      | zero => exact absurd HA.out (by simp [rosterref19_Show.j1])
                      | succ kj17 =>
                        have H := HA.out
                        clear HA
                        simp only [rosterref19_Show.j1] at H
                        have H' := Aside0.mk H
                        clear H
                        have hnb28 := NB130_123.out
                        have hnc28 := NB123_130.out
                        have hcz29_0 : wc.cell? ⟨gb130, 0, none⟩ = some (.string ((rd_T34 l0_6 x29_1).f0)) := (blk_cell BK130.out 0).trans rfl
                        have hcz29_1 : wc.cell? ⟨gb130, 1, none⟩ = some (.string ((rd_T34 l0_6 x29_1).f1)) := (blk_cell BK130.out 1).trans rfl
                        have hcz29_2 : wc.cell? ⟨gb130, 2, none⟩ = some (.slice A129_2 ((rd_T34 l0_6 x29_1).f2).length c129_2) := (blk_cell BK130.out 2).trans rfl
                        have hfz29_0 := blk_frozen BK130.out 0
                        have hfz29_1 := blk_frozen BK130.out 1
                        have hfz29_2 := blk_frozen BK130.out 2
                        go_wp2
                        go_loopg [4, 46] kj17 (fun kq v4 v46 w' => ∃ (x4_3 : ByteArray) (x46_3 : Int), v4 = .string x4_3 ∧ v46 = .int .i64 x46_3 ∧ Aside0 (rosterref19_Show.l1 kq x4_3 l0_6 (l0_6.length : Int) x29_1 ((rd_T34 l0_6 x29_1).f2) (((rd_T34 l0_6 x29_1).f2).length : Int) x46_3 ((rd_T34 l0_6 x29_1).f0) ((rd_T34 l0_6 x29_1).f1) ((rd_T34 l0_6 x29_1).f2) = some r) ∧ Aside0 (kq ≤ kj17) ∧ Aside0 (w'.heap[gb123]? = some (.cells #[.int .i64 a0_0, .int .i64 a0_1, .int .i64 a0_2, .string a0_3, .string a0_4, .string a0_5, (.slice (some ad129) l0_6.length c0_6), .string a0_7, .bool a0_8, (.slice A0_9 l0_9.length c0_9)] 29 (0, 0))) ∧ Aside0 (w'.heap[gb130]? = some (.cells #[.string ((rd_T34 l0_6 x29_1).f0), .string ((rd_T34 l0_6 x29_1).f1), (.slice A129_2 ((rd_T34 l0_6 x29_1).f2).length c129_2)] 34 (0, 0))) ∧ Aside0 (Below w.heap.size w w'))
                        case atStart => exact ⟨(x4_17), (0), (by first | rfl | (simp; done) | (simp [*]; done)), (by first | rfl | (simp; done) | (simp [*]; done)), H', ⟨Nat.le_refl _⟩, ⟨by (with_reducible repeat (first | refine blk_drewN ?_ _ | refine blk_drew ?_ | refine blk_alloc ?_ _)); exact BK123.out⟩, ⟨by (with_reducible repeat (first | refine blk_drewN ?_ _ | refine blk_drew ?_ | refine blk_alloc ?_ _)); exact BK130.out⟩, ⟨by repeat (first | (with_reducible first | exact HB.out | apply below_alloc | apply pw_below_drewN | apply below_drew1 | refine below_set ?_ GE123.out | refine below_set ?_ GE130.out) | exact HB.out)⟩⟩
                        case round =>
                          clear H'
                          try clear c1
                          try clear p1
                          try clear q1
                          try clear hx1
                          try clear c2
                          try clear c2b0
                          try clear c2b1
                          try clear p2
                          try clear c4
                          try clear c4b0
                          try clear c4b1
                          try clear c4b2
                          try clear c5
                          try clear c5b0
                          try clear c5b1
                          try clear c5b2
                          try clear c7
                          try clear c7b0
                          try clear c7b1
                          try clear c7b2
                          try clear c8
                          try clear c9
                          try clear c12
                          try clear p12
                          try clear q12
                          try clear hx12
                          try clear c15
                          try clear c15b0
                          try clear c16
                          try clear c16b0
                          try clear c17
                          try clear c17b0
                          try clear c20
                          try clear c22
                          try clear c22b0
                          try clear c22b1
                          try clear c22b2
                          try clear c23
                          try clear c23b0
                          try clear c23b1
                          try clear c23b2
                          try clear c24
                          try clear c24b0
                          try clear c24b1
                          try clear c24b2
                          try clear c25
                          try clear c25b0
                          try clear c25b1
                          try clear c25b2
                          try clear c26
                          try clear c28
                          try clear hcz11_0
                          try clear hcz11_1
                          try clear hcz11_2
                          try clear hcz11_3
                          try clear hcz11_4
                          try clear hcz11_5
                          try clear hcz11_6
                          try clear hcz11_7
                          try clear hcz11_8
                          try clear hcz11_9
                          try clear hcz14_0
                          try clear hcz14_1
                          try clear hcz14_2
                          try clear hcz14_3
                          try clear hcz14_4
                          try clear hcz14_5
                          try clear hcz14_6
                          try clear hcz14_7
                          try clear hcz14_8
                          try clear hcz14_9
                          try clear hcz21_0
                          try clear hcz21_1
                          try clear hcz21_2
                          try clear hcz27_0
                          try clear hcz27_1
                          try clear hcz27_2
                          try clear hcz29_0
                          try clear hcz29_1
                          try clear hcz29_2
                          try clear hfz11_0
                          try clear hfz11_1
                          try clear hfz11_2
                          try clear hfz11_3
                          try clear hfz11_4
                          try clear hfz11_5
                          try clear hfz11_6
                          try clear hfz11_7
                          try clear hfz11_8
                          try clear hfz11_9
                          try clear hfz14_0
                          try clear hfz14_1
                          try clear hfz14_2
                          try clear hfz14_3
                          try clear hfz14_4
                          try clear hfz14_5
                          try clear hfz14_6
                          try clear hfz14_7
                          try clear hfz14_8
                          try clear hfz14_9
                          try clear hfz21_0
                          try clear hfz21_1
                          try clear hfz21_2
                          try clear hfz27_0
                          try clear hfz27_1
                          try clear hfz27_2
                          try clear hfz29_0
                          try clear hfz29_1
                          try clear hfz29_2
                          try clear hx129_0
                          try clear hx129_1
                          try clear hx129_2
                          try clear p1
                          try clear p12
                          try clear p129
                          try clear p2
                          try clear q1
                          try clear q12
                          try clear q129
                          obtain ⟨x4_3, x46_3, rfl, rfl, HA, HK3, BK123, BK130, HB⟩ := hrel
                          cases gk with
                          | zero => exact absurd HA.out (by simp [rosterref19_Show.l1])
                          | succ k3 =>
                            have H := HA.out
                            clear HA
                            simp only [rosterref19_Show.l1] at H
                            by_cases c30 : x46_3 < (((rd_T34 l0_6 x29_1).f2).length : Int)
                            · rw [if_pos c30] at H
                              have c30b0 : decide (x46_3 < (((rd_T34 l0_6 x29_1).f2).length : Int)) = true := decide_eq_true c30
                              clear c30
                              by_cases c31 : 0 ≤ x46_3
                              · rw [if_pos c31] at H
                                have c31b0 : decide (0 ≤ x46_3) = true := decide_eq_true c31
                                clear c31
                                by_cases c32 : x46_3 < (((rd_T34 l0_6 x29_1).f2).length : Int)
                                · rw [if_pos c32] at H
                                  have c32b0 : decide (x46_3 < (((rd_T34 l0_6 x29_1).f2).length : Int)) = true := decide_eq_true c32
                                  clear c32
                                  replace H := Option.bind_eq_some_iff.mp H
                                  obtain ⟨t132, A330, H⟩ := H
                                  replace H : (if x4_3.size + t132.size ≤ 9223372036854775807 then (rosterref19_Show.l1 k3 (x4_3 ++ t132) l0_6 (l0_6.length : Int) x29_1 ((rd_T34 l0_6 x29_1).f2) (((rd_T34 l0_6 x29_1).f2).length : Int) (wrap64 (x46_3 + 1)) ((rd_T34 l0_6 x29_1).f0) ((rd_T34 l0_6 x29_1).f1) ((rd_T34 l0_6 x29_1).f2)) else (none)) = some r := H
                                  have A33 := Aside0.mk A330
                                  clear A330
                                  by_cases c34 : x4_3.size + t132.size ≤ 9223372036854775807
                                  · rw [if_pos c34] at H
                                    have c34b0 := eq_true c34
                                    have c34b1 : decide (x4_3.size + t132.size ≤ 9223372036854775807) = true := decide_eq_true c34
                                    try have c34b2 : (9223372036854775807 < x4_3.size + t132.size) = False := eq_false (Nat.not_lt.2 c34)
                                    have H' := Aside0.mk H
                                    clear H
                                    have p131 : 0 ≤ (x46_3 : Int) := of_decide_eq_true (by first | (with_reducible assumption) | assumption)
                                    have q131 : x46_3 < (((rd_T34 l0_6 x29_1).f2).length : Int) := of_decide_eq_true (by first | (with_reducible assumption) | assumption)
                                    obtain ⟨ad131, e131, hx131_0⟩ := Kd.at_string HR129_2.out x46_3 p131 q131
                                    cases e131
                                    replace hx131_0 := (HB.out.cell (World.block_lt_of_cell? w _ hx131_0)).trans hx131_0
                                    replace p131 := eq_true p131
                                    replace q131 := eq_true q131
                                    have hnb35 := NB130_123.out
                                    have hnc35 := NB123_130.out
                                    have hcz36_0 : wr.cell? ⟨gb130, 0, none⟩ = some (.string ((rd_T34 l0_6 x29_1).f0)) := (blk_cell BK130.out 0).trans rfl
                                    have hcz36_1 : wr.cell? ⟨gb130, 1, none⟩ = some (.string ((rd_T34 l0_6 x29_1).f1)) := (blk_cell BK130.out 1).trans rfl
                                    have hcz36_2 : wr.cell? ⟨gb130, 2, none⟩ = some (.slice (some ad131) ((rd_T34 l0_6 x29_1).f2).length c129_2) := (blk_cell BK130.out 2).trans rfl
                                    have hfz36_0 := blk_frozen BK130.out 0
                                    have hfz36_1 := blk_frozen BK130.out 1
                                    have hfz36_2 := blk_frozen BK130.out 2
                                    go_wp2_with (first | ((with_reducible refine gate_callee (f := 9) rfl ?_); refine goesL_ (some 54) rfl rfl Tryd.func9 (by kernel_rfl) rfl #[.string ((rd_T34 l0_6 x29_1).f0), .string (rdOf ByteArray.empty ((rd_T34 l0_6 x29_1).f2) x46_3)] rfl (by (try simp only [List.map_toArray, List.map_cons, List.map_nil]); first | done | rfl | (simp only [List.length_drop, List.length_take]; rfl)) ?_; (with_reducible refine (rosterref19_line.calls k3 ((rd_T34 l0_6 x29_1).f0) (rdOf ByteArray.empty ((rd_T34 l0_6 x29_1).f2) x46_3) t132 _ A33.out).mono ?_); rintro e w37 ⟨rfl, hb⟩; refine ⟨_, rfl, ?_⟩; have n0_ := Aside0.mk (blk_below (g := gb123) (o := .cells #[.int .i64 a0_0, .int .i64 a0_1, .int .i64 a0_2, .string a0_3, .string a0_4, .string a0_5, .slice (some ad129) l0_6.length c0_6, .string a0_7, .bool a0_8, .slice A0_9 l0_9.length c0_9] 29 (0, 0)) (by (with_reducible repeat (first | refine blk_drewN ?_ _ | refine blk_drew ?_ | refine blk_alloc ?_ _)); exact BK123.out) hb); have n1_ := Aside0.mk (blk_below (g := gb130) (o := .cells #[.string ((rd_T34 l0_6 x29_1).f0), .string ((rd_T34 l0_6 x29_1).f1), .slice (some ad131) ((rd_T34 l0_6 x29_1).f2).length c129_2] 34 (0, 0)) (by (with_reducible repeat (first | refine blk_drewN ?_ _ | refine blk_drew ?_ | refine blk_alloc ?_ _)); exact BK130.out) hb); have n2_ := Aside0.mk (below_step (by repeat (first | (with_reducible first | exact HB.out | apply below_alloc | apply pw_below_drewN | apply below_drew1 | refine below_set ?_ GE123.out | refine below_set ?_ GE130.out) | exact HB.out)) hb); clear BK123; clear BK130; clear HB; have BK123 := n0_; have BK130 := n1_; have HB := n2_; clear n0_ n1_ n2_; (try clear hb); (try clear hb2); (try clear hk); (try clear hi)))
                                    go_roundg k3
                                    case measure => have := HK1.out; have := HJ17.out; have := HK3.out; omega
                                    case rel => exact ⟨(x4_3 ++ t132), (wrap64 (x46_3 + 1)), (by first | rfl | (simp; done) | (simp [*]; done)), (by first | rfl | (simp; done) | (simp [*]; done)), H', ⟨by have := HK1.out; have := HJ17.out; have := HK3.out; omega⟩, ⟨by (with_reducible repeat (first | refine blk_drewN ?_ _ | refine blk_drew ?_ | refine blk_alloc ?_ _)); exact BK123.out⟩, ⟨by (with_reducible repeat (first | refine blk_drewN ?_ _ | refine blk_drew ?_ | refine blk_alloc ?_ _)); exact BK130.out⟩, ⟨by repeat (first | (with_reducible first | exact HB.out | apply below_alloc | apply pw_below_drewN | apply below_drew1 | refine below_set ?_ GE123.out | refine below_set ?_ GE130.out) | exact HB.out)⟩⟩
                                  · rw [if_neg c34] at H
                                    exact absurd H (by simp)
                                · rw [if_neg c32] at H
                                  exact absurd H (by simp)
                              · rw [if_neg c31] at H
                                exact absurd H (by simp)
                            · rw [if_neg c30] at H
                              have c30b0 : decide (x46_3 < (((rd_T34 l0_6 x29_1).f2).length : Int)) = false := decide_eq_false c30
                              clear c30
                              have H' := Aside0.mk H
                              clear H
                              go_wp2
                              go_roundg k3
                              case measure => have := HK1.out; have := HJ17.out; have := HK3.out; omega
                              case rel => exact ⟨(x4_3), (wrap64 (x29_1 + 1)), (by first | rfl | (simp; done) | (simp [*]; done)), (by first | rfl | (simp; done) | (simp [*]; done)), H', ⟨by have := HK1.out; have := HJ17.out; have := HK3.out; omega⟩, ⟨by (with_reducible repeat (first | refine blk_drewN ?_ _ | refine blk_drew ?_ | refine blk_alloc ?_ _)); exact BK123.out⟩, ⟨by repeat (first | (with_reducible first | exact HB.out | apply below_alloc | apply pw_below_drewN | apply below_drew1 | refine below_set ?_ GE123.out | refine below_set ?_ GE130.out) | exact HB.out)⟩⟩
                  · rw [if_neg c17] at H
                    exact absurd H (by simp)
                · rw [if_neg c16] at H
                  exact absurd H (by simp)
              · rw [if_neg c15] at H
                have c15b0 : decide (x29_1 < (l0_6.length : Int)) = false := decide_eq_false c15
                clear c15
                by_cases c38 : x4_1.size + 1 ≤ 9223372036854775807
                · rw [if_pos c38] at H
                  have c38b0 := eq_true c38
                  have c38b1 : decide (x4_1.size + 1 ≤ 9223372036854775807) = true := decide_eq_true c38
                  try have c38b2 : (9223372036854775807 < x4_1.size + 1) = False := eq_false (Nat.not_lt.2 c38)
                  obtain rfl := Option.some.inj H
                  go_wp2
                  go_ret
                  exact ⟨by first | rfl | (simp [errW_none, errW_some] <;> rfl) | (simp [*, errW_none, errW_some] <;> rfl), by repeat (first | (with_reducible first | exact HB.out | apply below_alloc | apply pw_below_drewN | apply below_drew1 | refine below_set ?_ GE123.out) | exact HB.out)⟩
                · rw [if_neg c38] at H
                  exact absurd H (by simp)
        · rw [if_neg c7] at H
          exact absurd H (by simp)
      · rw [if_neg c5] at H
        exact absurd H (by simp)
    · rw [if_neg c4] at H
      exact absurd H (by simp)
  · rw [if_neg c2] at H
    have c2b0 : (a0_1 == 1) = false := beq_eq_false_iff_ne.mpr c2
    have c2b1 : (a0_1 != 1) = true := bne_iff_ne.mpr c2
    have HC39 := Aside0.mk H
    clear H
    go_enter Tryd.func4, Tryd.ntmps4
    go_upto_region 17 with (first | ((with_reducible refine gate_dst (N := 1) rfl ?_); (try (refine gate_guard (by rfl) ?_; dsimp only)); refine box_event ?hg (N := 1) ?hd (cs := #[.int .i64 a0_0, .int .i64 a0_1, .int .i64 a0_2, .string a0_3, .string a0_4, .string a0_5, .slice A0_6 l0_6.length c0_6, .string a0_7, .bool a0_8, .slice A0_9 l0_9.length c0_9]) (t := 29) ?hr ?_; (case hd => rfl); (case hg => rfl); (case hr => first | (go_simp; done) | (go_simp; rfl)); intro gb123 hg w40 hbox hb; have n0_ := Aside0.mk (below_step (by repeat (first | (with_reducible first | exact HB.out | apply below_alloc | apply pw_below_drewN | apply below_drew1) | exact HB.out)) hb); have n1_ := Aside0.mk (hbox); have n2_ := Aside0.mk ((by rw [hg]; exact (below_size (by repeat (first | (with_reducible first | exact HB.out | apply below_alloc | apply pw_below_drewN | apply below_drew1) | exact HB.out))) : w.heap.size ≤ gb123)); have n3_ := Aside0.mk ((by rw [hg]; exact (below_size (by repeat (first | (with_reducible first | exact HB.out | apply below_alloc | apply pw_below_drewN | apply below_drew1) | exact HB.out))) : w.heap.size ≤ gb123)); clear HB; have HB := n0_; have BK123 := n1_; have GW123 := n2_; have GE123 := n3_; clear n0_ n1_ n2_ n3_; clear hb hbox hg) | ((with_reducible refine gate_dst (N := 13) rfl ?_); (try (refine gate_guard (by rfl) ?_; dsimp only)); refine Kd.R_lit Kd.string _ 9 ?hg (N := 13) ?hd (xs := ([(⟨#[98, 105, 110, 100]⟩ : ByteArray), (⟨#[101, 110, 116, 114, 121]⟩ : ByteArray), (⟨#[100, 111, 110, 101]⟩ : ByteArray), (⟨#[109, 111, 100, 105, 102, 121]⟩ : ByteArray), (⟨#[97, 100, 100]⟩ : ByteArray), (⟨#[100, 101, 108, 101, 116, 101]⟩ : ByteArray), (⟨#[114, 101, 110, 97, 109, 101]⟩ : ByteArray), (⟨#[99, 111, 109, 112, 97, 114, 101]⟩ : ByteArray), (⟨#[101, 120, 116, 101, 110, 100, 101, 100]⟩ : ByteArray)] : List ByteArray)) (inner := [.string (⟨#[98, 105, 110, 100]⟩ : ByteArray), .string (⟨#[101, 110, 116, 114, 121]⟩ : ByteArray), .string (⟨#[100, 111, 110, 101]⟩ : ByteArray), .string (⟨#[109, 111, 100, 105, 102, 121]⟩ : ByteArray), .string (⟨#[97, 100, 100]⟩ : ByteArray), .string (⟨#[100, 101, 108, 101, 116, 101]⟩ : ByteArray), .string (⟨#[114, 101, 110, 97, 109, 101]⟩ : ByteArray), .string (⟨#[99, 111, 109, 112, 97, 114, 101]⟩ : ByteArray), .string (⟨#[101, 120, 116, 101, 110, 100, 101, 100]⟩ : ByteArray)]) (ok := fun _ => True) (okp := fun _ => True) ?hr ?hp (fun _ hk => hk) trivial (Below.refl _ _) (Nat.le_refl _) (by simp) ?_; (case hd => rfl); (case hg => rfl); (case hr => first | (go_simp; done) | (go_simp; rfl)); (case hp => exact (Reps.one (show Kd.M Kd.string _ _ _ (⟨#[98, 105, 110, 100]⟩ : ByteArray) [.string (⟨#[98, 105, 110, 100]⟩ : ByteArray)] from rfl) (Reps.one (show Kd.M Kd.string _ _ _ (⟨#[101, 110, 116, 114, 121]⟩ : ByteArray) [.string (⟨#[101, 110, 116, 114, 121]⟩ : ByteArray)] from rfl) (Reps.one (show Kd.M Kd.string _ _ _ (⟨#[100, 111, 110, 101]⟩ : ByteArray) [.string (⟨#[100, 111, 110, 101]⟩ : ByteArray)] from rfl) (Reps.one (show Kd.M Kd.string _ _ _ (⟨#[109, 111, 100, 105, 102, 121]⟩ : ByteArray) [.string (⟨#[109, 111, 100, 105, 102, 121]⟩ : ByteArray)] from rfl) (Reps.one (show Kd.M Kd.string _ _ _ (⟨#[97, 100, 100]⟩ : ByteArray) [.string (⟨#[97, 100, 100]⟩ : ByteArray)] from rfl) (Reps.one (show Kd.M Kd.string _ _ _ (⟨#[100, 101, 108, 101, 116, 101]⟩ : ByteArray) [.string (⟨#[100, 101, 108, 101, 116, 101]⟩ : ByteArray)] from rfl) (Reps.one (show Kd.M Kd.string _ _ _ (⟨#[114, 101, 110, 97, 109, 101]⟩ : ByteArray) [.string (⟨#[114, 101, 110, 97, 109, 101]⟩ : ByteArray)] from rfl) (Reps.one (show Kd.M Kd.string _ _ _ (⟨#[99, 111, 109, 112, 97, 114, 101]⟩ : ByteArray) [.string (⟨#[99, 111, 109, 112, 97, 114, 101]⟩ : ByteArray)] from rfl) (Reps.one (show Kd.M Kd.string _ _ _ (⟨#[101, 120, 116, 101, 110, 100, 101, 100]⟩ : ByteArray) [.string (⟨#[101, 120, 116, 101, 110, 100, 101, 100]⟩ : ByteArray)] from rfl) (Reps.none _ _))))))))))); intro v125 w41 ho42 hb hg_ hnew_; clear hg_ hnew_; (first | rw [← Ny124.out] at ho42 | (simp only [Int.reduceToNat] at ho42; rw [← Ny124.out] at ho42)); have n0_ := Aside0.mk (Kd.R_lower ho42 (below_size (by repeat (first | (with_reducible first | exact HB.out | apply below_alloc | apply pw_below_drewN | apply below_drew1 | refine below_set ?_ GE123.out) | exact HB.out)))); have n1_ := Aside0.mk (blk_below (g := gb123) (o := .cells #[.int .i64 a0_0, .int .i64 a0_1, .int .i64 a0_2, .string a0_3, .string a0_4, .string a0_5, .slice A0_6 l0_6.length c0_6, .string a0_7, .bool a0_8, .slice A0_9 l0_9.length c0_9] 29 (0, 0)) (by (with_reducible repeat (first | refine blk_drewN ?_ _ | refine blk_drew ?_ | refine blk_alloc ?_ _)); exact BK123.out) hb); have n2_ := Aside0.mk (below_step (by repeat (first | (with_reducible first | exact HB.out | apply below_alloc | apply pw_below_drewN | apply below_drew1 | refine below_set ?_ GE123.out) | exact HB.out)) hb); clear BK123; clear HB; have HO126 := n0_; have BK123 := n1_; have HB := n2_; clear n0_ n1_ n2_; clear hb ho42; have hcz43_0 : w41.cell? ⟨gb123, 0, none⟩ = some (.int .i64 a0_0) := (blk_cell BK123.out 0).trans rfl; have hcz43_1 : w41.cell? ⟨gb123, 1, none⟩ = some (.int .i64 a0_1) := (blk_cell BK123.out 1).trans rfl; have hcz43_2 : w41.cell? ⟨gb123, 2, none⟩ = some (.int .i64 a0_2) := (blk_cell BK123.out 2).trans rfl; have hcz43_3 : w41.cell? ⟨gb123, 3, none⟩ = some (.string a0_3) := (blk_cell BK123.out 3).trans rfl; have hcz43_4 : w41.cell? ⟨gb123, 4, none⟩ = some (.string a0_4) := (blk_cell BK123.out 4).trans rfl; have hcz43_5 : w41.cell? ⟨gb123, 5, none⟩ = some (.string a0_5) := (blk_cell BK123.out 5).trans rfl; have hcz43_6 : w41.cell? ⟨gb123, 6, none⟩ = some (.slice A0_6 l0_6.length c0_6) := (blk_cell BK123.out 6).trans rfl; have hcz43_7 : w41.cell? ⟨gb123, 7, none⟩ = some (.string a0_7) := (blk_cell BK123.out 7).trans rfl; have hcz43_8 : w41.cell? ⟨gb123, 8, none⟩ = some (.bool a0_8) := (blk_cell BK123.out 8).trans rfl; have hcz43_9 : w41.cell? ⟨gb123, 9, none⟩ = some (.slice A0_9 l0_9.length c0_9) := (blk_cell BK123.out 9).trans rfl; have hfz43_0 := blk_frozen BK123.out 0; have hfz43_1 := blk_frozen BK123.out 1; have hfz43_2 := blk_frozen BK123.out 2; have hfz43_3 := blk_frozen BK123.out 3; have hfz43_4 := blk_frozen BK123.out 4; have hfz43_5 := blk_frozen BK123.out 5; have hfz43_6 := blk_frozen BK123.out 6; have hfz43_7 := blk_frozen BK123.out 7; have hfz43_8 := blk_frozen BK123.out 8; have hfz43_9 := blk_frozen BK123.out 9))
    (try simp only [Act.put, List.setIfInBounds_toArray, List.set_cons_zero, List.set_cons_succ])
    go_cut [69] (fun v69 wc => ∃ (kq : Nat) (x69_38 : Bool), v69 = .bool x69_38 ∧ Aside0 (rosterref19_Show.j3 kq y124 (⟨#[111, 116, 104, 101, 114]⟩ : ByteArray) x69_38 a0_0 a0_1 a0_2 a0_3 a0_4 a0_5 l0_6 a0_7 a0_8 l0_9 = some r) ∧ Aside0 (kq ≤ k) ∧ Aside0 (Kd.R Kd.string 9 wc w.heap.size (fun _ => True) v125 y124) ∧ Aside0 (wc.heap[gb123]? = some (.cells #[.int .i64 a0_0, .int .i64 a0_1, .int .i64 a0_2, .string a0_3, .string a0_4, .string a0_5, (.slice A0_6 l0_6.length c0_6), .string a0_7, .bool a0_8, (.slice A0_9 l0_9.length c0_9)] 29 (0, 0))) ∧ Aside0 (Below w.heap.size w wc))
    case first =>
      have H := HC39.out
      clear HC39
      by_cases c44 : a0_1 ≥ 0
      · rw [if_pos c44] at H
        have c44b0 : decide (0 ≤ a0_1) = true := decide_eq_true c44
        clear c44
        (first | rw [c44b0] | (simp only [i64_w, i32_w]; rw [c44b0]) | skip)
        have H' := Aside0.mk H
        clear H
        have hcz45_0 : w41.cell? ⟨gb123, 0, none⟩ = some (.int .i64 a0_0) := (blk_cell BK123.out 0).trans rfl
        have hcz45_1 : w41.cell? ⟨gb123, 1, none⟩ = some (.int .i64 a0_1) := (blk_cell BK123.out 1).trans rfl
        have hcz45_2 : w41.cell? ⟨gb123, 2, none⟩ = some (.int .i64 a0_2) := (blk_cell BK123.out 2).trans rfl
        have hcz45_3 : w41.cell? ⟨gb123, 3, none⟩ = some (.string a0_3) := (blk_cell BK123.out 3).trans rfl
        have hcz45_4 : w41.cell? ⟨gb123, 4, none⟩ = some (.string a0_4) := (blk_cell BK123.out 4).trans rfl
        have hcz45_5 : w41.cell? ⟨gb123, 5, none⟩ = some (.string a0_5) := (blk_cell BK123.out 5).trans rfl
        have hcz45_6 : w41.cell? ⟨gb123, 6, none⟩ = some (.slice A0_6 l0_6.length c0_6) := (blk_cell BK123.out 6).trans rfl
        have hcz45_7 : w41.cell? ⟨gb123, 7, none⟩ = some (.string a0_7) := (blk_cell BK123.out 7).trans rfl
        have hcz45_8 : w41.cell? ⟨gb123, 8, none⟩ = some (.bool a0_8) := (blk_cell BK123.out 8).trans rfl
        have hcz45_9 : w41.cell? ⟨gb123, 9, none⟩ = some (.slice A0_9 l0_9.length c0_9) := (blk_cell BK123.out 9).trans rfl
        have hfz45_0 := blk_frozen BK123.out 0
        have hfz45_1 := blk_frozen BK123.out 1
        have hfz45_2 := blk_frozen BK123.out 2
        have hfz45_3 := blk_frozen BK123.out 3
        have hfz45_4 := blk_frozen BK123.out 4
        have hfz45_5 := blk_frozen BK123.out 5
        have hfz45_6 := blk_frozen BK123.out 6
        have hfz45_7 := blk_frozen BK123.out 7
        have hfz45_8 := blk_frozen BK123.out 8
        have hfz45_9 := blk_frozen BK123.out 9
        obtain ⟨Ao46, co46, eo46⟩ := Kd.R_slice HO126.out
        subst eo46
        go_wp2
        go_meet
        case rel => exact ⟨_, (decide (a0_1 < (y124.length : Int))), (by first | rfl | (simp; done) | (simp [*]; done)), H', ⟨by first | omega | exact Nat.le_refl _⟩, ⟨by (with_reducible repeat (first | apply Kd.R_alloc | apply Kd.R_drewN | apply Kd.R_drew)); exact HO126.out⟩, ⟨by (with_reducible repeat (first | refine blk_drewN ?_ _ | refine blk_drew ?_ | refine blk_alloc ?_ _)); exact BK123.out⟩, ⟨by repeat (first | (with_reducible first | exact HB.out | apply below_alloc | apply pw_below_drewN | apply below_drew1 | refine below_set ?_ GE123.out) | exact HB.out)⟩⟩
      · rw [if_neg c44] at H
        have c44b0 : decide (0 ≤ a0_1) = false := decide_eq_false c44
        clear c44
        (first | rw [c44b0] | (simp only [i64_w, i32_w]; rw [c44b0]) | skip)
        have H' := Aside0.mk H
        clear H
        have hcz47_0 : w41.cell? ⟨gb123, 0, none⟩ = some (.int .i64 a0_0) := (blk_cell BK123.out 0).trans rfl
        have hcz47_1 : w41.cell? ⟨gb123, 1, none⟩ = some (.int .i64 a0_1) := (blk_cell BK123.out 1).trans rfl
        have hcz47_2 : w41.cell? ⟨gb123, 2, none⟩ = some (.int .i64 a0_2) := (blk_cell BK123.out 2).trans rfl
        have hcz47_3 : w41.cell? ⟨gb123, 3, none⟩ = some (.string a0_3) := (blk_cell BK123.out 3).trans rfl
        have hcz47_4 : w41.cell? ⟨gb123, 4, none⟩ = some (.string a0_4) := (blk_cell BK123.out 4).trans rfl
        have hcz47_5 : w41.cell? ⟨gb123, 5, none⟩ = some (.string a0_5) := (blk_cell BK123.out 5).trans rfl
        have hcz47_6 : w41.cell? ⟨gb123, 6, none⟩ = some (.slice A0_6 l0_6.length c0_6) := (blk_cell BK123.out 6).trans rfl
        have hcz47_7 : w41.cell? ⟨gb123, 7, none⟩ = some (.string a0_7) := (blk_cell BK123.out 7).trans rfl
        have hcz47_8 : w41.cell? ⟨gb123, 8, none⟩ = some (.bool a0_8) := (blk_cell BK123.out 8).trans rfl
        have hcz47_9 : w41.cell? ⟨gb123, 9, none⟩ = some (.slice A0_9 l0_9.length c0_9) := (blk_cell BK123.out 9).trans rfl
        have hfz47_0 := blk_frozen BK123.out 0
        have hfz47_1 := blk_frozen BK123.out 1
        have hfz47_2 := blk_frozen BK123.out 2
        have hfz47_3 := blk_frozen BK123.out 3
        have hfz47_4 := blk_frozen BK123.out 4
        have hfz47_5 := blk_frozen BK123.out 5
        have hfz47_6 := blk_frozen BK123.out 6
        have hfz47_7 := blk_frozen BK123.out 7
        have hfz47_8 := blk_frozen BK123.out 8
        have hfz47_9 := blk_frozen BK123.out 9
        go_wp2
        go_meet
        case rel => exact ⟨_, (false), (by first | rfl | (simp; done) | (simp [*]; done)), H', ⟨by first | omega | exact Nat.le_refl _⟩, ⟨by (with_reducible repeat (first | apply Kd.R_alloc | apply Kd.R_drewN | apply Kd.R_drew)); exact HO126.out⟩, ⟨by (with_reducible repeat (first | refine blk_drewN ?_ _ | refine blk_drew ?_ | refine blk_alloc ?_ _)); exact BK123.out⟩, ⟨by repeat (first | (with_reducible first | exact HB.out | apply below_alloc | apply pw_below_drewN | apply below_drew1 | refine below_set ?_ GE123.out) | exact HB.out)⟩⟩
    case rest =>
      clear HC39
      try clear c1
      try clear p1
      try clear q1
      try clear hx1
      try clear c2
      try clear c2b0
      try clear c2b1
      try clear p2
      try clear c3
      try clear c4
      try clear c4b0
      try clear c4b1
      try clear c4b2
      try clear c5
      try clear c5b0
      try clear c5b1
      try clear c5b2
      try clear p6
      try clear c7
      try clear c7b0
      try clear c7b1
      try clear c7b2
      try clear c8
      try clear c9
      try clear c12
      try clear p12
      try clear q12
      try clear hx12
      try clear p13
      try clear q13
      try clear hx13
      try clear c15
      try clear c15b0
      try clear c16
      try clear c16b0
      try clear c17
      try clear c17b0
      try clear c20
      try clear c22
      try clear c22b0
      try clear c22b1
      try clear c22b2
      try clear c23
      try clear c23b0
      try clear c23b1
      try clear c23b2
      try clear c24
      try clear c24b0
      try clear c24b1
      try clear c24b2
      try clear c25
      try clear c25b0
      try clear c25b1
      try clear c25b2
      try clear c26
      try clear c28
      try clear c30
      try clear c30b0
      try clear c31
      try clear c31b0
      try clear c32
      try clear c32b0
      try clear c34
      try clear c34b0
      try clear c34b1
      try clear c34b2
      try clear c35
      try clear c38
      try clear c38b0
      try clear c38b1
      try clear c38b2
      try clear c44
      try clear c44b0
      try clear hcz11_0
      try clear hcz11_1
      try clear hcz11_2
      try clear hcz11_3
      try clear hcz11_4
      try clear hcz11_5
      try clear hcz11_6
      try clear hcz11_7
      try clear hcz11_8
      try clear hcz11_9
      try clear hcz14_0
      try clear hcz14_1
      try clear hcz14_2
      try clear hcz14_3
      try clear hcz14_4
      try clear hcz14_5
      try clear hcz14_6
      try clear hcz14_7
      try clear hcz14_8
      try clear hcz14_9
      try clear hcz21_0
      try clear hcz21_1
      try clear hcz21_2
      try clear hcz27_0
      try clear hcz27_1
      try clear hcz27_2
      try clear hcz29_0
      try clear hcz29_1
      try clear hcz29_2
      try clear hcz36_0
      try clear hcz36_1
      try clear hcz36_2
      try clear hcz43_0
      try clear hcz43_1
      try clear hcz43_2
      try clear hcz43_3
      try clear hcz43_4
      try clear hcz43_5
      try clear hcz43_6
      try clear hcz43_7
      try clear hcz43_8
      try clear hcz43_9
      try clear hcz45_0
      try clear hcz45_1
      try clear hcz45_2
      try clear hcz45_3
      try clear hcz45_4
      try clear hcz45_5
      try clear hcz45_6
      try clear hcz45_7
      try clear hcz45_8
      try clear hcz45_9
      try clear hcz47_0
      try clear hcz47_1
      try clear hcz47_2
      try clear hcz47_3
      try clear hcz47_4
      try clear hcz47_5
      try clear hcz47_6
      try clear hcz47_7
      try clear hcz47_8
      try clear hcz47_9
      try clear hfz11_0
      try clear hfz11_1
      try clear hfz11_2
      try clear hfz11_3
      try clear hfz11_4
      try clear hfz11_5
      try clear hfz11_6
      try clear hfz11_7
      try clear hfz11_8
      try clear hfz11_9
      try clear hfz14_0
      try clear hfz14_1
      try clear hfz14_2
      try clear hfz14_3
      try clear hfz14_4
      try clear hfz14_5
      try clear hfz14_6
      try clear hfz14_7
      try clear hfz14_8
      try clear hfz14_9
      try clear hfz21_0
      try clear hfz21_1
      try clear hfz21_2
      try clear hfz27_0
      try clear hfz27_1
      try clear hfz27_2
      try clear hfz29_0
      try clear hfz29_1
      try clear hfz29_2
      try clear hfz36_0
      try clear hfz36_1
      try clear hfz36_2
      try clear hfz43_0
      try clear hfz43_1
      try clear hfz43_2
      try clear hfz43_3
      try clear hfz43_4
      try clear hfz43_5
      try clear hfz43_6
      try clear hfz43_7
      try clear hfz43_8
      try clear hfz43_9
      try clear hfz45_0
      try clear hfz45_1
      try clear hfz45_2
      try clear hfz45_3
      try clear hfz45_4
      try clear hfz45_5
      try clear hfz45_6
      try clear hfz45_7
      try clear hfz45_8
      try clear hfz45_9
      try clear hfz47_0
      try clear hfz47_1
      try clear hfz47_2
      try clear hfz47_3
      try clear hfz47_4
      try clear hfz47_5
      try clear hfz47_6
      try clear hfz47_7
      try clear hfz47_8
      try clear hfz47_9
      try clear hx129_0
      try clear hx129_1
      try clear hx129_2
      try clear hx131_0
      try clear p1
      try clear p12
      try clear p129
      try clear p131
      try clear p2
      try clear q1
      try clear q12
      try clear q129
      try clear q131
      obtain ⟨kq, x69_38, rfl, HA, HJ38, HO_3, BK123, HB⟩ := hcut
      cases kq with
      | zero => exact absurd HA.out (by simp [rosterref19_Show.j3])
      | succ kj38 =>
        have H := HA.out
        clear HA
        simp only [rosterref19_Show.j3] at H
        have HC48 := Aside0.mk H
        clear H
        go_upto_if 69 with (fail)
        go_cut [9] (fun v9 wc => ∃ (kq : Nat) (x9_47 : ByteArray), v9 = .string x9_47 ∧ Aside0 (rosterref19_Show.j4 kq x9_47 a0_0 a0_1 a0_2 a0_3 a0_4 a0_5 l0_6 a0_7 a0_8 l0_9 = some r) ∧ Aside0 (kq ≤ kj38) ∧ Aside0 (wc.heap[gb123]? = some (.cells #[.int .i64 a0_0, .int .i64 a0_1, .int .i64 a0_2, .string a0_3, .string a0_4, .string a0_5, (.slice A0_6 l0_6.length c0_6), .string a0_7, .bool a0_8, (.slice A0_9 l0_9.length c0_9)] 29 (0, 0))) ∧ Aside0 (Below w.heap.size w wc))
        case first =>
          have H := HC48.out
          clear HC48
          by_cases c49 : x69_38 = true
          · subst c49
            have H1 : (if 0 ≤ a0_1 then (if a0_1 < (y124.length : Int) then (rosterref19_Show.j4 kj38 (rdOf ByteArray.empty y124 a0_1) a0_0 a0_1 a0_2 a0_3 a0_4 a0_5 l0_6 a0_7 a0_8 l0_9) else (none)) else (none)) = some r := by rw [if_pos rfl] at H; exact H
            clear H
            have H := H1
            clear H1
            by_cases c50 : 0 ≤ a0_1
            · rw [if_pos c50] at H
              have c50b0 : decide (0 ≤ a0_1) = true := decide_eq_true c50
              clear c50
              (first | rw [c50b0] | (simp only [i64_w, i32_w]; rw [c50b0]) | skip)
              by_cases c51 : a0_1 < (y124.length : Int)
              · rw [if_pos c51] at H
                have c51b0 : decide (a0_1 < (y124.length : Int)) = true := decide_eq_true c51
                clear c51
                have H' := Aside0.mk H
                clear H
                have hcz52_0 : wc.cell? ⟨gb123, 0, none⟩ = some (.int .i64 a0_0) := (blk_cell BK123.out 0).trans rfl
                have hcz52_1 : wc.cell? ⟨gb123, 1, none⟩ = some (.int .i64 a0_1) := (blk_cell BK123.out 1).trans rfl
                have hcz52_2 : wc.cell? ⟨gb123, 2, none⟩ = some (.int .i64 a0_2) := (blk_cell BK123.out 2).trans rfl
                have hcz52_3 : wc.cell? ⟨gb123, 3, none⟩ = some (.string a0_3) := (blk_cell BK123.out 3).trans rfl
                have hcz52_4 : wc.cell? ⟨gb123, 4, none⟩ = some (.string a0_4) := (blk_cell BK123.out 4).trans rfl
                have hcz52_5 : wc.cell? ⟨gb123, 5, none⟩ = some (.string a0_5) := (blk_cell BK123.out 5).trans rfl
                have hcz52_6 : wc.cell? ⟨gb123, 6, none⟩ = some (.slice A0_6 l0_6.length c0_6) := (blk_cell BK123.out 6).trans rfl
                have hcz52_7 : wc.cell? ⟨gb123, 7, none⟩ = some (.string a0_7) := (blk_cell BK123.out 7).trans rfl
                have hcz52_8 : wc.cell? ⟨gb123, 8, none⟩ = some (.bool a0_8) := (blk_cell BK123.out 8).trans rfl
                have hcz52_9 : wc.cell? ⟨gb123, 9, none⟩ = some (.slice A0_9 l0_9.length c0_9) := (blk_cell BK123.out 9).trans rfl
                have hfz52_0 := blk_frozen BK123.out 0
                have hfz52_1 := blk_frozen BK123.out 1
                have hfz52_2 := blk_frozen BK123.out 2
                have hfz52_3 := blk_frozen BK123.out 3
                have hfz52_4 := blk_frozen BK123.out 4
                have hfz52_5 := blk_frozen BK123.out 5
                have hfz52_6 := blk_frozen BK123.out 6
                have hfz52_7 := blk_frozen BK123.out 7
                have hfz52_8 := blk_frozen BK123.out 8
                have hfz52_9 := blk_frozen BK123.out 9
                obtain ⟨Ao53, co53, eo53⟩ := Kd.R_slice HO_3.out
                subst eo53
                have p133 : 0 ≤ (a0_1 : Int) := of_decide_eq_true (by first | (with_reducible assumption) | assumption)
                have q133 : a0_1 < (y124.length : Int) := of_decide_eq_true (by first | (with_reducible assumption) | assumption)
                obtain ⟨ad133, e133, hx133_0⟩ := Kd.at_string (Kd.R_reads' HO_3.out).2.2 a0_1 p133 q133
                cases e133
                replace p133 := eq_true p133
                replace q133 := eq_true q133
                go_wp2
                go_meet
                case rel => exact ⟨_, (rdOf ByteArray.empty y124 a0_1), (by first | rfl | (simp; done) | (simp [*]; done)), H', ⟨by have := HJ38.out; first | omega | exact Nat.le_refl _⟩, ⟨by (with_reducible repeat (first | refine blk_drewN ?_ _ | refine blk_drew ?_ | refine blk_alloc ?_ _)); exact BK123.out⟩, ⟨by repeat (first | (with_reducible first | exact HB.out | apply below_alloc | apply pw_below_drewN | apply below_drew1 | refine below_set ?_ GE123.out) | exact HB.out)⟩⟩
              · rw [if_neg c51] at H
                exact absurd H (by simp)
            · rw [if_neg c50] at H
              exact absurd H (by simp)
          · replace c49 := Bool.eq_false_iff.mpr c49
            subst c49
            have H1 : (rosterref19_Show.j4 kj38 (⟨#[111, 116, 104, 101, 114]⟩ : ByteArray) a0_0 a0_1 a0_2 a0_3 a0_4 a0_5 l0_6 a0_7 a0_8 l0_9) = some r := by rw [if_neg (show ¬ (false = true) by decide)] at H; exact H
            clear H
            have H := H1
            clear H1
            have H' := Aside0.mk H
            clear H
            go_wp2
            go_meet
            case rel => exact ⟨_, ((⟨#[111, 116, 104, 101, 114]⟩ : ByteArray)), (by first | rfl | (simp; done) | (simp [*]; done)), H', ⟨by have := HJ38.out; first | omega | exact Nat.le_refl _⟩, ⟨by (with_reducible repeat (first | refine blk_drewN ?_ _ | refine blk_drew ?_ | refine blk_alloc ?_ _)); exact BK123.out⟩, ⟨by repeat (first | (with_reducible first | exact HB.out | apply below_alloc | apply pw_below_drewN | apply below_drew1 | refine below_set ?_ GE123.out) | exact HB.out)⟩⟩
        case rest =>
          clear HC48
          try clear c1
          try clear p1
          try clear q1
          try clear hx1
          try clear c2
          try clear c2b0
          try clear c2b1
          try clear p2
          try clear c3
          try clear c4
          try clear c4b0
          try clear c4b1
          try clear c4b2
          try clear c5
          try clear c5b0
          try clear c5b1
          try clear c5b2
          try clear p6
          try clear c7
          try clear c7b0
          try clear c7b1
          try clear c7b2
          try clear c8
          try clear c9
          try clear c12
          try clear p12
          try clear q12
          try clear hx12
          try clear p13
          try clear q13
          try clear hx13
          try clear c15
          try clear c15b0
          try clear c16
          try clear c16b0
          try clear c17
          try clear c17b0
          try clear c20
          try clear c22
          try clear c22b0
          try clear c22b1
          try clear c22b2
          try clear c23
          try clear c23b0
          try clear c23b1
          try clear c23b2
          try clear c24
          try clear c24b0
          try clear c24b1
          try clear c24b2
          try clear c25
          try clear c25b0
          try clear c25b1
          try clear c25b2
          try clear c26
          try clear c28
          try clear c30
          try clear c30b0
          try clear c31
          try clear c31b0
          try clear c32
          try clear c32b0
          try clear c34
          try clear c34b0
          try clear c34b1
          try clear c34b2
          try clear c35
          try clear c38
          try clear c38b0
          try clear c38b1
          try clear c38b2
          try clear c44
          try clear c44b0
          try clear c49
          try clear c50
          try clear c50b0
          try clear c51
          try clear c51b0
          try clear hcz11_0
          try clear hcz11_1
          try clear hcz11_2
          try clear hcz11_3
          try clear hcz11_4
          try clear hcz11_5
          try clear hcz11_6
          try clear hcz11_7
          try clear hcz11_8
          try clear hcz11_9
          try clear hcz14_0
          try clear hcz14_1
          try clear hcz14_2
          try clear hcz14_3
          try clear hcz14_4
          try clear hcz14_5
          try clear hcz14_6
          try clear hcz14_7
          try clear hcz14_8
          try clear hcz14_9
          try clear hcz21_0
          try clear hcz21_1
          try clear hcz21_2
          try clear hcz27_0
          try clear hcz27_1
          try clear hcz27_2
          try clear hcz29_0
          try clear hcz29_1
          try clear hcz29_2
          try clear hcz36_0
          try clear hcz36_1
          try clear hcz36_2
          try clear hcz43_0
          try clear hcz43_1
          try clear hcz43_2
          try clear hcz43_3
          try clear hcz43_4
          try clear hcz43_5
          try clear hcz43_6
          try clear hcz43_7
          try clear hcz43_8
          try clear hcz43_9
          try clear hcz45_0
          try clear hcz45_1
          try clear hcz45_2
          try clear hcz45_3
          try clear hcz45_4
          try clear hcz45_5
          try clear hcz45_6
          try clear hcz45_7
          try clear hcz45_8
          try clear hcz45_9
          try clear hcz47_0
          try clear hcz47_1
          try clear hcz47_2
          try clear hcz47_3
          try clear hcz47_4
          try clear hcz47_5
          try clear hcz47_6
          try clear hcz47_7
          try clear hcz47_8
          try clear hcz47_9
          try clear hcz52_0
          try clear hcz52_1
          try clear hcz52_2
          try clear hcz52_3
          try clear hcz52_4
          try clear hcz52_5
          try clear hcz52_6
          try clear hcz52_7
          try clear hcz52_8
          try clear hcz52_9
          try clear hfz11_0
          try clear hfz11_1
          try clear hfz11_2
          try clear hfz11_3
          try clear hfz11_4
          try clear hfz11_5
          try clear hfz11_6
          try clear hfz11_7
          try clear hfz11_8
          try clear hfz11_9
          try clear hfz14_0
          try clear hfz14_1
          try clear hfz14_2
          try clear hfz14_3
          try clear hfz14_4
          try clear hfz14_5
          try clear hfz14_6
          try clear hfz14_7
          try clear hfz14_8
          try clear hfz14_9
          try clear hfz21_0
          try clear hfz21_1
          try clear hfz21_2
          try clear hfz27_0
          try clear hfz27_1
          try clear hfz27_2
          try clear hfz29_0
          try clear hfz29_1
          try clear hfz29_2
          try clear hfz36_0
          try clear hfz36_1
          try clear hfz36_2
          try clear hfz43_0
          try clear hfz43_1
          try clear hfz43_2
          try clear hfz43_3
          try clear hfz43_4
          try clear hfz43_5
          try clear hfz43_6
          try clear hfz43_7
          try clear hfz43_8
          try clear hfz43_9
          try clear hfz45_0
          try clear hfz45_1
          try clear hfz45_2
          try clear hfz45_3
          try clear hfz45_4
          try clear hfz45_5
          try clear hfz45_6
          try clear hfz45_7
          try clear hfz45_8
          try clear hfz45_9
          try clear hfz47_0
          try clear hfz47_1
          try clear hfz47_2
          try clear hfz47_3
          try clear hfz47_4
          try clear hfz47_5
          try clear hfz47_6
          try clear hfz47_7
          try clear hfz47_8
          try clear hfz47_9
          try clear hfz52_0
          try clear hfz52_1
          try clear hfz52_2
          try clear hfz52_3
          try clear hfz52_4
          try clear hfz52_5
          try clear hfz52_6
          try clear hfz52_7
          try clear hfz52_8
          try clear hfz52_9
          try clear hx129_0
          try clear hx129_1
          try clear hx129_2
          try clear hx131_0
          try clear hx133_0
          try clear p1
          try clear p12
          try clear p129
          try clear p13
          try clear p131
          try clear p133
          try clear p2
          try clear p6
          try clear q1
          try clear q12
          try clear q129
          try clear q13
          try clear q131
          try clear q133
          obtain ⟨kq, x9_47, rfl, HA, HJ47, BK123, HB⟩ := hcut
          cases kq with
          | zero => exact absurd HA.out (by simp [rosterref19_Show.j4])
          | succ kj47 =>
            have H := HA.out
            clear HA
            simp only [rosterref19_Show.j4] at H
            replace H := Option.bind_eq_some_iff.mp H
            obtain ⟨t134, A540, H⟩ := H
            replace H : (if 2 + t134.size ≤ 9223372036854775807 then (if ((⟨#[35, 32]⟩ : ByteArray) ++ t134).size + 1 ≤ 9223372036854775807 then (if (((⟨#[35, 32]⟩ : ByteArray) ++ t134) ++ (⟨#[32]⟩ : ByteArray)).size + x9_47.size ≤ 9223372036854775807 then (if ((((⟨#[35, 32]⟩ : ByteArray) ++ t134) ++ (⟨#[32]⟩ : ByteArray)) ++ x9_47).size + 1 ≤ 9223372036854775807 then ((rosterref19_decimal.f kj47 a0_2).bind fun t135 => (if (((((⟨#[35, 32]⟩ : ByteArray) ++ t134) ++ (⟨#[32]⟩ : ByteArray)) ++ x9_47) ++ (⟨#[32]⟩ : ByteArray)).size + t135.size ≤ 9223372036854775807 then (if ((((((⟨#[35, 32]⟩ : ByteArray) ++ t134) ++ (⟨#[32]⟩ : ByteArray)) ++ x9_47) ++ (⟨#[32]⟩ : ByteArray)) ++ t135).size + 1 ≤ 9223372036854775807 then (if a0_3.toList = ([] : List UInt8) then (rosterref19_Show.j5 kj47 (((((((⟨#[35, 32]⟩ : ByteArray) ++ t134) ++ (⟨#[32]⟩ : ByteArray)) ++ x9_47) ++ (⟨#[32]⟩ : ByteArray)) ++ t135) ++ (⟨#[10]⟩ : ByteArray)) a0_0 a0_1 a0_2 a0_3 a0_4 a0_5 l0_6 a0_7 a0_8 l0_9) else ((rosterref19_line.f kj47 (⟨#[109, 97, 116, 99, 104, 101, 100]⟩ : ByteArray) a0_3).bind fun t136 => (if (((((((⟨#[35, 32]⟩ : ByteArray) ++ t134) ++ (⟨#[32]⟩ : ByteArray)) ++ x9_47) ++ (⟨#[32]⟩ : ByteArray)) ++ t135) ++ (⟨#[10]⟩ : ByteArray)).size + t136.size ≤ 9223372036854775807 then (rosterref19_Show.j5 kj47 ((((((((⟨#[35, 32]⟩ : ByteArray) ++ t134) ++ (⟨#[32]⟩ : ByteArray)) ++ x9_47) ++ (⟨#[32]⟩ : ByteArray)) ++ t135) ++ (⟨#[10]⟩ : ByteArray)) ++ t136) a0_0 a0_1 a0_2 a0_3 a0_4 a0_5 l0_6 a0_7 a0_8 l0_9) else (none)))) else (none)) else (none))) else (none)) else (none)) else (none)) else (none)) = some r := H
            have A54 := Aside0.mk A540
            clear A540
            by_cases c55 : 2 + t134.size ≤ 9223372036854775807
            · rw [if_pos c55] at H
              have c55b0 := eq_true c55
              have c55b1 : decide (2 + t134.size ≤ 9223372036854775807) = true := decide_eq_true c55
              try have c55b2 : (9223372036854775807 < 2 + t134.size) = False := eq_false (Nat.not_lt.2 c55)
              by_cases c56 : ((⟨#[35, 32]⟩ : ByteArray) ++ t134).size + 1 ≤ 9223372036854775807
              · rw [if_pos c56] at H
                have c56b0 := eq_true c56
                have c56b1 : decide (((⟨#[35, 32]⟩ : ByteArray) ++ t134).size + 1 ≤ 9223372036854775807) = true := decide_eq_true c56
                try have c56b2 : (9223372036854775807 < ((⟨#[35, 32]⟩ : ByteArray) ++ t134).size + 1) = False := eq_false (Nat.not_lt.2 c56)
                (try (have c56b3 : (9223372036854775807 < ((⟨#[35, 32]⟩ : ByteArray) ++ t134).size + 1) = False := c56b2; conv at c56b3 => (lhs; rhs; simp [go_sem])))
                by_cases c57 : (((⟨#[35, 32]⟩ : ByteArray) ++ t134) ++ (⟨#[32]⟩ : ByteArray)).size + x9_47.size ≤ 9223372036854775807
                · rw [if_pos c57] at H
                  have c57b0 := eq_true c57
                  have c57b1 : decide ((((⟨#[35, 32]⟩ : ByteArray) ++ t134) ++ (⟨#[32]⟩ : ByteArray)).size + x9_47.size ≤ 9223372036854775807) = true := decide_eq_true c57
                  try have c57b2 : (9223372036854775807 < (((⟨#[35, 32]⟩ : ByteArray) ++ t134) ++ (⟨#[32]⟩ : ByteArray)).size + x9_47.size) = False := eq_false (Nat.not_lt.2 c57)
                  (try (have c57b3 : (9223372036854775807 < (((⟨#[35, 32]⟩ : ByteArray) ++ t134) ++ (⟨#[32]⟩ : ByteArray)).size + x9_47.size) = False := c57b2; conv at c57b3 => (lhs; rhs; simp [go_sem])))
                  by_cases c58 : ((((⟨#[35, 32]⟩ : ByteArray) ++ t134) ++ (⟨#[32]⟩ : ByteArray)) ++ x9_47).size + 1 ≤ 9223372036854775807
                  · rw [if_pos c58] at H
                    have c58b0 := eq_true c58
                    have c58b1 : decide (((((⟨#[35, 32]⟩ : ByteArray) ++ t134) ++ (⟨#[32]⟩ : ByteArray)) ++ x9_47).size + 1 ≤ 9223372036854775807) = true := decide_eq_true c58
                    try have c58b2 : (9223372036854775807 < ((((⟨#[35, 32]⟩ : ByteArray) ++ t134) ++ (⟨#[32]⟩ : ByteArray)) ++ x9_47).size + 1) = False := eq_false (Nat.not_lt.2 c58)
                    (try (have c58b3 : (9223372036854775807 < ((((⟨#[35, 32]⟩ : ByteArray) ++ t134) ++ (⟨#[32]⟩ : ByteArray)) ++ x9_47).size + 1) = False := c58b2; conv at c58b3 => (lhs; rhs; simp [go_sem])))
                    replace H := Option.bind_eq_some_iff.mp H
                    obtain ⟨t135, A590, H⟩ := H
                    replace H : (if (((((⟨#[35, 32]⟩ : ByteArray) ++ t134) ++ (⟨#[32]⟩ : ByteArray)) ++ x9_47) ++ (⟨#[32]⟩ : ByteArray)).size + t135.size ≤ 9223372036854775807 then (if ((((((⟨#[35, 32]⟩ : ByteArray) ++ t134) ++ (⟨#[32]⟩ : ByteArray)) ++ x9_47) ++ (⟨#[32]⟩ : ByteArray)) ++ t135).size + 1 ≤ 9223372036854775807 then (if a0_3.toList = ([] : List UInt8) then (rosterref19_Show.j5 kj47 (((((((⟨#[35, 32]⟩ : ByteArray) ++ t134) ++ (⟨#[32]⟩ : ByteArray)) ++ x9_47) ++ (⟨#[32]⟩ : ByteArray)) ++ t135) ++ (⟨#[10]⟩ : ByteArray)) a0_0 a0_1 a0_2 a0_3 a0_4 a0_5 l0_6 a0_7 a0_8 l0_9) else ((rosterref19_line.f kj47 (⟨#[109, 97, 116, 99, 104, 101, 100]⟩ : ByteArray) a0_3).bind fun t136 => (if (((((((⟨#[35, 32]⟩ : ByteArray) ++ t134) ++ (⟨#[32]⟩ : ByteArray)) ++ x9_47) ++ (⟨#[32]⟩ : ByteArray)) ++ t135) ++ (⟨#[10]⟩ : ByteArray)).size + t136.size ≤ 9223372036854775807 then (rosterref19_Show.j5 kj47 ((((((((⟨#[35, 32]⟩ : ByteArray) ++ t134) ++ (⟨#[32]⟩ : ByteArray)) ++ x9_47) ++ (⟨#[32]⟩ : ByteArray)) ++ t135) ++ (⟨#[10]⟩ : ByteArray)) ++ t136) a0_0 a0_1 a0_2 a0_3 a0_4 a0_5 l0_6 a0_7 a0_8 l0_9) else (none)))) else (none)) else (none)) = some r := H
                    have A59 := Aside0.mk A590
                    clear A590
                    by_cases c60 : (((((⟨#[35, 32]⟩ : ByteArray) ++ t134) ++ (⟨#[32]⟩ : ByteArray)) ++ x9_47) ++ (⟨#[32]⟩ : ByteArray)).size + t135.size ≤ 9223372036854775807
                    · rw [if_pos c60] at H
                      have c60b0 := eq_true c60
                      have c60b1 : decide ((((((⟨#[35, 32]⟩ : ByteArray) ++ t134) ++ (⟨#[32]⟩ : ByteArray)) ++ x9_47) ++ (⟨#[32]⟩ : ByteArray)).size + t135.size ≤ 9223372036854775807) = true := decide_eq_true c60
                      try have c60b2 : (9223372036854775807 < (((((⟨#[35, 32]⟩ : ByteArray) ++ t134) ++ (⟨#[32]⟩ : ByteArray)) ++ x9_47) ++ (⟨#[32]⟩ : ByteArray)).size + t135.size) = False := eq_false (Nat.not_lt.2 c60)
                      (try (have c60b3 : (9223372036854775807 < (((((⟨#[35, 32]⟩ : ByteArray) ++ t134) ++ (⟨#[32]⟩ : ByteArray)) ++ x9_47) ++ (⟨#[32]⟩ : ByteArray)).size + t135.size) = False := c60b2; conv at c60b3 => (lhs; rhs; simp [go_sem])))
                      by_cases c61 : ((((((⟨#[35, 32]⟩ : ByteArray) ++ t134) ++ (⟨#[32]⟩ : ByteArray)) ++ x9_47) ++ (⟨#[32]⟩ : ByteArray)) ++ t135).size + 1 ≤ 9223372036854775807
                      · rw [if_pos c61] at H
                        have c61b0 := eq_true c61
                        have c61b1 : decide (((((((⟨#[35, 32]⟩ : ByteArray) ++ t134) ++ (⟨#[32]⟩ : ByteArray)) ++ x9_47) ++ (⟨#[32]⟩ : ByteArray)) ++ t135).size + 1 ≤ 9223372036854775807) = true := decide_eq_true c61
                        try have c61b2 : (9223372036854775807 < ((((((⟨#[35, 32]⟩ : ByteArray) ++ t134) ++ (⟨#[32]⟩ : ByteArray)) ++ x9_47) ++ (⟨#[32]⟩ : ByteArray)) ++ t135).size + 1) = False := eq_false (Nat.not_lt.2 c61)
                        (try (have c61b3 : (9223372036854775807 < ((((((⟨#[35, 32]⟩ : ByteArray) ++ t134) ++ (⟨#[32]⟩ : ByteArray)) ++ x9_47) ++ (⟨#[32]⟩ : ByteArray)) ++ t135).size + 1) = False := c61b2; conv at c61b3 => (lhs; rhs; simp [go_sem])))
                        have HC62 := Aside0.mk H
                        clear H
                        try go_wp2
                        have n0_ := Aside0.mk (blk_drew BK123.out)
                        have n1_ := Aside0.mk (below_drew1 HB.out)
                        clear BK123
                        clear HB
                        have BK123 := n0_
                        have HB := n1_
                        clear n0_ n1_
                        refine start_ (n := 15) (S := fun w' => w'.cell? ⟨gb123, 0, none⟩ = some (.int .i64 a0_0) ∧ w'.cell? ⟨gb123, 1, none⟩ = some (.int .i64 a0_1) ∧ w'.cell? ⟨gb123, 2, none⟩ = some (.int .i64 a0_2) ∧ w'.cell? ⟨gb123, 3, none⟩ = some (.string a0_3) ∧ w'.cell? ⟨gb123, 4, none⟩ = some (.string a0_4) ∧ w'.cell? ⟨gb123, 5, none⟩ = some (.string a0_5) ∧ w'.cell? ⟨gb123, 6, none⟩ = some (.slice A0_6 l0_6.length c0_6) ∧ w'.cell? ⟨gb123, 7, none⟩ = some (.string a0_7) ∧ w'.cell? ⟨gb123, 8, none⟩ = some (.bool a0_8) ∧ w'.cell? ⟨gb123, 9, none⟩ = some (.slice A0_9 l0_9.length c0_9)) (ds := []) #[false, false, false, false, false, false, false, false, false, false, false, false, false, false, false] (by kernel_rfl) rfl rfl ⟨(blk_cell BK123.out 0).trans rfl, (blk_cell BK123.out 1).trans rfl, (blk_cell BK123.out 2).trans rfl, (blk_cell BK123.out 3).trans rfl, (blk_cell BK123.out 4).trans rfl, (blk_cell BK123.out 5).trans rfl, (blk_cell BK123.out 6).trans rfl, (blk_cell BK123.out 7).trans rfl, (blk_cell BK123.out 8).trans rfl, (blk_cell BK123.out 9).trans rfl⟩ (fun hHeld => ?_); refine with_tabW rosterref19_Show.tab19 rosterref19_Show.bits19 (fun HT_ HW_ => ?_)
                        generalize wc.drew = w63 at BK123 HB hHeld ⊢
                        refine pure_ (i := 0) (N := some 75) (v := ?_) (a' := ?_) #[true, false, false, false, false, false, false, false, false, false, false, false, false, false, false] rfl rfl (any_of HT_.out (by kernel_rfl)) (fun _ _ _ h => h) (Or.inl ⟨by rfl, ?_⟩) ?_ ?_
                        rotate_left
                        · intro w'
                          go_simp
                          with_reducible rfl
                        rotate_left
                        · simp only [Act.put, List.setIfInBounds_toArray, List.set_cons_zero, List.set_cons_succ, i64_w, i32_w]
                          rfl
                        refine pure_ (i := 5) (N := some 80) (v := ?_) (a' := ?_) #[true, false, false, false, false, true, false, false, false, false, false, false, false, false, false] rfl rfl (any_of HT_.out (by kernel_rfl)) (fun _ _ _ h => h) (Or.inl ⟨by rfl, ?_⟩) ?_ ?_
                        rotate_left
                        · intro w'
                          go_simp
                          with_reducible rfl
                        rotate_left
                        · simp only [Act.put, List.setIfInBounds_toArray, List.set_cons_zero, List.set_cons_succ, i64_w, i32_w]
                          rfl
                        refine pure_ (i := 8) (N := some 83) (v := ?_) (a' := ?_) #[true, false, false, false, false, true, false, false, true, false, false, false, false, false, false] rfl rfl (any_of HT_.out (by kernel_rfl)) (fun _ _ _ h => h) (Or.inl ⟨by rfl, ?_⟩) ?_ ?_
                        rotate_left
                        · intro w'
                          go_simp
                          with_reducible rfl
                        rotate_left
                        · simp only [Act.put, List.setIfInBounds_toArray, List.set_cons_zero, List.set_cons_succ, i64_w, i32_w]
                          rfl
                        refine pure_ (i := 9) (N := some 84) (v := ?_) (a' := ?_) #[true, false, false, false, false, true, false, false, true, true, false, false, false, false, false] rfl rfl (any_of HT_.out (by kernel_rfl)) (fun _ _ _ h => h) (Or.inl ⟨by rfl, ?_⟩) ?_ ?_
                        rotate_left
                        · intro w'
                          go_simp
                          with_reducible rfl
                        rotate_left
                        · simp only [Act.put, List.setIfInBounds_toArray, List.set_cons_zero, List.set_cons_succ, i64_w, i32_w]
                          rfl
                        refine take_ (i := 1) (N := some 76) (v := ?_) (a' := ?_) #[true, true, false, false, false, true, false, false, true, true, false, false, false, false, false] rfl rfl (take_ofW HT_.out HW_.out (by kernel_rfl)) (fun _ _ _ h => h) (Or.inl ⟨by rfl, ?_⟩) hHeld ?_ ?_
                        rotate_left
                        · rintro w' ⟨s0, s1, s2, s3, s4, s5, s6, s7, s8, s9⟩
                          go_simp
                          with_reducible rfl
                        rotate_left
                        · simp only [Act.put, List.setIfInBounds_toArray, List.set_cons_zero, List.set_cons_succ, i64_w, i32_w]
                          rfl
                        refine take_ (i := 10) (N := some 85) (v := ?_) (a' := ?_) #[true, true, false, false, false, true, false, false, true, true, true, false, false, false, false] rfl rfl (take_ofW HT_.out HW_.out (by kernel_rfl)) (fun _ _ _ h => h) (Or.inl ⟨by rfl, ?_⟩) hHeld ?_ ?_
                        rotate_left
                        · rintro w' ⟨s0, s1, s2, s3, s4, s5, s6, s7, s8, s9⟩
                          go_simp
                          with_reducible rfl
                        rotate_left
                        · simp only [Act.put, List.setIfInBounds_toArray, List.set_cons_zero, List.set_cons_succ, i64_w, i32_w]
                          rfl
                        refine one_ (i := 2) (N := some 77) #[true, true, true, false, false, true, false, false, true, true, true, false, false, false, false] rfl rfl (one_of HT_.out (by kernel_rfl)) (by decide) (fun K hK => ?_)
                        refine goes_ Tryd.func8 (by kernel_rfl) rfl #[.int .i64 a0_0] (by rfl) rfl rfl (by (try simp only [List.map_toArray, List.map_cons, List.map_nil]); first | done | rfl | (simp only [List.length_drop, List.length_take]; rfl)) ?_
                        with_reducible refine (rosterref19_decimal.calls kj47 a0_0 t134 _ A54.out).mono ?_
                        rintro e w' ⟨rfl, ⟨nd, rfl⟩⟩
                        refine ⟨_, rfl, ?_⟩
                        refine hK.out _ _ ⟨(blk_cell BK123.out 0).trans rfl, (blk_cell BK123.out 1).trans rfl, (blk_cell BK123.out 2).trans rfl, (blk_cell BK123.out 3).trans rfl, (blk_cell BK123.out 4).trans rfl, (blk_cell BK123.out 5).trans rfl, (blk_cell BK123.out 6).trans rfl, (blk_cell BK123.out 7).trans rfl, (blk_cell BK123.out 8).trans rfl, (blk_cell BK123.out 9).trans rfl⟩ (fun hHeld => ?_)
                        clear hK K
                        refine norm_ (a' := ?_) ?_ ?_
                        rotate_left
                        · show Act.put _ (some 77) _ = _
                          simp only [Act.put, List.setIfInBounds_toArray, List.set_cons_zero, List.set_cons_succ, i64_w, i32_w]
                          rfl
                        refine pure_ (i := 3) (N := some 78) (v := ?_) (a' := ?_) #[true, true, true, true, false, true, false, false, true, true, true, false, false, false, false] rfl rfl (any_of HT_.out (by kernel_rfl)) (fun _ _ _ h => h) (Or.inl ⟨by rfl, ?_⟩) ?_ ?_
                        rotate_left
                        · intro w'
                          go_simp
                          with_reducible rfl
                        rotate_left
                        · simp only [Act.put, List.setIfInBounds_toArray, List.set_cons_zero, List.set_cons_succ, i64_w, i32_w]
                          rfl
                        refine pure_ (i := 4) (N := some 79) (v := ?_) (a' := ?_) #[true, true, true, true, true, true, false, false, true, true, true, false, false, false, false] rfl rfl (any_of HT_.out (by kernel_rfl)) (fun _ _ _ h => h) (Or.inl ⟨by rfl, ?_⟩) ?_ ?_
                        rotate_left
                        · intro w'
                          go_simp
                          with_reducible rfl
                        rotate_left
                        · simp only [Act.put, List.setIfInBounds_toArray, List.set_cons_zero, List.set_cons_succ, i64_w, i32_w]
                          rfl
                        refine pure_ (i := 6) (N := some 81) (v := ?_) (a' := ?_) #[true, true, true, true, true, true, true, false, true, true, true, false, false, false, false] rfl rfl (any_of HT_.out (by kernel_rfl)) (fun _ _ _ h => h) (Or.inl ⟨by rfl, ?_⟩) ?_ ?_
                        rotate_left
                        · intro w'
                          go_simp
                          with_reducible rfl
                        rotate_left
                        · simp only [Act.put, List.setIfInBounds_toArray, List.set_cons_zero, List.set_cons_succ, i64_w, i32_w]
                          rfl
                        refine pure_ (i := 7) (N := some 82) (v := ?_) (a' := ?_) #[true, true, true, true, true, true, true, true, true, true, true, false, false, false, false] rfl rfl (any_of HT_.out (by kernel_rfl)) (fun _ _ _ h => h) (Or.inl ⟨by rfl, ?_⟩) ?_ ?_
                        rotate_left
                        · intro w'
                          go_simp
                          with_reducible rfl
                        rotate_left
                        · simp only [Act.put, List.setIfInBounds_toArray, List.set_cons_zero, List.set_cons_succ, i64_w, i32_w]
                          rfl
                        refine one_ (i := 11) (N := some 86) #[true, true, true, true, true, true, true, true, true, true, true, true, false, false, false] rfl rfl (one_of HT_.out (by kernel_rfl)) (by decide) (fun K hK => ?_)
                        refine goes_ Tryd.func8 (by kernel_rfl) rfl #[.int .i64 a0_2] (by rfl) rfl rfl (by (try simp only [List.map_toArray, List.map_cons, List.map_nil]); first | done | rfl | (simp only [List.length_drop, List.length_take]; rfl)) ?_
                        with_reducible refine (rosterref19_decimal.calls kj47 a0_2 t135 _ A59.out).mono ?_
                        rintro e w' ⟨rfl, ⟨nd, rfl⟩⟩
                        refine ⟨_, rfl, ?_⟩
                        refine hK.out _ _ ⟨(blk_cell BK123.out 0).trans rfl, (blk_cell BK123.out 1).trans rfl, (blk_cell BK123.out 2).trans rfl, (blk_cell BK123.out 3).trans rfl, (blk_cell BK123.out 4).trans rfl, (blk_cell BK123.out 5).trans rfl, (blk_cell BK123.out 6).trans rfl, (blk_cell BK123.out 7).trans rfl, (blk_cell BK123.out 8).trans rfl, (blk_cell BK123.out 9).trans rfl⟩ (fun hHeld => ?_)
                        clear hK K
                        refine norm_ (a' := ?_) ?_ ?_
                        rotate_left
                        · show Act.put _ (some 86) _ = _
                          simp only [Act.put, List.setIfInBounds_toArray, List.set_cons_zero, List.set_cons_succ, i64_w, i32_w]
                          rfl
                        refine pure_ (i := 12) (N := some 87) (v := ?_) (a' := ?_) #[true, true, true, true, true, true, true, true, true, true, true, true, true, false, false] rfl rfl (any_of HT_.out (by kernel_rfl)) (fun _ _ _ h => h) (Or.inl ⟨by rfl, ?_⟩) ?_ ?_
                        rotate_left
                        · intro w'
                          go_simp
                          with_reducible rfl
                        rotate_left
                        · simp only [Act.put, List.setIfInBounds_toArray, List.set_cons_zero, List.set_cons_succ, i64_w, i32_w]
                          rfl
                        refine pure_ (i := 13) (N := some 88) (v := ?_) (a' := ?_) #[true, true, true, true, true, true, true, true, true, true, true, true, true, true, false] rfl rfl (any_of HT_.out (by kernel_rfl)) (fun _ _ _ h => h) (Or.inl ⟨by rfl, ?_⟩) ?_ ?_
                        rotate_left
                        · intro w'
                          go_simp
                          with_reducible rfl
                        rotate_left
                        · simp only [Act.put, List.setIfInBounds_toArray, List.set_cons_zero, List.set_cons_succ, i64_w, i32_w]
                          rfl
                        refine pure_ (i := 14) (N := some 10) (v := ?_) (a' := ?_) #[true, true, true, true, true, true, true, true, true, true, true, true, true, true, true] rfl rfl (any_of HT_.out (by kernel_rfl)) (fun _ _ _ h => h) (Or.inl ⟨by rfl, ?_⟩) ?_ ?_
                        rotate_left
                        · intro w'
                          go_simp
                          with_reducible rfl
                        rotate_left
                        · simp only [Act.put, List.setIfInBounds_toArray, List.set_cons_zero, List.set_cons_succ, i64_w, i32_w]
                          rfl
                        refine done_ (done_of HT_.out (by kernel_rfl)) ?_
                        have hcz64_0 : w63.cell? ⟨gb123, 0, none⟩ = some (.int .i64 a0_0) := (blk_cell BK123.out 0).trans rfl
                        have hcz64_1 : w63.cell? ⟨gb123, 1, none⟩ = some (.int .i64 a0_1) := (blk_cell BK123.out 1).trans rfl
                        have hcz64_2 : w63.cell? ⟨gb123, 2, none⟩ = some (.int .i64 a0_2) := (blk_cell BK123.out 2).trans rfl
                        have hcz64_3 : w63.cell? ⟨gb123, 3, none⟩ = some (.string a0_3) := (blk_cell BK123.out 3).trans rfl
                        have hcz64_4 : w63.cell? ⟨gb123, 4, none⟩ = some (.string a0_4) := (blk_cell BK123.out 4).trans rfl
                        have hcz64_5 : w63.cell? ⟨gb123, 5, none⟩ = some (.string a0_5) := (blk_cell BK123.out 5).trans rfl
                        have hcz64_6 : w63.cell? ⟨gb123, 6, none⟩ = some (.slice A0_6 l0_6.length c0_6) := (blk_cell BK123.out 6).trans rfl
                        have hcz64_7 : w63.cell? ⟨gb123, 7, none⟩ = some (.string a0_7) := (blk_cell BK123.out 7).trans rfl
                        have hcz64_8 : w63.cell? ⟨gb123, 8, none⟩ = some (.bool a0_8) := (blk_cell BK123.out 8).trans rfl
                        have hcz64_9 : w63.cell? ⟨gb123, 9, none⟩ = some (.slice A0_9 l0_9.length c0_9) := (blk_cell BK123.out 9).trans rfl
                        have hfz64_0 := blk_frozen BK123.out 0
                        have hfz64_1 := blk_frozen BK123.out 1
                        have hfz64_2 := blk_frozen BK123.out 2
                        have hfz64_3 := blk_frozen BK123.out 3
                        have hfz64_4 := blk_frozen BK123.out 4
                        have hfz64_5 := blk_frozen BK123.out 5
                        have hfz64_6 := blk_frozen BK123.out 6
                        have hfz64_7 := blk_frozen BK123.out 7
                        have hfz64_8 := blk_frozen BK123.out 8
                        have hfz64_9 := blk_frozen BK123.out 9
                        go_upto_if 92 with (fail)
                        go_cut [10] (fun v10 wc => ∃ (kq : Nat) (x10_61 : ByteArray), v10 = .string x10_61 ∧ Aside0 (rosterref19_Show.j5 kq x10_61 a0_0 a0_1 a0_2 a0_3 a0_4 a0_5 l0_6 a0_7 a0_8 l0_9 = some r) ∧ Aside0 (kq ≤ kj47) ∧ Aside0 (wc.heap[gb123]? = some (.cells #[.int .i64 a0_0, .int .i64 a0_1, .int .i64 a0_2, .string a0_3, .string a0_4, .string a0_5, (.slice A0_6 l0_6.length c0_6), .string a0_7, .bool a0_8, (.slice A0_9 l0_9.length c0_9)] 29 (0, 0))) ∧ Aside0 (Below w.heap.size w wc))
                        case first =>
                          have H := HC62.out
                          clear HC62
                          by_cases c65 : a0_3.toList = ([] : List UInt8)
                          · rw [if_pos c65] at H
                            have c65b0 : (a0_3.toList == ([] : List UInt8)) = true := beq_iff_eq.mpr c65
                            have c65b1 : (a0_3.toList != ([] : List UInt8)) = false := bne_eq_false_iff_eq.mpr c65
                            clear c65
                            (first | rw [c65b0] | (simp only [i64_w, i32_w]; rw [c65b0]) | rw [show a0_3.toList.isEmpty = true from by simpa using c65b0] | rw [show a0_3.toList.isEmpty = false from by simpa using c65b0] | skip)
                            have H' := Aside0.mk H
                            clear H
                            go_wp2
                            go_meet
                            case rel => exact ⟨_, (((((((⟨#[35, 32]⟩ : ByteArray) ++ t134) ++ (⟨#[32]⟩ : ByteArray)) ++ x9_47) ++ (⟨#[32]⟩ : ByteArray)) ++ t135) ++ (⟨#[10]⟩ : ByteArray)), (by first | rfl | (simp; done) | (simp [*]; done)), H', ⟨by have := HJ38.out; have := HJ47.out; first | omega | exact Nat.le_refl _⟩, ⟨by (with_reducible repeat (first | refine blk_drewN ?_ _ | refine blk_drew ?_ | refine blk_alloc ?_ _)); exact BK123.out⟩, ⟨by repeat (first | (with_reducible first | exact HB.out | apply below_alloc | apply pw_below_drewN | apply below_drew1 | refine below_set ?_ GE123.out) | exact HB.out)⟩⟩
                          · rw [if_neg c65] at H
                            have c65b0 : (a0_3.toList == ([] : List UInt8)) = false := beq_eq_false_iff_ne.mpr c65
                            have c65b1 : (a0_3.toList != ([] : List UInt8)) = true := bne_iff_ne.mpr c65
                            (first | rw [c65b0] | (simp only [i64_w, i32_w]; rw [c65b0]) | rw [show a0_3.toList.isEmpty = true from by simpa using c65b0] | rw [show a0_3.toList.isEmpty = false from by simpa using c65b0] | skip)
                            replace H := Option.bind_eq_some_iff.mp H
                            obtain ⟨t136, A660, H⟩ := H
                            replace H : (if (((((((⟨#[35, 32]⟩ : ByteArray) ++ t134) ++ (⟨#[32]⟩ : ByteArray)) ++ x9_47) ++ (⟨#[32]⟩ : ByteArray)) ++ t135) ++ (⟨#[10]⟩ : ByteArray)).size + t136.size ≤ 9223372036854775807 then (rosterref19_Show.j5 kj47 ((((((((⟨#[35, 32]⟩ : ByteArray) ++ t134) ++ (⟨#[32]⟩ : ByteArray)) ++ x9_47) ++ (⟨#[32]⟩ : ByteArray)) ++ t135) ++ (⟨#[10]⟩ : ByteArray)) ++ t136) a0_0 a0_1 a0_2 a0_3 a0_4 a0_5 l0_6 a0_7 a0_8 l0_9) else (none)) = some r := H
                            have A66 := Aside0.mk A660
                            clear A660
                            by_cases c67 : (((((((⟨#[35, 32]⟩ : ByteArray) ++ t134) ++ (⟨#[32]⟩ : ByteArray)) ++ x9_47) ++ (⟨#[32]⟩ : ByteArray)) ++ t135) ++ (⟨#[10]⟩ : ByteArray)).size + t136.size ≤ 9223372036854775807
                            · rw [if_pos c67] at H
                              have c67b0 := eq_true c67
                              have c67b1 : decide ((((((((⟨#[35, 32]⟩ : ByteArray) ++ t134) ++ (⟨#[32]⟩ : ByteArray)) ++ x9_47) ++ (⟨#[32]⟩ : ByteArray)) ++ t135) ++ (⟨#[10]⟩ : ByteArray)).size + t136.size ≤ 9223372036854775807) = true := decide_eq_true c67
                              try have c67b2 : (9223372036854775807 < (((((((⟨#[35, 32]⟩ : ByteArray) ++ t134) ++ (⟨#[32]⟩ : ByteArray)) ++ x9_47) ++ (⟨#[32]⟩ : ByteArray)) ++ t135) ++ (⟨#[10]⟩ : ByteArray)).size + t136.size) = False := eq_false (Nat.not_lt.2 c67)
                              (try (have c67b3 : (9223372036854775807 < (((((((⟨#[35, 32]⟩ : ByteArray) ++ t134) ++ (⟨#[32]⟩ : ByteArray)) ++ x9_47) ++ (⟨#[32]⟩ : ByteArray)) ++ t135) ++ (⟨#[10]⟩ : ByteArray)).size + t136.size) = False := c67b2; conv at c67b3 => (lhs; rhs; simp [go_sem])))
                              have H' := Aside0.mk H
                              clear H
                              have hcz68_0 : w63.cell? ⟨gb123, 0, none⟩ = some (.int .i64 a0_0) := (blk_cell BK123.out 0).trans rfl
                              have hcz68_1 : w63.cell? ⟨gb123, 1, none⟩ = some (.int .i64 a0_1) := (blk_cell BK123.out 1).trans rfl
                              have hcz68_2 : w63.cell? ⟨gb123, 2, none⟩ = some (.int .i64 a0_2) := (blk_cell BK123.out 2).trans rfl
                              have hcz68_3 : w63.cell? ⟨gb123, 3, none⟩ = some (.string a0_3) := (blk_cell BK123.out 3).trans rfl
                              have hcz68_4 : w63.cell? ⟨gb123, 4, none⟩ = some (.string a0_4) := (blk_cell BK123.out 4).trans rfl
                              have hcz68_5 : w63.cell? ⟨gb123, 5, none⟩ = some (.string a0_5) := (blk_cell BK123.out 5).trans rfl
                              have hcz68_6 : w63.cell? ⟨gb123, 6, none⟩ = some (.slice A0_6 l0_6.length c0_6) := (blk_cell BK123.out 6).trans rfl
                              have hcz68_7 : w63.cell? ⟨gb123, 7, none⟩ = some (.string a0_7) := (blk_cell BK123.out 7).trans rfl
                              have hcz68_8 : w63.cell? ⟨gb123, 8, none⟩ = some (.bool a0_8) := (blk_cell BK123.out 8).trans rfl
                              have hcz68_9 : w63.cell? ⟨gb123, 9, none⟩ = some (.slice A0_9 l0_9.length c0_9) := (blk_cell BK123.out 9).trans rfl
                              have hfz68_0 := blk_frozen BK123.out 0
                              have hfz68_1 := blk_frozen BK123.out 1
                              have hfz68_2 := blk_frozen BK123.out 2
                              have hfz68_3 := blk_frozen BK123.out 3
                              have hfz68_4 := blk_frozen BK123.out 4
                              have hfz68_5 := blk_frozen BK123.out 5
                              have hfz68_6 := blk_frozen BK123.out 6
                              have hfz68_7 := blk_frozen BK123.out 7
                              have hfz68_8 := blk_frozen BK123.out 8
                              have hfz68_9 := blk_frozen BK123.out 9
                              go_wp2_with (first | ((with_reducible refine gate_callee (f := 9) rfl ?_); refine goesL_ (some 97) rfl rfl Tryd.func9 (by kernel_rfl) rfl #[.string (⟨#[109, 97, 116, 99, 104, 101, 100]⟩ : ByteArray), .string a0_3] rfl (by (try simp only [List.map_toArray, List.map_cons, List.map_nil]); first | done | rfl | (simp only [List.length_drop, List.length_take]; rfl)) ?_; (with_reducible refine (rosterref19_line.calls kj47 (⟨#[109, 97, 116, 99, 104, 101, 100]⟩ : ByteArray) a0_3 t136 _ A66.out).mono ?_); rintro e w69 ⟨rfl, hb⟩; refine ⟨_, rfl, ?_⟩; have n0_ := Aside0.mk (blk_below (g := gb123) (o := .cells #[.int .i64 a0_0, .int .i64 a0_1, .int .i64 a0_2, .string a0_3, .string a0_4, .string a0_5, .slice A0_6 l0_6.length c0_6, .string a0_7, .bool a0_8, .slice A0_9 l0_9.length c0_9] 29 (0, 0)) (by (with_reducible repeat (first | refine blk_drewN ?_ _ | refine blk_drew ?_ | refine blk_alloc ?_ _)); exact BK123.out) hb); have n1_ := Aside0.mk (below_step (by repeat (first | (with_reducible first | exact HB.out | apply below_alloc | apply pw_below_drewN | apply below_drew1 | refine below_set ?_ GE123.out) | exact HB.out)) hb); clear BK123; clear HB; have BK123 := n0_; have HB := n1_; clear n0_ n1_; (try clear hb); (try clear hb2); (try clear hk); (try clear hi)))
                              go_meet
                              case rel => exact ⟨_, ((((((((⟨#[35, 32]⟩ : ByteArray) ++ t134) ++ (⟨#[32]⟩ : ByteArray)) ++ x9_47) ++ (⟨#[32]⟩ : ByteArray)) ++ t135) ++ (⟨#[10]⟩ : ByteArray)) ++ t136), (by first | rfl | (simp; done) | (simp [*]; done)), H', ⟨by have := HJ38.out; have := HJ47.out; first | omega | exact Nat.le_refl _⟩, ⟨by (with_reducible repeat (first | refine blk_drewN ?_ _ | refine blk_drew ?_ | refine blk_alloc ?_ _)); exact BK123.out⟩, ⟨by repeat (first | (with_reducible first | exact HB.out | apply below_alloc | apply pw_below_drewN | apply below_drew1 | refine below_set ?_ GE123.out) | exact HB.out)⟩⟩
                            · rw [if_neg c67] at H
                              exact absurd H (by simp)
                        case rest =>
                          clear HC62
                          try clear c1
                          try clear p1
                          try clear q1
                          try clear hx1
                          try clear c2
                          try clear c2b0
                          try clear c2b1
                          try clear p2
                          try clear c3
                          try clear c4
                          try clear c4b0
                          try clear c4b1
                          try clear c4b2
                          try clear c5
                          try clear c5b0
                          try clear c5b1
                          try clear c5b2
                          try clear c6
                          try clear p6
                          try clear c7
                          try clear c7b0
                          try clear c7b1
                          try clear c7b2
                          try clear c8
                          try clear c9
                          try clear c12
                          try clear p12
                          try clear q12
                          try clear hx12
                          try clear p13
                          try clear q13
                          try clear hx13
                          try clear c15
                          try clear c15b0
                          try clear c16
                          try clear c16b0
                          try clear c17
                          try clear c17b0
                          try clear c20
                          try clear c22
                          try clear c22b0
                          try clear c22b1
                          try clear c22b2
                          try clear c23
                          try clear c23b0
                          try clear c23b1
                          try clear c23b2
                          try clear c24
                          try clear c24b0
                          try clear c24b1
                          try clear c24b2
                          try clear c25
                          try clear c25b0
                          try clear c25b1
                          try clear c25b2
                          try clear c26
                          try clear c28
                          try clear c30
                          try clear c30b0
                          try clear c31
                          try clear c31b0
                          try clear c32
                          try clear c32b0
                          try clear c34
                          try clear c34b0
                          try clear c34b1
                          try clear c34b2
                          try clear c35
                          try clear c38
                          try clear c38b0
                          try clear c38b1
                          try clear c38b2
                          try clear c44
                          try clear c44b0
                          try clear c49
                          try clear c50
                          try clear c50b0
                          try clear c51
                          try clear c51b0
                          try clear c55
                          try clear c55b0
                          try clear c55b1
                          try clear c55b2
                          try clear c56
                          try clear c56b0
                          try clear c56b1
                          try clear c56b2
                          try clear c57
                          try clear c57b0
                          try clear c57b1
                          try clear c57b2
                          try clear c58
                          try clear c58b0
                          try clear c58b1
                          try clear c58b2
                          try clear c60
                          try clear c60b0
                          try clear c60b1
                          try clear c60b2
                          try clear c61
                          try clear c61b0
                          try clear c61b1
                          try clear c61b2
                          try clear c65
                          try clear c65b0
                          try clear c65b1
                          try clear c67
                          try clear c67b0
                          try clear c67b1
                          try clear c67b2
                          try clear hcz11_0
                          try clear hcz11_1
                          try clear hcz11_2
                          try clear hcz11_3
                          try clear hcz11_4
                          try clear hcz11_5
                          try clear hcz11_6
                          try clear hcz11_7
                          try clear hcz11_8
                          try clear hcz11_9
                          try clear hcz14_0
                          try clear hcz14_1
                          try clear hcz14_2
                          try clear hcz14_3
                          try clear hcz14_4
                          try clear hcz14_5
                          try clear hcz14_6
                          try clear hcz14_7
                          try clear hcz14_8
                          try clear hcz14_9
                          try clear hcz21_0
                          try clear hcz21_1
                          try clear hcz21_2
                          try clear hcz27_0
                          try clear hcz27_1
                          try clear hcz27_2
                          try clear hcz29_0
                          try clear hcz29_1
                          try clear hcz29_2
                          try clear hcz36_0
                          try clear hcz36_1
                          try clear hcz36_2
                          try clear hcz43_0
                          try clear hcz43_1
                          try clear hcz43_2
                          try clear hcz43_3
                          try clear hcz43_4
                          try clear hcz43_5
                          try clear hcz43_6
                          try clear hcz43_7
                          try clear hcz43_8
                          try clear hcz43_9
                          try clear hcz45_0
                          try clear hcz45_1
                          try clear hcz45_2
                          try clear hcz45_3
                          try clear hcz45_4
                          try clear hcz45_5
                          try clear hcz45_6
                          try clear hcz45_7
                          try clear hcz45_8
                          try clear hcz45_9
                          try clear hcz47_0
                          try clear hcz47_1
                          try clear hcz47_2
                          try clear hcz47_3
                          try clear hcz47_4
                          try clear hcz47_5
                          try clear hcz47_6
                          try clear hcz47_7
                          try clear hcz47_8
                          try clear hcz47_9
                          try clear hcz52_0
                          try clear hcz52_1
                          try clear hcz52_2
                          try clear hcz52_3
                          try clear hcz52_4
                          try clear hcz52_5
                          try clear hcz52_6
                          try clear hcz52_7
                          try clear hcz52_8
                          try clear hcz52_9
                          try clear hcz64_0
                          try clear hcz64_1
                          try clear hcz64_2
                          try clear hcz64_3
                          try clear hcz64_4
                          try clear hcz64_5
                          try clear hcz64_6
                          try clear hcz64_7
                          try clear hcz64_8
                          try clear hcz64_9
                          try clear hcz68_0
                          try clear hcz68_1
                          try clear hcz68_2
                          try clear hcz68_3
                          try clear hcz68_4
                          try clear hcz68_5
                          try clear hcz68_6
                          try clear hcz68_7
                          try clear hcz68_8
                          try clear hcz68_9
                          try clear hfz11_0
                          try clear hfz11_1
                          try clear hfz11_2
                          try clear hfz11_3
                          try clear hfz11_4
                          try clear hfz11_5
                          try clear hfz11_6
                          try clear hfz11_7
                          try clear hfz11_8
                          try clear hfz11_9
                          try clear hfz14_0
                          try clear hfz14_1
                          try clear hfz14_2
                          try clear hfz14_3
                          try clear hfz14_4
                          try clear hfz14_5
                          try clear hfz14_6
                          try clear hfz14_7
                          try clear hfz14_8
                          try clear hfz14_9
                          try clear hfz21_0
                          try clear hfz21_1
                          try clear hfz21_2
                          try clear hfz27_0
                          try clear hfz27_1
                          try clear hfz27_2
                          try clear hfz29_0
                          try clear hfz29_1
                          try clear hfz29_2
                          try clear hfz36_0
                          try clear hfz36_1
                          try clear hfz36_2
                          try clear hfz43_0
                          try clear hfz43_1
                          try clear hfz43_2
                          try clear hfz43_3
                          try clear hfz43_4
                          try clear hfz43_5
                          try clear hfz43_6
                          try clear hfz43_7
                          try clear hfz43_8
                          try clear hfz43_9
                          try clear hfz45_0
                          try clear hfz45_1
                          try clear hfz45_2
                          try clear hfz45_3
                          try clear hfz45_4
                          try clear hfz45_5
                          try clear hfz45_6
                          try clear hfz45_7
                          try clear hfz45_8
                          try clear hfz45_9
                          try clear hfz47_0
                          try clear hfz47_1
                          try clear hfz47_2
                          try clear hfz47_3
                          try clear hfz47_4
                          try clear hfz47_5
                          try clear hfz47_6
                          try clear hfz47_7
                          try clear hfz47_8
                          try clear hfz47_9
                          try clear hfz52_0
                          try clear hfz52_1
                          try clear hfz52_2
                          try clear hfz52_3
                          try clear hfz52_4
                          try clear hfz52_5
                          try clear hfz52_6
                          try clear hfz52_7
                          try clear hfz52_8
                          try clear hfz52_9
                          try clear hfz64_0
                          try clear hfz64_1
                          try clear hfz64_2
                          try clear hfz64_3
                          try clear hfz64_4
                          try clear hfz64_5
                          try clear hfz64_6
                          try clear hfz64_7
                          try clear hfz64_8
                          try clear hfz64_9
                          try clear hfz68_0
                          try clear hfz68_1
                          try clear hfz68_2
                          try clear hfz68_3
                          try clear hfz68_4
                          try clear hfz68_5
                          try clear hfz68_6
                          try clear hfz68_7
                          try clear hfz68_8
                          try clear hfz68_9
                          try clear hx129_0
                          try clear hx129_1
                          try clear hx129_2
                          try clear hx131_0
                          try clear hx133_0
                          try clear p1
                          try clear p12
                          try clear p129
                          try clear p13
                          try clear p131
                          try clear p133
                          try clear p2
                          try clear p6
                          try clear q1
                          try clear q12
                          try clear q129
                          try clear q13
                          try clear q131
                          try clear q133
                          obtain ⟨kq, x10_61, rfl, HA, HJ61, BK123, HB⟩ := hcut
                          cases kq with
                          | zero => exact absurd HA.out (by simp [rosterref19_Show.j5])
                          | succ kj61 =>
                            have H := HA.out
                            clear HA
                            simp only [rosterref19_Show.j5] at H
                            have HC70 := Aside0.mk H
                            clear H
                            have hcz71_0 : wc.cell? ⟨gb123, 0, none⟩ = some (.int .i64 a0_0) := (blk_cell BK123.out 0).trans rfl
                            have hcz71_1 : wc.cell? ⟨gb123, 1, none⟩ = some (.int .i64 a0_1) := (blk_cell BK123.out 1).trans rfl
                            have hcz71_2 : wc.cell? ⟨gb123, 2, none⟩ = some (.int .i64 a0_2) := (blk_cell BK123.out 2).trans rfl
                            have hcz71_3 : wc.cell? ⟨gb123, 3, none⟩ = some (.string a0_3) := (blk_cell BK123.out 3).trans rfl
                            have hcz71_4 : wc.cell? ⟨gb123, 4, none⟩ = some (.string a0_4) := (blk_cell BK123.out 4).trans rfl
                            have hcz71_5 : wc.cell? ⟨gb123, 5, none⟩ = some (.string a0_5) := (blk_cell BK123.out 5).trans rfl
                            have hcz71_6 : wc.cell? ⟨gb123, 6, none⟩ = some (.slice A0_6 l0_6.length c0_6) := (blk_cell BK123.out 6).trans rfl
                            have hcz71_7 : wc.cell? ⟨gb123, 7, none⟩ = some (.string a0_7) := (blk_cell BK123.out 7).trans rfl
                            have hcz71_8 : wc.cell? ⟨gb123, 8, none⟩ = some (.bool a0_8) := (blk_cell BK123.out 8).trans rfl
                            have hcz71_9 : wc.cell? ⟨gb123, 9, none⟩ = some (.slice A0_9 l0_9.length c0_9) := (blk_cell BK123.out 9).trans rfl
                            have hfz71_0 := blk_frozen BK123.out 0
                            have hfz71_1 := blk_frozen BK123.out 1
                            have hfz71_2 := blk_frozen BK123.out 2
                            have hfz71_3 := blk_frozen BK123.out 3
                            have hfz71_4 := blk_frozen BK123.out 4
                            have hfz71_5 := blk_frozen BK123.out 5
                            have hfz71_6 := blk_frozen BK123.out 6
                            have hfz71_7 := blk_frozen BK123.out 7
                            have hfz71_8 := blk_frozen BK123.out 8
                            have hfz71_9 := blk_frozen BK123.out 9
                            go_upto_if 102 with (fail)
                            go_cut [10] (fun v10 wc => ∃ (kq : Nat) (x10_69 : ByteArray), v10 = .string x10_69 ∧ Aside0 (rosterref19_Show.j6 kq x10_69 a0_0 a0_1 a0_2 a0_3 a0_4 a0_5 l0_6 a0_7 a0_8 l0_9 = some r) ∧ Aside0 (kq ≤ kj61) ∧ Aside0 (wc.heap[gb123]? = some (.cells #[.int .i64 a0_0, .int .i64 a0_1, .int .i64 a0_2, .string a0_3, .string a0_4, .string a0_5, (.slice A0_6 l0_6.length c0_6), .string a0_7, .bool a0_8, (.slice A0_9 l0_9.length c0_9)] 29 (0, 0))) ∧ Aside0 (Below w.heap.size w wc))
                            case first =>
                              have H := HC70.out
                              clear HC70
                              by_cases c72 : a0_4.toList = ([] : List UInt8)
                              · rw [if_pos c72] at H
                                have c72b0 : (a0_4.toList == ([] : List UInt8)) = true := beq_iff_eq.mpr c72
                                have c72b1 : (a0_4.toList != ([] : List UInt8)) = false := bne_eq_false_iff_eq.mpr c72
                                clear c72
                                (first | rw [c72b0] | (simp only [i64_w, i32_w]; rw [c72b0]) | rw [show a0_4.toList.isEmpty = true from by simpa using c72b0] | rw [show a0_4.toList.isEmpty = false from by simpa using c72b0] | skip)
                                have H' := Aside0.mk H
                                clear H
                                go_wp2
                                go_meet
                                case rel => exact ⟨_, (x10_61), (by first | rfl | (simp; done) | (simp [*]; done)), H', ⟨by have := HJ38.out; have := HJ47.out; have := HJ61.out; first | omega | exact Nat.le_refl _⟩, ⟨by (with_reducible repeat (first | refine blk_drewN ?_ _ | refine blk_drew ?_ | refine blk_alloc ?_ _)); exact BK123.out⟩, ⟨by repeat (first | (with_reducible first | exact HB.out | apply below_alloc | apply pw_below_drewN | apply below_drew1 | refine below_set ?_ GE123.out) | exact HB.out)⟩⟩
                              · rw [if_neg c72] at H
                                have c72b0 : (a0_4.toList == ([] : List UInt8)) = false := beq_eq_false_iff_ne.mpr c72
                                have c72b1 : (a0_4.toList != ([] : List UInt8)) = true := bne_iff_ne.mpr c72
                                (first | rw [c72b0] | (simp only [i64_w, i32_w]; rw [c72b0]) | rw [show a0_4.toList.isEmpty = true from by simpa using c72b0] | rw [show a0_4.toList.isEmpty = false from by simpa using c72b0] | skip)
                                replace H := Option.bind_eq_some_iff.mp H
                                obtain ⟨t137, A730, H⟩ := H
                                replace H : (if x10_61.size + t137.size ≤ 9223372036854775807 then (rosterref19_Show.j6 kj61 (x10_61 ++ t137) a0_0 a0_1 a0_2 a0_3 a0_4 a0_5 l0_6 a0_7 a0_8 l0_9) else (none)) = some r := H
                                have A73 := Aside0.mk A730
                                clear A730
                                by_cases c74 : x10_61.size + t137.size ≤ 9223372036854775807
                                · rw [if_pos c74] at H
                                  have c74b0 := eq_true c74
                                  have c74b1 : decide (x10_61.size + t137.size ≤ 9223372036854775807) = true := decide_eq_true c74
                                  try have c74b2 : (9223372036854775807 < x10_61.size + t137.size) = False := eq_false (Nat.not_lt.2 c74)
                                  have H' := Aside0.mk H
                                  clear H
                                  have hcz75_0 : wc.cell? ⟨gb123, 0, none⟩ = some (.int .i64 a0_0) := (blk_cell BK123.out 0).trans rfl
                                  have hcz75_1 : wc.cell? ⟨gb123, 1, none⟩ = some (.int .i64 a0_1) := (blk_cell BK123.out 1).trans rfl
                                  have hcz75_2 : wc.cell? ⟨gb123, 2, none⟩ = some (.int .i64 a0_2) := (blk_cell BK123.out 2).trans rfl
                                  have hcz75_3 : wc.cell? ⟨gb123, 3, none⟩ = some (.string a0_3) := (blk_cell BK123.out 3).trans rfl
                                  have hcz75_4 : wc.cell? ⟨gb123, 4, none⟩ = some (.string a0_4) := (blk_cell BK123.out 4).trans rfl
                                  have hcz75_5 : wc.cell? ⟨gb123, 5, none⟩ = some (.string a0_5) := (blk_cell BK123.out 5).trans rfl
                                  have hcz75_6 : wc.cell? ⟨gb123, 6, none⟩ = some (.slice A0_6 l0_6.length c0_6) := (blk_cell BK123.out 6).trans rfl
                                  have hcz75_7 : wc.cell? ⟨gb123, 7, none⟩ = some (.string a0_7) := (blk_cell BK123.out 7).trans rfl
                                  have hcz75_8 : wc.cell? ⟨gb123, 8, none⟩ = some (.bool a0_8) := (blk_cell BK123.out 8).trans rfl
                                  have hcz75_9 : wc.cell? ⟨gb123, 9, none⟩ = some (.slice A0_9 l0_9.length c0_9) := (blk_cell BK123.out 9).trans rfl
                                  have hfz75_0 := blk_frozen BK123.out 0
                                  have hfz75_1 := blk_frozen BK123.out 1
                                  have hfz75_2 := blk_frozen BK123.out 2
                                  have hfz75_3 := blk_frozen BK123.out 3
                                  have hfz75_4 := blk_frozen BK123.out 4
                                  have hfz75_5 := blk_frozen BK123.out 5
                                  have hfz75_6 := blk_frozen BK123.out 6
                                  have hfz75_7 := blk_frozen BK123.out 7
                                  have hfz75_8 := blk_frozen BK123.out 8
                                  have hfz75_9 := blk_frozen BK123.out 9
                                  go_wp2_with (first | ((with_reducible refine gate_callee (f := 9) rfl ?_); refine goesL_ (some 107) rfl rfl Tryd.func9 (by kernel_rfl) rfl #[.string (⟨#[116, 101, 120, 116]⟩ : ByteArray), .string a0_4] rfl (by (try simp only [List.map_toArray, List.map_cons, List.map_nil]); first | done | rfl | (simp only [List.length_drop, List.length_take]; rfl)) ?_; (with_reducible refine (rosterref19_line.calls kj61 (⟨#[116, 101, 120, 116]⟩ : ByteArray) a0_4 t137 _ A73.out).mono ?_); rintro e w76 ⟨rfl, hb⟩; refine ⟨_, rfl, ?_⟩; have n0_ := Aside0.mk (blk_below (g := gb123) (o := .cells #[.int .i64 a0_0, .int .i64 a0_1, .int .i64 a0_2, .string a0_3, .string a0_4, .string a0_5, .slice A0_6 l0_6.length c0_6, .string a0_7, .bool a0_8, .slice A0_9 l0_9.length c0_9] 29 (0, 0)) (by (with_reducible repeat (first | refine blk_drewN ?_ _ | refine blk_drew ?_ | refine blk_alloc ?_ _)); exact BK123.out) hb); have n1_ := Aside0.mk (below_step (by repeat (first | (with_reducible first | exact HB.out | apply below_alloc | apply pw_below_drewN | apply below_drew1 | refine below_set ?_ GE123.out) | exact HB.out)) hb); clear BK123; clear HB; have BK123 := n0_; have HB := n1_; clear n0_ n1_; (try clear hb); (try clear hb2); (try clear hk); (try clear hi)))
                                  go_meet
                                  case rel => exact ⟨_, (x10_61 ++ t137), (by first | rfl | (simp; done) | (simp [*]; done)), H', ⟨by have := HJ38.out; have := HJ47.out; have := HJ61.out; first | omega | exact Nat.le_refl _⟩, ⟨by (with_reducible repeat (first | refine blk_drewN ?_ _ | refine blk_drew ?_ | refine blk_alloc ?_ _)); exact BK123.out⟩, ⟨by repeat (first | (with_reducible first | exact HB.out | apply below_alloc | apply pw_below_drewN | apply below_drew1 | refine below_set ?_ GE123.out) | exact HB.out)⟩⟩
                                · rw [if_neg c74] at H
                                  exact absurd H (by simp)
                            case rest =>
                              clear HC70
                              try clear c1
                              try clear p1
                              try clear q1
                              try clear hx1
                              try clear c2
                              try clear c2b0
                              try clear c2b1
                              try clear p2
                              try clear c3
                              try clear c4
                              try clear c4b0
                              try clear c4b1
                              try clear c4b2
                              try clear c5
                              try clear c5b0
                              try clear c5b1
                              try clear c5b2
                              try clear c6
                              try clear p6
                              try clear c7
                              try clear c7b0
                              try clear c7b1
                              try clear c7b2
                              try clear c8
                              try clear c9
                              try clear c12
                              try clear p12
                              try clear q12
                              try clear hx12
                              try clear p13
                              try clear q13
                              try clear hx13
                              try clear c15
                              try clear c15b0
                              try clear c16
                              try clear c16b0
                              try clear c17
                              try clear c17b0
                              try clear c20
                              try clear c22
                              try clear c22b0
                              try clear c22b1
                              try clear c22b2
                              try clear c23
                              try clear c23b0
                              try clear c23b1
                              try clear c23b2
                              try clear c24
                              try clear c24b0
                              try clear c24b1
                              try clear c24b2
                              try clear c25
                              try clear c25b0
                              try clear c25b1
                              try clear c25b2
                              try clear c26
                              try clear c28
                              try clear c30
                              try clear c30b0
                              try clear c31
                              try clear c31b0
                              try clear c32
                              try clear c32b0
                              try clear c34
                              try clear c34b0
                              try clear c34b1
                              try clear c34b2
                              try clear c35
                              try clear c38
                              try clear c38b0
                              try clear c38b1
                              try clear c38b2
                              try clear c44
                              try clear c44b0
                              try clear c49
                              try clear c50
                              try clear c50b0
                              try clear c51
                              try clear c51b0
                              try clear c55
                              try clear c55b0
                              try clear c55b1
                              try clear c55b2
                              try clear c56
                              try clear c56b0
                              try clear c56b1
                              try clear c56b2
                              try clear c57
                              try clear c57b0
                              try clear c57b1
                              try clear c57b2
                              try clear c58
                              try clear c58b0
                              try clear c58b1
                              try clear c58b2
                              try clear c60
                              try clear c60b0
                              try clear c60b1
                              try clear c60b2
                              try clear c61
                              try clear c61b0
                              try clear c61b1
                              try clear c61b2
                              try clear c65
                              try clear c65b0
                              try clear c65b1
                              try clear c67
                              try clear c67b0
                              try clear c67b1
                              try clear c67b2
                              try clear c72
                              try clear c72b0
                              try clear c72b1
                              try clear c74
                              try clear c74b0
                              try clear c74b1
                              try clear c74b2
                              try clear hcz11_0
                              try clear hcz11_1
                              try clear hcz11_2
                              try clear hcz11_3
                              try clear hcz11_4
                              try clear hcz11_5
                              try clear hcz11_6
                              try clear hcz11_7
                              try clear hcz11_8
                              try clear hcz11_9
                              try clear hcz14_0
                              try clear hcz14_1
                              try clear hcz14_2
                              try clear hcz14_3
                              try clear hcz14_4
                              try clear hcz14_5
                              try clear hcz14_6
                              try clear hcz14_7
                              try clear hcz14_8
                              try clear hcz14_9
                              try clear hcz21_0
                              try clear hcz21_1
                              try clear hcz21_2
                              try clear hcz27_0
                              try clear hcz27_1
                              try clear hcz27_2
                              try clear hcz29_0
                              try clear hcz29_1
                              try clear hcz29_2
                              try clear hcz36_0
                              try clear hcz36_1
                              try clear hcz36_2
                              try clear hcz43_0
                              try clear hcz43_1
                              try clear hcz43_2
                              try clear hcz43_3
                              try clear hcz43_4
                              try clear hcz43_5
                              try clear hcz43_6
                              try clear hcz43_7
                              try clear hcz43_8
                              try clear hcz43_9
                              try clear hcz45_0
                              try clear hcz45_1
                              try clear hcz45_2
                              try clear hcz45_3
                              try clear hcz45_4
                              try clear hcz45_5
                              try clear hcz45_6
                              try clear hcz45_7
                              try clear hcz45_8
                              try clear hcz45_9
                              try clear hcz47_0
                              try clear hcz47_1
                              try clear hcz47_2
                              try clear hcz47_3
                              try clear hcz47_4
                              try clear hcz47_5
                              try clear hcz47_6
                              try clear hcz47_7
                              try clear hcz47_8
                              try clear hcz47_9
                              try clear hcz52_0
                              try clear hcz52_1
                              try clear hcz52_2
                              try clear hcz52_3
                              try clear hcz52_4
                              try clear hcz52_5
                              try clear hcz52_6
                              try clear hcz52_7
                              try clear hcz52_8
                              try clear hcz52_9
                              try clear hcz64_0
                              try clear hcz64_1
                              try clear hcz64_2
                              try clear hcz64_3
                              try clear hcz64_4
                              try clear hcz64_5
                              try clear hcz64_6
                              try clear hcz64_7
                              try clear hcz64_8
                              try clear hcz64_9
                              try clear hcz68_0
                              try clear hcz68_1
                              try clear hcz68_2
                              try clear hcz68_3
                              try clear hcz68_4
                              try clear hcz68_5
                              try clear hcz68_6
                              try clear hcz68_7
                              try clear hcz68_8
                              try clear hcz68_9
                              try clear hcz71_0
                              try clear hcz71_1
                              try clear hcz71_2
                              try clear hcz71_3
                              try clear hcz71_4
                              try clear hcz71_5
                              try clear hcz71_6
                              try clear hcz71_7
                              try clear hcz71_8
                              try clear hcz71_9
                              try clear hcz75_0
                              try clear hcz75_1
                              try clear hcz75_2
                              try clear hcz75_3
                              try clear hcz75_4
                              try clear hcz75_5
                              try clear hcz75_6
                              try clear hcz75_7
                              try clear hcz75_8
                              try clear hcz75_9
                              try clear hfz11_0
                              try clear hfz11_1
                              try clear hfz11_2
                              try clear hfz11_3
                              try clear hfz11_4
                              try clear hfz11_5
                              try clear hfz11_6
                              try clear hfz11_7
                              try clear hfz11_8
                              try clear hfz11_9
                              try clear hfz14_0
                              try clear hfz14_1
                              try clear hfz14_2
                              try clear hfz14_3
                              try clear hfz14_4
                              try clear hfz14_5
                              try clear hfz14_6
                              try clear hfz14_7
                              try clear hfz14_8
                              try clear hfz14_9
                              try clear hfz21_0
                              try clear hfz21_1
                              try clear hfz21_2
                              try clear hfz27_0
                              try clear hfz27_1
                              try clear hfz27_2
                              try clear hfz29_0
                              try clear hfz29_1
                              try clear hfz29_2
                              try clear hfz36_0
                              try clear hfz36_1
                              try clear hfz36_2
                              try clear hfz43_0
                              try clear hfz43_1
                              try clear hfz43_2
                              try clear hfz43_3
                              try clear hfz43_4
                              try clear hfz43_5
                              try clear hfz43_6
                              try clear hfz43_7
                              try clear hfz43_8
                              try clear hfz43_9
                              try clear hfz45_0
                              try clear hfz45_1
                              try clear hfz45_2
                              try clear hfz45_3
                              try clear hfz45_4
                              try clear hfz45_5
                              try clear hfz45_6
                              try clear hfz45_7
                              try clear hfz45_8
                              try clear hfz45_9
                              try clear hfz47_0
                              try clear hfz47_1
                              try clear hfz47_2
                              try clear hfz47_3
                              try clear hfz47_4
                              try clear hfz47_5
                              try clear hfz47_6
                              try clear hfz47_7
                              try clear hfz47_8
                              try clear hfz47_9
                              try clear hfz52_0
                              try clear hfz52_1
                              try clear hfz52_2
                              try clear hfz52_3
                              try clear hfz52_4
                              try clear hfz52_5
                              try clear hfz52_6
                              try clear hfz52_7
                              try clear hfz52_8
                              try clear hfz52_9
                              try clear hfz64_0
                              try clear hfz64_1
                              try clear hfz64_2
                              try clear hfz64_3
                              try clear hfz64_4
                              try clear hfz64_5
                              try clear hfz64_6
                              try clear hfz64_7
                              try clear hfz64_8
                              try clear hfz64_9
                              try clear hfz68_0
                              try clear hfz68_1
                              try clear hfz68_2
                              try clear hfz68_3
                              try clear hfz68_4
                              try clear hfz68_5
                              try clear hfz68_6
                              try clear hfz68_7
                              try clear hfz68_8
                              try clear hfz68_9
                              try clear hfz71_0
                              try clear hfz71_1
                              try clear hfz71_2
                              try clear hfz71_3
                              try clear hfz71_4
                              try clear hfz71_5
                              try clear hfz71_6
                              try clear hfz71_7
                              try clear hfz71_8
                              try clear hfz71_9
                              try clear hfz75_0
                              try clear hfz75_1
                              try clear hfz75_2
                              try clear hfz75_3
                              try clear hfz75_4
                              try clear hfz75_5
                              try clear hfz75_6
                              try clear hfz75_7
                              try clear hfz75_8
                              try clear hfz75_9
                              try clear hx129_0
                              try clear hx129_1
                              try clear hx129_2
                              try clear hx131_0
                              try clear hx133_0
                              try clear p1
                              try clear p12
                              try clear p129
                              try clear p13
                              try clear p131
                              try clear p133
                              try clear p2
                              try clear p6
                              try clear q1
                              try clear q12
                              try clear q129
                              try clear q13
                              try clear q131
                              try clear q133
                              obtain ⟨kq, x10_69, rfl, HA, HJ69, BK123, HB⟩ := hcut
                              cases kq with
                              | zero => exact absurd HA.out (by simp [rosterref19_Show.j6])
                              | succ kj69 =>
                                have H := HA.out
                                clear HA
                                simp only [rosterref19_Show.j6] at H
                                have HC77 := Aside0.mk H
                                clear H
                                have hcz78_0 : wc.cell? ⟨gb123, 0, none⟩ = some (.int .i64 a0_0) := (blk_cell BK123.out 0).trans rfl
                                have hcz78_1 : wc.cell? ⟨gb123, 1, none⟩ = some (.int .i64 a0_1) := (blk_cell BK123.out 1).trans rfl
                                have hcz78_2 : wc.cell? ⟨gb123, 2, none⟩ = some (.int .i64 a0_2) := (blk_cell BK123.out 2).trans rfl
                                have hcz78_3 : wc.cell? ⟨gb123, 3, none⟩ = some (.string a0_3) := (blk_cell BK123.out 3).trans rfl
                                have hcz78_4 : wc.cell? ⟨gb123, 4, none⟩ = some (.string a0_4) := (blk_cell BK123.out 4).trans rfl
                                have hcz78_5 : wc.cell? ⟨gb123, 5, none⟩ = some (.string a0_5) := (blk_cell BK123.out 5).trans rfl
                                have hcz78_6 : wc.cell? ⟨gb123, 6, none⟩ = some (.slice A0_6 l0_6.length c0_6) := (blk_cell BK123.out 6).trans rfl
                                have hcz78_7 : wc.cell? ⟨gb123, 7, none⟩ = some (.string a0_7) := (blk_cell BK123.out 7).trans rfl
                                have hcz78_8 : wc.cell? ⟨gb123, 8, none⟩ = some (.bool a0_8) := (blk_cell BK123.out 8).trans rfl
                                have hcz78_9 : wc.cell? ⟨gb123, 9, none⟩ = some (.slice A0_9 l0_9.length c0_9) := (blk_cell BK123.out 9).trans rfl
                                have hfz78_0 := blk_frozen BK123.out 0
                                have hfz78_1 := blk_frozen BK123.out 1
                                have hfz78_2 := blk_frozen BK123.out 2
                                have hfz78_3 := blk_frozen BK123.out 3
                                have hfz78_4 := blk_frozen BK123.out 4
                                have hfz78_5 := blk_frozen BK123.out 5
                                have hfz78_6 := blk_frozen BK123.out 6
                                have hfz78_7 := blk_frozen BK123.out 7
                                have hfz78_8 := blk_frozen BK123.out 8
                                have hfz78_9 := blk_frozen BK123.out 9
                                go_upto_if 110 with (fail)
                                go_cut [10] (fun v10 wc => ∃ (kq : Nat) (x10_76 : ByteArray), v10 = .string x10_76 ∧ Aside0 (rosterref19_Show.j7 kq x10_76 a0_0 a0_1 a0_2 a0_3 a0_4 a0_5 l0_6 a0_7 a0_8 l0_9 = some r) ∧ Aside0 (kq ≤ kj69) ∧ Aside0 (wc.heap[gb123]? = some (.cells #[.int .i64 a0_0, .int .i64 a0_1, .int .i64 a0_2, .string a0_3, .string a0_4, .string a0_5, (.slice A0_6 l0_6.length c0_6), .string a0_7, .bool a0_8, (.slice A0_9 l0_9.length c0_9)] 29 (0, 0))) ∧ Aside0 (Below w.heap.size w wc))
                                case first =>
                                  have H := HC77.out
                                  clear HC77
                                  by_cases c79 : a0_8 = true
                                  · subst c79
                                    have H1 : ((rosterref19_line.f kj69 (⟨#[111, 105, 100]⟩ : ByteArray) a0_7).bind fun t138 => (if x10_69.size + t138.size ≤ 9223372036854775807 then (rosterref19_Show.j7 kj69 (x10_69 ++ t138) a0_0 a0_1 a0_2 a0_3 a0_4 a0_5 l0_6 a0_7 true l0_9) else (none))) = some r := by rw [if_pos rfl] at H; exact H
                                    clear H
                                    have H := H1
                                    clear H1
                                    replace H := Option.bind_eq_some_iff.mp H
                                    obtain ⟨t138, A800, H⟩ := H
                                    replace H : (if x10_69.size + t138.size ≤ 9223372036854775807 then (rosterref19_Show.j7 kj69 (x10_69 ++ t138) a0_0 a0_1 a0_2 a0_3 a0_4 a0_5 l0_6 a0_7 true l0_9) else (none)) = some r := H
                                    have A80 := Aside0.mk A800
                                    clear A800
                                    by_cases c81 : x10_69.size + t138.size ≤ 9223372036854775807
                                    · rw [if_pos c81] at H
                                      have c81b0 := eq_true c81
                                      have c81b1 : decide (x10_69.size + t138.size ≤ 9223372036854775807) = true := decide_eq_true c81
                                      try have c81b2 : (9223372036854775807 < x10_69.size + t138.size) = False := eq_false (Nat.not_lt.2 c81)
                                      have H' := Aside0.mk H
                                      clear H
                                      have hcz82_0 : wc.cell? ⟨gb123, 0, none⟩ = some (.int .i64 a0_0) := (blk_cell BK123.out 0).trans rfl
                                      have hcz82_1 : wc.cell? ⟨gb123, 1, none⟩ = some (.int .i64 a0_1) := (blk_cell BK123.out 1).trans rfl
                                      have hcz82_2 : wc.cell? ⟨gb123, 2, none⟩ = some (.int .i64 a0_2) := (blk_cell BK123.out 2).trans rfl
                                      have hcz82_3 : wc.cell? ⟨gb123, 3, none⟩ = some (.string a0_3) := (blk_cell BK123.out 3).trans rfl
                                      have hcz82_4 : wc.cell? ⟨gb123, 4, none⟩ = some (.string a0_4) := (blk_cell BK123.out 4).trans rfl
                                      have hcz82_5 : wc.cell? ⟨gb123, 5, none⟩ = some (.string a0_5) := (blk_cell BK123.out 5).trans rfl
                                      have hcz82_6 : wc.cell? ⟨gb123, 6, none⟩ = some (.slice A0_6 l0_6.length c0_6) := (blk_cell BK123.out 6).trans rfl
                                      have hcz82_7 : wc.cell? ⟨gb123, 7, none⟩ = some (.string a0_7) := (blk_cell BK123.out 7).trans rfl
                                      have hcz82_8 : wc.cell? ⟨gb123, 8, none⟩ = some (.bool true) := (blk_cell BK123.out 8).trans rfl
                                      have hcz82_9 : wc.cell? ⟨gb123, 9, none⟩ = some (.slice A0_9 l0_9.length c0_9) := (blk_cell BK123.out 9).trans rfl
                                      have hfz82_0 := blk_frozen BK123.out 0
                                      have hfz82_1 := blk_frozen BK123.out 1
                                      have hfz82_2 := blk_frozen BK123.out 2
                                      have hfz82_3 := blk_frozen BK123.out 3
                                      have hfz82_4 := blk_frozen BK123.out 4
                                      have hfz82_5 := blk_frozen BK123.out 5
                                      have hfz82_6 := blk_frozen BK123.out 6
                                      have hfz82_7 := blk_frozen BK123.out 7
                                      have hfz82_8 := blk_frozen BK123.out 8
                                      have hfz82_9 := blk_frozen BK123.out 9
                                      go_wp2_with (first | ((with_reducible refine gate_callee (f := 9) rfl ?_); refine goesL_ (some 114) rfl rfl Tryd.func9 (by kernel_rfl) rfl #[.string (⟨#[111, 105, 100]⟩ : ByteArray), .string a0_7] rfl (by (try simp only [List.map_toArray, List.map_cons, List.map_nil]); first | done | rfl | (simp only [List.length_drop, List.length_take]; rfl)) ?_; (with_reducible refine (rosterref19_line.calls kj69 (⟨#[111, 105, 100]⟩ : ByteArray) a0_7 t138 _ A80.out).mono ?_); rintro e w83 ⟨rfl, hb⟩; refine ⟨_, rfl, ?_⟩; have n0_ := Aside0.mk (blk_below (g := gb123) (o := .cells #[.int .i64 a0_0, .int .i64 a0_1, .int .i64 a0_2, .string a0_3, .string a0_4, .string a0_5, .slice A0_6 l0_6.length c0_6, .string a0_7, .bool true, .slice A0_9 l0_9.length c0_9] 29 (0, 0)) (by (with_reducible repeat (first | refine blk_drewN ?_ _ | refine blk_drew ?_ | refine blk_alloc ?_ _)); exact BK123.out) hb); have n1_ := Aside0.mk (below_step (by repeat (first | (with_reducible first | exact HB.out | apply below_alloc | apply pw_below_drewN | apply below_drew1 | refine below_set ?_ GE123.out) | exact HB.out)) hb); clear BK123; clear HB; have BK123 := n0_; have HB := n1_; clear n0_ n1_; (try clear hb); (try clear hb2); (try clear hk); (try clear hi)))
                                      go_meet
                                      case rel => exact ⟨_, (x10_69 ++ t138), (by first | rfl | (simp; done) | (simp [*]; done)), H', ⟨by have := HJ38.out; have := HJ47.out; have := HJ61.out; have := HJ69.out; first | omega | exact Nat.le_refl _⟩, ⟨by (with_reducible repeat (first | refine blk_drewN ?_ _ | refine blk_drew ?_ | refine blk_alloc ?_ _)); exact BK123.out⟩, ⟨by repeat (first | (with_reducible first | exact HB.out | apply below_alloc | apply pw_below_drewN | apply below_drew1 | refine below_set ?_ GE123.out) | exact HB.out)⟩⟩
                                    · rw [if_neg c81] at H
                                      exact absurd H (by simp)
                                  · replace c79 := Bool.eq_false_iff.mpr c79
                                    subst c79
                                    have H1 : (rosterref19_Show.j7 kj69 x10_69 a0_0 a0_1 a0_2 a0_3 a0_4 a0_5 l0_6 a0_7 false l0_9) = some r := by rw [if_neg (show ¬ (false = true) by decide)] at H; exact H
                                    clear H
                                    have H := H1
                                    clear H1
                                    have H' := Aside0.mk H
                                    clear H
                                    go_wp2
                                    go_meet
                                    case rel => exact ⟨_, (x10_69), (by first | rfl | (simp; done) | (simp [*]; done)), H', ⟨by have := HJ38.out; have := HJ47.out; have := HJ61.out; have := HJ69.out; first | omega | exact Nat.le_refl _⟩, ⟨by (with_reducible repeat (first | refine blk_drewN ?_ _ | refine blk_drew ?_ | refine blk_alloc ?_ _)); exact BK123.out⟩, ⟨by repeat (first | (with_reducible first | exact HB.out | apply below_alloc | apply pw_below_drewN | apply below_drew1 | refine below_set ?_ GE123.out) | exact HB.out)⟩⟩
                                case rest =>
                                  clear HC77
                                  try clear c1
                                  try clear p1
                                  try clear q1
                                  try clear hx1
                                  try clear c2
                                  try clear c2b0
                                  try clear c2b1
                                  try clear p2
                                  try clear c3
                                  try clear c4
                                  try clear c4b0
                                  try clear c4b1
                                  try clear c4b2
                                  try clear c5
                                  try clear c5b0
                                  try clear c5b1
                                  try clear c5b2
                                  try clear c6
                                  try clear p6
                                  try clear c7
                                  try clear c7b0
                                  try clear c7b1
                                  try clear c7b2
                                  try clear c8
                                  try clear c9
                                  try clear c12
                                  try clear p12
                                  try clear q12
                                  try clear hx12
                                  try clear p13
                                  try clear q13
                                  try clear hx13
                                  try clear c15
                                  try clear c15b0
                                  try clear c16
                                  try clear c16b0
                                  try clear c17
                                  try clear c17b0
                                  try clear c20
                                  try clear c22
                                  try clear c22b0
                                  try clear c22b1
                                  try clear c22b2
                                  try clear c23
                                  try clear c23b0
                                  try clear c23b1
                                  try clear c23b2
                                  try clear c24
                                  try clear c24b0
                                  try clear c24b1
                                  try clear c24b2
                                  try clear c25
                                  try clear c25b0
                                  try clear c25b1
                                  try clear c25b2
                                  try clear c26
                                  try clear c28
                                  try clear c30
                                  try clear c30b0
                                  try clear c31
                                  try clear c31b0
                                  try clear c32
                                  try clear c32b0
                                  try clear c34
                                  try clear c34b0
                                  try clear c34b1
                                  try clear c34b2
                                  try clear c35
                                  try clear c38
                                  try clear c38b0
                                  try clear c38b1
                                  try clear c38b2
                                  try clear c44
                                  try clear c44b0
                                  try clear c49
                                  try clear c50
                                  try clear c50b0
                                  try clear c51
                                  try clear c51b0
                                  try clear c55
                                  try clear c55b0
                                  try clear c55b1
                                  try clear c55b2
                                  try clear c56
                                  try clear c56b0
                                  try clear c56b1
                                  try clear c56b2
                                  try clear c57
                                  try clear c57b0
                                  try clear c57b1
                                  try clear c57b2
                                  try clear c58
                                  try clear c58b0
                                  try clear c58b1
                                  try clear c58b2
                                  try clear c60
                                  try clear c60b0
                                  try clear c60b1
                                  try clear c60b2
                                  try clear c61
                                  try clear c61b0
                                  try clear c61b1
                                  try clear c61b2
                                  try clear c65
                                  try clear c65b0
                                  try clear c65b1
                                  try clear c67
                                  try clear c67b0
                                  try clear c67b1
                                  try clear c67b2
                                  try clear c72
                                  try clear c72b0
                                  try clear c72b1
                                  try clear c74
                                  try clear c74b0
                                  try clear c74b1
                                  try clear c74b2
                                  try clear c79
                                  try clear c81
                                  try clear c81b0
                                  try clear c81b1
                                  try clear c81b2
                                  try clear hcz11_0
                                  try clear hcz11_1
                                  try clear hcz11_2
                                  try clear hcz11_3
                                  try clear hcz11_4
                                  try clear hcz11_5
                                  try clear hcz11_6
                                  try clear hcz11_7
                                  try clear hcz11_8
                                  try clear hcz11_9
                                  try clear hcz14_0
                                  try clear hcz14_1
                                  try clear hcz14_2
                                  try clear hcz14_3
                                  try clear hcz14_4
                                  try clear hcz14_5
                                  try clear hcz14_6
                                  try clear hcz14_7
                                  try clear hcz14_8
                                  try clear hcz14_9
                                  try clear hcz21_0
                                  try clear hcz21_1
                                  try clear hcz21_2
                                  try clear hcz27_0
                                  try clear hcz27_1
                                  try clear hcz27_2
                                  try clear hcz29_0
                                  try clear hcz29_1
                                  try clear hcz29_2
                                  try clear hcz36_0
                                  try clear hcz36_1
                                  try clear hcz36_2
                                  try clear hcz43_0
                                  try clear hcz43_1
                                  try clear hcz43_2
                                  try clear hcz43_3
                                  try clear hcz43_4
                                  try clear hcz43_5
                                  try clear hcz43_6
                                  try clear hcz43_7
                                  try clear hcz43_8
                                  try clear hcz43_9
                                  try clear hcz45_0
                                  try clear hcz45_1
                                  try clear hcz45_2
                                  try clear hcz45_3
                                  try clear hcz45_4
                                  try clear hcz45_5
                                  try clear hcz45_6
                                  try clear hcz45_7
                                  try clear hcz45_8
                                  try clear hcz45_9
                                  try clear hcz47_0
                                  try clear hcz47_1
                                  try clear hcz47_2
                                  try clear hcz47_3
                                  try clear hcz47_4
                                  try clear hcz47_5
                                  try clear hcz47_6
                                  try clear hcz47_7
                                  try clear hcz47_8
                                  try clear hcz47_9
                                  try clear hcz52_0
                                  try clear hcz52_1
                                  try clear hcz52_2
                                  try clear hcz52_3
                                  try clear hcz52_4
                                  try clear hcz52_5
                                  try clear hcz52_6
                                  try clear hcz52_7
                                  try clear hcz52_8
                                  try clear hcz52_9
                                  try clear hcz64_0
                                  try clear hcz64_1
                                  try clear hcz64_2
                                  try clear hcz64_3
                                  try clear hcz64_4
                                  try clear hcz64_5
                                  try clear hcz64_6
                                  try clear hcz64_7
                                  try clear hcz64_8
                                  try clear hcz64_9
                                  try clear hcz68_0
                                  try clear hcz68_1
                                  try clear hcz68_2
                                  try clear hcz68_3
                                  try clear hcz68_4
                                  try clear hcz68_5
                                  try clear hcz68_6
                                  try clear hcz68_7
                                  try clear hcz68_8
                                  try clear hcz68_9
                                  try clear hcz71_0
                                  try clear hcz71_1
                                  try clear hcz71_2
                                  try clear hcz71_3
                                  try clear hcz71_4
                                  try clear hcz71_5
                                  try clear hcz71_6
                                  try clear hcz71_7
                                  try clear hcz71_8
                                  try clear hcz71_9
                                  try clear hcz75_0
                                  try clear hcz75_1
                                  try clear hcz75_2
                                  try clear hcz75_3
                                  try clear hcz75_4
                                  try clear hcz75_5
                                  try clear hcz75_6
                                  try clear hcz75_7
                                  try clear hcz75_8
                                  try clear hcz75_9
                                  try clear hcz78_0
                                  try clear hcz78_1
                                  try clear hcz78_2
                                  try clear hcz78_3
                                  try clear hcz78_4
                                  try clear hcz78_5
                                  try clear hcz78_6
                                  try clear hcz78_7
                                  try clear hcz78_8
                                  try clear hcz78_9
                                  try clear hcz82_0
                                  try clear hcz82_1
                                  try clear hcz82_2
                                  try clear hcz82_3
                                  try clear hcz82_4
                                  try clear hcz82_5
                                  try clear hcz82_6
                                  try clear hcz82_7
                                  try clear hcz82_8
                                  try clear hcz82_9
                                  try clear hfz11_0
                                  try clear hfz11_1
                                  try clear hfz11_2
                                  try clear hfz11_3
                                  try clear hfz11_4
                                  try clear hfz11_5
                                  try clear hfz11_6
                                  try clear hfz11_7
                                  try clear hfz11_8
                                  try clear hfz11_9
                                  try clear hfz14_0
                                  try clear hfz14_1
                                  try clear hfz14_2
                                  try clear hfz14_3
                                  try clear hfz14_4
                                  try clear hfz14_5
                                  try clear hfz14_6
                                  try clear hfz14_7
                                  try clear hfz14_8
                                  try clear hfz14_9
                                  try clear hfz21_0
                                  try clear hfz21_1
                                  try clear hfz21_2
                                  try clear hfz27_0
                                  try clear hfz27_1
                                  try clear hfz27_2
                                  try clear hfz29_0
                                  try clear hfz29_1
                                  try clear hfz29_2
                                  try clear hfz36_0
                                  try clear hfz36_1
                                  try clear hfz36_2
                                  try clear hfz43_0
                                  try clear hfz43_1
                                  try clear hfz43_2
                                  try clear hfz43_3
                                  try clear hfz43_4
                                  try clear hfz43_5
                                  try clear hfz43_6
                                  try clear hfz43_7
                                  try clear hfz43_8
                                  try clear hfz43_9
                                  try clear hfz45_0
                                  try clear hfz45_1
                                  try clear hfz45_2
                                  try clear hfz45_3
                                  try clear hfz45_4
                                  try clear hfz45_5
                                  try clear hfz45_6
                                  try clear hfz45_7
                                  try clear hfz45_8
                                  try clear hfz45_9
                                  try clear hfz47_0
                                  try clear hfz47_1
                                  try clear hfz47_2
                                  try clear hfz47_3
                                  try clear hfz47_4
                                  try clear hfz47_5
                                  try clear hfz47_6
                                  try clear hfz47_7
                                  try clear hfz47_8
                                  try clear hfz47_9
                                  try clear hfz52_0
                                  try clear hfz52_1
                                  try clear hfz52_2
                                  try clear hfz52_3
                                  try clear hfz52_4
                                  try clear hfz52_5
                                  try clear hfz52_6
                                  try clear hfz52_7
                                  try clear hfz52_8
                                  try clear hfz52_9
                                  try clear hfz64_0
                                  try clear hfz64_1
                                  try clear hfz64_2
                                  try clear hfz64_3
                                  try clear hfz64_4
                                  try clear hfz64_5
                                  try clear hfz64_6
                                  try clear hfz64_7
                                  try clear hfz64_8
                                  try clear hfz64_9
                                  try clear hfz68_0
                                  try clear hfz68_1
                                  try clear hfz68_2
                                  try clear hfz68_3
                                  try clear hfz68_4
                                  try clear hfz68_5
                                  try clear hfz68_6
                                  try clear hfz68_7
                                  try clear hfz68_8
                                  try clear hfz68_9
                                  try clear hfz71_0
                                  try clear hfz71_1
                                  try clear hfz71_2
                                  try clear hfz71_3
                                  try clear hfz71_4
                                  try clear hfz71_5
                                  try clear hfz71_6
                                  try clear hfz71_7
                                  try clear hfz71_8
                                  try clear hfz71_9
                                  try clear hfz75_0
                                  try clear hfz75_1
                                  try clear hfz75_2
                                  try clear hfz75_3
                                  try clear hfz75_4
                                  try clear hfz75_5
                                  try clear hfz75_6
                                  try clear hfz75_7
                                  try clear hfz75_8
                                  try clear hfz75_9
                                  try clear hfz78_0
                                  try clear hfz78_1
                                  try clear hfz78_2
                                  try clear hfz78_3
                                  try clear hfz78_4
                                  try clear hfz78_5
                                  try clear hfz78_6
                                  try clear hfz78_7
                                  try clear hfz78_8
                                  try clear hfz78_9
                                  try clear hfz82_0
                                  try clear hfz82_1
                                  try clear hfz82_2
                                  try clear hfz82_3
                                  try clear hfz82_4
                                  try clear hfz82_5
                                  try clear hfz82_6
                                  try clear hfz82_7
                                  try clear hfz82_8
                                  try clear hfz82_9
                                  try clear hx129_0
                                  try clear hx129_1
                                  try clear hx129_2
                                  try clear hx131_0
                                  try clear hx133_0
                                  try clear p1
                                  try clear p12
                                  try clear p129
                                  try clear p13
                                  try clear p131
                                  try clear p133
                                  try clear p2
                                  try clear p6
                                  try clear q1
                                  try clear q12
                                  try clear q129
                                  try clear q13
                                  try clear q131
                                  try clear q133
                                  obtain ⟨kq, x10_76, rfl, HA, HJ76, BK123, HB⟩ := hcut
                                  cases kq with
                                  | zero => exact absurd HA.out (by simp [rosterref19_Show.j7])
                                  | succ kj76 =>
                                    have H := HA.out
                                    clear HA
                                    simp only [rosterref19_Show.j7] at H
                                    have H' := Aside0.mk H
                                    clear H
                                    have hcz84_0 : wc.cell? ⟨gb123, 0, none⟩ = some (.int .i64 a0_0) := (blk_cell BK123.out 0).trans rfl
                                    have hcz84_1 : wc.cell? ⟨gb123, 1, none⟩ = some (.int .i64 a0_1) := (blk_cell BK123.out 1).trans rfl
                                    have hcz84_2 : wc.cell? ⟨gb123, 2, none⟩ = some (.int .i64 a0_2) := (blk_cell BK123.out 2).trans rfl
                                    have hcz84_3 : wc.cell? ⟨gb123, 3, none⟩ = some (.string a0_3) := (blk_cell BK123.out 3).trans rfl
                                    have hcz84_4 : wc.cell? ⟨gb123, 4, none⟩ = some (.string a0_4) := (blk_cell BK123.out 4).trans rfl
                                    have hcz84_5 : wc.cell? ⟨gb123, 5, none⟩ = some (.string a0_5) := (blk_cell BK123.out 5).trans rfl
                                    have hcz84_6 : wc.cell? ⟨gb123, 6, none⟩ = some (.slice A0_6 l0_6.length c0_6) := (blk_cell BK123.out 6).trans rfl
                                    have hcz84_7 : wc.cell? ⟨gb123, 7, none⟩ = some (.string a0_7) := (blk_cell BK123.out 7).trans rfl
                                    have hcz84_8 : wc.cell? ⟨gb123, 8, none⟩ = some (.bool a0_8) := (blk_cell BK123.out 8).trans rfl
                                    have hcz84_9 : wc.cell? ⟨gb123, 9, none⟩ = some (.slice A0_9 l0_9.length c0_9) := (blk_cell BK123.out 9).trans rfl
                                    have hfz84_0 := blk_frozen BK123.out 0
                                    have hfz84_1 := blk_frozen BK123.out 1
                                    have hfz84_2 := blk_frozen BK123.out 2
                                    have hfz84_3 := blk_frozen BK123.out 3
                                    have hfz84_4 := blk_frozen BK123.out 4
                                    have hfz84_5 := blk_frozen BK123.out 5
                                    have hfz84_6 := blk_frozen BK123.out 6
                                    have hfz84_7 := blk_frozen BK123.out 7
                                    have hfz84_8 := blk_frozen BK123.out 8
                                    have hfz84_9 := blk_frozen BK123.out 9
                                    go_wp2
                                    go_loopg [10, 119] kj76 (fun kq v10 v119 w' => ∃ (x10_6 : ByteArray) (x119_6 : Int), v10 = .string x10_6 ∧ v119 = .int .i64 x119_6 ∧ Aside0 (rosterref19_Show.l2 kq x10_6 l0_9 (l0_9.length : Int) x119_6 = some r) ∧ Aside0 (kq ≤ kj76) ∧ Aside0 (w'.heap[gb123]? = some (.cells #[.int .i64 a0_0, .int .i64 a0_1, .int .i64 a0_2, .string a0_3, .string a0_4, .string a0_5, (.slice A0_6 l0_6.length c0_6), .string a0_7, .bool a0_8, (.slice A0_9 l0_9.length c0_9)] 29 (0, 0))) ∧ Aside0 (Below w.heap.size w w'))
                                    case atStart => exact ⟨(x10_76), (0), (by first | rfl | (simp; done) | (simp [*]; done)), (by first | rfl | (simp; done) | (simp [*]; done)), H', ⟨Nat.le_refl _⟩, ⟨by (with_reducible repeat (first | refine blk_drewN ?_ _ | refine blk_drew ?_ | refine blk_alloc ?_ _)); exact BK123.out⟩, ⟨by repeat (first | (with_reducible first | exact HB.out | apply below_alloc | apply pw_below_drewN | apply below_drew1 | refine below_set ?_ GE123.out) | exact HB.out)⟩⟩
                                    case round =>
                                      clear H'
                                      try clear c1
                                      try clear p1
                                      try clear q1
                                      try clear hx1
                                      try clear c2
                                      try clear c2b0
                                      try clear c2b1
                                      try clear p2
                                      try clear c3
                                      try clear c4
                                      try clear c4b0
                                      try clear c4b1
                                      try clear c4b2
                                      try clear c5
                                      try clear c5b0
                                      try clear c5b1
                                      try clear c5b2
                                      try clear c6
                                      try clear p6
                                      try clear c7
                                      try clear c7b0
                                      try clear c7b1
                                      try clear c7b2
                                      try clear c8
                                      try clear c9
                                      try clear c12
                                      try clear p12
                                      try clear q12
                                      try clear hx12
                                      try clear p13
                                      try clear q13
                                      try clear hx13
                                      try clear c15
                                      try clear c15b0
                                      try clear c16
                                      try clear c16b0
                                      try clear c17
                                      try clear c17b0
                                      try clear c20
                                      try clear c22
                                      try clear c22b0
                                      try clear c22b1
                                      try clear c22b2
                                      try clear c23
                                      try clear c23b0
                                      try clear c23b1
                                      try clear c23b2
                                      try clear c24
                                      try clear c24b0
                                      try clear c24b1
                                      try clear c24b2
                                      try clear c25
                                      try clear c25b0
                                      try clear c25b1
                                      try clear c25b2
                                      try clear c26
                                      try clear c28
                                      try clear c30
                                      try clear c30b0
                                      try clear c31
                                      try clear c31b0
                                      try clear c32
                                      try clear c32b0
                                      try clear c34
                                      try clear c34b0
                                      try clear c34b1
                                      try clear c34b2
                                      try clear c35
                                      try clear c38
                                      try clear c38b0
                                      try clear c38b1
                                      try clear c38b2
                                      try clear c44
                                      try clear c44b0
                                      try clear c49
                                      try clear c50
                                      try clear c50b0
                                      try clear c51
                                      try clear c51b0
                                      try clear c55
                                      try clear c55b0
                                      try clear c55b1
                                      try clear c55b2
                                      try clear c56
                                      try clear c56b0
                                      try clear c56b1
                                      try clear c56b2
                                      try clear c57
                                      try clear c57b0
                                      try clear c57b1
                                      try clear c57b2
                                      try clear c58
                                      try clear c58b0
                                      try clear c58b1
                                      try clear c58b2
                                      try clear c60
                                      try clear c60b0
                                      try clear c60b1
                                      try clear c60b2
                                      try clear c61
                                      try clear c61b0
                                      try clear c61b1
                                      try clear c61b2
                                      try clear c65
                                      try clear c65b0
                                      try clear c65b1
                                      try clear c67
                                      try clear c67b0
                                      try clear c67b1
                                      try clear c67b2
                                      try clear c72
                                      try clear c72b0
                                      try clear c72b1
                                      try clear c74
                                      try clear c74b0
                                      try clear c74b1
                                      try clear c74b2
                                      try clear c79
                                      try clear c81
                                      try clear c81b0
                                      try clear c81b1
                                      try clear c81b2
                                      try clear hcz11_0
                                      try clear hcz11_1
                                      try clear hcz11_2
                                      try clear hcz11_3
                                      try clear hcz11_4
                                      try clear hcz11_5
                                      try clear hcz11_6
                                      try clear hcz11_7
                                      try clear hcz11_8
                                      try clear hcz11_9
                                      try clear hcz14_0
                                      try clear hcz14_1
                                      try clear hcz14_2
                                      try clear hcz14_3
                                      try clear hcz14_4
                                      try clear hcz14_5
                                      try clear hcz14_6
                                      try clear hcz14_7
                                      try clear hcz14_8
                                      try clear hcz14_9
                                      try clear hcz21_0
                                      try clear hcz21_1
                                      try clear hcz21_2
                                      try clear hcz27_0
                                      try clear hcz27_1
                                      try clear hcz27_2
                                      try clear hcz29_0
                                      try clear hcz29_1
                                      try clear hcz29_2
                                      try clear hcz36_0
                                      try clear hcz36_1
                                      try clear hcz36_2
                                      try clear hcz43_0
                                      try clear hcz43_1
                                      try clear hcz43_2
                                      try clear hcz43_3
                                      try clear hcz43_4
                                      try clear hcz43_5
                                      try clear hcz43_6
                                      try clear hcz43_7
                                      try clear hcz43_8
                                      try clear hcz43_9
                                      try clear hcz45_0
                                      try clear hcz45_1
                                      try clear hcz45_2
                                      try clear hcz45_3
                                      try clear hcz45_4
                                      try clear hcz45_5
                                      try clear hcz45_6
                                      try clear hcz45_7
                                      try clear hcz45_8
                                      try clear hcz45_9
                                      try clear hcz47_0
                                      try clear hcz47_1
                                      try clear hcz47_2
                                      try clear hcz47_3
                                      try clear hcz47_4
                                      try clear hcz47_5
                                      try clear hcz47_6
                                      try clear hcz47_7
                                      try clear hcz47_8
                                      try clear hcz47_9
                                      try clear hcz52_0
                                      try clear hcz52_1
                                      try clear hcz52_2
                                      try clear hcz52_3
                                      try clear hcz52_4
                                      try clear hcz52_5
                                      try clear hcz52_6
                                      try clear hcz52_7
                                      try clear hcz52_8
                                      try clear hcz52_9
                                      try clear hcz64_0
                                      try clear hcz64_1
                                      try clear hcz64_2
                                      try clear hcz64_3
                                      try clear hcz64_4
                                      try clear hcz64_5
                                      try clear hcz64_6
                                      try clear hcz64_7
                                      try clear hcz64_8
                                      try clear hcz64_9
                                      try clear hcz68_0
                                      try clear hcz68_1
                                      try clear hcz68_2
                                      try clear hcz68_3
                                      try clear hcz68_4
                                      try clear hcz68_5
                                      try clear hcz68_6
                                      try clear hcz68_7
                                      try clear hcz68_8
                                      try clear hcz68_9
                                      try clear hcz71_0
                                      try clear hcz71_1
                                      try clear hcz71_2
                                      try clear hcz71_3
                                      try clear hcz71_4
                                      try clear hcz71_5
                                      try clear hcz71_6
                                      try clear hcz71_7
                                      try clear hcz71_8
                                      try clear hcz71_9
                                      try clear hcz75_0
                                      try clear hcz75_1
                                      try clear hcz75_2
                                      try clear hcz75_3
                                      try clear hcz75_4
                                      try clear hcz75_5
                                      try clear hcz75_6
                                      try clear hcz75_7
                                      try clear hcz75_8
                                      try clear hcz75_9
                                      try clear hcz78_0
                                      try clear hcz78_1
                                      try clear hcz78_2
                                      try clear hcz78_3
                                      try clear hcz78_4
                                      try clear hcz78_5
                                      try clear hcz78_6
                                      try clear hcz78_7
                                      try clear hcz78_8
                                      try clear hcz78_9
                                      try clear hcz82_0
                                      try clear hcz82_1
                                      try clear hcz82_2
                                      try clear hcz82_3
                                      try clear hcz82_4
                                      try clear hcz82_5
                                      try clear hcz82_6
                                      try clear hcz82_7
                                      try clear hcz82_8
                                      try clear hcz82_9
                                      try clear hcz84_0
                                      try clear hcz84_1
                                      try clear hcz84_2
                                      try clear hcz84_3
                                      try clear hcz84_4
                                      try clear hcz84_5
                                      try clear hcz84_6
                                      try clear hcz84_7
                                      try clear hcz84_8
                                      try clear hcz84_9
                                      try clear hfz11_0
                                      try clear hfz11_1
                                      try clear hfz11_2
                                      try clear hfz11_3
                                      try clear hfz11_4
                                      try clear hfz11_5
                                      try clear hfz11_6
                                      try clear hfz11_7
                                      try clear hfz11_8
                                      try clear hfz11_9
                                      try clear hfz14_0
                                      try clear hfz14_1
                                      try clear hfz14_2
                                      try clear hfz14_3
                                      try clear hfz14_4
                                      try clear hfz14_5
                                      try clear hfz14_6
                                      try clear hfz14_7
                                      try clear hfz14_8
                                      try clear hfz14_9
                                      try clear hfz21_0
                                      try clear hfz21_1
                                      try clear hfz21_2
                                      try clear hfz27_0
                                      try clear hfz27_1
                                      try clear hfz27_2
                                      try clear hfz29_0
                                      try clear hfz29_1
                                      try clear hfz29_2
                                      try clear hfz36_0
                                      try clear hfz36_1
                                      try clear hfz36_2
                                      try clear hfz43_0
                                      try clear hfz43_1
                                      try clear hfz43_2
                                      try clear hfz43_3
                                      try clear hfz43_4
                                      try clear hfz43_5
                                      try clear hfz43_6
                                      try clear hfz43_7
                                      try clear hfz43_8
                                      try clear hfz43_9
                                      try clear hfz45_0
                                      try clear hfz45_1
                                      try clear hfz45_2
                                      try clear hfz45_3
                                      try clear hfz45_4
                                      try clear hfz45_5
                                      try clear hfz45_6
                                      try clear hfz45_7
                                      try clear hfz45_8
                                      try clear hfz45_9
                                      try clear hfz47_0
                                      try clear hfz47_1
                                      try clear hfz47_2
                                      try clear hfz47_3
                                      try clear hfz47_4
                                      try clear hfz47_5
                                      try clear hfz47_6
                                      try clear hfz47_7
                                      try clear hfz47_8
                                      try clear hfz47_9
                                      try clear hfz52_0
                                      try clear hfz52_1
                                      try clear hfz52_2
                                      try clear hfz52_3
                                      try clear hfz52_4
                                      try clear hfz52_5
                                      try clear hfz52_6
                                      try clear hfz52_7
                                      try clear hfz52_8
                                      try clear hfz52_9
                                      try clear hfz64_0
                                      try clear hfz64_1
                                      try clear hfz64_2
                                      try clear hfz64_3
                                      try clear hfz64_4
                                      try clear hfz64_5
                                      try clear hfz64_6
                                      try clear hfz64_7
                                      try clear hfz64_8
                                      try clear hfz64_9
                                      try clear hfz68_0
                                      try clear hfz68_1
                                      try clear hfz68_2
                                      try clear hfz68_3
                                      try clear hfz68_4
                                      try clear hfz68_5
                                      try clear hfz68_6
                                      try clear hfz68_7
                                      try clear hfz68_8
                                      try clear hfz68_9
                                      try clear hfz71_0
                                      try clear hfz71_1
                                      try clear hfz71_2
                                      try clear hfz71_3
                                      try clear hfz71_4
                                      try clear hfz71_5
                                      try clear hfz71_6
                                      try clear hfz71_7
                                      try clear hfz71_8
                                      try clear hfz71_9
                                      try clear hfz75_0
                                      try clear hfz75_1
                                      try clear hfz75_2
                                      try clear hfz75_3
                                      try clear hfz75_4
                                      try clear hfz75_5
                                      try clear hfz75_6
                                      try clear hfz75_7
                                      try clear hfz75_8
                                      try clear hfz75_9
                                      try clear hfz78_0
                                      try clear hfz78_1
                                      try clear hfz78_2
                                      try clear hfz78_3
                                      try clear hfz78_4
                                      try clear hfz78_5
                                      try clear hfz78_6
                                      try clear hfz78_7
                                      try clear hfz78_8
                                      try clear hfz78_9
                                      try clear hfz82_0
                                      try clear hfz82_1
                                      try clear hfz82_2
                                      try clear hfz82_3
                                      try clear hfz82_4
                                      try clear hfz82_5
                                      try clear hfz82_6
                                      try clear hfz82_7
                                      try clear hfz82_8
                                      try clear hfz82_9
                                      try clear hfz84_0
                                      try clear hfz84_1
                                      try clear hfz84_2
                                      try clear hfz84_3
                                      try clear hfz84_4
                                      try clear hfz84_5
                                      try clear hfz84_6
                                      try clear hfz84_7
                                      try clear hfz84_8
                                      try clear hfz84_9
                                      try clear hx129_0
                                      try clear hx129_1
                                      try clear hx129_2
                                      try clear hx131_0
                                      try clear hx133_0
                                      try clear p1
                                      try clear p12
                                      try clear p129
                                      try clear p13
                                      try clear p131
                                      try clear p133
                                      try clear p2
                                      try clear p6
                                      try clear q1
                                      try clear q12
                                      try clear q129
                                      try clear q13
                                      try clear q131
                                      try clear q133
                                      obtain ⟨x10_6, x119_6, rfl, rfl, HA, HK6, BK123, HB⟩ := hrel
                                      cases gk with
                                      | zero => exact absurd HA.out (by simp [rosterref19_Show.l2])
                                      | succ k6 =>
                                        have H := HA.out
                                        clear HA
                                        simp only [rosterref19_Show.l2] at H
                                        by_cases c85 : x119_6 < (l0_9.length : Int)
                                        · rw [if_pos c85] at H
                                          have c85b0 : decide (x119_6 < (l0_9.length : Int)) = true := decide_eq_true c85
                                          clear c85
                                          by_cases c86 : 0 ≤ x119_6
                                          · rw [if_pos c86] at H
                                            have c86b0 : decide (0 ≤ x119_6) = true := decide_eq_true c86
                                            clear c86
                                            by_cases c87 : x119_6 < (l0_9.length : Int)
                                            · rw [if_pos c87] at H
                                              have c87b0 : decide (x119_6 < (l0_9.length : Int)) = true := decide_eq_true c87
                                              clear c87
                                              replace H := Option.bind_eq_some_iff.mp H
                                              obtain ⟨t141, A880, H⟩ := H
                                              replace H : (if x10_6.size + t141.size ≤ 9223372036854775807 then (rosterref19_Show.l2 k6 (x10_6 ++ t141) l0_9 (l0_9.length : Int) (wrap64 (x119_6 + 1))) else (none)) = some r := H
                                              have A88 := Aside0.mk A880
                                              clear A880
                                              by_cases c89 : x10_6.size + t141.size ≤ 9223372036854775807
                                              · rw [if_pos c89] at H
                                                have c89b0 := eq_true c89
                                                have c89b1 : decide (x10_6.size + t141.size ≤ 9223372036854775807) = true := decide_eq_true c89
                                                try have c89b2 : (9223372036854775807 < x10_6.size + t141.size) = False := eq_false (Nat.not_lt.2 c89)
                                                have H' := Aside0.mk H
                                                clear H
                                                have p139 : 0 ≤ (x119_6 : Int) := of_decide_eq_true (by first | (with_reducible assumption) | assumption)
                                                have q139 : x119_6 < (l0_9.length : Int) := of_decide_eq_true (by first | (with_reducible assumption) | assumption)
                                                obtain ⟨ad139, e139, hx139_0, hx139_1, hx139_2, hx139_3⟩ := at_T36 HR0_9.out x119_6 p139 q139
                                                cases e139
                                                replace hx139_0 := (HB.out.cell (World.block_lt_of_cell? w _ hx139_0)).trans hx139_0
                                                replace hx139_1 := (HB.out.cell (World.block_lt_of_cell? w _ hx139_1)).trans hx139_1
                                                replace hx139_2 := (HB.out.cell (World.block_lt_of_cell? w _ hx139_2)).trans hx139_2
                                                replace hx139_3 := (HB.out.cell (World.block_lt_of_cell? w _ hx139_3)).trans hx139_3
                                                replace p139 := eq_true p139
                                                replace q139 := eq_true q139
                                                go_wp2_with (first | ((with_reducible refine gate_dst (N := 12) rfl ?_); (try (refine gate_guard (by rfl) ?_; dsimp only)); refine box_event ?hg (N := 12) ?hd (cs := #[.string (⟨#[]⟩ : ByteArray), .bool false, .string (⟨#[]⟩ : ByteArray), .bool false]) (t := 36) ?hr ?_; (case hd => rfl); (case hg => rfl); (case hr => first | (go_simp; done) | (go_simp; rfl)); intro gb140 hg w90 hbox hb; have n0_ := Aside0.mk (blk_below (g := gb123) (o := .cells #[.int .i64 a0_0, .int .i64 a0_1, .int .i64 a0_2, .string a0_3, .string a0_4, .string a0_5, .slice A0_6 l0_6.length c0_6, .string a0_7, .bool a0_8, .slice (some ad139) l0_9.length c0_9] 29 (0, 0)) (by (with_reducible repeat (first | refine blk_drewN ?_ _ | refine blk_drew ?_ | refine blk_alloc ?_ _)); exact BK123.out) hb); have n1_ := Aside0.mk (below_step (by repeat (first | (with_reducible first | exact HB.out | apply below_alloc | apply pw_below_drewN | apply below_drew1 | refine below_set ?_ GE123.out) | exact HB.out)) hb); have n2_ := Aside0.mk (hbox); have n3_ := Aside0.mk ((by rw [hg]; exact (below_size (by repeat (first | (with_reducible first | exact HB.out | apply below_alloc | apply pw_below_drewN | apply below_drew1 | refine below_set ?_ GE123.out) | exact HB.out))) : w.heap.size ≤ gb140)); have n4_ := Aside0.mk ((by rw [hg]; exact (below_size (by repeat (first | (with_reducible first | exact HB.out | apply below_alloc | apply pw_below_drewN | apply below_drew1 | refine below_set ?_ GE123.out) | exact HB.out))) : w.heap.size ≤ gb140)); have n5_ := Aside0.mk ((by rw [hg]; exact Nat.ne_of_lt (blk_lt (g := gb123) (o := .cells #[.int .i64 a0_0, .int .i64 a0_1, .int .i64 a0_2, .string a0_3, .string a0_4, .string a0_5, .slice A0_6 l0_6.length c0_6, .string a0_7, .bool a0_8, .slice (some ad139) l0_9.length c0_9] 29 (0, 0)) (by (with_reducible repeat (first | refine blk_drewN ?_ _ | refine blk_drew ?_ | refine blk_alloc ?_ _)); exact BK123.out)) : gb123 ≠ gb140)); have n6_ := Aside0.mk ((by rw [hg]; exact Nat.ne_of_gt (blk_lt (g := gb123) (o := .cells #[.int .i64 a0_0, .int .i64 a0_1, .int .i64 a0_2, .string a0_3, .string a0_4, .string a0_5, .slice A0_6 l0_6.length c0_6, .string a0_7, .bool a0_8, .slice (some ad139) l0_9.length c0_9] 29 (0, 0)) (by (with_reducible repeat (first | refine blk_drewN ?_ _ | refine blk_drew ?_ | refine blk_alloc ?_ _)); exact BK123.out)) : gb140 ≠ gb123)); clear BK123; clear HB; have BK123 := n0_; have HB := n1_; have BK140 := n2_; have GW140 := n3_; have GE140 := n4_; have NB123_140 := n5_; have NB140_123 := n6_; clear n0_ n1_ n2_ n3_ n4_ n5_ n6_; clear hb hbox hg; have hnb91 := NB140_123.out; have hnc91 := NB123_140.out; have hcz92_0 : w90.cell? ⟨gb140, 0, none⟩ = some (.string (⟨#[]⟩ : ByteArray)) := (blk_cell BK140.out 0).trans rfl; have hcz92_1 : w90.cell? ⟨gb140, 1, none⟩ = some (.bool false) := (blk_cell BK140.out 1).trans rfl; have hcz92_2 : w90.cell? ⟨gb140, 2, none⟩ = some (.string (⟨#[]⟩ : ByteArray)) := (blk_cell BK140.out 2).trans rfl; have hcz92_3 : w90.cell? ⟨gb140, 3, none⟩ = some (.bool false) := (blk_cell BK140.out 3).trans rfl; have hfz92_0 := blk_frozen BK140.out 0; have hfz92_1 := blk_frozen BK140.out 1; have hfz92_2 := blk_frozen BK140.out 2; have hfz92_3 := blk_frozen BK140.out 3) | ((with_reducible refine gate_callee (f := 9) rfl ?_); refine goesL_ (some 126) rfl rfl Tryd.func9 (by kernel_rfl) rfl #[.string (⟨#[99, 111, 110, 116, 114, 111, 108]⟩ : ByteArray), .string ((rd_T36 l0_9 x119_6).f0)] rfl (by (try simp only [List.map_toArray, List.map_cons, List.map_nil]); first | done | rfl | (simp only [List.length_drop, List.length_take]; rfl)) ?_; (with_reducible refine (rosterref19_line.calls k6 (⟨#[99, 111, 110, 116, 114, 111, 108]⟩ : ByteArray) ((rd_T36 l0_9 x119_6).f0) t141 _ A88.out).mono ?_); rintro e w93 ⟨rfl, hb⟩; refine ⟨_, rfl, ?_⟩; have n0_ := Aside0.mk (blk_below (g := gb123) (o := .cells #[.int .i64 a0_0, .int .i64 a0_1, .int .i64 a0_2, .string a0_3, .string a0_4, .string a0_5, .slice A0_6 l0_6.length c0_6, .string a0_7, .bool a0_8, .slice (some ad139) l0_9.length c0_9] 29 (0, 0)) (by (with_reducible repeat (first | refine blk_drewN ?_ _ | refine blk_drew ?_ | refine blk_alloc ?_ _)); refine blk_far ?_ NB123_140.out _; (with_reducible repeat (first | refine blk_drewN ?_ _ | refine blk_drew ?_ | refine blk_alloc ?_ _)); refine blk_far ?_ NB123_140.out _; (with_reducible repeat (first | refine blk_drewN ?_ _ | refine blk_drew ?_ | refine blk_alloc ?_ _)); refine blk_far ?_ NB123_140.out _; (with_reducible repeat (first | refine blk_drewN ?_ _ | refine blk_drew ?_ | refine blk_alloc ?_ _)); refine blk_far ?_ NB123_140.out _; (with_reducible repeat (first | refine blk_drewN ?_ _ | refine blk_drew ?_ | refine blk_alloc ?_ _)); exact BK123.out) hb); have n1_ := Aside0.mk (blk_below (g := gb140) (o := .cells #[.string ((rd_T36 l0_9 x119_6).f0), .bool ((rd_T36 l0_9 x119_6).f1), .string ((rd_T36 l0_9 x119_6).f2), .bool ((rd_T36 l0_9 x119_6).f3)] 36 (0, 0)) (by (with_reducible repeat (first | refine blk_drewN ?_ _ | refine blk_drew ?_ | refine blk_alloc ?_ _)); refine blk_put (cs := #[.string ((rd_T36 l0_9 x119_6).f0), .bool ((rd_T36 l0_9 x119_6).f1), .string ((rd_T36 l0_9 x119_6).f2), .bool false]) ?_ 3 _ rfl; (with_reducible repeat (first | refine blk_drewN ?_ _ | refine blk_drew ?_ | refine blk_alloc ?_ _)); refine blk_put (cs := #[.string ((rd_T36 l0_9 x119_6).f0), .bool ((rd_T36 l0_9 x119_6).f1), .string (⟨#[]⟩ : ByteArray), .bool false]) ?_ 2 _ rfl; (with_reducible repeat (first | refine blk_drewN ?_ _ | refine blk_drew ?_ | refine blk_alloc ?_ _)); refine blk_put (cs := #[.string ((rd_T36 l0_9 x119_6).f0), .bool false, .string (⟨#[]⟩ : ByteArray), .bool false]) ?_ 1 _ rfl; (with_reducible repeat (first | refine blk_drewN ?_ _ | refine blk_drew ?_ | refine blk_alloc ?_ _)); refine blk_put (cs := #[.string (⟨#[]⟩ : ByteArray), .bool false, .string (⟨#[]⟩ : ByteArray), .bool false]) ?_ 0 _ rfl; (with_reducible repeat (first | refine blk_drewN ?_ _ | refine blk_drew ?_ | refine blk_alloc ?_ _)); exact BK140.out) hb); have n2_ := Aside0.mk (below_step (by repeat (first | (with_reducible first | exact HB.out | apply below_alloc | apply pw_below_drewN | apply below_drew1 | refine below_set ?_ GE123.out | refine below_set ?_ GE140.out) | exact HB.out)) hb); clear BK123; clear BK140; clear HB; have BK123 := n0_; have BK140 := n1_; have HB := n2_; clear n0_ n1_ n2_; (try clear hb); (try clear hb2); (try clear hk); (try clear hi)))
                                                go_roundg k6
                                                case measure => have := HJ38.out; have := HJ47.out; have := HJ61.out; have := HJ69.out; have := HJ76.out; have := HK6.out; omega
                                                case rel => exact ⟨(x10_6 ++ t141), (wrap64 (x119_6 + 1)), (by first | rfl | (simp; done) | (simp [*]; done)), (by first | rfl | (simp; done) | (simp [*]; done)), H', ⟨by have := HJ38.out; have := HJ47.out; have := HJ61.out; have := HJ69.out; have := HJ76.out; have := HK6.out; omega⟩, ⟨by (with_reducible repeat (first | refine blk_drewN ?_ _ | refine blk_drew ?_ | refine blk_alloc ?_ _)); exact BK123.out⟩, ⟨by repeat (first | (with_reducible first | exact HB.out | apply below_alloc | apply pw_below_drewN | apply below_drew1 | refine below_set ?_ GE123.out | refine below_set ?_ GE140.out) | exact HB.out)⟩⟩
                                              · rw [if_neg c89] at H
                                                exact absurd H (by simp)
                                            · rw [if_neg c87] at H
                                              exact absurd H (by simp)
                                          · rw [if_neg c86] at H
                                            exact absurd H (by simp)
                                        · rw [if_neg c85] at H
                                          have c85b0 : decide (x119_6 < (l0_9.length : Int)) = false := decide_eq_false c85
                                          clear c85
                                          obtain rfl := Option.some.inj H
                                          go_wp2
                                          go_ret
                                          exact ⟨by first | rfl | (simp [errW_none, errW_some] <;> rfl) | (simp [*, errW_none, errW_some] <;> rfl), by repeat (first | (with_reducible first | exact HB.out | apply below_alloc | apply pw_below_drewN | apply below_drew1 | refine below_set ?_ GE123.out) | exact HB.out)⟩
                      · rw [if_neg c61] at H
                        exact absurd H (by simp)
                    · rw [if_neg c60] at H
                      exact absurd H (by simp)
                  · rw [if_neg c58] at H
                    exact absurd H (by simp)
                · rw [if_neg c57] at H
                  exact absurd H (by simp)
              · rw [if_neg c56] at H
                exact absurd H (by simp)
            · rw [if_neg c55] at H
              exact absurd H (by simp)

end Go.Proofs.YtogkibhbkapobaaDoor.XA

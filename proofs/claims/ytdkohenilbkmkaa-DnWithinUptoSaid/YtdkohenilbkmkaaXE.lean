/- By hand: what cmp.Compare answers of two strings. For every two strings and every world. -/
import Derived.Test.YtdkohenilbkmkaaProg
import Derived.WalkKit
import Derived.WalkLawsBesides
import Derived.Test.YtdkohenilbkmkaaWMore
set_option linter.unusedVariables false
set_option linter.unusedSimpArgs false
namespace Go.Proofs.Ytdkohenilbkmkaa.XE
open Go.RowKit Go.Proofs.YtdkohenilbkmkaaW.PrintWords Go.Proofs.YtdkohenilbkmkaaW.PrintLast Go.Proofs.YtdkohenilbkmkaaW.PrintMore

def cmp_Compare_string.f (a0 : ByteArray) (a1 : ByteArray) : Option Int :=
  some (if Op.bytesLess a0.toList a1.toList = true then -1 else if (a0.toList == a1.toList) = true then 0 else 1)
set_option maxHeartbeats 400000 in
theorem cmp_Compare_string.calls (a0 : ByteArray) (a1 : ByteArray) (r : Int) (w : World) (h : cmp_Compare_string.f a0 a1 = some r) :
    Calls Try.prog 32 #[.string a0, .string a1] w fun e w' => e = .returned (.int .i64 r) ∧ Drawn0 w w' := by
  obtain rfl := Option.some.inj h
  clear h
  by_cases h1 : Op.bytesLess a0.toList a1.toList = true
  · rw [if_pos h1]
    go_enter Try.func32, Try.ntmps32
    go_wp2
    go_ret
    exact ⟨rfl, by repeat (first | exact Drawn0.refl _ | apply Drawn0.step)⟩
  · rw [if_neg h1]
    have h1' : Op.bytesLess a0.toList a1.toList = false := by simpa using h1
    clear h1
    by_cases h2 : (a0.toList == a1.toList) = true
    · rw [if_pos h2]
      go_enter Try.func32, Try.ntmps32
      go_wp2
      go_ret
      exact ⟨rfl, by repeat (first | exact Drawn0.refl _ | apply Drawn0.step)⟩
    · rw [if_neg h2]
      have h2' : (a0.toList == a1.toList) = false := by simpa using h2
      clear h2
      go_enter Try.func32, Try.ntmps32
      go_wp2
      go_ret
      exact ⟨rfl, by repeat (first | exact Drawn0.refl _ | apply Drawn0.step)⟩
end Go.Proofs.Ytdkohenilbkmkaa.XE

/- '>' of texts, in the spelling that the printed texts ask for. -/
import Derived.Test.YtfiomfcejmmbgaaKeys
import Derived.Laws.Strings
set_option linter.unusedVariables false
namespace Go.Proofs.Ytfiomfcejmmbgaa.XT
open Go Go.Proofs.Ytfiomfcejmmbgaa.Keys
@[go_sem] theorem binOp_gtr_less (t : TypeId) (a b : ByteArray) : binOp .gtr t (.string a) (.string b) = pure (.bool (Op.bytesLess b.toList a.toList)) := by
  have h : (!(Op.bytesLess a.toList b.toList || a.toList == b.toList)) = Op.bytesLess b.toList a.toList := by
    rcases less_tri a.toList b.toList with h | h | h
    · rw [h, less_asymm h]; rfl
    · rw [h, less_irrefl]; simp
    · rw [h, less_asymm h, show (a.toList == b.toList) = false from beq_eq_false_iff_ne.mpr (less_ne h).symm]; rfl
  rw [← h]
  simp [binOp, Op.stringOp]
end Go.Proofs.Ytfiomfcejmmbgaa.XT

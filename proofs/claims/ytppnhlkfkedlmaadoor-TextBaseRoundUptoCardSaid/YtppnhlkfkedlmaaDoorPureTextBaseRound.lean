/- TextBaseRound, pure: what is left when the law is walked. -/
import Derived.Test.YtppnhlkfkedlmaaDoorQTextBaseRound
import Derived.Test.YtppnhlkfkedlmaaDoorBaseRoundW
namespace Go.Proofs.YtppnhlkfkedlmaaDoor.Pure
open Go.RowKit Go.Proofs.YtppnhlkfkedlmaaDoor.BaseRoundW
theorem TextBaseRound : QTextBaseRound.Pure := by
  intro x0 x1 x2 _ h1 h2 hk
  have r1 : -9223372036854775808 ≤ x1 ∧ x1 ≤ 9223372036854775807 := by simp [Lit.wf, IntKind.min, IntKind.max, IntKind.signed, IntKind.bits] at h1; omega
  have r2 : 0 ≤ x2 ∧ x2 ≤ 255 := by simp [Lit.wf, IntKind.min, IntKind.max, IntKind.signed, IntKind.bits] at h2; omega
  unfold rosterlaw01_TextBaseRound.f
  exact if_pos ⟨by omega, r1, r2⟩
end Go.Proofs.YtppnhlkfkedlmaaDoor.Pure

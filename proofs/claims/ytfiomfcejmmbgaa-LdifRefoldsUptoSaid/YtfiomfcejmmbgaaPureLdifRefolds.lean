/- LdifRefolds, pure: what is left when the law is walked. -/
import Derived.Test.YtfiomfcejmmbgaaQLdifRefolds
namespace Go.Proofs.Ytfiomfcejmmbgaa.Pure
open Go Go.RowKit Go.Proofs.Ytfiomfcejmmbgaa.XL
theorem LdifRefolds : QLdifRefolds.Pure := by
  intro x0 x1 f0 f1 hb
  unfold rosterlaw07_LdifRefolds.f
  have r1 : -9223372036854775808 ≤ x1 ∧ x1 ≤ 9223372036854775807 := by simp [Lit.wf, IntKind.min, IntKind.max, IntKind.signed, IntKind.bits] at f1; omega
  exact if_pos ⟨by omega, r1.2⟩
end Go.Proofs.Ytfiomfcejmmbgaa.Pure

/- LdifLines, pure: what is left when the law is walked. -/
import Derived.Test.YtfiomfcejmmbgaaQLdifLines
namespace Go.Proofs.Ytfiomfcejmmbgaa.Pure
open Go.RowKit Go.Proofs.Ytfiomfcejmmbgaa.XL
theorem LdifLines : QLdifLines.Pure := by
  intro x0 f0 hb
  unfold rosterlaw07_LdifLines.f
  exact if_pos (by omega)
end Go.Proofs.Ytfiomfcejmmbgaa.Pure

/- IndexGrams, pure: what is left when the law is walked. -/
import Derived.Test.YtfiomfcejmmbgaaQIndexGrams
namespace Go.Proofs.Ytfiomfcejmmbgaa.Pure
open Go Go.RowKit Go.Proofs.Ytfiomfcejmmbgaa.XI
theorem IndexGrams : QIndexGrams.Pure := by
  intro x0 x1 f0 f1 hb
  unfold rosterlaw11_IndexGrams.f
  exact if_pos ⟨by omega, by omega⟩
end Go.Proofs.Ytfiomfcejmmbgaa.Pure

/- TextPoints, pure: the statement as the row asks it. -/
import Derived.Test.YtjkhdiphcgpbfaaQTextPoints
import Derived.Test.YtjkhdiphcgpbfaaPointsEv
namespace Go.Proofs.Ytjkhdiphcgpbfaa.Pure
theorem TextPoints : QTextPoints.Pure := by
  intro x0 x1 f0 f1
  exact PointsEv.TextPoints x0 x1 f0.2.1 f0.1 f0.2.2 f1.2.1 f1.1 f1.2.2
end Go.Proofs.Ytjkhdiphcgpbfaa.Pure

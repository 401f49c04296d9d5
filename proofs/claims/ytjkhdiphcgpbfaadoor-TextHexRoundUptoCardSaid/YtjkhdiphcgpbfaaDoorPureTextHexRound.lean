/- TextHexRound, pure: what is left when the law is walked. -/
import Derived.Test.YtjkhdiphcgpbfaaDoorQTextHexRound
import Derived.Test.YtjkhdiphcgpbfaaDoorRoundW
namespace Go.Proofs.YtjkhdiphcgpbfaaDoor.Pure
open Go.RowKit Go.Proofs.YtjkhdiphcgpbfaaDoor.RoundW
theorem TextHexRound : QTextHexRound.Pure := by
  intro x0 x1 _ _ hk
  unfold rosterlaw01_TextHexRound.f
  exact if_pos (by omega)
end Go.Proofs.YtjkhdiphcgpbfaaDoor.Pure

/- TextChecks, pure. -/
import Derived.Test.YtjkhdiphcgpbfaaDoorQTextChecks
import Derived.Test.YtjkhdiphcgpbfaaDoorSeqEv
import Derived.Test.YtjkhdiphcgpbfaaDoorUtfEvC
namespace Go.Proofs.YtjkhdiphcgpbfaaDoor.Pure
open Go.RowKit Go.Proofs.YtjkhdiphcgpbfaaDoor.XC Go.Proofs.YtjkhdiphcgpbfaaDoor.XV Go.Proofs.YtjkhdiphcgpbfaaDoorW.PrintWords
theorem TextChecks : QTextChecks.Pure := by
  intro a h
  refine Ev.rounds (g := fun k => rosterlaw01_TextChecks.f k a) ?_
  simp only [rosterlaw01_TextChecks.f, rosterlaw01_num.f, Option.bind_some]
  refine Ev.bind (UtfEvC.check_ev a (by omega)) (Ev.bind (SeqEv.check_ev a (by omega)) (ev_pos rfl (ev_eq ?_)))
  simp
end Go.Proofs.YtjkhdiphcgpbfaaDoor.Pure

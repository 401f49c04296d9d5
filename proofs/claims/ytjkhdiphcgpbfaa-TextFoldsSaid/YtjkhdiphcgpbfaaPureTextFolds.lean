/- TextFolds, pure. -/
import Derived.Test.YtjkhdiphcgpbfaaQTextFolds
import Derived.Test.YtjkhdiphcgpbfaaNormEv
namespace Go.Proofs.Ytjkhdiphcgpbfaa.Pure
open Go.RowKit Go.Proofs.Ytjkhdiphcgpbfaa.X Go.Proofs.Ytjkhdiphcgpbfaa.XV Go.Proofs.Ytjkhdiphcgpbfaa.NormEv Go.Proofs.YtjkhdiphcgpbfaaW.PrintWords
theorem TextFolds : QTextFolds.Pure := by
  intro a h
  refine Ev.rounds (g := fun k => rosterlaw01_TextFolds.f k a) ?_
  simp only [rosterlaw01_TextFolds.f]
  rw [fold_at a (by omega)]
  simp only [Option.bind_some]
  refine Ev.bind (rfold_at a h) (ev_pos rfl (Ev.bind (col_at a h) (Ev.bind (rcol_at a h) (ev_round ?_))))
  simp only [rosterlaw01_TextFolds.j0, bne_self_eq_false]
  refine ev_neg (by decide) (Ev.bind (squeeze_at a h) (Ev.bind (rsqueeze_at a h) (ev_pos rfl (Ev.bind (normal_at a h) (Ev.bind (rnormal_at a h) (ev_eq ?_))))))
  simp
end Go.Proofs.Ytjkhdiphcgpbfaa.Pure

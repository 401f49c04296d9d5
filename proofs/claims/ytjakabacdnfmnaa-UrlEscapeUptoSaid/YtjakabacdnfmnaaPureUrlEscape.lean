/- UrlEscape, pure: what the printed functions answer is the same. For texts of bulk at most 1048576. -/
import Derived.Test.YtjakabacdnfmnaaQUrlEscape
import Derived.Test.YtjakabacdnfmnaaUrlEv
namespace Go.Proofs.Ytjakabacdnfmnaa.Pure
open Go.RowKit Go.Proofs.Ytjakabacdnfmnaa.XU Go.Proofs.Ytjakabacdnfmnaa.XV Go.Proofs.Ytjakabacdnfmnaa.UrlD Go.Proofs.Ytjakabacdnfmnaa.UrlW Go.Proofs.Ytjakabacdnfmnaa.UrlEv Go.Proofs.YtjakabacdnfmnaaW.PrintWords Go.Proofs.YtjakabacdnfmnaaW.PrintLast
theorem UrlEscape : QUrlEscape.Pure := by
  intro x0 x1 f0 f1 hb
  refine Ev.rounds ?_
  simp only [rosterlaw18_UrlEscape.f]
  rw [esc_at x0 (by omega), une_at x1 (by omega)]
  simp only [Option.bind_some]
  refine Ev.bind (resc_at x0 (by omega)) (Ev.bind (rune_at x1 (by omega)) ?_)
  exact ev_pos rfl (ev_pos rfl (ev_pos rfl (ev_eq (by simp))))
end Go.Proofs.Ytjakabacdnfmnaa.Pure

/- TextBases, pure. -/
import Derived.Test.YtppnhlkfkedlmaaDoorQTextBases
import Derived.Test.YtppnhlkfkedlmaaDoorBasesEvX
namespace Go.Proofs.YtppnhlkfkedlmaaDoor.Pure
open Go.RowKit Go.Proofs.YtppnhlkfkedlmaaDoor.X Go.Proofs.YtppnhlkfkedlmaaDoor.XV Go.Proofs.YtppnhlkfkedlmaaDoor.L64 Go.Proofs.YtppnhlkfkedlmaaDoor.Dec Go.Proofs.YtppnhlkfkedlmaaDoor.B64EvX Go.Proofs.YtppnhlkfkedlmaaDoor.BasesEvX Go.Proofs.YtppnhlkfkedlmaaDoorW.PrintWords Go.Proofs.YtppnhlkfkedlmaaDoorW.PrintLast
theorem TextBases : QTextBases.Pure := by
  intro s hs hk
  refine Ev.rounds (g := fun k => rosterlaw01_TextBases.f k s) ?_
  simp only [rosterlaw01_TextBases.f]
  have hl : (b64 (bytesOf s)).length ≤ 2 * s.size + 4 := by have := b64_le (bytesOf s); rw [bytesOf_length] at this; exact this
  refine Ev.bind (base64_at s (by omega)) (Ev.bind (rbase64_at s (by omega)) (ev_pos rfl (Ev.bind (unbases_at s (by omega)) (ev_pos rfl (Ev.bind (rbase64_at s (by omega)) (ev_bindsome ?_))))))
  exact unbases_at _ (by rw [strOfNums_size]; omega)
end Go.Proofs.YtppnhlkfkedlmaaDoor.Pure

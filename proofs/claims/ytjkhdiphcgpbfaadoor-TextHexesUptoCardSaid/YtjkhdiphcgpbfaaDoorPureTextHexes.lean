/- TextHexes, pure. -/
import Derived.Test.YtjkhdiphcgpbfaaDoorQTextHexes
import Derived.Test.YtjkhdiphcgpbfaaDoorHexEv
namespace Go.Proofs.YtjkhdiphcgpbfaaDoor.Pure
open Go.RowKit Go.Proofs.YtjkhdiphcgpbfaaDoor.X Go.Proofs.YtjkhdiphcgpbfaaDoor.XV Go.Proofs.YtjkhdiphcgpbfaaDoor.HexEv Go.Proofs.YtjkhdiphcgpbfaaDoorW.PrintWords
theorem TextHexes : QTextHexes.Pure := by
  intro a h hk
  refine Ev.rounds (g := fun k => rosterlaw01_TextHexes.f k a) ?_
  have hx := rhex_at a (by omega)
  simp only [rosterlaw01_TextHexes.f]
  refine Ev.bind (hex_at a (by omega)) (Ev.bind hx (ev_pos rfl (Ev.bind (unhexes_at a (by omega)) (ev_pos rfl (Ev.bind hx (ev_bindsome (unhexes_at _ ?_)))))))
  rw [strOfNums_size, hex_len, bytesOf_length]
  omega
end Go.Proofs.YtjkhdiphcgpbfaaDoor.Pure

/- DitStops, pure: what is left when the law is walked: the sizes. -/
import Derived.Test.YtnogmaljcocfjaaDoorQDitStops
import Derived.Test.YtnogmaljcocfjaaDoorPkF
namespace Go.Proofs.YtnogmaljcocfjaaDoor.Pure
open Go.RowKit Go.Proofs.YtnogmaljcocfjaaDoor.XK Go.Proofs.YtnogmaljcocfjaaDoor.DitGr
theorem DitStops : QDitStops.Pure := by
  intro x0 x1 x2 x3 h0 h1 h2 h3 hb
  unfold rosterlaw09_DitStops.f
  exact if_pos ⟨inok (fun x hx => (h1.2.2 x hx).1) (Nat.le_refl 1048574) (by omega), h2, h3⟩
end Go.Proofs.YtnogmaljcocfjaaDoor.Pure

/- DitAnyOrder, pure: what is left when the law is walked: the sizes. -/
import Derived.Test.YtnogmaljcocfjaaDoorQDitAnyOrder
import Derived.Test.YtnogmaljcocfjaaDoorPkF
namespace Go.Proofs.YtnogmaljcocfjaaDoor.Pure
open Go.RowKit Go.Proofs.YtnogmaljcocfjaaDoor.XK
theorem DitAnyOrder : QDitAnyOrder.Pure := by
  intro x0 x1 h0 h1 hb
  unfold rosterlaw09_DitAnyOrder.f
  exact if_pos (DitGr.inok (fun x hx => (h1.2.2 x hx).1) (Nat.le_refl 1048574) (by omega))
end Go.Proofs.YtnogmaljcocfjaaDoor.Pure

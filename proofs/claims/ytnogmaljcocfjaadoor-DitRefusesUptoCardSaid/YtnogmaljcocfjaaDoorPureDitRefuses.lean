/- DitRefuses, pure: what is left when the law is walked: the sizes. -/
import Derived.Test.YtnogmaljcocfjaaDoorQDitRefuses
import Derived.Test.YtnogmaljcocfjaaDoorPkF
namespace Go.Proofs.YtnogmaljcocfjaaDoor.Pure
open Go.RowKit Go.Proofs.YtnogmaljcocfjaaDoor.XK Go.Proofs.YtnogmaljcocfjaaDoor.DitGr
theorem DitRefuses : QDitRefuses.Pure := by
  intro x0 x1 x2 x3 h0 h1 h2 h3 hb
  unfold rosterlaw09_DitRefuses.f
  have a0 := sum_len (fun x_ : ByteArray => x_.size + 1) x0 (fun _ => by omega)
  have a1 := sum_len (fun x_ : S86 => 1 + (x_.f1.size + 1) + 1) x1 (fun _ => by omega)
  have b0 := bulk_le x0
  have b1 := sum_mul (fun k : S86 => k.f1.size + 22) (fun x_ : S86 => 1 + (x_.f1.size + 1) + 1) x1 (fun x => by omega)
  exact if_pos ⟨inok (fun x hx => (h1.2.2 x hx).1) (Nat.le_refl 1048574) (by omega), by omega, by omega, by omega, h2⟩
end Go.Proofs.YtnogmaljcocfjaaDoor.Pure

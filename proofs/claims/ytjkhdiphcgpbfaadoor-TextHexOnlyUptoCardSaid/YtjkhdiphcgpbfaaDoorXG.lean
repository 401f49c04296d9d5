/- The program's tables of whole numbers, as the walks read them. -/
import Derived.Test.YtjkhdiphcgpbfaaDoorWWords
import Derived.Test.YtjkhdiphcgpbfaaDoorRows
import Derived.Lib.LaidTab
namespace Go.Proofs.YtjkhdiphcgpbfaaDoor.XG
open Go.RowKit Go.Proofs.YtjkhdiphcgpbfaaDoorW.PrintWords
def hexL : List Int := [48, 49, 50, 51, 52, 53, 54, 55, 56, 57, 97, 98, 99, 100, 101, 102]
structure Tabs (w : World) : Prop where
  t1 : (Kd.int .u8).C w (some ⟨1, 0, none⟩) 16 hexL
theorem Tabs_at {w w' : World} (h : Tabs w) (hb : Below w.heap.size w w') : Tabs w' := ⟨Kd.C_below h.t1 hb⟩
theorem Tabs_1 {w : World} (h : Tabs w) : (Kd.int .u8).C w (some ⟨1, 0, none⟩) 16 hexL := h.t1
end Go.Proofs.YtjkhdiphcgpbfaaDoor.XG

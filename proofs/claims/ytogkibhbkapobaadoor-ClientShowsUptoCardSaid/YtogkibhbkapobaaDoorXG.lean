/- The program's tables of whole numbers, as the walks read them. -/
import Derived.Test.YtogkibhbkapobaaDoorWWords
import Derived.Test.YtogkibhbkapobaaDoorRows
import Derived.Lib.LaidTab
set_option linter.unusedSimpArgs false
namespace Go.Proofs.YtogkibhbkapobaaDoor.XG
open Go.RowKit Go.Proofs.YtogkibhbkapobaaDoorW.PrintWords
theorem add_flat (g i j : Nat) : (⟨g, i, none⟩ : Addr).add j = ⟨g, i + j, none⟩ := by unfold Addr.add; by_cases h : j = 0 <;> simp [h]
/-- A row of a table of rows, each of m numbers. -/
theorem row_of {w : World} {k : IntKind} {g m n : Nat} {l : List Int} (hm : m ≤ 4096) (h : (Kd.int k).C w (some ⟨g, 0, none⟩) (n * m) l) (r : Nat) (hr : r < n) {L : List Int} (hl : L.length = m) (hL : ∀ j, j < m → L.getD j 0 = l.getD (r * m + j) 0) : (Kd.int k).C w (some ⟨g, r * m, none⟩) m L := by
  have h' : (Kd.scalar (Value.int k) (fun _ => rfl)).C w (some ⟨g, 0, none⟩) (n * m) l := h
  obtain ⟨h1, h2, h3⟩ := Kd.reads_of_C (d := (0 : Int)) h'
  have hle : r * m + m ≤ n * m := by have := Nat.mul_le_mul_right m (show r + 1 ≤ n from hr); rwa [Nat.add_mul, Nat.one_mul] at this
  refine Kd.C_of_reads (enc := Value.int k) (d := (0 : Int)) ⟨hl, by omega, fun hp => ⟨_, rfl, fun j hj => ?_⟩⟩
  obtain ⟨ad, e, hc⟩ := h3 (by omega)
  obtain rfl := Option.some.inj e
  have := hc (r * m + j) (by omega)
  rw [add_flat] at this ⊢
  rw [show 0 + (r * m + j) = r * m + j from Nat.zero_add _] at this
  rw [this, hL j hj]
def let64L : List Int := [65, 66, 67, 68, 69, 70, 71, 72, 73, 74, 75, 76, 77, 78, 79, 80, 81, 82, 83, 84, 85, 86, 87, 88, 89, 90, 97, 98, 99, 100, 101, 102, 103, 104, 105, 106, 107, 108, 109, 110, 111, 112, 113, 114, 115, 116, 117, 118, 119, 120, 121, 122, 48, 49, 50, 51, 52, 53, 54, 55, 56, 57, 43, 47]
structure Tabs (w : World) : Prop where
  t1 : (Kd.int .u8).C w (some ⟨1, 0, none⟩) 64 let64L
theorem Tabs_at {w w' : World} (h : Tabs w) (hb : Below w.heap.size w w') : Tabs w' := ⟨Kd.C_below h.t1 hb⟩
theorem Tabs_1 {w : World} (h : Tabs w) : (Kd.int .u8).C w (some ⟨1, 0, none⟩) 64 let64L := h.t1
end Go.Proofs.YtogkibhbkapobaaDoor.XG

/- The program's tables of whole numbers, as the walks read them. -/
import Derived.Test.YtppnhlkfkedlmaaDoorWWords
import Derived.Test.YtppnhlkfkedlmaaDoorRows
import Derived.Lib.LaidTab
set_option linter.unusedSimpArgs false
namespace Go.Proofs.YtppnhlkfkedlmaaDoor.XGA
open Go.RowKit Go.Proofs.YtppnhlkfkedlmaaDoorW.PrintWords
theorem add_flat (g i j : Nat) : (⟨g, i, none⟩ : Addr).add j = ⟨g, i + j, none⟩ := by unfold Addr.add; by_cases h : j = 0 <;> simp [h]
/-- A row of a table of rows, each of m numbers. -/
theorem row_of {w : World} {k : IntKind} {g m n : Nat} {l : List Int} (hm : m ≤ 4096) (h : (Kd.int k).C w (some ⟨g, 0, none⟩) (n * m) l) (r : Nat) (hr : r < n) {L : List Int} (hl : L.length = m) (hL : ∀ j, j < m → L.getD j 0 = l.getD (r * m + j) 0) : (Kd.int k).C w (some ⟨g, r * m, none⟩) m L := by
  have h' : (Kd.scalar (Value.int k) (fun _ => rfl)).C w (some ⟨g, 0, none⟩) (n * m) l := h
  obtain ⟨h1, h2, h3⟩ := Kd.reads_of_C (d := (0 : Int)) h'
  have hle : r * m + m ≤ n * m := by have := Nat.mul_le_mul_right m (show r + 1 ≤ n from hr); rwa [Nat.add_mul, Nat.one_mul] at this
  refine Kd.C_of_reads (enc := Value.int k) (d := (0 : Int)) ⟨hl, by omega, fun hp => ⟨_, rfl, fun j hj => ?_⟩⟩
  obtain ⟨ad, e, hc⟩ := h3 (by omega)
  obtain rfl := Option.some.inj e
  have := hc (r * m + j) (by omega)
  rw [add_flat] at this ⊢
  rw [show 0 + (r * m + j) = r * m + j from Nat.zero_add _] at this
  rw [this, hL j hj]
def let64L : List Int := [65, 66, 67, 68, 69, 70, 71, 72, 73, 74, 75, 76, 77, 78, 79, 80, 81, 82, 83, 84, 85, 86, 87, 88, 89, 90, 97, 98, 99, 100, 101, 102, 103, 104, 105, 106, 107, 108, 109, 110, 111, 112, 113, 114, 115, 116, 117, 118, 119, 120, 121, 122, 48, 49, 50, 51, 52, 53, 54, 55, 56, 57, 43, 47]
def hexL : List Int := [48, 49, 50, 51, 52, 53, 54, 55, 56, 57, 97, 98, 99, 100, 101, 102]
def rowsL : List Int := [1, 0, 127, 0, 0, 0, 0, 0, 0, 2, 194, 223, 128, 191, 0, 0, 0, 0, 3, 224, 224, 160, 191, 128, 191, 0, 0, 3, 225, 236, 128, 191, 128, 191, 0, 0, 3, 237, 237, 128, 159, 128, 191, 0, 0, 3, 238, 239, 128, 191, 128, 191, 0, 0, 4, 240, 240, 144, 191, 128, 191, 128, 191, 4, 241, 243, 128, 191, 128, 191, 128, 191, 4, 244, 244, 128, 143, 128, 191, 128, 191]
def rowsLL : List (List Int) := [[1, 0, 127, 0, 0, 0, 0, 0, 0], [2, 194, 223, 128, 191, 0, 0, 0, 0], [3, 224, 224, 160, 191, 128, 191, 0, 0], [3, 225, 236, 128, 191, 128, 191, 0, 0], [3, 237, 237, 128, 159, 128, 191, 0, 0], [3, 238, 239, 128, 191, 128, 191, 0, 0], [4, 240, 240, 144, 191, 128, 191, 128, 191], [4, 241, 243, 128, 191, 128, 191, 128, 191], [4, 244, 244, 128, 143, 128, 191, 128, 191]]
structure Tabs (w : World) : Prop where
  t0 : (Kd.int .u8).C w (some ⟨0, 0, none⟩) 64 let64L
  t1 : (Kd.int .u8).C w (some ⟨1, 0, none⟩) 16 hexL
  t2 : (Kd.int .i64).C w (some ⟨2, 0, none⟩) 81 rowsL
theorem Tabs_at {w w' : World} (h : Tabs w) (hb : Below w.heap.size w w') : Tabs w' := ⟨Kd.C_below h.t0 hb, Kd.C_below h.t1 hb, Kd.C_below h.t2 hb⟩
theorem Tabs_0 {w : World} (h : Tabs w) : (Kd.int .u8).C w (some ⟨0, 0, none⟩) 64 let64L := h.t0
theorem Tabs_1 {w : World} (h : Tabs w) : (Kd.int .u8).C w (some ⟨1, 0, none⟩) 16 hexL := h.t1
def rowL2 (r : Int) : List Int := [rowsL.getD (r.toNat * 9 + 0) 0, rowsL.getD (r.toNat * 9 + 1) 0, rowsL.getD (r.toNat * 9 + 2) 0, rowsL.getD (r.toNat * 9 + 3) 0, rowsL.getD (r.toNat * 9 + 4) 0, rowsL.getD (r.toNat * 9 + 5) 0, rowsL.getD (r.toNat * 9 + 6) 0, rowsL.getD (r.toNat * 9 + 7) 0, rowsL.getD (r.toNat * 9 + 8) 0]
theorem Tabs_2 {w : World} (h : Tabs w) (r : Int) (h0 : 0 ≤ r) (h1 : r < 9) : (Kd.int .i64).C w (some ⟨2, r.toNat * 9, none⟩) 9 (rowL2 r) := row_of (w := w) (n := 9) (m := 9) (by decide) h.t2 r.toNat (by omega) rfl (fun j hj => by
  rcases (show j = 0 ∨ j = 1 ∨ j = 2 ∨ j = 3 ∨ j = 4 ∨ j = 5 ∨ j = 6 ∨ j = 7 ∨ j = 8 by omega) with rfl | rfl | rfl | rfl | rfl | rfl | rfl | rfl | rfl <;> rfl)
end Go.Proofs.YtppnhlkfkedlmaaDoor.XGA

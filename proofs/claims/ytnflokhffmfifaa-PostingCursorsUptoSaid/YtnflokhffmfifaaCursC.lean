/- For the law PostingCursors: where the script begins. -/
import Derived.Test.YtnflokhffmfifaaCursB
set_option linter.unusedVariables false
set_option linter.unusedSimpArgs false
namespace Go.Proofs.Ytnflokhffmfifaa.CursW
open Go.RowKit Go.Proofs.Ytnflokhffmfifaa.Blk Go.Proofs.Ytnflokhffmfifaa.Ris Go.Proofs.Ytnflokhffmfifaa.Cur Go.Proofs.Ytnflokhffmfifaa.OfW Go.Proofs.Ytnflokhffmfifaa.RefCur Go.Proofs.YtnflokhffmfifaaW.PrintWords Go.Proofs.YtnflokhffmfifaaW.PrintLast Go.Proofs.YtnflokhffmfifaaW.PrintMore
theorem lw_start {w w8 W1 W2 wr W3 W4 : World} {g1 pc gc pd gd gm go_ cm co : Nat} {Bm Bo : Option Addr} {s : List Int} (h8 : Below w.heap.size w w8) (hg1 : w.heap.size ≤ g1) (hg8 : g1 < w8.heap.size)
    (q1 : Cur W1 pc gc s) (q2 : w8.heap.size ≤ pc ∧ pc < W1.heap.size) (q3 : 0 < s.length → w8.heap.size ≤ gc ∧ gc < pc) (q4 : Below w8.heap.size w8 W1)
    (r1 : Cur W2 pd gd s) (r2 : W1.heap.size ≤ pd ∧ pd < W2.heap.size) (r3 : 0 < s.length → W1.heap.size ≤ gd ∧ gd < pd) (r4 : Below W1.heap.size W1 W2)
    (v : W2.grownBy wr (some g1)) (m1 : Row W3 gm Bm cm s) (m2 : 0 < s.length → wr.heap.size ≤ gm ∧ gm < W3.heap.size) (m3 : Below wr.heap.size wr W3)
    (o1 : Row W4 go_ Bo co s) (o2 : 0 < s.length → (W3.alloc (.cells #[.slice Bm s.length cm, .int .i64 0] 27)).heap.size ≤ go_ ∧ go_ < W4.heap.size) (o3 : Below (W3.alloc (.cells #[.slice Bm s.length cm, .int .i64 0] 27)).heap.size (W3.alloc (.cells #[.slice Bm s.length cm, .int .i64 0] 27)) W4) :
    LW w pc gc pd gd W3.heap.size gm W4.heap.size go_ s 0 0 (W4.alloc (.cells #[.slice Bo s.length co, .int .i64 0] 27)) := by
  have z8 := h8.size
  have z1 := q4.size
  have z2 := r4.size
  have zr := v.size
  have z3 := m3.size
  have z4 := o3.size
  have za : (W3.alloc (.cells #[.slice Bm s.length cm, .int .i64 0] 27)).heap.size = W3.heap.size + 1 := by simp
  rw [za] at z4 o2
  have b3 : Below W3.heap.size W3 (W4.alloc (.cells #[.slice Bo s.length co, .int .i64 0] 27)) := below_alloc ((below_alloc (Below.refl _ _) _).trans (o3.mono (by rw [za]; omega))) _
  have br : Below wr.heap.size wr (W4.alloc (.cells #[.slice Bo s.length co, .int .i64 0] 27)) := m3.trans (b3.mono z3)
  have b2 : Below w.heap.size w W2 := (h8.trans (q4.mono z8)).trans (r4.mono (by omega))
  have bw : Below w.heap.size w wr := below_grown b2 v hg1
  have k : ∀ q, q < W2.heap.size → q ≠ g1 → (W4.alloc (.cells #[.slice Bo s.length co, .int .i64 0] 27)).heap[q]? = W2.heap[q]? := fun q h1 h2 => (br.block q (by omega)).trans (grown_on v h1 h2)
  refine ⟨?_, ?_, ⟨Bm, cm, ?_, ?_⟩, ⟨Bo, co, ?_, ?_⟩, bw.trans (br.mono bw.size), by omega, ?_, by omega, fun h0 g hg => ?_, Nat.zero_le _, Nat.zero_le _⟩
  · rw [List.drop_zero]
    exact (q1.on (r4.block _ q2.2) (fun h0 => r4.block _ (by have := q3 h0; omega))).on (k _ (by omega) (by omega)) (fun h0 => k _ (by have := q3 h0; omega) (by have := q3 h0; omega))
  · rw [List.drop_zero]
    exact r1.on (k _ (by omega) (by omega)) (fun h0 => k _ (by have := r3 h0; omega) (by have := r3 h0; omega))
  · exact ((Blk.At.fresh W3 [.slice Bm s.length cm, .int .i64 0] 27).below o3 (by rw [za]; omega)).alloc _
  · exact m1.on (fun h0 => b3.block _ (m2 h0).2)
  · exact Blk.At.fresh W4 [.slice Bo s.length co, .int .i64 0] 27
  · exact o1.on (fun h0 => Below.heap_alloc _ _ _ (o2 h0).2)
  · simp; omega
  · have a1 := q3 h0
    have a2 := r3 h0
    have a3 := m2 h0
    have a4 := o2 h0
    have zz : (W4.alloc (.cells #[.slice Bo s.length co, .int .i64 0] 27)).heap.size = W4.heap.size + 1 := by simp
    rw [zz]
    omega
end Go.Proofs.Ytnflokhffmfifaa.CursW

/- By hand: NewCursor, at texts. -/
import Derived.Test.YtnflokhffmfifaaCurSkipT
set_option linter.unusedVariables false
set_option linter.unusedSimpArgs false
namespace Go.Proofs.Ytnflokhffmfifaa.OfT
open Go.RowKit Go.Proofs.Ytnflokhffmfifaa.Blk Go.Proofs.Ytnflokhffmfifaa.Ris Go.Proofs.Ytnflokhffmfifaa.Keys Go.Proofs.YtnflokhffmfifaaW.PrintWords Go.Proofs.YtnflokhffmfifaaW.PrintLast Go.Proofs.YtnflokhffmfifaaW.PrintMore
/-- What NewCursor answers. -/
def NewQ (w : World) (l : List ByteArray) (e : Ending) (w' : World) : Prop := ∃ p g, e = .returned (.pointer (some ⟨p, 0, none⟩)) ∧ Cur w' p g (setL ltS l) ∧ w.heap.size ≤ p ∧ p < w'.heap.size ∧ (0 < (setL ltS l).length → w.heap.size ≤ g ∧ g < p) ∧ Below w.heap.size w w'
theorem new_as (A : Option Addr) (c : Nat) (l : List ByteArray) (w : World) (h : Kd.C Kd.string w A l.length l) (hn : l.length ≤ 1048576) : Calls Try.prog 64 #[.slice A l.length c] w (NewQ w l) := by
  have K := Lib.hid (of_as A c l w h hn)
  clear h
  go_enter Try.func64, Try.ntmps64
  go_wp2_with (first | (go_at_call 40; ((with_reducible refine K.out.mono ?_); rintro e W1 ⟨g, B, cc, rfl, hq1, hq2, hq3⟩; have HQ := Lib.hid (And.intro hq1 (And.intro hq2 hq3)); clear hq1 hq2 hq3)) | go_in)
  go_ret
  have hf := Blk.At.fresh W1 [.slice B (setL ltS l).length cc] 108
  refine ⟨W1.heap.size, g, rfl, ⟨B, cc, hf, HQ.out.1.on (fun hp => ?_), fun hp => ?_⟩, HQ.out.2.2.size, by simp, fun hp => HQ.out.2.1 hp, below_alloc HQ.out.2.2 _⟩
  · exact Below.heap_alloc _ _ _ (HQ.out.2.1 hp).2
  · have := (HQ.out.2.1 hp).2; omega
end Go.Proofs.Ytnflokhffmfifaa.OfT

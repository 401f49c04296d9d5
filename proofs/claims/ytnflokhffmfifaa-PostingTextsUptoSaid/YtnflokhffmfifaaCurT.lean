/- By hand: a cursor over a row of texts; Here. For every row and world. -/
import Derived.Test.YtnflokhffmfifaaOfTX
set_option linter.unusedVariables false
set_option linter.unusedSimpArgs false
namespace Go.Proofs.Ytnflokhffmfifaa.OfT
open Go.RowKit Go.Proofs.Ytnflokhffmfifaa.Blk Go.Proofs.Ytnflokhffmfifaa.Ris Go.Proofs.Ytnflokhffmfifaa.Keys Go.Proofs.Ytnflokhffmfifaa.XV Go.Proofs.YtnflokhffmfifaaW.PrintWords Go.Proofs.YtnflokhffmfifaaW.PrintLast Go.Proofs.YtnflokhffmfifaaW.PrintMore
/-- Block p is a cursor: what is left of a row in block g. -/
def Cur (w : World) (p g : Nat) (l : List ByteArray) : Prop := ∃ A c, At w p [.slice A l.length c] 108 ∧ Row w g A c l ∧ (0 < l.length → g ≠ p)
theorem Cur.on {w w1 : World} {p g : Nat} {l : List ByteArray} (h : Cur w p g l) (h1 : w1.heap[p]? = w.heap[p]?) (h2 : 0 < l.length → w1.heap[g]? = w.heap[g]?) : Cur w1 p g l := by
  obtain ⟨A, c, e1, e2, e3⟩ := h
  exact ⟨A, c, h1.trans e1, e2.on h2, e3⟩
/-- A cursor goes on by k. -/
theorem Cur.go {w : World} {p g : Nat} {A : Option Addr} {c : Nat} {l : List ByteArray} (h1 : At w p [.slice A l.length c] 108) (h2 : Row w g A c l) (h3 : 0 < l.length → g ≠ p) (k : Nat) (hk : k ≤ l.length) :
    Cur (w.setCell ⟨p, 0, none⟩ (.slice (from_ A c k) (l.length - k) (c - k))) p g (l.drop k) := by
  refine ⟨_, _, ?_, (h2.drop k hk).on (fun hp => ?_), fun hp => h3 (by rw [List.length_drop] at hp; omega)⟩
  · have := h1.set 0 (.slice (from_ A c k) (l.length - k) (c - k))
    rw [List.length_drop]
    simpa using this
  · exact Below.heap_setCell _ _ _ _ (h3 (by rw [List.length_drop] at hp; omega))
theorem here_as (w : World) (p g : Nat) (l : List ByteArray) (h : Cur w p g l) : Calls Try.prog 66 #[.pointer (some ⟨p, 0, none⟩)] w fun e w' => e = .returned (.tuple #[.string (l.getD 0 E), .bool (decide (0 < l.length))]) ∧ Drawn0 w w' := by
  obtain ⟨A, c, h1, h2, h3⟩ := h
  have c0 := h1.get 0 _ rfl
  by_cases hz : 0 < l.length
  · obtain ⟨o, rfl, e3⟩ := h2.at_ hz
    have c1 := e3 0 hz
    have hz' : ((l.length : Int) == 0) = false := beq_eq_false_iff_ne.mpr (by omega)
    rw [decide_eq_true hz]
    generalize l.getD 0 E = v at c1 ⊢
    rw [Nat.add_zero] at c1
    have hp : (0 : Int) < (l.length : Int) := by omega
    clear h1 h2 h3 e3
    go_enter Try.func66, Try.ntmps66
    go_wp2
    go_ret2
    exact ⟨rfl, by repeat (first | exact Drawn0.refl _ | apply Drawn0.step)⟩
  · have hz' : ((l.length : Int) == 0) = true := beq_iff_eq.mpr (by omega)
    have e0 : l.getD 0 E = E := by rw [List.length_eq_zero_iff.1 (by omega : l.length = 0)]; rfl
    rw [decide_eq_false hz, e0]
    clear h1 h2 h3
    go_enter Try.func66, Try.ntmps66
    go_wp2
    go_ret2
    exact ⟨rfl, by repeat (first | exact Drawn0.refl _ | apply Drawn0.step)⟩
end Go.Proofs.Ytnflokhffmfifaa.OfT

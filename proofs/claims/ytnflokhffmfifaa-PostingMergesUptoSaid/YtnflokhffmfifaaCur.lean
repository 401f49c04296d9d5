/- By hand: a row of numbers, a cursor over one; what the cursor's functions do. For every row and world. -/
import Derived.Test.YtnflokhffmfifaaProg
import Derived.Test.YtnflokhffmfifaaWWords
import Derived.Test.YtnflokhffmfifaaWLast
import Derived.Test.YtnflokhffmfifaaWMore
import Derived.Test.YtnflokhffmfifaaBlk
import Derived.Test.YtnflokhffmfifaaRis
import Derived.Lib.Hide
import Derived.Lib.LazyBuf
import Derived.WalkKit
import Derived.KernelRfl
import Derived.BigQuiet
import Derived.WideLaws
import Derived.Deep.QuietTactic
import Derived.Laws.Slices
import Derived.Laws.Rows
import Derived.Laws.MakeOwn
import Derived.Laws.OwnMore
import Derived.OwnWalk
set_option linter.unusedVariables false
set_option linter.unusedSimpArgs false
namespace Go.Proofs.Ytnflokhffmfifaa.Cur
open Go.RowKit Go.Proofs.Ytnflokhffmfifaa.Blk Go.Proofs.Ytnflokhffmfifaa.Ris Go.Proofs.YtnflokhffmfifaaW.PrintWords Go.Proofs.YtnflokhffmfifaaW.PrintLast Go.Proofs.YtnflokhffmfifaaW.PrintMore
theorem add_off (g o k : Nat) : (⟨g, o, none⟩ : Addr).add k = ⟨g, o + k, none⟩ := by
  unfold Addr.add
  by_cases h : k = 0
  · subst h; simp
  · simp [h]
/-- A row of numbers in block g. -/
structure Row (w : World) (g : Nat) (A : Option Addr) (c : Nat) (l : List Int) : Prop where
  cap : l.length ≤ c
  at_ : 0 < l.length → ∃ o, A = some ⟨g, o, none⟩ ∧ ∀ i, i < l.length → w.cell? ⟨g, o + i, none⟩ = some (.int .i64 (l.getD i 0))
/-- The base of a row that is cut from k on. -/
def from_ (A : Option Addr) (c k : Nat) : Option Addr := if c = k then A else A.map (·.add (k * 1))
theorem Row.drop {w : World} {g : Nat} {A : Option Addr} {c : Nat} {l : List Int} (h : Row w g A c l) (k : Nat) (hk : k ≤ l.length) : Row w g (from_ A c k) (c - k) (l.drop k) := by
  refine ⟨by rw [List.length_drop]; have := h.cap; omega, fun hp => ?_⟩
  rw [List.length_drop] at hp
  obtain ⟨o, rfl, e3⟩ := h.at_ (by omega)
  have := h.cap
  unfold from_
  rw [if_neg (by omega)]
  refine ⟨o + k, by rw [Option.map_some, Nat.mul_one, add_off], fun i hi => ?_⟩
  rw [List.length_drop] at hi
  rw [Nat.add_assoc, e3 (k + i) (by omega)]
  congr 2
  simp [List.getD_eq_getElem?_getD, List.getElem?_drop]
theorem Row.take {w : World} {g : Nat} {A : Option Addr} {c : Nat} {l : List Int} (h : Row w g A c l) (k : Nat) (hk : k ≤ l.length) (d : Nat) (hd : k ≤ d) : Row w g A d (l.take k) := by
  have hl : (l.take k).length = k := by rw [List.length_take]; omega
  refine ⟨by omega, fun hp => ?_⟩
  obtain ⟨o, rfl, e3⟩ := h.at_ (by omega)
  refine ⟨o, rfl, fun i hi => ?_⟩
  rw [e3 i (by omega)]
  congr 2
  simp [List.getD_eq_getElem?_getD, List.getElem?_take_of_lt (by omega : i < k)]
/-- What holds the row's block as it was keeps the row. -/
theorem Row.on {w w1 : World} {g : Nat} {A : Option Addr} {c : Nat} {l : List Int} (h : Row w g A c l) (hb : 0 < l.length → w1.heap[g]? = w.heap[g]?) : Row w1 g A c l :=
  ⟨h.cap, fun hp => by
    obtain ⟨o, e1, e3⟩ := h.at_ hp
    exact ⟨o, e1, fun i hi => (World.cell?_of_block (a := ⟨g, o + i, none⟩) (hb hp)).trans (e3 i hi)⟩⟩
/-- Block p is a cursor: what is left of a row in block g. -/
def Cur (w : World) (p g : Nat) (l : List Int) : Prop := ∃ A c, At w p [.slice A l.length c] 75 ∧ Row w g A c l ∧ (0 < l.length → g ≠ p)
theorem Cur.on {w w1 : World} {p g : Nat} {l : List Int} (h : Cur w p g l) (h1 : w1.heap[p]? = w.heap[p]?) (h2 : 0 < l.length → w1.heap[g]? = w.heap[g]?) : Cur w1 p g l := by
  obtain ⟨A, c, e1, e2, e3⟩ := h
  exact ⟨A, c, h1.trans e1, e2.on h2, e3⟩
/-- A cursor goes on by k. -/
theorem Cur.go {w : World} {p g : Nat} {A : Option Addr} {c : Nat} {l : List Int} (h1 : At w p [.slice A l.length c] 75) (h2 : Row w g A c l) (h3 : 0 < l.length → g ≠ p) (k : Nat) (hk : k ≤ l.length) :
    Cur (w.setCell ⟨p, 0, none⟩ (.slice (from_ A c k) (l.length - k) (c - k))) p g (l.drop k) := by
  refine ⟨_, _, ?_, (h2.drop k hk).on (fun hp => ?_), fun hp => h3 (by rw [List.length_drop] at hp; omega)⟩
  · have := h1.set 0 (.slice (from_ A c k) (l.length - k) (c - k))
    rw [List.length_drop]
    simpa using this
  · exact Below.heap_setCell _ _ _ _ (h3 (by rw [List.length_drop] at hp; omega))
theorem info2 : (Try.prog.info? 2).map (fun i => (i.zero, i.size, i.bytes)) = some (some (.int .i64 0), 1, 8) := by kernel_rfl
theorem left_as (w : World) (p g : Nat) (l : List Int) (h : Cur w p g l) : Calls Try.prog 20 #[.pointer (some ⟨p, 0, none⟩)] w fun e w' => e = .returned (.int .i64 (l.length : Int)) ∧ Drawn0 w w' := by
  obtain ⟨A, c, h1, h2, h3⟩ := h
  have c0 := h1.get 0 _ rfl
  clear h1 h2 h3
  go_enter Try.func20, Try.ntmps20
  go_wp2
  go_ret
  exact ⟨rfl, by repeat (first | exact Drawn0.refl _ | apply Drawn0.step)⟩
theorem here_as (w : World) (p g : Nat) (l : List Int) (h : Cur w p g l) : Calls Try.prog 14 #[.pointer (some ⟨p, 0, none⟩)] w fun e w' => e = .returned (.tuple #[.int .i64 (l.getD 0 0), .bool (decide (0 < l.length))]) ∧ Drawn0 w w' := by
  obtain ⟨A, c, h1, h2, h3⟩ := h
  have c0 := h1.get 0 _ rfl
  by_cases hz : 0 < l.length
  · obtain ⟨o, rfl, e3⟩ := h2.at_ hz
    have c1 := e3 0 hz
    have hz' : ((l.length : Int) == 0) = false := beq_eq_false_iff_ne.mpr (by omega)
    rw [decide_eq_true hz]
    generalize l.getD 0 0 = v at c1 ⊢
    rw [Nat.add_zero] at c1
    have hp : (0 : Int) < (l.length : Int) := by omega
    clear h1 h2 h3 e3
    go_enter Try.func14, Try.ntmps14
    go_wp2
    go_ret2
    exact ⟨rfl, by repeat (first | exact Drawn0.refl _ | apply Drawn0.step)⟩
  · have hz' : ((l.length : Int) == 0) = true := beq_iff_eq.mpr (by omega)
    have e0 : l.getD 0 0 = 0 := by rw [List.length_eq_zero_iff.1 (by omega : l.length = 0)]; rfl
    rw [decide_eq_false hz, e0]
    clear h1 h2 h3
    go_enter Try.func14, Try.ntmps14
    go_wp2
    go_ret2
    exact ⟨rfl, by repeat (first | exact Drawn0.refl _ | apply Drawn0.step)⟩
/-- What is but block p as it was. -/
def Wrote (w : World) (p : Nat) (w' : World) : Prop := w.grownBy w' (some p)
theorem cut_run (A : Option Addr) (n c k : Nat) (i : Int) (hi : i = (k : Int)) (hk : k ≤ n) (W : World) : (Instr.slice 22 (.slice A n c) (some (.int .i64 i)) none none).run Try.prog W = .ok (.slice (from_ A c k) (n - k) (c - k)) W := by
  subst hi
  obtain ⟨i0, hi0, _, hsz, _⟩ := info_parts info2
  have := cut_from (P := Try.prog) 22 2 .i64 Try.underlying22 hi0 1 hsz A n c (k : Int) (by omega) (by omega) W
  rw [Int.toNat_natCast] at this
  exact this
set_option maxRecDepth 100000 in
theorem next_as (w : World) (p g : Nat) (l : List Int) (h : Cur w p g l) : Calls Try.prog 16 #[.pointer (some ⟨p, 0, none⟩)] w fun e w' => e = .returned (.tuple #[]) ∧ Cur w' p g (l.drop 1) ∧ w.grownBy w' (some p) := by
  have H := Lib.hid h
  obtain ⟨A, c, h1, h2, h3⟩ := h
  have c0 := h1.get 0 _ rfl
  have f0 := h1.free 0
  by_cases hz : 0 < l.length
  · have hp : (0 : Int) < (l.length : Int) := by omega
    have G := Lib.hid (Cur.go h1 h2 h3 1 (by omega))
    have hcut := cut_run A l.length c 1 1 rfl (by omega)
    generalize from_ A c 1 = A' at G hcut
    generalize l.length - 1 = n' at G hcut
    generalize c - 1 = c' at G hcut
    clear h1 h2 h3
    go_enter Try.func16, Try.ntmps16
    go_wp2
    go_end0
    exact ⟨rfl, G.out, grown_set (grown_refl _ _) _ _⟩
  · have hp : ¬ ((0 : Int) < (l.length : Int)) := by omega
    clear h1 h2 h3
    go_enter Try.func16, Try.ntmps16
    go_wp2
    go_end0
    have e0 : l = [] := List.length_eq_zero_iff.1 (by omega)
    exact ⟨rfl, by have := H.out; subst e0; exact this.on (by first | rfl | simp) (fun h => by simp at h), by first | exact grown_refl _ _ | exact grown_drewN (grown_refl _ _) _⟩
end Go.Proofs.Ytnflokhffmfifaa.Cur

/- For the law PostingCursors: a call as a pair of numbers; the reference's new cursor; the list written over. -/
import Derived.Test.YtnflokhffmfifaaCursA
set_option linter.unusedVariables false
set_option linter.unusedSimpArgs false
namespace Go.Proofs.Ytnflokhffmfifaa.XP
open Go.RowKit Go.Proofs.YtnflokhffmfifaaW.PrintWords Go.Proofs.YtnflokhffmfifaaW.PrintLast Go.Proofs.YtnflokhffmfifaaW.PrintMore
structure S30 where
  f0 : Int
  f1 : Int
def z30 : S30 := ⟨0, 0⟩
def k30 : Kd S30 := Kd.iso (Kd.pair (Kd.int .i64) (Kd.int .i64)) (fun x : S30 => (x.f0, x.f1))
theorem k30_open {w : World} {x : S30} {cs : List Value} (h : k30.K w x cs) : cs = [.int .i64 x.f0, .int .i64 x.f1] := by
  obtain ⟨_, _, rfl, rfl, rfl⟩ := h
  exact rfl
theorem k30_mk (w : World) (x : S30) : k30.K w x [.int .i64 x.f0, .int .i64 x.f1] := ⟨[.int .i64 x.f0], [.int .i64 x.f1], rfl, rfl, rfl⟩
def rd_T30 (xs : List S30) (i : Int) : S30 := xs.getD i.toNat z30
theorem at_T30 {w : World} {A : Option Addr} {n : Nat} {xs : List S30} (h : Kd.C k30 w A n xs) (i : Int) (h0 : 0 ≤ i) (h1 : i < n) : ∃ ad , A = some ad ∧ w.cell? (ad.add (i.toNat * 2)) = some (.int .i64 (rd_T30 xs i).f0) ∧ w.cell? ⟨(ad.add (i.toNat * 2)).block, (ad.add (i.toNat * 2)).off + 1, none⟩ = some (.int .i64 (rd_T30 xs i).f1) := by
  obtain ⟨ad, c, e, _, hK, hc0⟩ := Kd.C_get h z30 i h0 h1
  have hc : ∀ j u, c[j]? = some u → w.cell? (ad.add (i.toNat * 2 + j)) = some u := hc0
  obtain rfl := k30_open hK
  exact ⟨ad, e, hc 0 _ rfl, by rw [← add_field _ _ 1 (by omega)]; exact hc 1 _ rfl⟩
end Go.Proofs.Ytnflokhffmfifaa.XP
namespace Go.Proofs.Ytnflokhffmfifaa.CursW
open Go.RowKit Go.Proofs.Ytnflokhffmfifaa.XC Go.Proofs.Ytnflokhffmfifaa.XV Go.Proofs.Ytnflokhffmfifaa.XP Go.Proofs.Ytnflokhffmfifaa.Blk Go.Proofs.Ytnflokhffmfifaa.Ris Go.Proofs.Ytnflokhffmfifaa.Cur Go.Proofs.Ytnflokhffmfifaa.OfW Go.Proofs.Ytnflokhffmfifaa.SortEv Go.Proofs.Ytnflokhffmfifaa.RefCur Go.Proofs.YtnflokhffmfifaaW.PrintWords Go.Proofs.YtnflokhffmfifaaW.PrintLast Go.Proofs.YtnflokhffmfifaaW.PrintMore
def RNewQ (w : World) (l : List Int) (e : Ending) (w' : World) : Prop := ∃ g B cc, e = .returned (.agg #[.slice B (setL ltI l).length cc, .int .i64 0]) ∧ Row w' g B cc (setL ltI l) ∧ (0 < (setL ltI l).length → w.heap.size ≤ g ∧ g < w'.heap.size) ∧ Below w.heap.size w w'
theorem rnew_as (A : Option Addr) (c : Nat) (l : List Int) (w : World) (h : Kd.C (Kd.int .i64) w A l.length l) (hc : l.length ≤ c) (hn : l.length ≤ 1048576) : Calls Try.prog 13 #[.slice A l.length c] w (RNewQ w l) := by
  have hev : Ev (fun k => rosterref10_NewCursor.f k l) (setL ltI l, 0) := by
    unfold rosterref10_NewCursor.f
    exact Ev.bind (sorted_ev l.length l (Nat.le_refl _) hn) (ev_eq rfl)
  obtain ⟨k, hk⟩ := Ev.rounds hev
  refine (rosterref10_NewCursor.calls k A c l _ _ w h hc hk).mono ?_
  rintro e w' ⟨v, rfl, hR, hb⟩
  obtain ⟨B, cc, rfl⟩ := Kd.R_slice hR
  obtain ⟨g, h1, h2⟩ := row_of_R hR
  exact ⟨g, B, cc, rfl, h1, h2, hb⟩
/-- Block g alone written over, and its cells stay cells. -/
structure Over (W : World) (g cap : Nat) (wr : World) : Prop where
  blk : ∃ cs, Blk.At wr g cs 2 ∧ cs.length = cap
  grown : W.grownBy wr (some g)
theorem Over.put {W wr : World} {g cap : Nat} (h : Over W g cap wr) (k : Nat) (v : Value) : Over W g cap (wr.setCell ⟨g, k, none⟩ v) := by
  obtain ⟨cs, h1, h2⟩ := h.blk
  exact ⟨⟨_, h1.set k v, by simpa using h2⟩, grown_set h.grown _ _⟩
end Go.Proofs.Ytnflokhffmfifaa.CursW

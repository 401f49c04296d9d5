/- IndexGrams: the law walked. -/
import Derived.Test.YtfiomfcejmmbgaaGramC
import Derived.Lib.SlBytesRow
set_option linter.unusedVariables false
set_option linter.unusedSimpArgs false
namespace Go.Proofs.Ytfiomfcejmmbgaa.GramW
open Go.RowKit Go.Proofs.Ytfiomfcejmmbgaa.Blk Go.Proofs.Ytfiomfcejmmbgaa.XI Go.Proofs.Ytfiomfcejmmbgaa.XV Go.Proofs.Ytfiomfcejmmbgaa.Ris Go.Proofs.Ytfiomfcejmmbgaa.OfT Go.Proofs.Ytfiomfcejmmbgaa.GramEv Go.Proofs.YtfiomfcejmmbgaaW.PrintWords Go.Proofs.YtfiomfcejmmbgaaW.PrintLast Go.Proofs.YtfiomfcejmmbgaaW.PrintMore
structure It where
  A : Option Addr
  n : Nat
  c : Nat
  A2 : Option Addr
  c2 : Nat
  m : ByteArray
def It.v1 (x : It) : Value := .slice x.A x.n x.c
def It.v2 (x : It) : Value := .slice x.A2 (x.n + 1) x.c2
def It.v3 (x : It) : Value := .string x.m
def kT : Kd It := Kd.iso (Kd.pair (Kd.scalar It.v1 (fun _ => rfl)) (Kd.pair (Kd.scalar It.v2 (fun _ => rfl)) (Kd.scalar It.v3 (fun _ => rfl)))) (fun x : It => (x, x, x))
structure Good (W : World) (x : It) : Prop where
  r1 : AllM W x.A x.n x.m
  r2 : AllM W x.A2 (x.n + 1) x.m
  c1 : x.n ≤ x.c
  c2 : x.n + 1 ≤ x.c2
  le : x.n ≤ 1048576
theorem Good.below {W W' : World} {x : It} (h : Good W x) (hb : Below W.heap.size W W') : Good W' x := ⟨h.r1.below hb, h.r2.below hb, h.c1, h.c2, h.le⟩
structure KR (w : World) (v : Value) (its : List It) (wr : World) : Prop where
  row : kT.R 38 wr w.heap.size (fun _ => True) v its
  all : ∀ x ∈ its, Good wr x
  below : Below w.heap.size w wr
theorem KR.on {w wr w1 : World} {v : Value} {its : List It} (h : KR w v its wr) (hb : Below wr.heap.size wr w1) : KR w v its w1 := ⟨Kd.R_below h.row hb, fun x hx => (h.all x hx).below hb, h.below.trans (hb.mono h.below.size)⟩
theorem info38 : (Try.prog.info? 38).map (fun i => (i.zero, i.size, i.bytes)) = some (some (.agg #[.slice none 0 0, .slice none 0 0, .string ⟨#[]⟩]), 3, 64) := by kernel_rfl
theorem whole_as (W : World) (x : It) (h : Good W x) : Calls Try.prog 15 #[.agg #[.slice x.A x.n x.c, .slice x.A2 (x.n + 1) x.c2, .string x.m]] W fun e w' => e = .returned (.bool true) ∧ Below W.heap.size W w' := by
  obtain ⟨k, hk⟩ := (whole_ev x.n x.m h.le).rounds
  have := h.le
  have l1 : (List.replicate x.n x.m).length = x.n := List.length_replicate
  have l2 : (List.replicate (x.n + 1) x.m).length = x.n + 1 := List.length_replicate
  have := rosterlaw11_Texts_whole.calls k x.A x.c (List.replicate x.n x.m) x.A2 x.c2 (List.replicate (x.n + 1) x.m) x.m true W (h.r1.read (by omega)) (by rw [l1]; exact h.c1) (h.r2.read (by omega)) (by rw [l2]; exact h.c2) hk
  rw [l1, l2] at this
  exact this
theorem row_C {w : World} {g : Nat} {A : Option Addr} {c : Nat} {l : List ByteArray} (h : Row w g A c l) (hn : l.length ≤ 1048576) : Kd.C Kd.string w A l.length l := by
  refine Kd.C_of_reads (enc := Value.string) (d := E) (h1 := fun _ => rfl) ⟨rfl, by omega, fun hp => ?_⟩
  obtain ⟨o, rfl, hc⟩ := h.at_ hp
  refine ⟨_, rfl, fun j hj => ?_⟩
  rw [add_off]
  exact hc j hj
theorem refgrams_as (s : ByteArray) (w : World) (hs : s.size ≤ 1048576) : Calls Try.prog 13 #[.string s] w fun e w' => ∃ v, e = .returned v ∧ Kd.R Kd.string 9 w' w.heap.size (fun _ => True) v (gramSet s) ∧ Below w.heap.size w w' := by
  obtain ⟨k, hk⟩ := (grams_ev s hs).rounds
  exact rosterref11_Grams.calls k s _ w hk
theorem same_as (w : World) (g : Nat) (A B : Option Addr) (c d : Nat) (l : List ByteArray) (h : Row w g A c l) (hB : Kd.C Kd.string w B l.length l) (hd : l.length ≤ d) (hn : l.length ≤ 1048576) : Calls Try.prog 12 #[.slice A l.length c, .slice B l.length d] w fun e w' => e = .returned (.bool true) ∧ Drawn0 w w' := by
  obtain ⟨k, hk⟩ := (same_ev l hn).rounds
  exact rosterlaw11_sameTexts.calls k A c l B d l true w (row_C h hn) h.cap hB hd hk
theorem conv_two (W : World) (y : Nat) (hy : y < 256) (c : UInt8) : (convert 40 9 (.slice (some ⟨W.heap.size, 0, none⟩) 2 2)).run Try.prog (W.alloc (.cells #[.int .u8 c.toNat, .int .u8 y] 5)) = .ok (.string ⟨#[c, UInt8.ofNat y]⟩) (W.alloc (.cells #[.int .u8 c.toNat, .int .u8 y] 5)) := by
  have := Lib.run_convert_whole (P := Try.prog) (W.alloc (.cells #[.int .u8 c.toNat, .int .u8 y] 5)) 40 5 9 Try.underlying40 Try.underlying5 Try.underlying9 W.heap.size 0 ⟨#[c, UInt8.ofNat y]⟩ (fun i hi => ?_) 2
  · exact this
  · rw [Nat.zero_add]
    have ha := At.fresh W [.int .u8 c.toNat, .int .u8 y] 5
    have hi2 : i < 2 := hi
    refine ha.get i _ ?_
    rcases (show i = 0 ∨ i = 1 by omega) with rfl | rfl
    · rfl
    · show some (Value.int .u8 (y : Int)) = some (Value.int .u8 ((UInt8.ofNat y).toNat : Int))
      rw [UInt8.toNat_ofNat', Nat.mod_eq_of_lt (show y < 2 ^ 8 by omega)]
theorem lit2 (W : World) (x y : It) : ReadsRow (kT.K (W.alloc (.cells #[x.v1, x.v2, x.v3, y.v1, y.v2, y.v3] 38))) 3 (W.alloc (.cells #[x.v1, x.v2, x.v3, y.v1, y.v2, y.v3] 38)) (some ⟨W.heap.size, 0, none⟩) 2 [x, y] := by
  have ha := At.fresh W [x.v1, x.v2, x.v3, y.v1, y.v2, y.v3] 38
  refine ⟨rfl, by decide, fun _ => ⟨_, rfl, fun j p hj => ?_⟩⟩
  have hj2 : j = 0 ∨ j = 1 := by have := (List.getElem?_eq_some_iff.1 hj).1; simp at this; omega
  rcases hj2 with rfl | rfl
  · obtain rfl : x = p := by simpa using hj
    refine ⟨[x.v1, x.v2, x.v3], rfl, ⟨[x.v1], [x.v2, x.v3], rfl, rfl, [x.v2], [x.v3], rfl, rfl, rfl⟩, fun i u hu => ?_⟩
    have hi : i < 3 := (List.getElem?_eq_some_iff.1 hu).1
    rw [add_off]
    refine ha.get _ u ?_
    rcases (show i = 0 ∨ i = 1 ∨ i = 2 by omega) with rfl | rfl | rfl <;> exact hu
  · obtain rfl : y = p := by simpa using hj
    refine ⟨[y.v1, y.v2, y.v3], rfl, ⟨[y.v1], [y.v2, y.v3], rfl, rfl, [y.v2], [y.v3], rfl, rfl, rfl⟩, fun i u hu => ?_⟩
    have hi : i < 3 := (List.getElem?_eq_some_iff.1 hu).1
    rw [add_off]
    refine ha.get _ u ?_
    rcases (show i = 0 ∨ i = 1 ∨ i = 2 by omega) with rfl | rfl | rfl <;> exact hu
theorem it_cells {W : World} {B g n c : Nat} {its : List It} (h : kT.R 38 W B (fun _ => True) (.slice (some ⟨g, 0, none⟩) n c) its) (i : Nat) (hi : i < its.length) (z : It) : W.cell? ⟨g, i * 3, none⟩ = some (its.getD i z).v1 ∧ W.cell? ⟨g, i * 3 + 1, none⟩ = some (its.getD i z).v2 ∧ W.cell? ⟨g, i * 3 + 2, none⟩ = some (its.getD i z).v3 := by
  obtain ⟨hn, _, _⟩ := Kd.R_reads' h
  obtain ⟨c0, hc1, hM, hcell, hfr⟩ := Kd.R_elem h z (i : Int) (by omega) (by omega)
  rw [Int.toNat_natCast] at hM hcell
  obtain ⟨_, _, rfl, rfl, _, _, rfl, rfl, rfl⟩ := hM
  exact ⟨hcell 0 _ rfl, hcell 1 _ rfl, hcell 2 _ rfl⟩
/-- The first list has been marked. -/
theorem mine_far {W W' : World} {b b2 g g2 c c2 : Nat} {A A2 : Option Addr} {l l2 : List ByteArray} (h : Mine W b g A c l) (h2 : Mine W b2 g2 A2 c2 l2) (hlt : A = some ⟨g, 0, none⟩ → g < b2) (hg : W.grownBy W' (A.map (·.block))) : Mine W' b2 g2 A2 c2 l2 := by
  rcases h2 with h2 | ⟨rfl, hb, cs, h1, h3⟩
  · exact .inl h2
  · refine .inr ⟨rfl, hb, cs, h1.grown hg ?_, h3⟩
    rcases h with ⟨rfl, _⟩ | ⟨rfl, _⟩
    · intro e; cases e
    · intro e
      have e : g2 = g := Option.some.inj e
      have := hlt rfl
      omega
theorem mine_below {W W' : World} {b g c : Nat} {A : Option Addr} {l : List ByteArray} (h : Mine W b g A c l) (hb : Below W.heap.size W W') : Mine W' b g A c l := by
  rcases h with h | ⟨rfl, h0, cs, h1, h2⟩
  · exact .inl h
  · exact .inr ⟨rfl, h0, cs, (hb.block g h1.lt).trans h1, h2⟩
theorem mine_lt {W : World} {b g c : Nat} {A : Option Addr} {l : List ByteArray} (h : Mine W b g A c l) : ∀ k, A.map (·.block) = some k → b ≤ k ∧ k < W.heap.size ∧ A = some ⟨k, 0, none⟩ := by
  rcases h with ⟨rfl, _⟩ | ⟨rfl, h0, cs, h1, h2⟩
  · intro k e; cases e
  · intro k e
    have e : g = k := Option.some.inj e
    subst e
    exact ⟨h0, h1.lt, rfl⟩
/-- Both lists, of one's own; the round began at wr. -/
structure PA (wr : World) (B1 : Nat) (ga gb : Nat) (Aa Ab : Option Addr) (ca cb : Nat) (L1 L2 : List ByteArray) (W : World) : Prop where
  low : wr.heap.size ≤ B1
  top : ∀ k, Aa.map (·.block) = some k → k < B1
  below : Below wr.heap.size wr W
  a : Mine W wr.heap.size ga Aa ca L1
  b : Mine W B1 gb Ab cb L2
theorem PA.on {wr W W' : World} {B1 ga gb ca cb : Nat} {Aa Ab : Option Addr} {L1 L2 : List ByteArray} (h : PA wr B1 ga gb Aa Ab ca cb L1 L2 W) (hb : Below W.heap.size W W') : PA wr B1 ga gb Aa Ab ca cb L1 L2 W' := ⟨h.low, h.top, h.below.trans (hb.mono h.below.size), mine_below h.a hb, mine_below h.b hb⟩
/-- The first is marked. -/
structure PB (wr : World) (B1 gb : Nat) (Ab : Option Addr) (cb : Nat) (L2 : List ByteArray) (x : It) (W : World) : Prop where
  low : wr.heap.size ≤ B1
  below : Below wr.heap.size wr W
  good : Good W x
  far : ∀ k, Ab.map (·.block) = some k → x.A ≠ some ⟨k, 0, none⟩ ∧ x.A2 ≠ some ⟨k, 0, none⟩
  b : Mine W B1 gb Ab cb L2
theorem PB.on {wr W W' : World} {B1 gb cb : Nat} {Ab : Option Addr} {L2 : List ByteArray} {x : It} (h : PB wr B1 gb Ab cb L2 x W) (hb : Below W.heap.size W W') : PB wr B1 gb Ab cb L2 x W' := ⟨h.low, h.below.trans (hb.mono h.below.size), h.good.below hb, h.far, mine_below h.b hb⟩
theorem PA.mark {wr W W' : World} {B1 ga gb ca cb : Nat} {Aa Ab : Option Addr} {L1 L2 : List ByteArray} (h : PA wr B1 ga gb Aa Ab ca cb L1 L2 W) (hl : L1.length ≤ 1048576) {m : ByteArray} {A2 : Option Addr} {c2 : Nat} (h1 : AllM W' Aa L1.length m) (h2 : AllM W' A2 (L1.length + 1) m) (h3 : L1.length + 1 ≤ c2) (hg : W.grownBy W' (Aa.map (·.block))) (hat : ∀ g2, A2 = some ⟨g2, 0, none⟩ → Aa = some ⟨g2, 0, none⟩ ∨ W.heap.size ≤ g2) :
    PB wr B1 gb Ab cb L2 ⟨Aa, L1.length, ca, A2, c2, m⟩ W' := by
  have ha := mine_lt h.a
  have hb := mine_lt h.b
  refine ⟨h.low, h.below.grown hg h.below.size (fun k hk => (ha k hk).1), ⟨h1, h2, h.a.row.cap, h3, hl⟩, fun k hk => ⟨fun e => ?_, fun e => ?_⟩, mine_far h.a h.b (fun e => h.top ga (by rw [e]; rfl)) hg⟩
  · have := h.top k (by show Option.map _ Aa = _; rw [show Aa = some ⟨k, 0, none⟩ from e]; rfl)
    have := (hb k hk).1
    omega
  · rcases hat k e with e2 | e2
    · have := h.top k (by rw [e2]; rfl)
      have := (hb k hk).1
      omega
    · have := (hb k hk).2.1
      omega
theorem AllM.farG {W W' : World} {A : Option Addr} {n : Nat} {m : ByteArray} {row : Option Nat} (h : AllM W A n m) (hg : W.grownBy W' row) (hne : ∀ k, row = some k → A ≠ some ⟨k, 0, none⟩) : AllM W' A n m := h.on (fun g e hlt => hg.block g hlt (fun e2 => hne g e2.symm e))
theorem PB.mark {wr W W' : World} {B1 gb cb : Nat} {Ab : Option Addr} {L2 : List ByteArray} {x : It} (h : PB wr B1 gb Ab cb L2 x W) (hl : L2.length ≤ 1048576) {m : ByteArray} {A2 : Option Addr} {c2 : Nat} (h1 : AllM W' Ab L2.length m) (h2 : AllM W' A2 (L2.length + 1) m) (h3 : L2.length + 1 ≤ c2) (hg : W.grownBy W' (Ab.map (·.block))) :
    Below wr.heap.size wr W' ∧ Good W' x ∧ Good W' ⟨Ab, L2.length, cb, A2, c2, m⟩ :=
  ⟨h.below.grown hg h.below.size (fun k hk => Nat.le_trans h.low (mine_lt h.b k hk).1), ⟨h.good.r1.farG hg (fun k hk => (h.far k hk).1), h.good.r2.farG hg (fun k hk => (h.far k hk).2), h.good.c1, h.good.c2, h.good.le⟩, ⟨h1, h2, h.b.row.cap, h3, hl⟩⟩
theorem AllM.over {W W' : World} {A : Option Addr} {n b : Nat} {m : ByteArray} {v : Value} {its : List It} {ok : Nat → Prop} (h : AllM W A n m) (hr : kT.R 38 W b ok v its) (hg : W.grownBy W' v.ownBlock) : AllM W' A n m := fun hp => by
  obtain ⟨g, cs, e, ha, hc⟩ := h hp
  refine ⟨g, cs, e, ha.grown hg (fun e2 => ?_), hc⟩
  obtain ⟨cells, h2⟩ := Kd.R_typed hr g e2.symm
  unfold At at ha
  rw [ha] at h2
  injection h2 with h2
  injection h2 with _ h2
  cases h2
theorem Good.over {W W' : World} {b : Nat} {v : Value} {its : List It} {ok : Nat → Prop} {x : It} (h : Good W x) (hr : kT.R 38 W b ok v its) (hg : W.grownBy W' v.ownBlock) : Good W' x := ⟨h.r1.over hr hg, h.r2.over hr hg, h.c1, h.c2, h.le⟩
theorem lit2_at (W : World) (b : Nat) (hb : b = W.heap.size) (x y : It) : ReadsRow (kT.K (W.alloc (.cells #[x.v1, x.v2, x.v3, y.v1, y.v2, y.v3] 38))) 3 (W.alloc (.cells #[x.v1, x.v2, x.v3, y.v1, y.v2, y.v3] 38)) (some ⟨b, 0, none⟩) 2 [x, y] := by
  subst hb
  exact lit2 W x y
end Go.Proofs.Ytfiomfcejmmbgaa.GramW

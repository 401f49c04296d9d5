/- By hand: rows of texts, their order; Rising at texts. For every list and world. -/
import Derived.Test.YtnflokhffmfifaaProg
import Derived.Test.YtnflokhffmfifaaWWords
import Derived.Test.YtnflokhffmfifaaWLast
import Derived.Test.YtnflokhffmfifaaWMore
import Derived.Test.YtnflokhffmfifaaBlk
import Derived.Test.YtnflokhffmfifaaRis
import Derived.Test.YtnflokhffmfifaaKeys
import Derived.Test.YtnflokhffmfifaaXV
import Derived.Lib.Hide
import Derived.Lib.LazyBuf
import Derived.WalkKit
import Derived.KernelRfl
import Derived.BigQuiet
import Derived.WideLaws
import Derived.Deep.QuietTactic
import Derived.Laws.Slices
import Derived.Laws.Rows
import Derived.Laws.MakeOwn
import Derived.Laws.OwnMore
import Derived.Laws.Cover1
import Derived.OwnWalk
import Derived.Shelf.Sort.Plain
import Derived.Sort.OwnSorted
set_option linter.unusedVariables false
set_option linter.unusedSimpArgs false
namespace Go.Proofs.Ytnflokhffmfifaa.OfT
open Go.RowKit Go.Sort Go.Shelf Go.Proofs.Ytnflokhffmfifaa.Blk Go.Proofs.Ytnflokhffmfifaa.Ris Go.Proofs.Ytnflokhffmfifaa.Keys Go.Proofs.Ytnflokhffmfifaa.XV Go.Proofs.YtnflokhffmfifaaW.PrintWords Go.Proofs.YtnflokhffmfifaaW.PrintLast Go.Proofs.YtnflokhffmfifaaW.PrintMore
abbrev E : ByteArray := ByteArray.empty
def ltS (a b : ByteArray) : Bool := Op.bytesLess a.toList b.toList
theorem toList_inj {a b : ByteArray} (h : a.toList = b.toList) : a = b := by
  rw [toList_data, toList_data] at h
  exact ByteArray.ext (Array.toList_inj.1 h)
theorem totS : Tot ltS := ⟨fun a => less_irrefl _, fun a b c h k => less_trans _ _ _ h k, fun a b h k => by
  rcases less_tri a.toList b.toList with e | e | e
  · unfold ltS at h; rw [e] at h; cases h
  · exact toList_inj e
  · unfold ltS at k; rw [e] at k; cases k⟩
theorem info9 : (Try.prog.info? 9).map (fun i => (i.zero, i.size, i.bytes)) = some (some (.string ⟨#[]⟩), 1, 16) := by kernel_rfl
theorem add_off (g o k : Nat) : (⟨g, o, none⟩ : Addr).add k = ⟨g, o + k, none⟩ := by
  unfold Addr.add
  by_cases h : k = 0
  · subst h; simp
  · simp [h]
/-- A row of numbers in block g. -/
structure Row (w : World) (g : Nat) (A : Option Addr) (c : Nat) (l : List ByteArray) : Prop where
  cap : l.length ≤ c
  at_ : 0 < l.length → ∃ o, A = some ⟨g, o, none⟩ ∧ ∀ i, i < l.length → w.cell? ⟨g, o + i, none⟩ = some (.string (l.getD i E))
/-- The base of a row that is cut from k on. -/
def from_ (A : Option Addr) (c k : Nat) : Option Addr := if c = k then A else A.map (·.add (k * 1))
theorem Row.drop {w : World} {g : Nat} {A : Option Addr} {c : Nat} {l : List ByteArray} (h : Row w g A c l) (k : Nat) (hk : k ≤ l.length) : Row w g (from_ A c k) (c - k) (l.drop k) := by
  refine ⟨by rw [List.length_drop]; have := h.cap; omega, fun hp => ?_⟩
  rw [List.length_drop] at hp
  obtain ⟨o, rfl, e3⟩ := h.at_ (by omega)
  have := h.cap
  unfold from_
  rw [if_neg (by omega)]
  refine ⟨o + k, by rw [Option.map_some, Nat.mul_one, add_off], fun i hi => ?_⟩
  rw [List.length_drop] at hi
  rw [Nat.add_assoc, e3 (k + i) (by omega)]
  congr 2
  simp [List.getD_eq_getElem?_getD, List.getElem?_drop]
theorem Row.take {w : World} {g : Nat} {A : Option Addr} {c : Nat} {l : List ByteArray} (h : Row w g A c l) (k : Nat) (hk : k ≤ l.length) (d : Nat) (hd : k ≤ d) : Row w g A d (l.take k) := by
  have hl : (l.take k).length = k := by rw [List.length_take]; omega
  refine ⟨by omega, fun hp => ?_⟩
  obtain ⟨o, rfl, e3⟩ := h.at_ (by omega)
  refine ⟨o, rfl, fun i hi => ?_⟩
  rw [e3 i (by omega)]
  congr 2
  simp [List.getD_eq_getElem?_getD, List.getElem?_take_of_lt (by omega : i < k)]
/-- What holds the row's block as it was keeps the row. -/
theorem Row.on {w w1 : World} {g : Nat} {A : Option Addr} {c : Nat} {l : List ByteArray} (h : Row w g A c l) (hb : 0 < l.length → w1.heap[g]? = w.heap[g]?) : Row w1 g A c l :=
  ⟨h.cap, fun hp => by
    obtain ⟨o, e1, e3⟩ := h.at_ hp
    exact ⟨o, e1, fun i hi => (World.cell?_of_block (a := ⟨g, o + i, none⟩) (hb hp)).trans (e3 i hi)⟩⟩
theorem cut_run (A : Option Addr) (n c k : Nat) (i : Int) (hi : i = (k : Int)) (hk : k ≤ n) (W : World) : (Instr.slice 59 (.slice A n c) (some (.int .i64 i)) none none).run Try.prog W = .ok (.slice (from_ A c k) (n - k) (c - k)) W := by
  subst hi
  obtain ⟨i0, hi0, _, hsz, _⟩ := info_parts info9
  have := cut_from (P := Try.prog) 59 9 .i64 Try.underlying59 hi0 1 hsz A n c (k : Int) (by omega) (by omega) W
  rw [Int.toNat_natCast] at this
  exact this
theorem ris_at {l : List ByteArray} (h : Ris ltS l) {i j : Nat} (hij : i < j) (hj : j < l.length) : ltS (l.getD i E) (l.getD j E) = true := by
  have := List.pairwise_iff_getElem.1 h i j (by omega) hj hij
  rw [List.getD_eq_getElem?_getD, List.getD_eq_getElem?_getD, List.getElem?_eq_getElem (by omega), List.getElem?_eq_getElem hj]
  exact this
theorem risB_at : ∀ l : List ByteArray, risB ltS l = true ↔ ∀ i, i + 1 < l.length → ltS (l.getD i E) (l.getD (i + 1) E) = true
  | [] => by simp [risB]
  | [a] => by simp [risB]
  | a :: b :: l => by
    rw [risB, Bool.and_eq_true, risB_at (b :: l)]
    constructor
    · rintro ⟨h1, h2⟩ i hi
      cases i with
      | zero => simpa using h1
      | succ i => have := h2 i (by simp at hi ⊢; omega); simpa using this
    · intro h
      exact ⟨by have := h 0 (by simp); simpa using this, fun i hi => by have := h (i + 1) (by simp at hi ⊢; omega); simpa using this⟩
structure RR (w : World) (l : List ByteArray) (k : Nat) (wr : World) : Prop where
  up : ∀ i, i + 1 < k → ltS (l.getD i E) (l.getD (i + 1) E) = true
  drawn : Drawn0 w wr
set_option maxRecDepth 100000 in
theorem rising_as (w : World) (g : Nat) (A : Option Addr) (c : Nat) (l : List ByteArray) (h : Row w g A c l) (hn : l.length ≤ 1048576) : Calls Try.prog 42 #[.slice A l.length c] w fun e w' => e = .returned (.bool (risB ltS l)) ∧ Drawn0 w w' := by
  have hrow : Hid (∀ k : Nat, k < l.length → ∃ o, A = some ⟨g, o, none⟩ ∧ ∀ i, i < l.length → w.cell? ⟨g, o + i, none⟩ = some (.string (l.getD i E))) := fun k hk => h.at_ (by omega)
  clear h
  go_enter Try.func42, Try.ntmps42
  go_wp2_with fail
  go_loopw [3] (fun i wr => ∃ k : Nat, 1 ≤ k ∧ (k ≤ l.length ∨ k = 1) ∧ i = .int .i64 k ∧ Hid (RR w l k wr)) (fun i _ => l.length - (intOf i).toNat)
  case atStart => exact ⟨1, by omega, by omega, rfl, ⟨fun i hi => by omega, by repeat (first | exact Drawn0.refl _ | apply Drawn0.step)⟩⟩
  case round =>
    obtain ⟨k, hk1, hk2, rfl, HW⟩ := hrel
    obtain ⟨n, rfl⟩ := HW.out.drawn.out
    by_cases hin : k < l.length
    · obtain ⟨o, rfl, hc⟩ := hrow.out k hin
      have hlt : (k : Int) < (l.length : Int) := by omega
      obtain ⟨m, rfl⟩ : ∃ m, k = m + 1 := ⟨k - 1, by omega⟩
      have hs : IntKind.i64.wrap (((m + 1 : Nat) : Int) - 1) = (m : Int) := (i64_w _).trans (by unfold wrap64; omega)
      have ca := hc m (by omega)
      have cb := hc (m + 1) hin
      generalize hx : l.getD m E = x at ca
      generalize hy : l.getD (m + 1) E = y at cb
      have HX := Lib.hid (And.intro hx hy)
      have hm0 : (m : Int) < (l.length : Int) := by omega
      clear hx hy hc
      by_cases t : ltS x y = true
      · have td : Op.bytesLess x.toList y.toList = true := t
        have tn : (!Op.bytesLess x.toList y.toList) = false := by rw [td]; rfl
        go_wp2
        repeat (go_quiet (fail); try go_wp2)
        all_goals
          go_roundw
          case rel => exact ⟨m + 2, by omega, by omega, by go_num, ⟨fun i hi => by
            by_cases h1 : i = m
            · subst h1; rw [HX.out.1, HX.out.2]; exact t
            · exact HW.out.up i (by omega), by repeat (first | exact Drawn0.refl _ | apply Drawn0.step)⟩⟩
          case measure => simp [intOf]; omega
      · have HF : Hid (risB ltS l = false) := by
          cases hr : risB ltS l with
          | false => exact Lib.hid rfl
          | true => have := (risB_at l).1 hr m hin; rw [HX.out.1, HX.out.2] at this; exact absurd this t
        have td : Op.bytesLess x.toList y.toList = false := Bool.eq_false_iff.2 t
        have tn : (!Op.bytesLess x.toList y.toList) = true := by rw [td]; rfl
        go_wp2
        repeat (go_quiet (fail); try go_wp2)
        all_goals
          go_ret
          exact ⟨by rw [HF.out]; rfl, by repeat (first | exact Drawn0.refl _ | apply Drawn0.step)⟩
    · have hlt : ¬ ((k : Int) < (l.length : Int)) := by omega
      have HT : Hid (risB ltS l = true) := Lib.hid ((risB_at l).2 (fun i hi => HW.out.up i (by omega)))
      go_wp2
      go_ret
      exact ⟨by rw [HT.out]; rfl, by repeat (first | exact Drawn0.refl _ | apply Drawn0.step)⟩
def L190_ren : Go.Shelf.Ren := ⟨fun | 190 => 60 | 125 => 68 | 258 => 74 | 128 => 87 | 129 => 88 | 302 => 91 | 303 => 92 | 304 => 93 | 305 => 94 | 306 => 95 | 307 => 96 | 308 => 97 | 309 => 98 | 310 => 99 | 333 => 106 | 329 => 101 | 330 => 102 | 334 => 107 | 335 => 108 | 336 => 109 | 344 => 111 | n => n, fun | 31 => 59 | 9 => 9 | 3 => 3 | 46 => 95 | 0 => 0 | 51 => 119 | 53 => 121 | 4 => 4 | 183 => 111 | 182 => 110 | 131 => 116 | 5 => 5 | 218 => 133 | 222 => 137 | 228 => 143 | 229 => 144 | n => n, fun | n => n⟩
theorem L190 : Go.Proofs.Lays.n190 Try.prog L190_ren := {
  mixed := by kernel_rfl
  f125 := Try.func68.trans (congrArg some (by kernel_rfl))
  f128 := Try.func87.trans (congrArg some (by kernel_rfl))
  f129 := Try.func88.trans (congrArg some (by kernel_rfl))
  f190 := Try.func60.trans (congrArg some (by kernel_rfl))
  f258 := Try.func74.trans (congrArg some (by kernel_rfl))
  f302 := Try.func91.trans (congrArg some (by kernel_rfl))
  f303 := Try.func92.trans (congrArg some (by kernel_rfl))
  f304 := Try.func93.trans (congrArg some (by kernel_rfl))
  f305 := Try.func94.trans (congrArg some (by kernel_rfl))
  f306 := Try.func95.trans (congrArg some (by kernel_rfl))
  f307 := Try.func96.trans (congrArg some (by kernel_rfl))
  f308 := Try.func97.trans (congrArg some (by kernel_rfl))
  f309 := Try.func98.trans (congrArg some (by kernel_rfl))
  f310 := Try.func99.trans (congrArg some (by kernel_rfl))
  f329 := Try.func101.trans (congrArg some (by kernel_rfl))
  f330 := Try.func102.trans (congrArg some (by kernel_rfl))
  f333 := Try.func106.trans (congrArg some (by kernel_rfl))
  f334 := Try.func107.trans (congrArg some (by kernel_rfl))
  f335 := Try.func108.trans (congrArg some (by kernel_rfl))
  f336 := Try.func109.trans (congrArg some (by kernel_rfl))
  f344 := Try.func111.trans (congrArg some (by kernel_rfl))
  t0 := Try.underlying0
  a0 := Try.isAgg0
  z0 := Try.sizeOf0
  v0 := Try.zeroValue0
  t3 := Try.underlying3
  a3 := Try.isAgg3
  z3 := Try.sizeOf3
  v3 := Try.zeroValue3
  t4 := Try.underlying4
  a4 := Try.isAgg4
  z4 := Try.sizeOf4
  v4 := Try.zeroValue4
  t5 := Try.underlying5
  a5 := Try.isAgg5
  z5 := Try.sizeOf5
  v5 := Try.zeroValue5
  t9 := Try.underlying9
  a9 := Try.isAgg9
  z9 := Try.sizeOf9
  v9 := Try.zeroValue9
  t31 := Try.underlying59
  a31 := Try.isAgg59
  z31 := Try.sizeOf59
  v31 := Try.zeroValue59
  t46 := Try.underlying95
  a46 := Try.isAgg95
  z46 := Try.sizeOf95
  v46 := Try.zeroValue95
  t51 := Try.underlying119
  a51 := Try.isAgg119
  z51 := Try.sizeOf119
  v51 := Try.zeroValue119
  t53 := Try.underlying121
  a53 := Try.isAgg121
  z53 := Try.sizeOf121
  v53 := Try.zeroValue121
  t131 := Try.underlying116
  a131 := Try.isAgg116
  z131 := Try.sizeOf116
  v131 := Try.zeroValue116
  t182 := Try.underlying110
  a182 := Try.isAgg110
  z182 := Try.sizeOf110
  v182 := Try.zeroValue110
  t183 := Try.underlying111
  a183 := Try.isAgg111
  z183 := Try.sizeOf111
  v183 := Try.zeroValue111
  t218 := Try.underlying133
  a218 := Try.isAgg133
  z218 := Try.sizeOf133
  v218 := Try.zeroValue133
  t222 := Try.underlying137
  a222 := Try.isAgg137
  z222 := Try.sizeOf137
  v222 := Try.zeroValue137
  t228 := Try.underlying143
  a228 := Try.isAgg143
  z228 := Try.sizeOf143
  v228 := Try.zeroValue143
  t229 := Try.underlying144
  a229 := Try.isAgg144
  z229 := Try.sizeOf144
  v229 := Try.zeroValue144 }
theorem own_block {W : World} {b : Nat} {ok : Nat → Prop} {v : Value} {l : List ByteArray} (h : Kd.R Kd.string 9 W b ok v l) (hp : 0 < l.length) :
    ∃ g cap cur, v = .slice (some ⟨g, 0, none⟩) l.length cap ∧ b ≤ g ∧ At W g cur 9 ∧ l.length ≤ cap ∧ cap ≤ maxLen ∧ cur.length = cap ∧ cur.take l.length = l.map (Value.string) := by
  rcases (Kd.own_of_R h).2 with ⟨_, h0⟩ | ⟨g, cap, cur, rfl, hg, hh, h1, h2, h3, h4⟩
  · omega
  · exact ⟨g, cap, cur.toList, rfl, hg, hh, h1, h2, by simpa using h3, by simpa [encs] using h4⟩
end Go.Proofs.Ytnflokhffmfifaa.OfT

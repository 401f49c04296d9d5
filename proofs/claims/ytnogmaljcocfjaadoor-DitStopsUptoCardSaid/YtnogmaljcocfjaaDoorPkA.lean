/- Joined: tables, keys, rows. For every world. -/
import Derived.Test.YtnogmaljcocfjaaDoorProg
import Derived.Test.YtnogmaljcocfjaaDoorWWords
import Derived.Test.YtnogmaljcocfjaaDoorWLast
import Derived.Test.YtnogmaljcocfjaaDoorWMore
import Derived.Shelf.LaysM
import Derived.Shelf.Strconv.Itoa4
import Derived.Lib.LaidTab
import Derived.Lib.AppendIntMem
import Derived.Lib.Hide
import Derived.Lib.ItoaNum
import Derived.OneCell
import Derived.Below
import Derived.Deep.Draws
import Derived.Lib.AppendStr
import Derived.Lib.ConvBytes
import Derived.Lib.SlBytesRow
import Derived.Lib.LazyBuf
import Derived.WalkKit
import Derived.KernelRfl
import Derived.BigQuiet
import Derived.WideLaws
import Derived.Deep.QuietTactic
import Derived.Laws.Slices
import Derived.Laws.Rows
import Derived.Laws.MakeOwn
import Derived.Laws.OwnMore
import Derived.Laws.Cover1
import Derived.OwnWalk
import Derived.WalkLawsBesides
import GoSem.Op.String
set_option linter.unusedVariables false
set_option linter.unusedSimpArgs false
set_option linter.unusedSectionVars false
namespace Go.Proofs.YtnogmaljcocfjaaDoor.DitTab
open Go.RowKit Go.Shelf Go.Proofs Go.Proofs.YtnogmaljcocfjaaDoorW.PrintWords Go.Proofs.YtnogmaljcocfjaaDoorW.PrintLast
structure Tabs (w : World) : Prop where
  t2 : Lib.TabIs Tryd.prog w "internal/strconv.uint64pow10" .u64 Lib.pow10Tab
theorem tabis_at {P : Program} {w w' : World} {name : String} {k : IntKind} {zs : List Int} (h : Lib.TabIs P w name k zs) (hb : Below w.heap.size w w') : Lib.TabIs P w' name k zs := by
  unfold Lib.TabIs World.var? at h ⊢
  cases hg : P.globalNamed name with
  | none => rw [hg] at h; cases h
  | some g =>
    rw [hg] at h
    simp only [Option.bind_some] at h ⊢
    by_cases hl : g < w.heap.size
    · rw [hb.block g hl]
      exact h
    · rw [Array.getElem?_eq_none (by omega)] at h
      cases h
theorem Tabs_at {w w' : World} (h : Tabs w) (hb : Below w.heap.size w w') : Tabs w' := ⟨tabis_at h.t2 hb⟩
def L171_ren : Go.Shelf.Ren := ⟨fun | 171 => 64 | 243 => 78 | 246 => 94 | 283 => 100 | 284 => 101 | 285 => 102 | 286 => 103 | 129 => 75 | 317 => 105 | 318 => 106 | 319 => 107 | 320 => 108 | 337 => 109 | 338 => 110 | n => n, fun | 3 => 3 | 9 => 9 | 2 => 2 | 4 => 4 | 171 => 131 | 0 => 0 | 53 => 110 | 37 => 89 | 5 => 5 | 173 => 133 | 212 => 137 | 51 => 108 | 20 => 20 | 213 => 138 | 46 => 95 | 232 => 139 | 233 => 140 | n => n, fun | 17 => 0 | 18 => 1 | 19 => 2 | n => n⟩
theorem L171 : Go.Proofs.LaysM.n171 Tryd.prog L171_ren := {
  mixed := by kernel_rfl
  f129 := Tryd.func75.trans (congrArg some (by kernel_rfl))
  f171 := Tryd.func64.trans (congrArg some (by kernel_rfl))
  f243 := Tryd.func78.trans (congrArg some (by kernel_rfl))
  f246 := Tryd.func94.trans (congrArg some (by kernel_rfl))
  f283 := Tryd.func100.trans (congrArg some (by kernel_rfl))
  f284 := Tryd.func101.trans (congrArg some (by kernel_rfl))
  f285 := Tryd.func102.trans (congrArg some (by kernel_rfl))
  f286 := Tryd.func103.trans (congrArg some (by kernel_rfl))
  f317 := Tryd.func105.trans (congrArg some (by kernel_rfl))
  f318 := Tryd.func106.trans (congrArg some (by kernel_rfl))
  f319 := Tryd.func107.trans (congrArg some (by kernel_rfl))
  f320 := Tryd.func108.trans (congrArg some (by kernel_rfl))
  f337 := Tryd.func109.trans (congrArg some (by kernel_rfl))
  f338 := Tryd.func110.trans (congrArg some (by kernel_rfl))
  t0 := Tryd.underlying0
  a0 := Tryd.isAgg0
  z0 := Tryd.sizeOf0
  v0 := Tryd.zeroValue0
  t2 := Tryd.underlying2
  a2 := Tryd.isAgg2
  z2 := Tryd.sizeOf2
  v2 := Tryd.zeroValue2
  t3 := Tryd.underlying3
  a3 := Tryd.isAgg3
  z3 := Tryd.sizeOf3
  v3 := Tryd.zeroValue3
  t4 := Tryd.underlying4
  a4 := Tryd.isAgg4
  z4 := Tryd.sizeOf4
  v4 := Tryd.zeroValue4
  t5 := Tryd.underlying5
  a5 := Tryd.isAgg5
  z5 := Tryd.sizeOf5
  v5 := Tryd.zeroValue5
  t9 := Tryd.underlying9
  a9 := Tryd.isAgg9
  z9 := Tryd.sizeOf9
  v9 := Tryd.zeroValue9
  t20 := Tryd.underlying20
  a20 := Tryd.isAgg20
  z20 := Tryd.sizeOf20
  v20 := Tryd.zeroValue20
  t37 := Tryd.underlying89
  a37 := Tryd.isAgg89
  z37 := Tryd.sizeOf89
  v37 := Tryd.zeroValue89
  t46 := Tryd.underlying95
  a46 := Tryd.isAgg95
  z46 := Tryd.sizeOf95
  v46 := Tryd.zeroValue95
  t51 := Tryd.underlying108
  a51 := Tryd.isAgg108
  z51 := Tryd.sizeOf108
  v51 := Tryd.zeroValue108
  t53 := Tryd.underlying110
  a53 := Tryd.isAgg110
  z53 := Tryd.sizeOf110
  v53 := Tryd.zeroValue110
  t171 := Tryd.underlying131
  a171 := Tryd.isAgg131
  z171 := Tryd.sizeOf131
  v171 := Tryd.zeroValue131
  t173 := Tryd.underlying133
  a173 := Tryd.isAgg133
  z173 := Tryd.sizeOf133
  v173 := Tryd.zeroValue133
  t212 := Tryd.underlying137
  a212 := Tryd.isAgg137
  z212 := Tryd.sizeOf137
  v212 := Tryd.zeroValue137
  t213 := Tryd.underlying138
  a213 := Tryd.isAgg138
  z213 := Tryd.sizeOf138
  t232 := Tryd.underlying139
  a232 := Tryd.isAgg139
  z232 := Tryd.sizeOf139
  v232 := Tryd.zeroValue139
  t233 := Tryd.underlying140
  a233 := Tryd.isAgg140
  z233 := Tryd.sizeOf140
  v233 := Tryd.zeroValue140
  g17 := by kernel_rfl
  g18 := by kernel_rfl
  g19 := by kernel_rfl
  i0 := by kernel_rfl
  i2 := by kernel_rfl
  i3 := by kernel_rfl
  i4 := by kernel_rfl
  i5 := by kernel_rfl
  i9 := by kernel_rfl
  i20 := by kernel_rfl
  i37 := by kernel_rfl
  i46 := by kernel_rfl
  i51 := by kernel_rfl
  i53 := by kernel_rfl
  i171 := by kernel_rfl
  i173 := by kernel_rfl
  i212 := by kernel_rfl
  i232 := by kernel_rfl
  i233 := by kernel_rfl
  m17 := by kernel_rfl
  m18 := by kernel_rfl
  m19 := by kernel_rfl }
theorem itoa_as (n : Int) (h0 : -9223372036854775808 ≤ n) (h1 : n ≤ 9223372036854775807) (w : World) (h : Tabs w) :
    Calls Tryd.prog 64 #[.int .i64 n] w fun e w' => e = .returned (.string ⟨(Lib.itoa n).toArray⟩) ∧ Below w.heap.size w w' := by
  refine (Any.strconv_Itoa L171 n h0 h1 w h.t2).mono ?_
  rintro e w' ⟨rfl, k, os, rfl⟩
  exact ⟨rfl, Lib.below_grow _ w (Nat.le_refl _) k os⟩
end Go.Proofs.YtnogmaljcocfjaaDoor.DitTab
namespace Go.Proofs.YtnogmaljcocfjaaDoor.DitWord
open Go
def term (p : List UInt8) : List UInt8 := Lib.itoa (p.length : Int) ++ 58 :: p
def word (k : List (List UInt8)) : List UInt8 := (k.map term).flatten
theorem digs (u : Nat) : ∀ d ∈ Lib.decDigits u, ∃ n, n < 10 ∧ d = UInt8.ofNat (48 + n) := by
  induction u using Nat.strongRecOn with
  | _ u ih =>
    intro d hd
    rw [Lib.decDigits] at hd
    split at hd
    · rename_i h
      exact ⟨u, h, by simpa using hd⟩
    · rename_i h
      rcases List.mem_append.1 hd with hd | hd
      · exact ih (u / 10) (by omega) d hd
      · exact ⟨u % 10, Nat.mod_lt _ (by decide), by simpa using hd⟩
theorem dig_ne (n : Nat) (h : n < 10) : UInt8.ofNat (48 + n) ≠ 58 := by
  have : ∀ n : Fin 10, UInt8.ofNat (48 + n.val) ≠ 58 := by decide
  exact this ⟨n, h⟩
theorem dig_to (n : Nat) (h : n < 10) : (UInt8.ofNat (48 + n)).toNat = 48 + n := by
  have : ∀ n : Fin 10, (UInt8.ofNat (48 + n.val)).toNat = 48 + n.val := by decide
  exact this ⟨n, h⟩
theorem no58 (u : Nat) : (58 : UInt8) ∉ Lib.decDigits u := fun h => by
  obtain ⟨n, hn, e⟩ := digs u _ h
  exact dig_ne n hn e.symm
def val (l : List UInt8) : Nat := l.foldl (fun a b => a * 10 + (b.toNat - 48)) 0
theorem val_dec (u : Nat) : val (Lib.decDigits u) = u := by
  induction u using Nat.strongRecOn with
  | _ u ih =>
    rw [Lib.decDigits]
    split
    · rename_i h
      simp only [val, List.foldl_cons, List.foldl_nil, dig_to u h]
      omega
    · rename_i h
      have h2 := ih (u / 10) (by omega)
      unfold val at h2 ⊢
      rw [List.foldl_append, h2]
      simp only [List.foldl_cons, List.foldl_nil, dig_to (u % 10) (Nat.mod_lt _ (by decide))]
      omega
theorem split58 : ∀ (a b r s : List UInt8), (58 : UInt8) ∉ a → (58 : UInt8) ∉ b → a ++ 58 :: r = b ++ 58 :: s → a = b ∧ r = s
  | [], [], r, s, _, _, h => ⟨rfl, by simpa using h⟩
  | [], y :: b, r, s, _, hb, h => by
    simp only [List.nil_append, List.cons_append, List.cons.injEq] at h
    exact absurd (by rw [h.1]; exact List.mem_cons_self) hb
  | x :: a, [], r, s, ha, _, h => by
    simp only [List.nil_append, List.cons_append, List.cons.injEq] at h
    exact absurd (by rw [← h.1]; exact List.mem_cons_self) ha
  | x :: a, y :: b, r, s, ha, hb, h => by
    simp only [List.cons_append, List.cons.injEq] at h
    obtain ⟨h1, h2⟩ := split58 a b r s (fun q => ha (List.mem_cons_of_mem _ q)) (fun q => hb (List.mem_cons_of_mem _ q)) h.2
    exact ⟨by rw [h.1, h1], h2⟩
theorem itoa_nat (u : Nat) : Lib.itoa (u : Int) = Lib.decDigits u := by unfold Lib.itoa; rw [if_neg (by omega)]; simp
theorem term_inj {p q r s : List UInt8} (h : term p ++ r = term q ++ s) : p = q ∧ r = s := by
  unfold term at h
  rw [itoa_nat, itoa_nat, List.append_assoc, List.append_assoc, List.cons_append, List.cons_append] at h
  obtain ⟨h1, h2⟩ := split58 _ _ _ _ (no58 _) (no58 _) h
  have hl : p.length = q.length := by rw [← val_dec p.length, ← val_dec q.length, h1]
  exact List.append_inj h2 hl
theorem term_ne (p : List UInt8) : term p ≠ [] := by unfold term; simp
theorem word_inj : ∀ {a b : List (List UInt8)}, word a = word b → a = b
  | [], [], _ => rfl
  | [], q :: b, h => by
    simp only [word, List.map_nil, List.flatten_nil, List.map_cons, List.flatten_cons] at h
    exact absurd (List.append_eq_nil_iff.1 h.symm).1 (term_ne q)
  | p :: a, [], h => by
    simp only [word, List.map_nil, List.flatten_nil, List.map_cons, List.flatten_cons] at h
    exact absurd (List.append_eq_nil_iff.1 h).1 (term_ne p)
  | p :: a, q :: b, h => by
    simp only [word, List.map_cons, List.flatten_cons] at h
    obtain ⟨h1, h2⟩ := term_inj h
    rw [h1, word_inj h2]
theorem word_snoc (k : List (List UInt8)) (p : List UInt8) : word (k ++ [p]) = word k ++ term p := by
  simp [word]
theorem term_len (p : List UInt8) : (term p).length = Lib.nDigits p.length + 1 + p.length := by
  unfold term
  rw [itoa_nat, List.length_append, List.length_cons, Lib.decDigits_length]
  omega
end Go.Proofs.YtnogmaljcocfjaaDoor.DitWord
namespace Go.Proofs.YtnogmaljcocfjaaDoor.Blk
open Go.RowKit
/-- Block b is these cells, of type t, none frozen. -/
def At (w : World) (b : Nat) (cs : List Value) (t : TypeId) : Prop := w.heap[b]? = some (.cells cs.toArray t (0, 0))
theorem At.lt {w : World} {b : Nat} {cs : List Value} {t : TypeId} (h : At w b cs t) : b < w.heap.size := lt_of_block h
theorem At.cell {w : World} {b : Nat} {cs : List Value} {t : TypeId} (h : At w b cs t) (k : Nat) : w.cell? ⟨b, k, none⟩ = cs[k]? := by
  unfold At at h
  simp [World.cell?, h]
theorem At.get {w : World} {b : Nat} {cs : List Value} {t : TypeId} (h : At w b cs t) (k : Nat) (v : Value) (hk : cs[k]? = some v) : w.cell? ⟨b, k, none⟩ = some v := (h.cell k).trans hk
theorem At.free {w : World} {b : Nat} {cs : List Value} {t : TypeId} (h : At w b cs t) (k : Nat) : w.frozen? ⟨b, k, none⟩ = false := by
  unfold At at h
  simp [World.frozen?, h]
theorem At.set {w : World} {b : Nat} {cs : List Value} {t : TypeId} (h : At w b cs t) (k : Nat) (u : Value) : At (w.setCell ⟨b, k, none⟩ u) b (cs.set k u) t := by
  have hlt := h.lt
  unfold At at h ⊢
  have h' : w.heap[b] = .cells cs.toArray t (0, 0) := by simpa [Array.getElem?_eq_getElem hlt] using h
  show (w.heap.modify b _)[b]? = _
  rw [Array.getElem?_eq_getElem (by simpa using hlt), Array.getElem_modify_self, h']
  simp
theorem At.other {w : World} {b : Nat} {cs : List Value} {t : TypeId} (h : At w b cs t) (a : Addr) (u : Value) (hne : b ≠ a.block) : At (w.setCell a u) b cs t := by
  unfold At at h ⊢
  rw [Below.heap_setCell _ _ _ _ hne]
  exact h
theorem At.alloc {w : World} {b : Nat} {cs : List Value} {t : TypeId} (h : At w b cs t) (o : Obj) : At (w.alloc o) b cs t := by
  have := h.lt
  unfold At at h ⊢
  rw [Below.heap_alloc _ _ _ this]
  exact h
theorem At.drew {w : World} {b : Nat} {cs : List Value} {t : TypeId} (h : At w b cs t) : At w.drew b cs t := h
theorem At.drewN {w : World} {b : Nat} {cs : List Value} {t : TypeId} (h : At w b cs t) (n : Nat) : At (w.drewN n) b cs t := h
theorem At.below {w w1 : World} {b B : Nat} {cs : List Value} {t : TypeId} (h : At w b cs t) (hb : Below B w w1) (hlt : b < B) : At w1 b cs t := (hb.block b hlt).trans h
theorem At.grown {w w1 : World} {b : Nat} {row : Option Nat} {cs : List Value} {t : TypeId} (h : At w b cs t) (hg : w.grownBy w1 row) (hne : some b ≠ row) : At w1 b cs t := (hg.block b h.lt hne).trans h
theorem At.fresh (w : World) (cs : List Value) (t : TypeId) : At (w.alloc (.cells cs.toArray t)) w.heap.size cs t := by
  show (w.heap.push _)[w.heap.size]? = _
  simp
/-- A store into block b, as growth by row b. -/
theorem grown_set {w w1 : World} {b : Nat} (h : w.grownBy w1 (some b)) (k : Nat) (u : Value) : w.grownBy (w1.setCell ⟨b, k, none⟩ u) (some b) :=
  ⟨h.os, h.tape, h.output, by simpa [World.setCell] using h.size, fun j hj hne => (Below.heap_setCell _ _ _ _ (fun e => hne (by rw [e]))).trans (h.block j hj hne)⟩
theorem grown_refl (w : World) (row : Option Nat) : w.grownBy w row := ⟨rfl, rfl, rfl, Nat.le_refl _, fun _ _ _ => rfl⟩
theorem grown_drewN {w w1 : World} {row : Option Nat} (h : w.grownBy w1 row) (n : Nat) : w.grownBy (w1.drewN n) row := ⟨h.os, h.tape, h.output, h.size, h.block⟩
theorem grown_alloc {w w1 : World} {row : Option Nat} (h : w.grownBy w1 row) (o : Obj) : w.grownBy (w1.alloc o) row :=
  ⟨h.os, h.tape, h.output, by have := h.size; simp; omega, fun j hj hne => (Below.heap_alloc _ _ _ (Nat.lt_of_lt_of_le hj h.size)).trans (h.block j hj hne)⟩
theorem grown_trans {w w1 w2 : World} {row : Option Nat} (h : w.grownBy w1 row) (k : w1.grownBy w2 row) : w.grownBy w2 row :=
  ⟨k.os.trans h.os, k.tape.trans h.tape, k.output.trans h.output, Nat.le_trans h.size k.size, fun j hj hne => (k.block j (Nat.lt_of_lt_of_le hj h.size) hne).trans (h.block j hj hne)⟩
theorem grown_below {w w1 : World} (h : Below w.heap.size w w1) (row : Option Nat) : w.grownBy w1 row := ⟨h.os, h.tape, h.output, h.size, fun k hk _ => h.block k hk⟩
/-- Two rows. -/
theorem grown_cell {w w1 : World} {row : Option Nat} (h : w.grownBy w1 row) {a : Addr} {v : Value} (hc : w.cell? a = some v) (hne : some a.block ≠ row) : w1.cell? a = some v :=
  (World.cell?_of_block (h.block a.block (World.block_lt_of_cell? w a hc) hne)).trans hc
end Go.Proofs.YtnogmaljcocfjaaDoor.Blk
namespace Go.Proofs.YtnogmaljcocfjaaDoor.DitRow
open Go.RowKit Go.Proofs.YtnogmaljcocfjaaDoor.Blk Go.Proofs.YtnogmaljcocfjaaDoor.DitTab Go.Proofs.YtnogmaljcocfjaaDoorW.PrintWords Go.Proofs.YtnogmaljcocfjaaDoorW.PrintLast Go.Proofs.YtnogmaljcocfjaaDoorW.PrintMore
abbrev E : ByteArray := ByteArray.empty
theorem info9 : (Tryd.prog.info? 9).map (fun i => (i.zero, i.size, i.bytes)) = some (some (.string ⟨#[]⟩), 1, 16) := by kernel_rfl
theorem info5 : (Tryd.prog.info? 5).map (fun i => (i.zero, i.size, i.bytes)) = some (some (.int .u8 0), 1, 1) := by kernel_rfl
theorem info3 : (Tryd.prog.info? 3).map (fun i => (i.zero, i.size, i.bytes)) = some (some (.int .i64 0), 1, 8) := by kernel_rfl
theorem add_off (g o k : Nat) : (⟨g, o, none⟩ : Addr).add k = ⟨g, o + k, none⟩ := by
  unfold Addr.add
  by_cases h : k = 0
  · subst h; simp
  · simp [h]
/-- A row of one cell's elements in block g. -/
structure Row {α : Type} (enc : α → Value) (d : α) (w : World) (g : Nat) (A : Option Addr) (c : Nat) (l : List α) : Prop where
  cap : l.length ≤ c
  at_ : 0 < l.length → ∃ o, A = some ⟨g, o, none⟩ ∧ ∀ i, i < l.length → w.cell? ⟨g, o + i, none⟩ = some (enc (l.getD i d))
abbrev RowS := Row Value.string E
abbrev RowI := Row (Value.int .i64) (0 : Int)
section
variable {α : Type} {enc : α → Value} {d : α} {w w1 : World} {g c : Nat} {A : Option Addr} {l : List α}
theorem Row.take (h : Row enc d w g A c l) (k : Nat) (hk : k ≤ l.length) (c2 : Nat) (hd : k ≤ c2) : Row enc d w g A c2 (l.take k) := by
  have hl : (l.take k).length = k := by rw [List.length_take]; omega
  refine ⟨by omega, fun hp => ?_⟩
  obtain ⟨o, rfl, e3⟩ := h.at_ (by omega)
  refine ⟨o, rfl, fun i hi => ?_⟩
  rw [e3 i (by omega)]
  congr 2
  simp [List.getD_eq_getElem?_getD, List.getElem?_take_of_lt (by omega : i < k)]
theorem Row.on (h : Row enc d w g A c l) (hb : 0 < l.length → w1.heap[g]? = w.heap[g]?) : Row enc d w1 g A c l :=
  ⟨h.cap, fun hp => by
    obtain ⟨o, e1, e3⟩ := h.at_ hp
    exact ⟨o, e1, fun i hi => (World.cell?_of_block (a := ⟨g, o + i, none⟩) (hb hp)).trans (e3 i hi)⟩⟩
theorem Row.lt (h : Row enc d w g A c l) (hp : 0 < l.length) : g < w.heap.size := by
  obtain ⟨o, _, e⟩ := h.at_ hp
  have := World.block_lt_of_cell? w _ (e 0 hp)
  simpa using this
theorem Row.below (h : Row enc d w g A c l) (hb : Below w.heap.size w w1) : Row enc d w1 g A c l := h.on (fun hp => hb.block _ (h.lt hp))
theorem Row.grown {q : Nat} (h : Row enc d w g A c l) (hg : w.grownBy w1 (some q)) (hne : 0 < l.length → g ≠ q) : Row enc d w1 g A c l :=
  h.on (fun hp => hg.block _ (h.lt hp) (fun e => hne hp (Option.some.inj e)))
theorem Row.nil (w : World) (g : Nat) (A : Option Addr) (c : Nat) : Row enc d w g A c [] := ⟨Nat.zero_le _, fun hp => absurd hp (by simp)⟩
/-- A row of one's own. -/
theorem row_of_own {base : Nat} {e : TypeId} {v : Value} {n : Nat} (h : w.ownsRow base e 1 v n (l.map enc)) : ∃ g B cc, v = .slice B l.length cc ∧ Row enc d w g B cc l ∧ n = l.length ∧ (0 < l.length → base ≤ g ∧ g < w.heap.size) := by
  have hn : n = l.length := by have := h.1; simpa using this.symm
  subst hn
  rcases h.2 with ⟨rfl, h0⟩ | ⟨g, cap, cur, rfl, h3, h4, h5, h6, h7, h8⟩
  · exact ⟨0, none, 0, by rw [h0], ⟨by omega, fun hp => by omega⟩, rfl, fun hp => by omega⟩
  · refine ⟨g, some ⟨g, 0, none⟩, cap, rfl, ⟨h5, fun hp => ⟨0, rfl, fun i hi => ?_⟩⟩, rfl, fun _ => ⟨h3, (Array.getElem?_eq_some_iff.1 h4).1⟩⟩
    rw [Nat.zero_add, Blk.At.cell (cs := cur.toList) (show Blk.At w g cur.toList e from h4) i]
    have h9 : (cur.toList.take (l.length * 1))[i]? = some (enc (l.getD i d)) := by
      rw [h8, List.getElem?_map, List.getElem?_eq_getElem hi]
      simp [List.getD_eq_getElem?_getD, List.getElem?_eq_getElem hi]
    rwa [List.getElem?_take_of_lt (by omega)] at h9
end
theorem own_below {w w1 : World} {base : Nat} {e : TypeId} {size : Nat} {v : Value} {n : Nat} {xs : List Value} (h : w.ownsRow base e size v n xs) (hb : Below w.heap.size w w1) : w1.ownsRow base e size v n xs := by
  obtain ⟨h1, h2 | ⟨g, cap, cur, e1, e2, e3, e4⟩⟩ := h
  · exact ⟨h1, .inl h2⟩
  · exact ⟨h1, .inr ⟨g, cap, cur, e1, e2, (hb.block _ (Array.getElem?_eq_some_iff.1 e3).1).trans e3, e4⟩⟩
theorem rowS_of_C {w : World} {A : Option Addr} {c : Nat} {l : List ByteArray} (h : Kd.C Kd.string w A l.length l) (hc : l.length ≤ c) : ∃ g, RowS w g A c l := by
  by_cases hp : 0 < l.length
  · have key : ∀ i : Nat, i < l.length → ∃ ad, A = some ad ∧ w.cell? (ad.add i) = some (.string (l.getD i E)) := fun i hi => by
      obtain ⟨ad, cs, e, _, hK, hc0⟩ := Kd.C_get h E (i : Int) (by omega) (by omega)
      obtain rfl := hK
      have := hc0 0 _ rfl
      rw [show Kd.string.sz = 1 from rfl, Int.toNat_natCast, Nat.mul_one, Nat.add_zero] at this
      exact ⟨ad, e, this⟩
    obtain ⟨⟨g, o, sp⟩, rfl, h0⟩ := key 0 hp
    have hsp : sp = none := by
      cases sp with
      | none => rfl
      | some k =>
        simp [Addr.add, World.cell?] at h0
        split at h0 <;> simp at h0
    subst hsp
    refine ⟨g, hc, fun _ => ⟨o, rfl, fun i hi => ?_⟩⟩
    obtain ⟨ad, e, h1⟩ := key i hi
    obtain rfl := Option.some.inj e
    rwa [add_off] at h1
  · exact ⟨0, hc, fun h => absurd h hp⟩
theorem C_of_row {α : Type} {k : Kd α} {enc : α → Value} {d : α} {w : World} {g c : Nat} {A : Option Addr} {l : List α} (h : Row enc d w g A c l) (hn : l.length ≤ 9223372036854775807) (hs : k.sz = 1) (hk : ∀ x, k.K w x [enc x]) : Kd.C k w A l.length l := by
  refine ⟨rfl, hn, fun hp => ?_⟩
  obtain ⟨o, rfl, hc⟩ := h.at_ hp
  refine ⟨_, rfl, fun j p hj => ⟨[enc p], by rw [hs]; rfl, hk p, fun i u hu => ?_⟩⟩
  have hjn : j < l.length := (List.getElem?_eq_some_iff.1 hj).1
  have hi : i = 0 := by
    have := (List.getElem?_eq_some_iff.1 hu).1
    simpa using this
  subst hi
  rw [add_off, hs, Nat.mul_one, Nat.add_zero, hc j hjn]
  have e2 : l.getD j d = p := by simp [List.getD_eq_getElem?_getD, hj]
  rw [e2]
  simpa using hu
theorem CS_of_row {w : World} {g c : Nat} {A : Option Addr} {l : List ByteArray} (h : RowS w g A c l) (hn : l.length ≤ 9223372036854775807) : Kd.C Kd.string w A l.length l := C_of_row h hn rfl (fun _ => rfl)
theorem CI_of_row {w : World} {g c : Nat} {A : Option Addr} {l : List Int} (h : RowI w g A c l) (hn : l.length ≤ 9223372036854775807) : Kd.C (Kd.int .i64) w A l.length l := C_of_row h hn rfl (fun _ => rfl)
theorem below_set {B b k : Nat} {w W : World} (h : Below B w W) (hb : B ≤ b) (hB : B ≤ W.heap.size) (u : Value) : Below B w (W.setCell ⟨b, k, none⟩ u) :=
  h.grown (grown_set (grown_refl W (some b)) k u) hB (fun j e => by have := Option.some.inj e; omega)
/-- 'string(b)' of a row of bytes of one's own. -/
theorem conv_own {W : World} {base : Nat} {v : Value} {l : List UInt8} (h : W.ownsRow base 5 1 v l.length (Lib.byteCells l)) : (convert 89 9 v).run Tryd.prog W = .ok (.string ⟨l.toArray⟩) W := by
  rcases h.2 with ⟨rfl, h0⟩ | ⟨g, cap, cur, rfl, h3, h4, h5, h6, h7, h8⟩
  · have : l = [] := List.eq_nil_of_length_eq_zero h0
    subst this
    exact run_convert_bytes_nil W 89 5 Tryd.underlying89 Tryd.underlying5 0 0 9 Tryd.underlying9
  · have hsz : (⟨l.toArray⟩ : ByteArray).size = l.length := rfl
    have hc := Lib.run_convert_whole (P := Tryd.prog) W 89 5 9 Tryd.underlying89 Tryd.underlying5 Tryd.underlying9 g 0 ⟨l.toArray⟩ (fun i hi => ?_) cap
    · rw [hsz] at hc; exact hc
    · have hi : i < l.length := by rw [← hsz]; exact hi
      rw [Nat.zero_add, Blk.At.cell (cs := cur.toList) (show Blk.At W g cur.toList 5 from h4) i]
      have h9 : (cur.toList.take (l.length * 1))[i]? = some (.int .u8 (l[i]).toNat) := by
        rw [h8, Lib.byteCells, List.getElem?_map, List.getElem?_eq_getElem hi]
        rfl
      rw [List.getElem?_take_of_lt (by omega)] at h9
      rw [h9]
      rfl
end Go.Proofs.YtnogmaljcocfjaaDoor.DitRow
namespace Go.Proofs.YtnogmaljcocfjaaDoor.XE
open Go.RowKit Go.Proofs.YtnogmaljcocfjaaDoorW.PrintWords Go.Proofs.YtnogmaljcocfjaaDoorW.PrintLast Go.Proofs.YtnogmaljcocfjaaDoorW.PrintMore
def cmp_Compare_string.f (a0 : ByteArray) (a1 : ByteArray) : Option Int :=
  some (if Op.bytesLess a0.toList a1.toList = true then -1 else if (a0.toList == a1.toList) = true then 0 else 1)
set_option maxHeartbeats 400000 in
theorem cmp_Compare_string.calls (a0 : ByteArray) (a1 : ByteArray) (r : Int) (w : World) (h : cmp_Compare_string.f a0 a1 = some r) :
    Calls Tryd.prog 76 #[.string a0, .string a1] w fun e w' => e = .returned (.int .i64 r) ∧ Drawn0 w w' := by
  obtain rfl := Option.some.inj h
  clear h
  by_cases h1 : Op.bytesLess a0.toList a1.toList = true
  · rw [if_pos h1]
    go_enter Tryd.func76, Tryd.ntmps76
    go_wp2
    go_ret
    exact ⟨rfl, by repeat (first | exact Drawn0.refl _ | apply Drawn0.step)⟩
  · rw [if_neg h1]
    have h1' : Op.bytesLess a0.toList a1.toList = false := by simpa using h1
    clear h1
    by_cases h2 : (a0.toList == a1.toList) = true
    · rw [if_pos h2]
      go_enter Tryd.func76, Tryd.ntmps76
      go_wp2
      go_ret
      exact ⟨rfl, by repeat (first | exact Drawn0.refl _ | apply Drawn0.step)⟩
    · rw [if_neg h2]
      have h2' : (a0.toList == a1.toList) = false := by simpa using h2
      clear h2
      go_enter Tryd.func76, Tryd.ntmps76
      go_wp2
      go_ret
      exact ⟨rfl, by repeat (first | exact Drawn0.refl _ | apply Drawn0.step)⟩
end Go.Proofs.YtnogmaljcocfjaaDoor.XE
namespace Go.Proofs.YtnogmaljcocfjaaDoor.Keys
open Go (Op.bytesLess)
theorem less_irrefl : ∀ a : List UInt8, Op.bytesLess a a = false
  | [] => rfl
  | x :: a => by
    simp only [Op.bytesLess, less_irrefl a]
    simp
theorem less_tri : ∀ a b : List UInt8, Op.bytesLess a b = true ∨ a = b ∨ Op.bytesLess b a = true
  | [], [] => by simp
  | [], _ :: _ => by simp [Op.bytesLess]
  | _ :: _, [] => by simp [Op.bytesLess]
  | x :: a, y :: b => by
    simp only [Op.bytesLess, Bool.or_eq_true, Bool.and_eq_true, decide_eq_true_eq, beq_iff_eq, List.cons.injEq]
    rcases less_tri a b with h | h | h
    · by_cases e : x = y
      · exact Or.inl (Or.inr ⟨e, h⟩)
      · rcases (show x < y ∨ y < x by
          rw [UInt8.lt_iff_toNat_lt, UInt8.lt_iff_toNat_lt]
          have : x.toNat ≠ y.toNat := fun h => e (UInt8.toNat_inj.1 h)
          omega) with h1 | h1
        · exact Or.inl (Or.inl h1)
        · exact Or.inr (Or.inr (Or.inl h1))
    · by_cases e : x = y
      · exact Or.inr (Or.inl ⟨e, h⟩)
      · rcases (show x < y ∨ y < x by
          rw [UInt8.lt_iff_toNat_lt, UInt8.lt_iff_toNat_lt]
          have : x.toNat ≠ y.toNat := fun h => e (UInt8.toNat_inj.1 h)
          omega) with h1 | h1
        · exact Or.inl (Or.inl h1)
        · exact Or.inr (Or.inr (Or.inl h1))
    · by_cases e : x = y
      · exact Or.inr (Or.inr (Or.inr ⟨e.symm, h⟩))
      · rcases (show x < y ∨ y < x by
          rw [UInt8.lt_iff_toNat_lt, UInt8.lt_iff_toNat_lt]
          have : x.toNat ≠ y.toNat := fun h => e (UInt8.toNat_inj.1 h)
          omega) with h1 | h1
        · exact Or.inl (Or.inl h1)
        · exact Or.inr (Or.inr (Or.inl h1))
theorem less_trans : ∀ a b c : List UInt8, Op.bytesLess a b = true → Op.bytesLess b c = true → Op.bytesLess a c = true
  | _, _, [], _, h => by simp [Op.bytesLess] at h
  | _, [], _ :: _, h, _ => by simp [Op.bytesLess] at h
  | [], _ :: _, _ :: _, _, _ => by simp [Op.bytesLess]
  | x :: a, y :: b, z :: c, h1, h2 => by
    simp only [Op.bytesLess, Bool.or_eq_true, Bool.and_eq_true, decide_eq_true_eq, beq_iff_eq] at h1 h2 ⊢
    rcases h1 with h1 | ⟨rfl, h1⟩
    · rcases h2 with h2 | ⟨rfl, h2⟩
      · left
        rw [UInt8.lt_iff_toNat_lt] at *
        omega
      · exact Or.inl h1
    · rcases h2 with h2 | ⟨rfl, h2⟩
      · exact Or.inl h2
      · exact Or.inr ⟨rfl, less_trans a b c h1 h2⟩
theorem less_asymm {a b : List UInt8} (h : Op.bytesLess a b = true) : Op.bytesLess b a = false := by
  cases h2 : Op.bytesLess b a with
  | false => rfl
  | true => have := less_trans a b a h h2; rw [less_irrefl] at this; cases this
theorem less_ne {a b : List UInt8} (h : Op.bytesLess a b = true) : a ≠ b := by
  rintro rfl
  rw [less_irrefl] at h
  cases h
/-- Two keys compared. -/
def cmpK : List (List UInt8) → List (List UInt8) → Int
  | [], [] => 0
  | [], _ :: _ => -1
  | _ :: _, [] => 1
  | a :: x, b :: y => if Op.bytesLess a b = true then -1 else if a = b then cmpK x y else 1
theorem cmpK_range : ∀ x y, cmpK x y = -1 ∨ cmpK x y = 0 ∨ cmpK x y = 1
  | [], [] => by simp [cmpK]
  | [], _ :: _ => by simp [cmpK]
  | _ :: _, [] => by simp [cmpK]
  | a :: x, b :: y => by
    simp only [cmpK]
    split
    · simp
    · split
      · exact cmpK_range x y
      · simp
theorem cmpK_neg : ∀ x y, cmpK x y = - cmpK y x
  | [], [] => by simp [cmpK]
  | [], _ :: _ => by simp [cmpK]
  | _ :: _, [] => by simp [cmpK]
  | a :: x, b :: y => by
    simp only [cmpK]
    rcases less_tri a b with h | h | h
    · rw [if_pos h, if_neg (by rw [less_asymm h]; simp), if_neg (less_ne h).symm]
    · subst h
      rw [if_neg (by rw [less_irrefl]; simp), if_pos rfl, if_neg (by rw [less_irrefl]; simp), if_pos rfl]
      exact cmpK_neg x y
    · rw [if_neg (by rw [less_asymm h]; simp), if_neg (less_ne h).symm, if_pos h]
      rfl
theorem cmpK_self : ∀ x, cmpK x x = 0
  | [] => rfl
  | a :: x => by
    simp only [cmpK]
    rw [if_neg (by rw [less_irrefl]; simp), if_pos trivial]
    exact cmpK_self x
theorem cmpK_zero : ∀ x y, cmpK x y = 0 → x = y
  | [], [], _ => rfl
  | [], _ :: _, h => by simp [cmpK] at h
  | _ :: _, [], h => by simp [cmpK] at h
  | a :: x, b :: y, h => by
    simp only [cmpK] at h
    split at h
    · cases h
    · split at h
      · rename_i e
        rw [e, cmpK_zero x y h]
      · cases h
theorem cmpK_trans : ∀ x y z, cmpK x y ≤ 0 → cmpK y z ≤ 0 → cmpK x z ≤ 0
  | [], _, [], _, _ => by simp [cmpK]
  | [], _, _ :: _, _, _ => by simp [cmpK]
  | _ :: _, [], _, h, _ => by simp [cmpK] at h
  | _ :: _, _ :: _, [], _, h => by simp [cmpK] at h
  | a :: x, b :: y, c :: z, h1, h2 => by
    simp only [cmpK] at h1 h2 ⊢
    by_cases h3 : Op.bytesLess a b = true
    · by_cases h4 : Op.bytesLess b c = true
      · rw [if_pos (less_trans a b c h3 h4)]; decide
      · rw [if_neg h4] at h2
        by_cases h5 : b = c
        · subst h5
          rw [if_pos h3]; decide
        · rw [if_neg h5] at h2
          exact absurd h2 (by decide)
    · rw [if_neg h3] at h1
      by_cases h5 : a = b
      · subst h5
        rw [if_pos rfl] at h1
        by_cases h4 : Op.bytesLess a c = true
        · rw [if_pos h4]; decide
        · rw [if_neg h4] at h2 ⊢
          by_cases h6 : a = c
          · rw [if_pos h6] at h2 ⊢
            exact cmpK_trans x y z h1 h2
          · rw [if_neg h6] at h2
            exact absurd h2 (by decide)
      · rw [if_neg h5] at h1
        exact absurd h1 (by decide)
theorem cmpK_front : ∀ x c, cmpK x (x ++ c) = if c = [] then 0 else -1
  | [], [] => rfl
  | [], _ :: _ => by simp [cmpK]
  | a :: x, c => by
    simp only [List.cons_append, cmpK]
    rw [if_neg (by rw [less_irrefl]; simp), if_pos trivial]
    exact cmpK_front x c
/-- What lies between two keys with one front has that front. -/
theorem cmpK_between : ∀ base a b c, cmpK (base ++ a) b ≤ 0 → cmpK b (base ++ c) ≤ 0 → ∃ r, b = base ++ r
  | [], _, b, _, _, _ => ⟨b, rfl⟩
  | p :: base, _, [], _, h, _ => by simp [cmpK] at h
  | p :: base, a, q :: b, c, h1, h2 => by
    simp only [List.cons_append, cmpK] at h1 h2
    have e : p = q := by
      by_cases h3 : Op.bytesLess p q = true
      · rw [if_neg (by rw [less_asymm h3]; simp), if_neg (less_ne h3).symm] at h2
        exact absurd h2 (by decide)
      · rw [if_neg h3] at h1
        by_cases h4 : p = q
        · exact h4
        · rw [if_neg h4] at h1
          exact absurd h1 (by decide)
    subst e
    rw [if_neg (by rw [less_irrefl]; simp), if_pos rfl] at h1 h2
    obtain ⟨r, rfl⟩ := cmpK_between base a b c h1 h2
    exact ⟨r, rfl⟩
end Go.Proofs.YtnogmaljcocfjaaDoor.Keys
namespace Go.Proofs.YtnogmaljcocfjaaDoor.DitPure
open Go.Proofs.YtnogmaljcocfjaaDoor.Keys
abbrev Key := List (List UInt8)
/-- The keys of entries of which Build makes a tree. -/
structure TL (K : List Key) : Prop where
  pos : 0 < K.length
  nd : K.Nodup
  par : ∀ i, 0 < i → i < K.length → K.getD i [] ≠ [] ∧ (K.getD i []).dropLast ∈ K.take i
/-- The same in order. -/
structure TS (S : List Key) : Prop where
  pos : 0 < S.length
  ris : ∀ i j, i < j → j < S.length → cmpK (S.getD i []) (S.getD j []) < 0
  par : ∀ i, 0 < i → i < S.length → S.getD i [] ≠ [] ∧ ∃ p, p < S.length ∧ S.getD p [] = (S.getD i []).dropLast
  root : ∀ i, i < S.length → S.getD 0 [] <+: S.getD i []
theorem getD_mem {α : Type} (l : List α) (d : α) {i : Nat} (h : i < l.length) : l.getD i d ∈ l := by
  rw [List.getD_eq_getElem?_getD, List.getElem?_eq_getElem h]
  exact List.getElem_mem h
theorem mem_getD {α : Type} {l : List α} {d x : α} (h : x ∈ l) : ∃ i, i < l.length ∧ l.getD i d = x := by
  obtain ⟨i, hi, e⟩ := List.mem_iff_getElem.1 h
  exact ⟨i, hi, by rw [List.getD_eq_getElem?_getD, List.getElem?_eq_getElem hi]; exact e⟩
theorem take_getD {α : Type} {l : List α} {d x : α} {n : Nat} (h : x ∈ l.take n) : ∃ i, i < n ∧ i < l.length ∧ l.getD i d = x := by
  obtain ⟨i, hi, e⟩ := mem_getD (d := d) h
  rw [List.length_take] at hi
  refine ⟨i, by omega, by omega, ?_⟩
  rw [← e, List.getD_eq_getElem?_getD, List.getD_eq_getElem?_getD, List.getElem?_take_of_lt (by omega)]
theorem cmp_front {a b : Key} (h : a <+: b) : cmpK a b ≤ 0 := by
  obtain ⟨c, rfl⟩ := h
  rw [cmpK_front]
  split <;> decide
theorem cmp_lt_ne {a b : Key} (h : cmpK a b < 0) : a ≠ b := fun e => by rw [e, cmpK_self] at h; omega
theorem cmp_lt_trans {a b c : Key} (h : cmpK a b < 0) (k : cmpK b c ≤ 0) : cmpK a c < 0 := by
  have h1 := cmpK_trans a b c (by omega) k
  have h2 : cmpK a c ≠ 0 := fun e => by
    have e := cmpK_zero _ _ e
    subst e
    have := cmpK_neg a b
    omega
  omega
theorem TL.root {K : List Key} (h : TL K) : ∀ i, i < K.length → K.getD 0 [] <+: K.getD i [] := by
  intro i
  induction i using Nat.strongRecOn with
  | _ i ih =>
    intro hi
    by_cases h0 : i = 0
    · rw [h0]; exact List.prefix_refl _
    · obtain ⟨h1, h2⟩ := h.par i (by omega) hi
      obtain ⟨j, hj, hj2, e⟩ := take_getD (d := []) h2
      have := ih j hj hj2
      rw [e] at this
      exact this.trans (List.dropLast_prefix _)
theorem TS.of {K S : List Key} (h : TL K) (hp : S.Perm K) (hr : ∀ i j, i < j → j < S.length → cmpK (S.getD i []) (S.getD j []) < 0) : TS S ∧ S.getD 0 [] = K.getD 0 [] := by
  have hl : S.length = K.length := hp.length_eq
  have hpos : 0 < S.length := by have := h.pos; omega
  have hr0 : S.getD 0 [] = K.getD 0 [] := by
    obtain ⟨j, hj, e⟩ := mem_getD (d := []) (hp.mem_iff.2 (getD_mem K [] h.pos))
    obtain ⟨i, hi, e2⟩ := mem_getD (d := []) (hp.mem_iff.1 (getD_mem S [] hpos))
    by_cases h0 : j = 0
    · rw [← e, h0]
    · have h1 := hr 0 j (by omega) hj
      have h2 := cmp_front (h.root i hi)
      rw [e2, ← e] at h2
      have := cmp_lt_trans h1 h2
      rw [cmpK_self] at this
      omega
  refine ⟨⟨hpos, hr, fun i h0 hi => ?_, fun i hi => ?_⟩, hr0⟩
  · obtain ⟨k, hk, e⟩ := mem_getD (d := []) (hp.mem_iff.1 (getD_mem S [] hi))
    have hk0 : 0 < k := by
      rcases Nat.eq_zero_or_pos k with h1 | h1
      · exfalso
        have h2 := hr 0 i h0 hi
        rw [← e, h1, hr0, cmpK_self] at h2
        omega
      · exact h1
    obtain ⟨h1, h2⟩ := h.par k hk0 hk
    rw [e] at h1 h2
    exact ⟨h1, mem_getD (hp.mem_iff.2 (List.mem_of_mem_take h2))⟩
  · obtain ⟨k, hk, e⟩ := mem_getD (d := []) (hp.mem_iff.1 (getD_mem S [] hi))
    rw [hr0, ← e]
    exact h.root k hk
variable {S : List Key}
theorem TS.inj (h : TS S) {i j : Nat} (hi : i < S.length) (hj : j < S.length) (e : S.getD i [] = S.getD j []) : i = j := by
  rcases Nat.lt_trichotomy i j with h1 | h1 | h1
  · have := h.ris i j h1 hj; rw [e, cmpK_self] at this; omega
  · exact h1
  · have := h.ris j i h1 hi; rw [e, cmpK_self] at this; omega
theorem TS.le (h : TS S) {i j : Nat} (hij : i ≤ j) (hj : j < S.length) : cmpK (S.getD i []) (S.getD j []) ≤ 0 := by
  rcases Nat.lt_or_ge i j with h1 | h1
  · have := h.ris i j h1 hj; omega
  · rw [show i = j by omega, cmpK_self]; decide
theorem TS.of_le (h : TS S) {i j : Nat} (hi : i < S.length) (hj : j < S.length) (hc : cmpK (S.getD i []) (S.getD j []) ≤ 0) : i ≤ j := by
  rcases Nat.lt_or_ge j i with h1 | h1
  · have h2 := h.ris j i h1 hi
    have h3 := cmpK_neg (S.getD i []) (S.getD j [])
    omega
  · exact h1
theorem TS.front_le (h : TS S) {i j : Nat} (hi : i < S.length) (hj : j < S.length) (hf : S.getD i [] <+: S.getD j []) : i ≤ j := h.of_le hi hj (cmp_front hf)
/-- What lies between an entry and one beneath it lies beneath it. -/
theorem TS.between (h : TS S) {b y z : Nat} (hy : b ≤ y) (hz : y ≤ z) (hl : z < S.length) (hf : S.getD b [] <+: S.getD z []) : S.getD b [] <+: S.getD y [] := by
  obtain ⟨c, hc⟩ := hf
  have h1 := h.le hy (by omega)
  have h2 := h.le hz hl
  rw [← hc] at h2
  obtain ⟨r, hr⟩ := cmpK_between (S.getD b []) [] (S.getD y []) c (by rw [List.append_nil]; exact h1) h2
  exact ⟨r, hr.symm⟩
/-- Every front of a key, from the root's on, is a key. -/
theorem TS.fronts (h : TS S) : ∀ (m : Nat) (f : Key) (i : Nat), i < S.length → (S.getD i []).length - f.length ≤ m → S.getD 0 [] <+: f → f <+: S.getD i [] → ∃ j, j < S.length ∧ S.getD j [] = f := by
  intro m
  induction m with
  | zero =>
    intro f i hi hm h0 hf
    exact ⟨i, hi, (hf.eq_of_length (by have := hf.length_le; omega)).symm⟩
  | succ m ih =>
    intro f i hi hm h0 hf
    by_cases he : f = S.getD i []
    · exact ⟨i, hi, he.symm⟩
    · have hi0 : 0 < i := by
        rcases Nat.eq_zero_or_pos i with h1 | h1
        · exfalso
          rw [h1] at hf he
          exact he (hf.eq_of_length (by have := hf.length_le; have := h0.length_le; omega))
        · exact h1
      obtain ⟨h1, p, hp, e⟩ := h.par i hi0 hi
      have hlt : f.length < (S.getD i []).length := by
        rcases Nat.lt_or_ge f.length (S.getD i []).length with h2 | h2
        · exact h2
        · exact absurd (hf.eq_of_length (by have := hf.length_le; omega)) he
      have hf2 : f <+: S.getD p [] := by
        rw [e]
        obtain ⟨c, hc⟩ := hf
        have hcn : c ≠ [] := fun q => by rw [q, List.append_nil] at hc; exact he hc
        refine ⟨c.dropLast, ?_⟩
        rw [← hc, List.dropLast_append_of_ne_nil hcn]
      refine ih f p hp ?_ h0 hf2
      rw [e, List.length_dropLast]
      omega
/-- n is the parent of c. -/
def Kid (S : List Key) (n c : Nat) : Prop := 0 < c ∧ c < S.length ∧ n < S.length ∧ S.getD n [] = (S.getD c []).dropLast
theorem Kid.front {n c : Nat} (h : Kid S n c) : S.getD n [] <+: S.getD c [] := by rw [h.2.2.2]; exact List.dropLast_prefix _
theorem Kid.lt (hS : TS S) {n c : Nat} (h : Kid S n c) : n < c := by
  have h1 := hS.front_le h.2.2.1 h.2.1 h.front
  have h2 : n ≠ c := fun e => by
    have h3 := h.2.2.2
    rw [e] at h3
    have h4 := (hS.par c h.1 h.2.1).1
    have h5 := congrArg List.length h3
    rw [List.length_dropLast] at h5
    have : 0 < (S.getD c []).length := List.length_pos_iff.2 h4
    omega
  omega
theorem Kid.one (hS : TS S) {n m c : Nat} (h : Kid S n c) (k : Kid S m c) : n = m := hS.inj h.2.2.1 k.2.2.1 (h.2.2.2.trans k.2.2.2.symm)
/-- Beneath an entry, and not it: beneath one of its children. -/
theorem TS.child (h : TS S) {n x : Nat} (hn : n < S.length) (hx : x < S.length) (hf : S.getD n [] <+: S.getD x []) (hne : n ≠ x) : ∃ c, Kid S n c ∧ S.getD c [] <+: S.getD x [] := by
  obtain ⟨t, ht⟩ := hf
  cases t with
  | nil => rw [List.append_nil] at ht; exact absurd (h.inj hn hx ht) hne
  | cons p t =>
    have hf2 : S.getD n [] ++ [p] <+: S.getD x [] := ⟨t, by rw [← ht]; simp⟩
    obtain ⟨c, hc, e⟩ := h.fronts _ (S.getD n [] ++ [p]) x hx (Nat.le_refl _) ((h.root n hn).trans (List.prefix_append _ _)) hf2
    refine ⟨c, ⟨?_, hc, hn, by rw [e, List.dropLast_concat]⟩, by rw [e]; exact hf2⟩
    rcases Nat.eq_zero_or_pos c with h1 | h1
    · exfalso
      have h2 := (h.root n hn).length_le
      rw [h1] at e
      rw [e, List.length_append, List.length_singleton] at h2
      omega
    · exact h1
/-- The numbers beneath m are those from m up to e. -/
def IsEnd (S : List Key) (m e : Nat) : Prop := m < e ∧ e ≤ S.length ∧ ∀ x, x < S.length → (S.getD m [] <+: S.getD x [] ↔ m ≤ x ∧ x < e)
/-- What the parents and the ends hold when the entries above n are done. -/
structure EI (S : List Key) (n : Nat) (e : Nat → Nat) : Prop where
  done : ∀ m, n ≤ m → m < S.length → IsEnd S m (e m)
  up : ∀ m c, m < n → n ≤ c → Kid S m c → e c ≤ e m
  from_ : ∀ m, m < n → e m = 0 ∨ ∃ c, n ≤ c ∧ Kid S m c ∧ e m = e c
theorem EI.start (e : Nat → Nat) (h : ∀ m, e m = 0) : EI S S.length e :=
  ⟨fun m h1 h2 => by omega, fun m c h1 h2 hk => by have := hk.2.1; omega, fun m _ => .inl (h m)⟩
/-- One entry more. -/
theorem EI.step (hS : TS S) {n : Nat} {e e' : Nat → Nat} (h : EI S (n + 1) e) (hn : n < S.length)
    (hsame : ∀ m, m ≠ n → ¬ Kid S m n → e' m = e m) (hself : e' n = max (e n) (n + 1)) (hpar : ∀ p, Kid S p n → e' p = max (e p) (e' n)) : EI S n e' := by
  have hkept : ∀ c, n < c → e' c = e c := fun c hc => hsame c (by omega) (fun k => by have := k.lt hS; omega)
  have hend : IsEnd S n (e' n) := by
    refine ⟨by omega, ?_, fun x hx => ⟨fun hf => ?_, fun hb => ?_⟩⟩
    · rcases h.from_ n (by omega) with h0 | ⟨c, hc, hk, he⟩
      · omega
      · have := (h.done c hc hk.2.1).2.1
        omega
    · refine ⟨hS.front_le hn hx hf, ?_⟩
      by_cases hne : n = x
      · omega
      · obtain ⟨c, hk, hf2⟩ := hS.child hn hx hf hne
        have h1 := hk.lt hS
        have h2 := ((h.done c (by omega) hk.2.1).2.2 x hx).1 hf2
        have h3 := h.up n c (by omega) (by omega) hk
        omega
    · by_cases hne : n = x
      · rw [hne]; exact List.prefix_refl _
      · rcases h.from_ n (by omega) with h0 | ⟨c, hc, hk, he⟩
        · omega
        · have hE := h.done c hc hk.2.1
          have h1 := (hE.2.2 (e c - 1) (by have := hE.2.1; have := hE.1; omega)).2 (by have := hE.1; omega)
          refine hS.between hb.1 (show x ≤ e c - 1 by omega) (by have := hE.2.1; have := hE.1; omega) (hk.front.trans h1)
  refine ⟨fun m h1 h2 => ?_, fun m c h1 h2 hk => ?_, fun m h1 => ?_⟩
  · rcases Nat.lt_or_ge n m with h3 | h3
    · rw [hkept m h3]; exact h.done m (by omega) h2
    · rw [show m = n by omega]; exact hend
  · rcases Nat.lt_or_ge n c with h3 | h3
    · rw [hkept c h3]
      by_cases hm : Kid S m n
      · rw [hpar m hm]
        have := h.up m c (by omega) (by omega) hk
        omega
      · rw [hsame m (by omega) hm]
        exact h.up m c (by omega) (by omega) hk
    · have hcn : c = n := by omega
      subst hcn
      rw [hpar m hk]
      omega
  · by_cases hm : Kid S m n
    · rw [hpar m hm]
      rcases h.from_ m (by omega) with h0 | ⟨c, hc, hk, he⟩
      · right; exact ⟨n, Nat.le_refl _, hm, by omega⟩
      · rcases Nat.le_total (e m) (e' n) with h4 | h4
        · right; exact ⟨n, Nat.le_refl _, hm, by omega⟩
        · right; exact ⟨c, by omega, hk, by rw [hkept c (by omega)]; omega⟩
    · rw [hsame m (by omega) hm]
      rcases h.from_ m (by omega) with h0 | ⟨c, hc, hk, he⟩
      · exact .inl h0
      · exact .inr ⟨c, by omega, hk, by rw [hkept c (by omega)]; exact he⟩
end Go.Proofs.YtnogmaljcocfjaaDoor.DitPure
namespace Go.Proofs.YtnogmaljcocfjaaDoor.DitPure
open Go.Proofs.YtnogmaljcocfjaaDoor.Keys
variable {S : List Key} {PI : Nat → Nat}
def Par (S : List Key) (PI : Nat → Nat) : Prop := ∀ j, 0 < j → j < S.length → Kid S (PI j) j
def upL (PI : Nat → Nat) : Nat → Nat → List Nat
  | 0, j => [j]
  | k + 1, j => if j = 0 then [j] else j :: upL PI k (PI j)
/-- The way up from j. -/
def ups (PI : Nat → Nat) (j : Nat) : List Nat := upL PI j j
theorem upL_fuel (hS : TS S) (hP : Par S PI) : ∀ (k m j : Nat), j ≤ k → j ≤ m → j < S.length → upL PI k j = upL PI m j
  | 0, 0, _, _, _, _ => rfl
  | 0, m + 1, j, h1, _, _ => by
    obtain rfl : j = 0 := by omega
    simp [upL]
  | k + 1, 0, j, _, h1, _ => by
    obtain rfl : j = 0 := by omega
    simp [upL]
  | k + 1, m + 1, j, h1, h2, h3 => by
    by_cases h : j = 0
    · simp [upL, h]
    · have hk := hP j (by omega) h3
      have hl := hk.lt hS
      simp only [upL, if_neg h]
      rw [upL_fuel hS hP k m (PI j) (by omega) (by omega) (by omega)]
theorem ups_zero : ups PI 0 = [0] := rfl
theorem ups_step (hS : TS S) (hP : Par S PI) {j : Nat} (h0 : 0 < j) (hj : j < S.length) : ups PI j = j :: ups PI (PI j) := by
  obtain ⟨k, rfl⟩ : ∃ k, j = k + 1 := ⟨j - 1, by omega⟩
  have hl := (hP (k + 1) h0 hj).lt hS
  unfold ups
  simp only [upL, if_neg (Nat.succ_ne_zero k)]
  rw [upL_fuel hS hP k (PI (k + 1)) (PI (k + 1)) (by omega) (Nat.le_refl _) (by omega)]
theorem ups_mem (hS : TS S) (hP : Par S PI) (j : Nat) : j < S.length → ∀ b, b ∈ ups PI j ↔ b < S.length ∧ S.getD b [] <+: S.getD j [] := by
  induction j using Nat.strongRecOn with
  | _ j ih =>
    intro hj b
    by_cases h0 : j = 0
    · subst h0
      rw [ups_zero, List.mem_singleton]
      refine ⟨fun e => ?_, fun h => ?_⟩
      · subst e
        exact ⟨hj, List.prefix_refl _⟩
      · have := hS.front_le h.1 hj h.2
        omega
    · have hk := hP j (by omega) hj
      have hl := hk.lt hS
      rw [ups_step hS hP (by omega) hj, List.mem_cons, ih (PI j) hl hk.2.2.1 b]
      refine ⟨fun h => ?_, fun h => ?_⟩
      · rcases h with rfl | ⟨h1, h2⟩
        · exact ⟨hj, List.prefix_refl _⟩
        · exact ⟨h1, h2.trans hk.front⟩
      · by_cases e : b = j
        · exact .inl e
        · refine .inr ⟨h.1, ?_⟩
          rw [hk.2.2.2]
          obtain ⟨c, hc⟩ := h.2
          have hcn : c ≠ [] := fun q => by
            rw [q, List.append_nil] at hc
            exact e (hS.inj h.1 hj hc)
          exact ⟨c.dropLast, by rw [← hc, List.dropLast_append_of_ne_nil hcn]⟩
theorem ups_len (hS : TS S) (hP : Par S PI) (j : Nat) : j < S.length → (ups PI j).length ≤ j + 1 := by
  induction j using Nat.strongRecOn with
  | _ j ih =>
    intro hj
    by_cases h0 : j = 0
    · subst h0; exact Nat.le_refl _
    · have hk := hP j (by omega) hj
      have hl := hk.lt hS
      rw [ups_step hS hP (by omega) hj, List.length_cons]
      have := ih (PI j) hl hk.2.2.1
      omega
theorem ups_head (hS : TS S) (hP : Par S PI) {j : Nat} (hj : j < S.length) : ∃ t, ups PI j = j :: t := by
  by_cases h0 : j = 0
  · subst h0; exact ⟨[], rfl⟩
  · exact ⟨_, ups_step hS hP (by omega) hj⟩
end Go.Proofs.YtnogmaljcocfjaaDoor.DitPure
namespace Go.Proofs.YtnogmaljcocfjaaDoor.XV
open Go.RowKit Go.Proofs.YtnogmaljcocfjaaDoorW.PrintWords Go.Proofs.YtnogmaljcocfjaaDoorW.PrintLast
theorem ev_pos {α : Type} {c : Prop} [Decidable c] {f g : Nat → Option α} {r : α} (hc : c) (h : Ev f r) : Ev (fun k => if c then f k else g k) r := Ev.congr (fun k => if_pos hc) h
theorem ev_neg {α : Type} {c : Prop} [Decidable c] {f g : Nat → Option α} {r : α} (hc : ¬ c) (h : Ev g r) : Ev (fun k => if c then f k else g k) r := Ev.congr (fun k => if_neg hc) h
theorem ev_round {α : Type} {g : Nat → Option α} {r : α} (h : Ev (fun k => g (k + 1)) r) : Ev g r := Ev.step (fun _ => rfl) h
theorem ev_some {α β : Type} {x : α} {f : Nat → α → Option β} {r : β} (h : Ev (fun k => f k x) r) : Ev (fun k => (some x).bind (f k)) r := h
theorem ev_eq {α : Type} {r r' : α} (h : r' = r) : Ev (fun _ => some r') r := h ▸ Ev.now r'
theorem ev_at {α : Type} {g : Nat → Option α} {r : α} (n : Nat) (h : ∀ m, g (m + n) = some r) : Ev g r := ⟨n, fun k hk => by
  obtain ⟨m, rfl⟩ : ∃ m, k = m + n := ⟨k - n, by omega⟩
  exact h m⟩
theorem ev_bindsome {α : Type} {g : Nat → Option α} {r : α} (h : Ev g r) : Ev (fun k => (g k).bind fun t => some t) r := Ev.congr (fun k => by cases g k <;> rfl) h
theorem wrp_id (n : Int) (h0 : -9223372036854775808 ≤ n) (h : n ≤ 9223372036854775807) : wrap64 n = n := by unfold wrap64; omega
theorem bt_byte (s : ByteArray) (i : Int) : bt s i = (bytesOf s).getD i.toNat 0 := by rw [← rd_bytesOf]; rfl
theorem bytesOf_append (a b : ByteArray) : bytesOf (a ++ b) = bytesOf a ++ bytesOf b := by
  unfold bytesOf
  rw [← List.map_append]
  congr 1
theorem bytesOf_extract (s : ByteArray) (i j : Nat) : bytesOf (s.extract i j) = ((bytesOf s).take j).drop i := by
  unfold bytesOf
  rw [← List.map_take, ← List.map_drop]
  congr 1
  have h : (s.extract i j).data.toList = (s.data.extract i j).toList := by simp
  rw [h]
  simp [List.drop_take]
theorem bytesOf_range (s : ByteArray) : ∀ x ∈ bytesOf s, 0 ≤ x ∧ x ≤ 255 := by
  intro x hx
  unfold bytesOf at hx
  obtain ⟨b, _, rfl⟩ := List.mem_map.1 hx
  have := b.toNat_lt
  omega
theorem bytesOf_nums (l : List Int) (h : ∀ x ∈ l, 0 ≤ x ∧ x ≤ 255) : bytesOf (strOfNums l) = l := by
  unfold bytesOf
  rw [strOfNums_data, List.map_map]
  conv => rhs; rw [← List.map_id l]
  apply List.map_congr_left
  intro x hx
  have := h x hx
  simp
  omega
theorem bytesOf_inj {a b : ByteArray} (h : bytesOf a = bytesOf b) : a = b := by
  have h2 : a.data.toList = b.data.toList := by
    unfold bytesOf at h
    have inj : ∀ (l m : List UInt8), (l.map fun b => (b.toNat : Int)) = (m.map fun b => (b.toNat : Int)) → l = m := by
      intro l
      induction l with
      | nil => intro m hm; cases m with
        | nil => rfl
        | cons y m => simp at hm
      | cons x l ih => intro m hm; cases m with
        | nil => simp at hm
        | cons y m =>
          simp only [List.map_cons, List.cons.injEq] at hm
          have h1 : x.toNat = y.toNat := by omega
          rw [UInt8.toNat_inj.1 h1, ih m hm.2]
    exact inj _ _ h
  have h3 : a.data = b.data := Array.toList_inj.1 h2
  cases a; cases b; simp_all
theorem toList_data (a : ByteArray) : a.toList = a.data.toList := by
  exact ByteArray.toList_eq a
theorem toList_eq_iff (a b : ByteArray) : a.toList = b.toList ↔ a = b := by
  rw [toList_data, toList_data]
  constructor
  · intro h
    have h3 : a.data = b.data := Array.toList_inj.1 h
    cases a; cases b; simp_all
  · intro h; rw [h]
end Go.Proofs.YtnogmaljcocfjaaDoor.XV

/- Joined: Build up to link. For every world. -/
import Derived.Test.YtnogmaljcocfjaaDoorXK1
import Derived.Test.YtnogmaljcocfjaaDoorPkA
import Derived.Test.YtnogmaljcocfjaaDoorPkB
import Derived.Shelf.SlSortCmp.Whole1
set_option linter.unusedVariables false
set_option linter.unusedSimpArgs false
set_option linter.unusedSectionVars false
namespace Go.Proofs.YtnogmaljcocfjaaDoor.DitEv
open Go.RowKit Go.Proofs.YtnogmaljcocfjaaDoor.XK Go.Proofs.YtnogmaljcocfjaaDoor.XE Go.Proofs.YtnogmaljcocfjaaDoorW.PrintWords Go.Proofs.YtnogmaljcocfjaaDoorW.PrintLast Go.Proofs.YtnogmaljcocfjaaDoor.XV Go.Proofs.YtnogmaljcocfjaaDoor.Keys
/-- A list of texts as lists of bytes. -/
def kl (l : List ByteArray) : List (List UInt8) := l.map ByteArray.toList
theorem kl_inj {a b : List ByteArray} (h : kl a = kl b) : a = b := by
  induction a generalizing b with
  | nil => cases b with
    | nil => rfl
    | cons y b => simp [kl] at h
  | cons x a ih => cases b with
    | nil => simp [kl] at h
    | cons y b =>
      simp only [kl, List.map_cons, List.cons.injEq] at h
      rw [(toList_eq_iff x y).1 h.1, ih h.2]
theorem kl_length (a : List ByteArray) : (kl a).length = a.length := by simp [kl]
theorem kl_drop (a : List ByteArray) (i : Nat) : kl (a.drop i) = (kl a).drop i := by simp [kl]
theorem kl_take (a : List ByteArray) (i : Nat) : kl (a.take i) = (kl a).take i := by simp [kl]
theorem kl_append (a b : List ByteArray) : kl (a ++ b) = kl a ++ kl b := by simp [kl]
theorem kl_at (a : List ByteArray) (i : Nat) (h : i < a.length) : (kl a).drop i = (rdOf ByteArray.empty a (i : Int)).toList :: (kl a).drop (i + 1) := by
  rw [List.drop_eq_getElem_cons (by rw [kl_length]; exact h)]
  congr 1
  simp [kl, rdOf, List.getD_eq_getElem?_getD, List.getElem?_eq_getElem h]
theorem compare_loop (x y : List ByteArray) (hx : x.length ≤ 4611686018427387904) (d : Nat) : ∀ i : Nat, i + d = x.length → i ≤ y.length →
    Ev (fun k => slices_Compare_string_string.l0 k x y x (x.length : Int) (i : Int)) (cmpK ((kl x).drop i) ((kl y).drop i)) := by
  induction d with
  | zero =>
    intro i hi hy
    obtain rfl : i = x.length := by omega
    refine ev_round ?_
    simp only [slices_Compare_string_string.l0]
    refine ev_neg (by omega) ?_
    rw [List.drop_of_length_le (by rw [kl_length]; omega)]
    by_cases h : (x.length : Int) < (y.length : Int)
    · refine ev_pos h (ev_eq ?_)
      rw [kl_at y x.length (by omega)]
      rfl
    · refine ev_neg h (ev_eq ?_)
      rw [List.drop_of_length_le (by rw [kl_length]; omega)]
      rfl
  | succ d ih =>
    intro i hi hy
    refine ev_round ?_
    simp only [slices_Compare_string_string.l0]
    refine ev_pos (by omega) (ev_pos (by omega) (ev_pos (by omega) ?_))
    rw [kl_at x i (by omega)]
    by_cases h : (i : Int) ≥ (y.length : Int)
    · refine ev_pos h (ev_eq ?_)
      rw [List.drop_of_length_le (by rw [kl_length]; omega : (kl y).length ≤ i)]
      rfl
    · refine ev_neg h (ev_pos (by omega) ?_)
      rw [kl_at y i (by omega)]
      simp only [cmp_Compare_string.f, Option.bind_some, cmpK, beq_iff_eq]
      by_cases h1 : Op.bytesLess (rdOf ByteArray.empty x (i : Int)).toList (rdOf ByteArray.empty y (i : Int)).toList = true
      · rw [if_pos h1, if_pos h1]
        exact ev_neg (by decide) (ev_eq rfl)
      · rw [if_neg h1, if_neg h1]
        by_cases h2 : (rdOf ByteArray.empty x (i : Int)).toList = (rdOf ByteArray.empty y (i : Int)).toList
        · rw [if_pos h2, if_pos h2]
          refine ev_pos rfl ?_
          rw [show wrap64 ((i : Int) + 1) = ((i + 1 : Nat) : Int) by rw [wrp_id _ (by omega) (by omega)]; rfl]
          exact ih (i + 1) (by omega) (by omega)
        · rw [if_neg h2, if_neg h2]
          exact ev_neg (by decide) (ev_eq rfl)
theorem compare_ev (x y : List ByteArray) (hx : x.length ≤ 2097152) (hy : y.length ≤ 2097152) : Ev (fun k => dn_Compare.f k x y) (cmpK (kl x) (kl y)) := by
  unfold dn_Compare.f
  refine ev_bindsome ?_
  unfold slices_Compare_string_string.f
  exact compare_loop x y (by omega) x.length 0 (by omega) (by omega)
theorem same_loop (x y : List ByteArray) (hx : x.length ≤ 4611686018427387904) (hl : x.length = y.length) (d : Nat) : ∀ i : Nat, i + d = x.length →
    Ev (fun k => rosterlaw09_sameTexts.l0 k x y (i : Int)) (decide ((kl x).drop i = (kl y).drop i)) := by
  induction d with
  | zero =>
    intro i hi
    refine ev_round ?_
    simp only [rosterlaw09_sameTexts.l0]
    refine ev_neg (by omega) (ev_eq ?_)
    rw [List.drop_of_length_le (by rw [kl_length]; omega), List.drop_of_length_le (by rw [kl_length]; omega)]
    simp
  | succ d ih =>
    intro i hi
    refine ev_round ?_
    simp only [rosterlaw09_sameTexts.l0]
    refine ev_pos (by omega) (ev_pos (by omega) (ev_pos (by omega) ?_))
    rw [kl_at x i (by omega), kl_at y i (by omega)]
    by_cases h2 : (rdOf ByteArray.empty x (i : Int)).toList = (rdOf ByteArray.empty y (i : Int)).toList
    · refine ev_pos h2 ?_
      rw [show wrap64 ((i : Int) + 1) = ((i + 1 : Nat) : Int) by rw [wrp_id _ (by omega) (by omega)]; rfl]
      have := ih (i + 1) (by omega)
      rw [h2]
      simpa using this
    · refine ev_neg h2 (ev_eq ?_)
      simp [h2]
theorem same_ev (x y : List ByteArray) (hx : x.length ≤ 2097152) : Ev (fun k => rosterlaw09_sameTexts.f k x y) (decide (kl x = kl y)) := by
  unfold rosterlaw09_sameTexts.f
  by_cases h : (x.length : Int) = (y.length : Int)
  · refine ev_pos h ?_
    exact same_loop x y (by omega) (by omega) x.length 0 (by omega)
  · refine ev_neg h (ev_eq ?_)
    symm
    rw [decide_eq_false_iff_not]
    intro e
    have := congrArg List.length e
    rw [kl_length, kl_length] at this
    omega
theorem kl_data (l : List ByteArray) : kl l = DitTerm.kl l := by
  unfold kl DitTerm.kl
  exact List.map_congr_left (fun p _ => toList_data p)
end Go.Proofs.YtnogmaljcocfjaaDoor.DitEv
namespace Go.Proofs.YtnogmaljcocfjaaDoor.DitSort
open Go.RowKit Go.Sort Go.Shelf Go.Proofs Go.Proofs.YtnogmaljcocfjaaDoor.XK Go.Proofs.YtnogmaljcocfjaaDoor.XE Go.Proofs.YtnogmaljcocfjaaDoor.XV Go.Proofs.YtnogmaljcocfjaaDoor.Blk Go.Proofs.YtnogmaljcocfjaaDoor.DitTab Go.Proofs.YtnogmaljcocfjaaDoor.DitRow Go.Proofs.YtnogmaljcocfjaaDoor.Keys Go.Proofs.YtnogmaljcocfjaaDoor.DitCheck Go.Proofs.YtnogmaljcocfjaaDoorW.PrintWords Go.Proofs.YtnogmaljcocfjaaDoorW.PrintLast Go.Proofs.YtnogmaljcocfjaaDoorW.PrintMore
def LS_ren : Go.Shelf.Ren := ⟨fun | 6 => 45 | 15 => 59 | 14 => 58 | 28 => 74 | 29 => 75 | 20 => 66 | 21 => 67 | 22 => 68 | 23 => 69 | 24 => 70 | 25 => 71 | 26 => 72 | 27 => 73 | 46 => 79 | 47 => 80 | 48 => 81 | 49 => 82 | 50 => 83 | 57 => 95 | n => n, fun | 22 => 23 | 24 => 3 | 25 => 83 | 3 => 3 | 39 => 95 | 0 => 0 | 53 => 108 | 55 => 110 | 4 => 4 | 46 => 102 | 45 => 101 | 50 => 88 | 5 => 5 | 9 => 9 | 66 => 113 | 70 => 117 | 76 => 127 | 77 => 57 | n => n, fun | n => n⟩
theorem LS : Go.Proofs.SlLaysF.n6 Tryd.prog LS_ren := {
  mixed := by kernel_rfl
  f6 := ⟨Tryd.f45.name, by decide, Tryd.func45.trans (congrArg some (by kernel_rfl))⟩
  f14 := ⟨Tryd.f58.name, by decide, Tryd.func58.trans (congrArg some (by kernel_rfl))⟩
  f15 := Tryd.func59.trans (congrArg some (by kernel_rfl))
  f20 := ⟨Tryd.f66.name, by decide, Tryd.func66.trans (congrArg some (by kernel_rfl))⟩
  f21 := ⟨Tryd.f67.name, by decide, Tryd.func67.trans (congrArg some (by kernel_rfl))⟩
  f22 := ⟨Tryd.f68.name, by decide, Tryd.func68.trans (congrArg some (by kernel_rfl))⟩
  f23 := ⟨Tryd.f69.name, by decide, Tryd.func69.trans (congrArg some (by kernel_rfl))⟩
  f24 := ⟨Tryd.f70.name, by decide, Tryd.func70.trans (congrArg some (by kernel_rfl))⟩
  f25 := ⟨Tryd.f71.name, by decide, Tryd.func71.trans (congrArg some (by kernel_rfl))⟩
  f26 := ⟨Tryd.f72.name, by decide, Tryd.func72.trans (congrArg some (by kernel_rfl))⟩
  f27 := ⟨Tryd.f73.name, by decide, Tryd.func73.trans (congrArg some (by kernel_rfl))⟩
  f28 := Tryd.func74.trans (congrArg some (by kernel_rfl))
  f29 := Tryd.func75.trans (congrArg some (by kernel_rfl))
  f46 := ⟨Tryd.f79.name, by decide, Tryd.func79.trans (congrArg some (by kernel_rfl))⟩
  f47 := Tryd.func80.trans (congrArg some (by kernel_rfl))
  f48 := Tryd.func81.trans (congrArg some (by kernel_rfl))
  f49 := ⟨Tryd.f82.name, by decide, Tryd.func82.trans (congrArg some (by kernel_rfl))⟩
  f50 := ⟨Tryd.f83.name, by decide, Tryd.func83.trans (congrArg some (by kernel_rfl))⟩
  f57 := ⟨Tryd.f95.name, by decide, Tryd.func95.trans (congrArg some (by kernel_rfl))⟩
  t0 := Tryd.underlying0
  a0 := Tryd.isAgg0
  z0 := Tryd.sizeOf0
  v0 := Tryd.zeroValue0
  t3 := Tryd.underlying3
  a3 := Tryd.isAgg3
  z3 := Tryd.sizeOf3
  v3 := Tryd.zeroValue3
  t4 := Tryd.underlying4
  a4 := Tryd.isAgg4
  z4 := Tryd.sizeOf4
  v4 := Tryd.zeroValue4
  t5 := Tryd.underlying5
  a5 := Tryd.isAgg5
  z5 := Tryd.sizeOf5
  v5 := Tryd.zeroValue5
  t9 := Tryd.underlying9
  a9 := Tryd.isAgg9
  z9 := Tryd.sizeOf9
  v9 := Tryd.zeroValue9
  t22 := Tryd.underlying23
  a22 := Tryd.isAgg23
  z22 := Tryd.sizeOf23
  v22 := Tryd.zeroValue23
  a24 := Tryd.isAgg3
  z24 := Tryd.sizeOf3
  t25 := Tryd.underlying83
  a25 := Tryd.isAgg83
  z25 := Tryd.sizeOf83
  v25 := Tryd.zeroValue83
  t39 := Tryd.underlying95
  a39 := Tryd.isAgg95
  z39 := Tryd.sizeOf95
  v39 := Tryd.zeroValue95
  t45 := Tryd.underlying101
  a45 := Tryd.isAgg101
  z45 := Tryd.sizeOf101
  v45 := Tryd.zeroValue101
  t46 := Tryd.underlying102
  a46 := Tryd.isAgg102
  z46 := Tryd.sizeOf102
  v46 := Tryd.zeroValue102
  t50 := Tryd.underlying88
  a50 := Tryd.isAgg88
  z50 := Tryd.sizeOf88
  v50 := Tryd.zeroValue88
  t53 := Tryd.underlying108
  a53 := Tryd.isAgg108
  z53 := Tryd.sizeOf108
  v53 := Tryd.zeroValue108
  t55 := Tryd.underlying110
  a55 := Tryd.isAgg110
  z55 := Tryd.sizeOf110
  v55 := Tryd.zeroValue110
  t66 := Tryd.underlying113
  a66 := Tryd.isAgg113
  z66 := Tryd.sizeOf113
  v66 := Tryd.zeroValue113
  t70 := Tryd.underlying117
  a70 := Tryd.isAgg117
  z70 := Tryd.sizeOf117
  v70 := Tryd.zeroValue117
  t76 := Tryd.underlying127
  a76 := Tryd.isAgg127
  z76 := Tryd.sizeOf127
  v76 := Tryd.zeroValue127
  t77 := Tryd.underlying57
  a77 := Tryd.isAgg57
  z77 := Tryd.sizeOf57
  v77 := Tryd.zeroValue57 }
/-- dn.Compare, by what it answers. -/
theorem comp_as (w : World) (g1 c1 g2 c2 : Nat) (A B : Option Addr) (x y : List ByteArray) (h1 : RowS w g1 A c1 x) (h2 : RowS w g2 B c2 y) (n1 : x.length ≤ 1048576) (n2 : y.length ≤ 1048576) :
    Calls Tryd.prog 47 #[.slice A x.length c1, .slice B y.length c2] w fun e w' => e = .returned (.int .i64 (cmpK (DitEv.kl x) (DitEv.kl y))) ∧ Drawn0 w w' := by
  obtain ⟨k, hk⟩ := DitEv.compare_ev x y (by omega) (by omega)
  exact dn_Compare.calls k A c1 x B c2 y _ w (CS_of_row h1 (by omega)) h1.cap (CS_of_row h2 (by omega)) h2.cap (hk k (Nat.le_refl k))
section
variable {α : Type} [Inhabited α] {enc : α → Value}
theorem heap_sortedG {w : World} {g n : Nat} {os : Array Obj} {cur : Array Value} {e : TypeId} {fr : Nat × Nat} (d : Array α) (hb : w.heap[g]? = some (.cells cur e fr)) :
    (grow (putRow enc (Sort.ahead w n) g 0 d) os).heap[g]? = some (.cells (putCells enc 0 d cur) e fr) := by
  have hg : g < w.heap.size := (Array.getElem?_eq_some_iff.1 hb).1
  rw [heap_grow_old _ _ (by simpa using hg)]
  simp [putRow, mapBlock, Sort.ahead, Array.getElem?_modify, hb, onCells]
theorem heap_otherG {w : World} {g n k : Nat} {os : Array Obj} (d : Array α) (hk : k < w.heap.size) (hne : k ≠ g) : (grow (putRow enc (Sort.ahead w n) g 0 d) os).heap[k]? = w.heap[k]? := by
  rw [heap_grow_old _ _ (by simpa using hk)]
  simp [putRow, mapBlock, Sort.ahead, Array.getElem?_modify, Ne.symm hne]
end
end Go.Proofs.YtnogmaljcocfjaaDoor.DitSort
namespace Go.Proofs.YtnogmaljcocfjaaDoor.DitSort
open Go.RowKit Go.Proofs.YtnogmaljcocfjaaDoor.XK Go.Proofs.YtnogmaljcocfjaaDoor.Blk Go.Proofs.YtnogmaljcocfjaaDoor.DitTab Go.Proofs.YtnogmaljcocfjaaDoor.DitRow Go.Proofs.YtnogmaljcocfjaaDoor.Keys Go.Proofs.YtnogmaljcocfjaaDoor.DitCheck Go.Proofs.YtnogmaljcocfjaaDoorW.PrintWords Go.Proofs.YtnogmaljcocfjaaDoorW.PrintLast Go.Proofs.YtnogmaljcocfjaaDoorW.PrintMore
set_option maxHeartbeats 1000000 in
set_option maxRecDepth 100000 in
theorem clos_as (W : World) (eb b o n c i j q1 d1 q2 d2 : Nat) (A1 A2 : Option Addr) (x y : List ByteArray) (cb : W.cell? ⟨eb, 0, none⟩ = some (.slice (some ⟨b, o, none⟩) n c)) (k1 : W.cell? ⟨b, o + i * 4 + 2, none⟩ = some (.slice A1 x.length d1)) (k2 : W.cell? ⟨b, o + j * 4 + 2, none⟩ = some (.slice A2 y.length d2))
    (r1 : RowS W q1 A1 d1 x) (r2 : RowS W q2 A2 d2 y) (hi : i < n) (hj : j < n) (hn : n ≤ 1048576) (m1 : x.length ≤ 1048576) (m2 : y.length ≤ 1048576) :
    Calls Tryd.prog 46 #[.int .i64 (i : Int), .int .i64 (j : Int), .pointer (some ⟨eb, 0, none⟩)] W fun e w' => e = .returned (.int .i64 (cmpK (DitEv.kl x) (DitEv.kl y))) ∧ Drawn0 W w' := by
  have HR := Lib.hid (And.intro r1 r2)
  have h1 : (i : Int) < (n : Int) := by omega
  have h2 : (j : Int) < (n : Int) := by omega
  clear r1 r2
  go_enter Tryd.func46, Tryd.ntmps46
  go_wp2
  refine start_ (n := 12) (S := fun w' => w'.cell? ⟨eb, 0, none⟩ = some (.slice (some ⟨b, o, none⟩) n c) ∧ w'.cell? ⟨b, o + i * 4 + 2, none⟩ = some (.slice A1 x.length d1) ∧ w'.cell? ⟨b, o + j * 4 + 2, none⟩ = some (.slice A2 y.length d2)) (ds := []) #[false, false, false, false, false, false, false, false, false, false, false, false] (by kernel_rfl) rfl rfl ⟨cb, k1, k2⟩ (fun hHeld => ?_)
  refine pure_ (i := 1) (N := some 7) (v := ?_) (a' := ?_) #[false, true, false, false, false, false, false, false, false, false, false, false] rfl rfl (by kernel_rfl) (fun _ _ _ h => h) (Or.inl ⟨by rfl, ?_⟩) ?_ ?_
  rotate_left
  · intro w'
    go_simp
    with_reducible rfl
  rotate_left
  · simp only [Act.put, List.setIfInBounds_toArray, List.set_cons_zero, List.set_cons_succ, i64_w, i32_w]
    rfl
  refine pure_ (i := 6) (N := some 12) (v := ?_) (a' := ?_) #[false, true, false, false, false, false, true, false, false, false, false, false] rfl rfl (by kernel_rfl) (fun _ _ _ h => h) (Or.inl ⟨by rfl, ?_⟩) ?_ ?_
  rotate_left
  · intro w'
    go_simp
    with_reducible rfl
  rotate_left
  · simp only [Act.put, List.setIfInBounds_toArray, List.set_cons_zero, List.set_cons_succ, i64_w, i32_w]
    rfl
  refine take_ (i := 0) (N := some 6) (v := ?_) (a' := ?_) #[true, true, false, false, false, false, true, false, false, false, false, false] rfl rfl (by kernel_rfl) (fun _ _ _ h => h) (Or.inl ⟨by rfl, ?_⟩) hHeld ?_ ?_
  rotate_left
  · rintro w' ⟨s0, s1, s2⟩
    go_simp
    with_reducible rfl
  rotate_left
  · simp only [Act.put, List.setIfInBounds_toArray, List.set_cons_zero, List.set_cons_succ, i64_w, i32_w]
    rfl
  refine pure_ (i := 2) (N := some 8) (v := ?_) (a' := ?_) #[true, true, true, false, false, false, true, false, false, false, false, false] rfl rfl (by kernel_rfl) (fun _ _ _ h => h) (Or.inl ⟨by rfl, ?_⟩) ?_ ?_
  rotate_left
  · intro w'
    go_simp
    with_reducible rfl
  rotate_left
  · simp only [Act.put, List.setIfInBounds_toArray, List.set_cons_zero, List.set_cons_succ, i64_w, i32_w]
    rfl
  refine pure_ (i := 3) (N := some 9) (v := ?_) (a' := ?_) #[true, true, true, true, false, false, true, false, false, false, false, false] rfl rfl (by kernel_rfl) (fun _ _ _ h => h) (Or.inl ⟨by rfl, ?_⟩) ?_ ?_
  rotate_left
  · intro w'
    go_simp
    with_reducible rfl
  rotate_left
  · simp only [Act.put, List.setIfInBounds_toArray, List.set_cons_zero, List.set_cons_succ, i64_w, i32_w]
    rfl
  refine take_ (i := 4) (N := some 10) (v := ?_) (a' := ?_) #[true, true, true, true, true, false, true, false, false, false, false, false] rfl rfl (by kernel_rfl) (fun _ _ _ h => h) (Or.inl ⟨by rfl, ?_⟩) hHeld ?_ ?_
  rotate_left
  · rintro w' ⟨s0, s1, s2⟩
    go_simp
    with_reducible rfl
  rotate_left
  · simp only [Act.put, List.setIfInBounds_toArray, List.set_cons_zero, List.set_cons_succ, i64_w, i32_w]
    rfl
  refine take_ (i := 5) (N := some 11) (v := ?_) (a' := ?_) #[true, true, true, true, true, true, true, false, false, false, false, false] rfl rfl (by kernel_rfl) (fun _ _ _ h => h) (Or.inl ⟨by rfl, ?_⟩) hHeld ?_ ?_
  rotate_left
  · rintro w' ⟨s0, s1, s2⟩
    go_simp
    with_reducible rfl
  rotate_left
  · simp only [Act.put, List.setIfInBounds_toArray, List.set_cons_zero, List.set_cons_succ, i64_w, i32_w]
    rfl
  refine pure_ (i := 7) (N := some 13) (v := ?_) (a' := ?_) #[true, true, true, true, true, true, true, true, false, false, false, false] rfl rfl (by kernel_rfl) (fun _ _ _ h => h) (Or.inl ⟨by rfl, ?_⟩) ?_ ?_
  rotate_left
  · intro w'
    go_simp
    with_reducible rfl
  rotate_left
  · simp only [Act.put, List.setIfInBounds_toArray, List.set_cons_zero, List.set_cons_succ, i64_w, i32_w]
    rfl
  refine pure_ (i := 8) (N := some 14) (v := ?_) (a' := ?_) #[true, true, true, true, true, true, true, true, true, false, false, false] rfl rfl (by kernel_rfl) (fun _ _ _ h => h) (Or.inl ⟨by rfl, ?_⟩) ?_ ?_
  rotate_left
  · intro w'
    go_simp
    with_reducible rfl
  rotate_left
  · simp only [Act.put, List.setIfInBounds_toArray, List.set_cons_zero, List.set_cons_succ, i64_w, i32_w]
    rfl
  refine take_ (i := 9) (N := some 15) (v := ?_) (a' := ?_) #[true, true, true, true, true, true, true, true, true, true, false, false] rfl rfl (by kernel_rfl) (fun _ _ _ h => h) (Or.inl ⟨by rfl, ?_⟩) hHeld ?_ ?_
  rotate_left
  · rintro w' ⟨s0, s1, s2⟩
    go_simp
    with_reducible rfl
  rotate_left
  · simp only [Act.put, List.setIfInBounds_toArray, List.set_cons_zero, List.set_cons_succ, i64_w, i32_w]
    rfl
  refine one_ (i := 10) (N := some 16) #[true, true, true, true, true, true, true, true, true, true, true, false] rfl rfl (by kernel_rfl) (by decide) (fun K hK => ?_)
  refine goes_ Tryd.func47 (by kernel_rfl) rfl #[.slice A1 x.length d1, .slice A2 y.length d2] (by rfl) rfl rfl (by simp only [List.map_toArray, List.map_cons, List.map_nil]; rfl) ?_
  with_reducible refine (comp_as _ q1 d1 q2 d2 A1 A2 x y (by exact HR.out.1.on (fun _ => rfl)) (by exact HR.out.2.on (fun _ => rfl)) m1 m2).mono ?_
  rintro e _ ⟨rfl, ⟨n3, rfl⟩⟩
  refine ⟨_, rfl, ?_⟩
  refine hK.out _ _ ⟨hHeld.1, hHeld.2.1, hHeld.2.2⟩ (fun hHeld => ?_)
  clear hK K
  refine norm_ (a' := ?_) ?_ ?_
  rotate_left
  · show Act.put _ (some 16) _ = _
    simp only [Act.put, List.setIfInBounds_toArray, List.set_cons_zero, List.set_cons_succ, i64_w, i32_w]
    rfl
  refine pure_ (i := 11) (N := some 5) (v := ?_) (a' := ?_) #[true, true, true, true, true, true, true, true, true, true, true, true] rfl rfl (by kernel_rfl) (fun _ _ _ h => h) (Or.inl ⟨by rfl, ?_⟩) ?_ ?_
  rotate_left
  · intro w'
    go_simp
    with_reducible rfl
  rotate_left
  · simp only [Act.put, List.setIfInBounds_toArray, List.set_cons_zero, List.set_cons_succ, i64_w, i32_w]
    rfl
  refine done_ (by kernel_rfl) ?_
  go_wp2
  go_ret
  exact ⟨rfl, by repeat (first | exact Drawn0.refl _ | apply Drawn0.step)⟩
end Go.Proofs.YtnogmaljcocfjaaDoor.DitSort
namespace Go.Proofs.YtnogmaljcocfjaaDoor.DitSort
open Go.RowKit Go.Sort Go.Shelf Go.Proofs Go.Proofs.YtnogmaljcocfjaaDoor.XK Go.Proofs.YtnogmaljcocfjaaDoor.Blk Go.Proofs.YtnogmaljcocfjaaDoor.DitTab Go.Proofs.YtnogmaljcocfjaaDoor.DitRow Go.Proofs.YtnogmaljcocfjaaDoor.Keys Go.Proofs.YtnogmaljcocfjaaDoor.DitCheck Go.Proofs.YtnogmaljcocfjaaDoorW.PrintWords Go.Proofs.YtnogmaljcocfjaaDoorW.PrintLast Go.Proofs.YtnogmaljcocfjaaDoorW.PrintMore
theorem grown_sortedG {α : Type} [Inhabited α] {enc : α → Value} {w : World} {g n : Nat} {os : Array Obj} (d : Array α) : w.grownBy (sortWorld enc w g 0 n d os) (some g) := by
  unfold sortWorld
  refine ⟨rfl, rfl, rfl, by simp, fun k hk hne => ?_⟩
  rw [heap_grow_old _ _ (by simpa using hk)]
  have : g ≠ k := fun e => hne (by rw [e])
  simp [putRow, mapBlock, Sort.ahead, Array.getElem?_modify, this]
theorem extract_all {α : Type} (d : Array α) {n : Nat} (h : d.size = n) : d.extract 0 n = d := by
  subst h
  exact Array.extract_size
def kx (es : List S45) (i : Nat) : DitPure.Key := DitEv.kl (es.getD i z45).f2
def encF {n : Nat} (i : Fin n) : Value := .int .i64 (i.val : Int)
def cf (es : List S45) (x y : Fin es.length) : Int := cmpK (kx es x.val) (kx es y.val)
theorem lt_iff (es : List S45) (x y : Fin es.length) : ltOf (cf es) x y = decide (cmpK (kx es x.val) (kx es y.val) < 0) := rfl
theorem swo (es : List S45) : SWO (ltOf (cf es)) where
  irrefl x := by rw [lt_iff, cmpK_self]; rfl
  trans x y z h1 h2 := by
    rw [lt_iff] at *
    simp only [decide_eq_true_eq] at *
    exact DitPure.cmp_lt_trans h1 (by omega)
  ntrans x y z h1 h2 := by
    rw [lt_iff] at *
    simp only [decide_eq_false_iff_not, Int.not_lt] at *
    have a1 := cmpK_neg (kx es x.val) (kx es y.val)
    have a2 := cmpK_neg (kx es y.val) (kx es z.val)
    have a3 := cmpK_neg (kx es x.val) (kx es z.val)
    have := cmpK_trans (kx es z.val) (kx es y.val) (kx es x.val) (by omega) (by omega)
    omega
/-- What the sort leaves: the places in the order of the keys. -/
structure Sorted (es : List S45) (p : List Nat) : Prop where
  perm : p.Perm (List.range es.length)
  ris : ∀ i j, i < j → j < p.length → cmpK (kx es (p.getD i 0)) (kx es (p.getD j 0)) ≤ 0
theorem sort_as (W0 W : World) (g cap eb b o c : Nat) (cur : List Value) (es : List S45) (hp : 0 < es.length) (hF : Fit es) (hb : Below W0.heap.size W0 W) (hE : ∀ j, j < es.length → EntAt W0 b (o + j * 4) (es.getD j z45)) (hlt : b < W0.heap.size)
    (ha : At W g cur 3) (hg : W0.heap.size ≤ g) (hlen : es.length ≤ cur.length) (hcur : ∀ j, j < es.length → cur[j]? = some (.int .i64 (j : Int))) (hcb : W.cell? ⟨eb, 0, none⟩ = some (.slice (some ⟨b, o, none⟩) es.length c)) (hne : eb ≠ g) :
    Calls Tryd.prog 45 #[.slice (some ⟨g, 0, none⟩) es.length cap, .func (.func 46) #[] #[.pointer (some ⟨eb, 0, none⟩)]] W fun e w' => e = .returned (.tuple #[]) ∧ ∃ p cur', Sorted es p ∧ At w' g cur' 3 ∧ cur'.length = cur.length ∧ (∀ j, j < es.length → cur'[j]? = some (.int .i64 (p.getD j 0 : Nat))) ∧ W.grownBy w' (some g) := by
  haveI : Inhabited (Fin es.length) := ⟨⟨0, hp⟩⟩
  have hd : (Array.ofFn (n := es.length) id).size = es.length := Array.size_ofFn
  have hH : Holds (encF (n := es.length)) W g 0 (Array.ofFn id) := fun j hj => by
    have hj' : j < es.length := by rwa [hd] at hj
    refine ⟨?_, ha.free _⟩
    rw [Nat.zero_add, ha.cell, hcur j hj', getElem!_pos _ j hj]
    simp [encF]
  have eg : ∀ args w, (callFunc 46 args).run Tryd.prog w = .ok (.enter 46 args) w := enters_of Tryd.func46 (by kernel_rfl) rfl
  have hcmp : CmpLays1 Tryd.prog 46 #[.pointer (some ⟨eb, 0, none⟩)] (encF (n := es.length)) (cf es) g 0 (Array.ofFn (n := es.length) id).size W := fun m os dk hs x y => by
    have hgr := grown_sortedG (w := W) (g := g) (n := m) (os := os) (enc := encF (n := es.length)) dk
    have hB : Below W0.heap.size W0 (sortWorld encF W g 0 m dk os) := hb.grown hgr hb.size (fun j e => by have := Option.some.inj e; omega)
    have ex := (hE x.val x.isLt).below hlt hB
    have ey := (hE y.val y.isLt).below hlt hB
    obtain ⟨A1, d1, q1, _, _, k1, _, r1, _, _⟩ := ex.more
    obtain ⟨A2, d2, q2, _, _, k2, _, r2, _, _⟩ := ey.more
    have hcb' : (sortWorld encF W g 0 m dk os).cell? ⟨eb, 0, none⟩ = some (.slice (some ⟨b, o, none⟩) es.length c) :=
      (World.cell?_of_block (a := ⟨eb, 0, none⟩) (hgr.block eb (World.block_lt_of_cell? W _ hcb) (fun e => hne (Option.some.inj e)))).trans hcb
    have hx := hF.key _ (DitPure.getD_mem es z45 x.isLt)
    have hy := hF.key _ (DitPure.getD_mem es z45 y.isLt)
    refine (clos_as _ eb b o es.length c x.val y.val q1 d1 q2 d2 A1 A2 _ _ hcb' k1 k2 r1 r2 x.isLt y.isLt hF.len hx.1 hy.1).mono ?_
    rintro e w' ⟨rfl, q, rfl⟩
    exact ⟨rfl, q, #[], by rw [grow_empty]⟩
  have hcon := Any.slices_SortFunc LS (encF (n := es.length)) (fun _ => rfl) (cf es) (swo es) 46 #[.pointer (some ⟨eb, 0, none⟩)] g 0 cap (Array.ofFn id) W eg hcmp hH ha.lt (by rw [hd]; have := hF.len; omega)
  rw [hd] at hcon
  change Calls Tryd.prog 45 _ _ _ at hcon
  refine hcon.mono ?_
  rintro e w' ⟨rfl, d', n, os, ⟨hs1, _, hs3⟩, hso, rfl⟩
  have hd' : d'.size = es.length := by rw [hs1, hd]
  have hs := heap_sortedG (enc := encF (n := es.length)) (os := os) (n := n) d' ha
  have hpl : (d'.toList.map Fin.val).length = es.length := by simp [hd']
  have hgetp : ∀ j, (hj : j < es.length) → (d'.toList.map Fin.val).getD j 0 = (d'[j]!).val := fun j hj => by
    rw [List.getD_eq_getElem?_getD, List.getElem?_map, Array.getElem?_toList, getElem!_pos d' j (by omega), Array.getElem?_eq_getElem (by omega)]
    rfl
  refine ⟨rfl, d'.toList.map Fin.val, (putCells encF 0 d' cur.toArray).toList, ⟨?_, fun i j hij hj => ?_⟩, ?_, by simp [putCells], fun j hj => ?_, grown_sortedG d'⟩
  · have h1 : d'.toList.Perm (Array.ofFn (n := es.length) id).toList := by
      rw [extract_all d' hd', extract_all _ hd] at hs3
      exact hs3
    refine (h1.map Fin.val).trans ?_
    rw [Array.toList_ofFn]
    have : (List.ofFn (n := es.length) id).map Fin.val = List.range es.length := by
      apply List.ext_getElem (by simp)
      intro k h1 h2
      simp
    rw [this]
  · rw [hpl] at hj
    have h1 := hso i j (Nat.zero_le _) hij hj
    rw [lt_iff] at h1
    rw [hgetp i (by omega), hgetp j hj]
    have h2 := cmpK_neg (kx es (d'[i]!).val) (kx es (d'[j]!).val)
    simp only [decide_eq_false_iff_not, Int.not_lt] at h1
    omega
  · unfold Blk.At
    rw [Array.toArray_toList]
    exact hs
  · rw [hgetp j hj, Array.getElem?_toList]
    have : j < cur.length := by omega
    simp [putCells, hd', hj, encF, this]
end Go.Proofs.YtnogmaljcocfjaaDoor.DitSort
namespace Go.Proofs.YtnogmaljcocfjaaDoor.DitBuild
open Go.RowKit Go.Proofs.YtnogmaljcocfjaaDoor.XK Go.Proofs.YtnogmaljcocfjaaDoor.Blk Go.Proofs.YtnogmaljcocfjaaDoor.DitTab Go.Proofs.YtnogmaljcocfjaaDoor.DitRow Go.Proofs.YtnogmaljcocfjaaDoor.DitTerm Go.Proofs.YtnogmaljcocfjaaDoor.DitMap Go.Proofs.YtnogmaljcocfjaaDoor.DitCheck Go.Proofs.YtnogmaljcocfjaaDoorW.PrintWords Go.Proofs.YtnogmaljcocfjaaDoorW.PrintLast Go.Proofs.YtnogmaljcocfjaaDoorW.PrintMore
set_option maxHeartbeats 1000000 in
set_option maxRecDepth 100000 in
theorem bad_as (w : World) (A : Option Addr) (c : Nat) (es : List S45) (h : Kd.C k45 w A es.length es) (hF : Fit es) (ht : Tabs w) (hne : (chk (Keys es)).1 ≠ 0) :
    Calls Tryd.prog 16 #[.slice A es.length c] w fun e w' => e = .returned (.tuple #[.pointer none, .int .i64 (chk (Keys es)).1, .int .i64 (chk (Keys es)).2]) ∧ Below w.heap.size w w' := by
  have H := Lib.hid h
  have HF := Lib.hid hF
  have HT := Lib.hid ht
  have CA := Lib.hid (fun W hC hT => check_as W A c es hC HF.out hT)
  have hb : ((chk (Keys es)).1 != 0) = true := bne_iff_ne.mpr hne
  generalize chk (Keys es) = r at CA hb ⊢
  clear h hF ht hne
  go_enter Tryd.func16, Tryd.ntmps16
  go_wp2_with (first
    | (go_at_call 44; ((with_reducible refine (CA.out _ ?hC ?hT).mono ?_); (case hC => exact Kd.C_below H.out (below_alloc (Below.refl _ _) _)); (case hT => exact Tabs_at HT.out (below_alloc (Below.refl _ _) _)); rintro e W1 ⟨rfl, q⟩; have HB := Lib.hid ((below_alloc (Below.refl w.heap.size w) _ : Below w.heap.size w _).trans (q.mono (by simp only [World.size_alloc]; omega))); clear q))
    | go_in)
  go_ret3
  exact ⟨rfl, HB.out⟩
end Go.Proofs.YtnogmaljcocfjaaDoor.DitBuild
namespace Go.Proofs.YtnogmaljcocfjaaDoor.DitBuild
open Go.RowKit Go.Proofs.YtnogmaljcocfjaaDoor.XK Go.Proofs.YtnogmaljcocfjaaDoor.Blk Go.Proofs.YtnogmaljcocfjaaDoor.DitTab Go.Proofs.YtnogmaljcocfjaaDoor.DitRow Go.Proofs.YtnogmaljcocfjaaDoor.DitTerm Go.Proofs.YtnogmaljcocfjaaDoor.DitMap Go.Proofs.YtnogmaljcocfjaaDoor.DitCheck Go.Proofs.YtnogmaljcocfjaaDoorW.PrintWords Go.Proofs.YtnogmaljcocfjaaDoorW.PrintLast Go.Proofs.YtnogmaljcocfjaaDoorW.PrintMore
/-- The tree's cells. -/
abbrev tcells (ev pl pa en : Value) (kb nb : Nat) : List Value := [ev, pl, pa, en, .map (some kb), .map (some nb)]
def ints (l : List Nat) : List Value := l.map fun (j : Nat) => Value.int .i64 (j : Int)
structure P1 (w : World) (A : Option Addr) (n c eb kb nb tb : Nat) (v : Value) (i : Nat) (wr : World) : Prop where
  below : Below w.heap.size w wr
  ord : w.heap.size ≤ eb ∧ eb < kb ∧ kb < nb ∧ nb < tb ∧ tb < wr.heap.size
  box : At wr eb [.slice A n c] 22
  tc : At wr tb (tcells (.slice none 0 0) v (.slice none 0 0) (.slice none 0 0) kb nb) 80
  own : wr.ownsRow (tb + 1) 3 1 v i (ints (List.range i))
  num : wr.heap[nb]? = some (.map #[] 0)
  kid : wr.heap[kb]? = some (.map #[] 0)
theorem P1.step {w w3 wr : World} {A : Option Addr} {n c eb kb nb tb i : Nat} {v v3 : Value} {o : Obj} (h : P1 w A n c eb kb nb tb v i wr) (own : w3.ownsRow (tb + 1) 3 1 v3 (i + 1) (ints (List.range i) ++ [.int .i64 (i : Int)])) (hg : (wr.alloc o).grownBy w3 v.ownBlock) :
    At w3 tb (tcells (.slice none 0 0) v (.slice none 0 0) (.slice none 0 0) kb nb) 80 ∧ P1 w A n c eb kb nb tb v3 (i + 1) (w3.setCell ⟨tb, 1, none⟩ v3) := by
  obtain ⟨o1, o2, o3, o4, o5⟩ := h.ord
  have hz : (wr.alloc o).heap.size = wr.heap.size + 1 := World.size_alloc _ _
  have hne : ∀ k, k < tb + 1 → some k ≠ v.ownBlock := fun k hk e => by have := (h.own.lt k e.symm).1; omega
  have hs := hg.size
  have htc : At w3 tb (tcells (.slice none 0 0) v (.slice none 0 0) (.slice none 0 0) kb nb) 80 := (h.tc.alloc o).grown hg (hne tb (by omega))
  have hB3 : Below w.heap.size w w3 := (h.below.alloc h.below.size o).grown hg (by have := h.below.size; omega) (fun j e => by have := (h.own.lt j e).1; omega)
  have keep : ∀ k, k < tb → (w3.setCell ⟨tb, 1, none⟩ v3).heap[k]? = wr.heap[k]? := fun k hk =>
    ((grown_set (grown_refl w3 (some tb)) 1 v3).block k (by omega) (fun e => by have := Option.some.inj e; omega)).trans ((hg.block k (by omega) (hne k (by omega))).trans (Below.heap_alloc _ _ _ (by omega)))
  refine ⟨htc, ⟨below_set hB3 (by omega) hB3.size _, ⟨o1, o2, o3, o4, by rw [World.size_setCell]; omega⟩, (keep eb (by omega)).trans h.box, htc.set 1 _, ?_, (keep nb (by omega)).trans h.num, (keep kb (by omega)).trans h.kid⟩⟩
  have e : ints (List.range (i + 1)) = ints (List.range i) ++ [.int .i64 (i : Int)] := by unfold ints; rw [List.range_succ, List.map_append]; rfl
  rw [e]
  refine own.kept (grown_set (grown_refl w3 (some tb)) 1 v3) (Or.inr (fun e2 => ?_))
  have := (own.lt tb e2).1
  omega
end Go.Proofs.YtnogmaljcocfjaaDoor.DitBuild
namespace Go.Proofs.YtnogmaljcocfjaaDoor.DitBuild
open Go Go.Maps Go.RowKit Go.Proofs.YtnogmaljcocfjaaDoor.XK Go.Proofs.YtnogmaljcocfjaaDoor.Blk Go.Proofs.YtnogmaljcocfjaaDoor.DitTab Go.Proofs.YtnogmaljcocfjaaDoor.DitRow Go.Proofs.YtnogmaljcocfjaaDoor.DitTerm Go.Proofs.YtnogmaljcocfjaaDoor.DitMap Go.Proofs.YtnogmaljcocfjaaDoor.DitCheck Go.Proofs.YtnogmaljcocfjaaDoor.DitCopy Go.Proofs.YtnogmaljcocfjaaDoorW.PrintWords Go.Proofs.YtnogmaljcocfjaaDoorW.PrintLast Go.Proofs.YtnogmaljcocfjaaDoorW.PrintMore
theorem num_empty {w : World} {b : Nat} (h : w.heap[b]? = some (.map #[] 0)) : Num w b 0 (fun _ => none) :=
  ⟨.map [], ⟨#[], 0, h, ⟨by simp, Go.MapKept.stamped_empty 0, by simp⟩, Nat.le_refl _, rfl⟩, fun s => rfl, fun s v h => by cases h⟩
theorem own_slice {W : World} {base n : Nat} {e : TypeId} {size : Nat} {v : Value} {xs : List Value} (h : W.ownsRow base e size v n xs) : ∃ A c, v = .slice A n c := by
  rcases h.2 with ⟨rfl, h0⟩ | ⟨g, cap, cur, rfl, _⟩
  · exact ⟨none, 0, by rw [h0]⟩
  · exact ⟨_, cap, rfl⟩
/-- A copied entry: what it reads as, where it is told, and between which blocks it lies. -/
structure EH where
  x : S45
  B2 : Option Addr
  d2 : Nat
  B3 : Option Addr
  d3 : Nat
  lo : Nat
  hi : Nat
def EH.cells (h : EH) : List Value := [.int .i64 h.x.f0, .string h.x.f1, .slice h.B2 h.x.f2.length h.d2, .slice h.B3 h.x.f3.length h.d3]
structure EHok (wr : World) (h : EH) : Prop where
  le : h.hi ≤ wr.heap.size
  c2 : h.x.f2.length ≤ h.d2
  c3 : h.x.f3.length ≤ h.d3
  rd : ∀ W, Same h.lo h.hi wr W → Kd.C Kd.string W h.B2 h.x.f2.length h.x.f2 ∧ Kd.C k74 W h.B3 h.x.f3.length h.x.f3
theorem EHok.on {wr wr' : World} {h : EH} (k : EHok wr h) (hs : Same h.lo h.hi wr wr') (hz : wr.heap.size ≤ wr'.heap.size) : EHok wr' h := ⟨Nat.le_trans k.le hz, k.c2, k.c3, fun W hW => k.rd W (hs.trans hW)⟩
theorem EHok.below {wr wr' : World} {h : EH} (k : EHok wr h) (hb : Below wr.heap.size wr wr') : EHok wr' h := k.on (fun q _ hq => hb.block q (Nat.lt_of_lt_of_le hq k.le)) hb.size
theorem EHok.grown {wr wr' : World} {h : EH} {row : Option Nat} (k : EHok wr h) (hg : wr.grownBy wr' row) (hr : ∀ q, row = some q → q < h.lo ∨ h.hi ≤ q) : EHok wr' h :=
  k.on (fun q h1 h2 => hg.block q (Nat.lt_of_lt_of_le h2 k.le) (fun e => by have := hr q e.symm; omega)) hg.size
/-- The number of the entry whose key is told by a text. -/
def numF (ks : List (List ByteArray)) (s : ByteArray) : Option Int := (ks.findIdx? fun k => decide (wordB k = s)).map fun (i : Nat) => (i : Int)
theorem numF_nil : numF [] = fun _ => none := by funext s; rfl
theorem numF_snoc (ks : List (List ByteArray)) (k : List ByteArray) (h : k ∉ ks) : numF (ks ++ [k]) = fun t => if t = wordB k then some (ks.length : Int) else numF ks t := by
  funext t
  unfold numF
  rw [List.findIdx?_append]
  by_cases e : t = wordB k
  · subst e
    rw [if_pos rfl]
    have h1 : ks.findIdx? (fun q => decide (wordB q = wordB k)) = none := by
      rw [List.findIdx?_eq_none_iff]
      intro q hq
      exact decide_eq_false (fun e => h (by rw [← wordB_inj e]; exact hq))
    rw [h1]
    simp
  · rw [if_neg e]
    have h2 : ([k] : List (List ByteArray)).findIdx? (fun q => decide (wordB q = t)) = none := by
      rw [List.findIdx?_eq_none_iff]
      intro q hq
      rw [List.mem_singleton] at hq
      subst hq
      exact decide_eq_false (fun e2 => e e2.symm)
    rw [h2]
    simp
abbrev ent (es : List S45) (k : Nat) : S45 := es.getD k z45
structure P2 (w : World) (A : Option Addr) (n c eb kb nb tb g cap : Nat) (es : List S45) (p : List Nat) (v : Value) (i m : Nat) (wr : World) : Prop where
  below : Below w.heap.size w wr
  ord : w.heap.size ≤ eb ∧ eb < kb ∧ kb < nb ∧ nb < tb ∧ tb < g ∧ g < wr.heap.size
  box : At wr eb [.slice A n c] 22
  tc : At wr tb (tcells v (.slice (some ⟨g, 0, none⟩) n cap) (.slice none 0 0) (.slice none 0 0) kb nb) 80
  pl : ∃ cur, At wr g cur 3 ∧ ∀ j, j < n → cur[j]? = some (.int .i64 (p.getD j 0 : Nat))
  own : ∃ hs : List EH, wr.ownsRow (g + 1) 45 4 v i (hs.flatMap EH.cells) ∧ hs.map EH.x = (p.take i).map (ent es) ∧ ∀ h ∈ hs, EHok wr h ∧ g < h.lo ∧ ∀ q, v.ownBlock = some q → q < h.lo ∨ h.hi ≤ q
  num : Num wr nb m (numF ((p.take m).map fun k => (ent es k).f2))
  kid : wr.heap[kb]? = some (.map #[] 0)
theorem P2.start {w wr W5 : World} {A : Option Addr} {n c eb kb nb tb g cap : Nat} {es : List S45} {p : List Nat} {cur : List Value} (h : P1 w A n c eb kb nb tb (.slice (some ⟨g, 0, none⟩) n cap) n wr) (hg : tb < g) (ha : At W5 g cur 3) (hc : ∀ j, j < n → cur[j]? = some (.int .i64 (p.getD j 0 : Nat))) (hgr : wr.grownBy W5 (some g)) :
    P2 w A n c eb kb nb tb g cap es p (.slice none 0 0) 0 0 W5 := by
  obtain ⟨o1, o2, o3, o4, o5⟩ := h.ord
  have keep : ∀ k, k ≤ tb → W5.heap[k]? = wr.heap[k]? := fun k hk => hgr.block k (by omega) (fun e => by have := Option.some.inj e; omega)
  refine ⟨h.below.grown hgr h.below.size (fun j e => by have := Option.some.inj e; omega), ⟨o1, o2, o3, o4, hg, ha.lt⟩, (keep eb (by omega)).trans h.box, (keep tb (Nat.le_refl _)).trans h.tc, ⟨cur, ha, hc⟩, ⟨[], World.ownsRow_nil _ _ _ _, rfl, fun e he => absurd he List.not_mem_nil⟩, ?_, (keep kb (by omega)).trans h.kid⟩
  have := num_empty ((keep nb (by omega)).trans h.num)
  rw [← numF_nil] at this
  exact this
section
variable {w wr wr' : World} {A : Option Addr} {n c eb kb nb tb g cap i m : Nat} {es : List S45} {p : List Nat} {v : Value}
theorem P2.on (h : P2 w A n c eb kb nb tb g cap es p v i m wr) (hb : Below wr.heap.size wr wr') : P2 w A n c eb kb nb tb g cap es p v i m wr' := by
  obtain ⟨o1, o2, o3, o4, o5, o6⟩ := h.ord
  obtain ⟨cur, p1, p2⟩ := h.pl
  obtain ⟨hs, w1, w2, w3⟩ := h.own
  have hz := hb.size
  refine ⟨h.below.trans (hb.mono h.below.size), ⟨o1, o2, o3, o4, o5, by omega⟩, h.box.below hb h.box.lt, h.tc.below hb h.tc.lt, ⟨cur, p1.below hb p1.lt, p2⟩, ⟨hs, own_below w1 hb, w2, fun e he => ⟨(w3 e he).1.below hb, (w3 e he).2⟩⟩, h.num.below hb, (hb.block kb (by omega)).trans h.kid⟩
/-- One entry more. -/
theorem P2.entry {w1 W9 : World} {v1 : Value} {B2 B3 : Option Addr} {d2 d3 : Nat} {hs : List EH} (h : P2 w A n c eb kb nb tb g cap es p v i m wr) (hi : i < p.length) (hb : Below wr.heap.size wr W9) (c2 : (ent es (p.getD i 0)).f2.length ≤ d2) (c3 : (ent es (p.getD i 0)).f3.length ≤ d3)
    (rd : ∀ W, Same wr.heap.size W9.heap.size W9 W → Kd.C Kd.string W B2 (ent es (p.getD i 0)).f2.length (ent es (p.getD i 0)).f2 ∧ Kd.C k74 W B3 (ent es (p.getD i 0)).f3.length (ent es (p.getD i 0)).f3)
    (hx : hs.map EH.x = (p.take i).map (ent es)) (hok : ∀ h ∈ hs, EHok wr h ∧ g < h.lo ∧ ∀ q, v.ownBlock = some q → q < h.lo ∨ h.hi ≤ q)
    (hvl : ∀ q, v.ownBlock = some q → g + 1 ≤ q ∧ q < wr.heap.size)
    (own : w1.ownsRow (g + 1) 45 4 v1 (i + 1) (hs.flatMap EH.cells ++ [.int .i64 (ent es (p.getD i 0)).f0, .string (ent es (p.getD i 0)).f1, .slice B2 (ent es (p.getD i 0)).f2.length d2, .slice B3 (ent es (p.getD i 0)).f3.length d3]))
    (hg : W9.grownBy w1 v.ownBlock) (hat : v1.ownBlock = v.ownBlock ∨ ∃ b, v1.ownBlock = some b ∧ W9.heap.size ≤ b) :
    At w1 tb (tcells v (.slice (some ⟨g, 0, none⟩) n cap) (.slice none 0 0) (.slice none 0 0) kb nb) 80 ∧ P2 w A n c eb kb nb tb g cap es p v1 (i + 1) m (w1.setCell ⟨tb, 0, none⟩ v1) := by
  obtain ⟨o1, o2, o3, o4, o5, o6⟩ := h.ord
  obtain ⟨cur, p1, p2⟩ := h.pl
  have h9 := h.on hb
  have hz9 := hb.size
  have hz1 := hg.size
  have hne : ∀ k, k ≤ g → some k ≠ v.ownBlock := fun k hk e => by have := (hvl k e.symm).1; omega
  have hset : w1.grownBy (w1.setCell ⟨tb, 0, none⟩ v1) (some tb) := grown_set (grown_refl w1 (some tb)) _ _
  have htc := h9.tc.grown hg (hne tb (by omega))
  have keep : ∀ k, k ≤ g → k ≠ tb → (w1.setCell ⟨tb, 0, none⟩ v1).heap[k]? = W9.heap[k]? := fun k hk hk2 => (hset.block k (by omega) (fun e => hk2 (Option.some.inj e))).trans (hg.block k (by omega) (hne k hk))
  have hB1 : Below w.heap.size w w1 := h9.below.grown hg h9.below.size (fun j e => by have := (hvl j e).1; omega)
  obtain ⟨cur9, p19, p29⟩ := h9.pl
  refine ⟨htc, ⟨below_set hB1 (by omega) hB1.size _, ⟨o1, o2, o3, o4, o5, by rw [World.size_setCell]; omega⟩, (keep eb (by omega) (by omega)).trans h9.box, htc.set 0 _, ⟨cur9, (keep g (Nat.le_refl _) (by omega)).trans p19, p29⟩, ⟨hs ++ [⟨ent es (p.getD i 0), B2, d2, B3, d3, wr.heap.size, W9.heap.size⟩], ?_, ?_, fun e he => ?_⟩, ?_, (keep kb (by omega) (by omega)).trans h9.kid⟩⟩
  · rw [List.flatMap_append]
    refine own.kept hset (Or.inr (fun e2 => ?_))
    have := (own.lt tb e2).1
    omega
  · rw [List.map_append, hx, List.take_add_one, List.getElem?_eq_getElem hi, Option.toList_some, List.map_append]
    simp [List.getD_eq_getElem?_getD, List.getElem?_eq_getElem hi]
  · rcases List.mem_append.1 he with he | he
    · obtain ⟨k1, k2, k3⟩ := hok e he
      have k4 := k1.le
      refine ⟨((k1.below hb).grown hg k3).grown hset (fun q e => by have := Option.some.inj e; omega), k2, fun q hq => ?_⟩
      rcases hat with hat | ⟨b, hb1, hb2⟩
      · exact k3 q (by rw [← hat]; exact hq)
      · rw [hb1] at hq
        have := Option.some.inj hq
        omega
    · rw [List.mem_singleton] at he
      subst he
      have k0 : EHok W9 ⟨ent es (p.getD i 0), B2, d2, B3, d3, wr.heap.size, W9.heap.size⟩ := ⟨Nat.le_refl _, c2, c3, rd⟩
      refine ⟨(k0.grown hg (fun q hq => by have := (hvl q hq).2; exact .inl this)).grown hset (fun q e => .inl (by have := Option.some.inj e; show q < wr.heap.size; omega)), by show g < wr.heap.size; omega, fun q hq => ?_⟩
      rcases hat with hat | ⟨b, hb1, hb2⟩
      · rw [hat] at hq; exact .inl (hvl q hq).2
      · rw [hb1] at hq
        have := Option.some.inj hq
        exact .inr (by show W9.heap.size ≤ q; omega)
  · exact (h9.num.kept hg (hne nb (by omega))).kept hset (fun e => by have := Option.some.inj e; omega)
/-- One number told. -/
theorem P2.put {w8 : World} {k : List ByteArray} (h : P2 w A n c eb kb nb tb g cap es p v i m wr) (hm : m < p.length) (hk : (ent es (p.getD m 0)).f2 = k) (hnew : k ∉ (p.take m).map fun q => (ent es q).f2) (hn : Num w8 nb (m + 1) (fun t => if t = wordB k then some (m : Int) else numF ((p.take m).map fun q => (ent es q).f2) t)) (hg : wr.grownBy w8 (some nb)) :
    P2 w A n c eb kb nb tb g cap es p v i (m + 1) w8 := by
  obtain ⟨o1, o2, o3, o4, o5, o6⟩ := h.ord
  obtain ⟨cur, p1, p2⟩ := h.pl
  obtain ⟨hs, w1, w2, w3⟩ := h.own
  have hz := hg.size
  have keep : ∀ q, q ≠ nb → q < wr.heap.size → w8.heap[q]? = wr.heap[q]? := fun q hq hl => hg.block q hl (fun e => hq (Option.some.inj e))
  have hlen : ((p.take m).map fun q => (ent es q).f2).length = m := by rw [List.length_map, List.length_take]; omega
  have hsn : (p.take (m + 1)).map (fun q => (ent es q).f2) = ((p.take m).map fun q => (ent es q).f2) ++ [k] := by
    rw [List.take_add_one, List.getElem?_eq_getElem hm, Option.toList_some, List.map_append]
    congr 1
    rw [← hk]
    simp [List.getD_eq_getElem?_getD, List.getElem?_eq_getElem hm]
  refine ⟨h.below.grown hg h.below.size (fun j e => by have := Option.some.inj e; omega), ⟨o1, o2, o3, o4, o5, by omega⟩, (keep eb (by omega) (by omega)).trans h.box, (keep tb (by omega) (by omega)).trans h.tc, ⟨cur, (keep g (by omega) o6).trans p1, p2⟩, ⟨hs, w1.kept hg (Or.inr (fun e => ?_)), w2, fun e he => ⟨(w3 e he).1.grown hg (fun q e2 => ?_), (w3 e he).2⟩⟩, ?_, (keep kb (by omega) (by omega)).trans h.kid⟩
  · have := (w1.lt nb e).1; omega
  · have := Option.some.inj e2; have := (w3 e he).2.1; exact .inl (by omega)
  · rw [hsn, numF_snoc _ k hnew, hlen]
    exact hn
end
section
variable {ops : Array Oper} {o : Oper} {a : Act} {Q : Exit → Act → World → Prop} {K : Act → World → Prop}
/-- 'm[k] = v' in a region that draws its order. -/
theorem step_put (w : World) (hw : Region.wanted o (yielded ops a.tmps) = true) (m x v : Operand) (hop : o.op = Op.mapUpdate 78 m x v) (b n : Nat) (f : ByteArray → Option Int) (hm : a.eval m = .map (some b)) (h : Num w b n f) (hn : n < maxLen) (s : ByteArray) (hx : a.eval x = .string s) (hs : s.size ≤ maxLen) (i : Int) (hv : a.eval v = .int .i64 i) (hi : (Lit.int .i64 i).wf = true)
    (hK : ∀ w', Num w' b (n + 1) (fun t => if t = s then some i else f t) → w.grownBy w' (some b) → K (a.put o.dst undef) w') : if Region.wanted o (yielded ops a.tmps) = true then Oper.wp Tryd.prog o a w K Q else K (a.put o.dst undef) w := by
  obtain ⟨D, h1, h2, h3⟩ := h
  obtain ⟨w', hrun, r1, r2⟩ := h1.update law9 Tryd.underlying78 hn (key_mk s hs) (plainElem_int (H := Unit) Tryd.underlying3 hi)
  rw [if_pos hw]
  unfold Oper.wp
  simp [execOp, hop, hm, hx, hv, hrun, Result.andThen]
  refine hK _ ⟨_, r1, fun t => ?_, fun t c ht z => ?_⟩ r2
  · show has _ _ = (if t = s then some i else f t).isSome
    by_cases e : t = s
    · subst e
      rw [if_pos rfl, has_put_same h1.isMap (by trivial)]
      rfl
    · rw [if_neg e, has_put_other (fun q => e (lit_inj q))]
      exact h2 t
  · have ht : (if t = s then some i else f t) = some c := ht
    by_cases e : t = s
    · subst e
      rw [if_pos rfl] at ht
      obtain rfl := Option.some.inj ht
      exact atKey_put_same h1.isMap (by trivial) _ _
    · rw [if_neg e] at ht
      rw [atKey_put_other (fun q => e (lit_inj q))]
      exact h3 t c ht z
end
end Go.Proofs.YtnogmaljcocfjaaDoor.DitBuild
namespace Go.Proofs.YtnogmaljcocfjaaDoor.DitBuild
open Go Go.Maps Go.RowKit Go.Proofs.YtnogmaljcocfjaaDoor.XK Go.Proofs.YtnogmaljcocfjaaDoor.Blk Go.Proofs.YtnogmaljcocfjaaDoor.DitTab Go.Proofs.YtnogmaljcocfjaaDoor.DitRow Go.Proofs.YtnogmaljcocfjaaDoor.DitTerm Go.Proofs.YtnogmaljcocfjaaDoor.DitMap Go.Proofs.YtnogmaljcocfjaaDoor.DitCheck Go.Proofs.YtnogmaljcocfjaaDoor.DitCopy Go.Proofs.YtnogmaljcocfjaaDoor.DitSort Go.Proofs.YtnogmaljcocfjaaDoorW.PrintWords Go.Proofs.YtnogmaljcocfjaaDoorW.PrintLast Go.Proofs.YtnogmaljcocfjaaDoorW.PrintMore
theorem p1_start (w W1 : World) (A : Option Addr) (n c : Nat) (hb : Below w.heap.size w W1) (hbox : At W1 w.heap.size [.slice A n c] 22) :
    P1 w A n c w.heap.size W1.heap.size (W1.heap.size + 1) (W1.heap.size + 1 + 1) (.slice none 0 0) 0 (((W1.alloc (.map #[] 0)).alloc (.map #[] 0)).alloc (.cells #[.slice none 0 0, .slice none 0 0, .slice none 0 0, .slice none 0 0, .map (some W1.heap.size), .map (some (W1.heap.size + 1))] 80)) := by
  have hlt := hbox.lt
  have z1 : (W1.alloc (.map #[] 0)).heap.size = W1.heap.size + 1 := World.size_alloc _ _
  have z2 : ((W1.alloc (.map #[] 0)).alloc (.map #[] 0)).heap.size = W1.heap.size + 2 := by rw [World.size_alloc, z1]
  have h1 : (W1.alloc (.map #[] 0)).heap[W1.heap.size]? = some (.map #[] 0) := (MapKept.heap_alloc W1 _).1
  have h2 : ((W1.alloc (.map #[] 0)).alloc (.map #[] 0)).heap[W1.heap.size + 1]? = some (.map #[] 0) := by rw [← z1]; exact (MapKept.heap_alloc _ _).1
  have hb3 := ((hb.alloc hb.size (.map #[] 0)).alloc (by rw [z1]; have := hb.size; omega) (.map #[] 0)).alloc (by rw [z2]; have := hb.size; omega) (.cells #[.slice none 0 0, .slice none 0 0, .slice none 0 0, .slice none 0 0, .map (some W1.heap.size), .map (some (W1.heap.size + 1))] 80)
  refine ⟨hb3, ⟨Nat.le_refl _, hlt, by omega, by omega, by rw [World.size_alloc, z2]; omega⟩, ((hbox.alloc _).alloc _).alloc _, ?_, World.ownsRow_nil _ _ _ _, ?_, ?_⟩
  · have := At.fresh ((W1.alloc (.map #[] 0)).alloc (.map #[] 0)) [.slice none 0 0, .slice none 0 0, .slice none 0 0, .slice none 0 0, .map (some W1.heap.size), .map (some (W1.heap.size + 1))] 80
    rw [z2] at this
    exact this
  · exact (Below.heap_alloc _ _ _ (by rw [z2]; omega)).trans h2
  · exact (Below.heap_alloc _ _ _ (by rw [z2]; omega)).trans ((Below.heap_alloc _ _ _ (by rw [z1]; omega)).trans h1)
theorem places_at {W : World} {tb n : Nat} {v : Value} (h : W.ownsRow (tb + 1) 3 1 v n (ints (List.range n))) (hp : 0 < n) : ∃ g cap, v = .slice (some ⟨g, 0, none⟩) n cap ∧ tb < g ∧ g < W.heap.size ∧ ∃ cur, At W g cur 3 ∧ n ≤ cur.length ∧ ∀ j, j < n → cur[j]? = some (.int .i64 (j : Int)) := by
  rcases h.2 with ⟨rfl, h0⟩ | ⟨g, cap, cur, rfl, h3, h4, h5, h6, h7, h8⟩
  · omega
  · refine ⟨g, cap, rfl, by omega, (Array.getElem?_eq_some_iff.1 h4).1, cur.toList, h4, by simp; omega, fun j hj => ?_⟩
    have h9 : (cur.toList.take (n * 1))[j]? = some (.int .i64 (j : Int)) := by
      rw [h8]
      simp [ints, hj]
    rwa [List.getElem?_take_of_lt (by omega)] at h9
theorem nodup_inj {α : Type} {l : List α} (h : l.Nodup) {i j : Nat} (hi : i < l.length) (hj : j < l.length) (e : l[i] = l[j]) : i = j := by
  rcases Nat.lt_trichotomy i j with h1 | h1 | h1
  · exact absurd e (List.pairwise_iff_getElem.1 h i j hi hj h1)
  · exact h1
  · exact absurd e.symm (List.pairwise_iff_getElem.1 h j i hj hi h1)
/-- A key that stands later in the order is another. -/
theorem new_key {es : List S45} {p : List Nat} {i : Nat} {k : List ByteArray} (hnd : (Keys es).Nodup) (hp : p.Perm (List.range es.length)) (hi : i < p.length) (hk : (ent es (p.getD i 0)).f2 = k) : k ∉ (p.take i).map fun q => (ent es q).f2 := by
  intro h
  obtain ⟨q, hq, e⟩ := List.mem_map.1 h
  obtain ⟨j, hj, hjl, e2⟩ := DitPure.take_getD (d := 0) hq
  have hl : p.length = es.length := by simpa using hp.length_eq
  have hmem : ∀ m, m < p.length → p.getD m 0 < es.length := fun m hm => by
    have := hp.mem_iff.1 (DitPure.getD_mem p 0 hm)
    simpa using this
  have hkey : ∀ m, m < es.length → (Keys es)[m]? = some (ent es m).f2 := fun m hm => by
    simp [ent, List.getD_eq_getElem?_getD, List.getElem?_eq_getElem hm]
  have h1 := hmem i hi
  have h2 := hmem j hjl
  have e3 : (ent es (p.getD j 0)).f2 = (ent es (p.getD i 0)).f2 := by rw [hk, ← e, e2]
  have e4 : p.getD j 0 = p.getD i 0 := by
    have a1 := hkey _ h2
    have a2 := hkey _ h1
    rw [e3, ← a2] at a1
    have b1 : p.getD j 0 < (Keys es).length := by rw [List.length_map]; exact h2
    have b2 : p.getD i 0 < (Keys es).length := by rw [List.length_map]; exact h1
    exact nodup_inj hnd b1 b2 (Option.some.inj (by rw [← List.getElem?_eq_getElem b1, ← List.getElem?_eq_getElem b2]; exact a1))
  have hpn : p.Nodup := hp.nodup_iff.2 List.nodup_range
  rw [List.getD_eq_getElem?_getD, List.getD_eq_getElem?_getD, List.getElem?_eq_getElem hjl, List.getElem?_eq_getElem hi] at e4
  have := nodup_inj hpn hjl hi (by simpa using e4)
  omega
theorem undrewN {B : Nat} {W W' : World} {n : Nat} (h : Below B (W.drewN n) W') : Below B W W' := ⟨h.os, h.tape, h.output, h.size, h.block⟩
theorem undrew1 {B : Nat} {W W' : World} (h : Below B W.drew W') : Below B W W' := ⟨h.os, h.tape, h.output, h.size, h.block⟩
set_option maxHeartbeats 8000000 in
set_option maxRecDepth 100000 in
theorem build_as (w : World) (A : Option Addr) (c : Nat) (es : List S45) (h : Kd.C k45 w A es.length es) (hF : Fit es) (ht : Tabs w) (hok : chk (Keys es) = (0, 0)) (hp : 0 < es.length) (hnd : (Keys es).Nodup) (Q : Nat → List Nat → World → Prop)
    (hlink : ∀ eb kb nb tb g cap p v W, Sorted es p → P2 w A es.length c eb kb nb tb g cap es p v es.length es.length W → Calls Tryd.prog 50 #[.pointer (some ⟨tb, 0, none⟩)] W fun e W' => e = .returned (.tuple #[]) ∧ Q tb p W') :
    Calls Tryd.prog 16 #[.slice A es.length c] w fun e w' => ∃ tb p, e = .returned (.tuple #[.pointer (some ⟨tb, 0, none⟩), .int .i64 0, .int .i64 0]) ∧ Q tb p w' := by
  have hmm := @run_makeMap Tryd.prog
  obtain ⟨i3, hi3, hy0, hy1, hy2⟩ := info_parts DitRow.info3
  obtain ⟨b, o, rfl, hlt0, hE⟩ := ents_at h hp
  have HE := Lib.hid hE
  have HLT := Lib.hid hlt0
  have H := Lib.hid h
  have HF := Lib.hid hF
  have HT := Lib.hid ht
  have HL := Lib.hid hlink
  have HND := Lib.hid hnd
  have CA := Lib.hid (fun W hC hT => check_as W (some ⟨b, o, none⟩) c es hC HF.out hT)
  have hn := hF.len
  rw [hok] at CA
  clear h hF ht hok hlink hnd hE hlt0
  go_enter Tryd.func16, Tryd.ntmps16
  go_wp2_with (first
    | (go_at_call 44; go_loud ((with_reducible refine (CA.out _ ?hC ?hT).mono ?_); (case hC => exact Kd.C_below H.out (below_alloc (Below.refl _ _) _)); (case hT => exact Tabs_at HT.out (below_alloc (Below.refl _ _) _)); rintro e W1 ⟨rfl, q⟩; have HB := Lib.hid ((below_alloc (Below.refl w.heap.size w) _ : Below w.heap.size w _).trans (q.mono (by simp only [World.size_alloc]; omega))); have HX := Lib.hid ((At.fresh w [.slice (some ⟨b, o, none⟩) es.length c] 22).below q (by simp only [World.size_alloc]; omega)); have k0 := (((HX.out.alloc (.map #[] 0)).alloc (.map #[] 0)).alloc (.cells #[.slice none 0 0, .slice none 0 0, .slice none 0 0, .slice none 0 0, .map (some W1.heap.size), .map (some (W1.heap.size + 1))] 80)).get 0 _ rfl; clear q))
    | go_in)
  have HP0 := Lib.hid (p1_start w W1 (some ⟨b, o, none⟩) es.length c HB.out HX.out)
  obtain ⟨W2, eW2⟩ : ∃ W, W = ((W1.alloc (.map #[] 0)).alloc (.map #[] 0)).alloc (.cells #[.slice none 0 0, .slice none 0 0, .slice none 0 0, .slice none 0 0, .map (some W1.heap.size), .map (some (W1.heap.size + 1))] 80) := ⟨_, rfl⟩
  rw [← eW2] at HP0 ⊢
  obtain ⟨kb, ekb⟩ : ∃ k, k = W1.heap.size := ⟨_, rfl⟩
  obtain ⟨nb, enb⟩ : ∃ k, k = kb + 1 := ⟨_, rfl⟩
  obtain ⟨tb, etb⟩ : ∃ k, k = nb + 1 := ⟨_, rfl⟩
  obtain ⟨eb, eeb⟩ : ∃ k, k = w.heap.size := ⟨_, rfl⟩
  rw [← ekb, ← enb, ← etb, ← eeb] at HP0 ⊢
  clear k0 eW2 ekb enb etb eeb HB HX
  go_loopw [26] (fun x wr => ∃ (i : Nat) (v : Value), i ≤ es.length ∧ x = .int .i64 (i : Nat) ∧ Hid (P1 w (some ⟨b, o, none⟩) es.length c eb kb nb tb v i wr)) (fun x _ => es.length - (intOf x).toNat)
  case atStart => exact ⟨0, _, Nat.zero_le _, rfl, HP0⟩
  case round =>
    clear HP0
    obtain ⟨i, v, hi, rfl, HW⟩ := hrel
    by_cases hin : i < es.length
    · have hlt : (i : Int) < (es.length : Int) := by omega
      have hwi : IntKind.i64.wrap ((i : Int) + 1) = ((i + 1 : Nat) : Int) := by rw [IntWalk.i64_in _ (by omega)]; rfl
      have k1 := HW.out.tc.get 1 _ rfl
      have own := HW.out.own
      have hml : i + 1 ≤ maxLen := by simp only [maxLen]; omega
      have hsz : tb + 1 ≤ wr.heap.size := by have := HW.out.ord; omega
      go_wp2_with (first
        | (at_builtin; go_loud (refine wpList_append_own _ rfl (.tmp 33) (.tmp 35) 23 rfl (tb + 1) 3 i3 (.int .i64 0) 1 8 Tryd.underlying23 hi3 hy0 hy1 hy2 rfl (by decide) _ _ _ rfl (own.alloc _) ⟨wr.heap.size, 0, none⟩ 1 1 [.int .i64 (i : Int)] rfl rfl (cell_one_new _ _ _) (by simp [Value.oneCell']) hml (by omega) (by rw [World.size_alloc]; omega) ?_; intro v3 w3 own3 grow3 _; obtain ⟨B3, cc3, rfl⟩ := own_slice own3; have hst := HW.out.step own3 grow3; have k9 := hst.1.get 1 _ rfl; have f9 := hst.1.free 1; have HN := Lib.hid hst.2; clear own3 grow3 hst))
        | go_in)
      go_roundw
      case rel => exact ⟨i + 1, _, by omega, by go_num, HN⟩
      case measure => simp [intOf]; omega
    · have hlt : ¬ (i : Int) < (es.length : Int) := by omega
      obtain rfl : i = es.length := by omega
      obtain ⟨g, gcap, hv, hgt, hgl, cur, hcur, hcl, hcj⟩ := places_at HW.out.own hp
      subst hv
      have k1 := HW.out.tc.get 1 _ rfl
      have hcb := HW.out.box.get 0 _ rfl
      have hord := HW.out.ord
      have SA := Lib.hid (sort_as w wr g gcap eb b o c cur es hp HF.out HW.out.below HE.out HLT.out hcur (by omega) hcl hcj hcb (by omega))
      have HCU := Lib.hid hcur
      clear hcur hcl hcj
      go_wp2_with (first
        | (go_at_call 45; go_loud ((with_reducible refine SA.out.mono ?_); rintro e W5 ⟨rfl, p, cur5, hS, ha5, hl5, hc5, hg5⟩; have HP2 := Lib.hid (P2.start (es := es) HW.out (by omega) ha5 hc5 hg5); have HS := Lib.hid hS; have k5 := HP2.out.tc.get 1 _ rfl; clear hS ha5 hl5 hc5 hg5))
        | go_in)
      clear k1 hcb SA HCU k5
      go_loopw [51] (fun x wr => ∃ (i : Nat) (v : Value), i ≤ es.length ∧ x = .int .i64 (i : Nat) ∧ Hid (P2 w (some ⟨b, o, none⟩) es.length c eb kb nb tb g gcap es p v i i wr)) (fun x _ => es.length - (intOf x).toNat)
      case atStart => exact ⟨0, _, Nat.zero_le _, rfl, HP2⟩
      case round =>
        clear HP2 HW
        obtain ⟨i, v, hi, rfl, HW⟩ := hrel
        by_cases hin : i < es.length
        · have hlt : (i : Int) < (es.length : Int) := by omega
          have hpl := HS.out.perm.length_eq
          rw [List.length_range] at hpl
          have hpi : p.getD i 0 < es.length := by
            have := HS.out.perm.mem_iff.1 (DitPure.getD_mem p 0 (show i < p.length by omega))
            simpa using this
          obtain ⟨cur, hcr, hcj⟩ := HW.out.pl
          have kp := hcr.get i _ (hcj i hin)
          obtain ⟨hs, own, hsx, hsk⟩ := HW.out.own
          obtain ⟨EA, ec, rfl⟩ := own_slice own
          have k0 := HW.out.tc.get 0 _ rfl
          have kx := HW.out.box.get 0 _ rfl
          have hord := HW.out.ord
          have hEi := (HE.out _ hpi).below HLT.out HW.out.below
          have hbw : b < wr.heap.size := Nat.lt_of_lt_of_le HLT.out HW.out.below.size
          have hem := DitPure.getD_mem es z45 hpi
          have hfk := HF.out.key _ hem
          have hfa := HF.out.att _ hem
          have own0 := own
          have HST := Lib.hid (fun W9 w1 v1 B2 d2 B3 d3 hb c2 c3 rd own hg hat => HW.out.entry (W9 := W9) (w1 := w1) (v1 := v1) (B2 := B2) (d2 := d2) (B3 := B3) (d3 := d3) (show i < p.length by omega) hb c2 c3 rd hsx hsk (fun q hq => own0.lt q hq) own hg hat)
          have HMM := Lib.hid (show ent es (p.getD i 0) = ent es (p.getD i 0) from rfl)
          have hwi : IntKind.i64.wrap ((i : Int) + 1) = ((i + 1 : Nat) : Int) := by rw [IntWalk.i64_in _ (by omega)]; rfl
          have e0 := hEi.c0
          have e1 := hEi.c1
          obtain ⟨A2, d2, q2, A3, d3, e2, e3, hr2, hl3, hC3⟩ := hEi.more
          have hbt : tb < wr.heap.size := by omega
          have hbe : eb < wr.heap.size := by omega
          have hpx : ((p.getD i 0 : Nat) : Int) < (es.length : Int) := by omega
          generalize hxx : ent es (p.getD i 0) = x at HST
          have hxx' : es.getD (p.getD i 0) z45 = x := hxx
          rw [hxx'] at e0 e1 e2 e3 hr2 hl3 hC3 hfk hfa hem
          generalize hpp : p.getD i 0 = pi at kp e0 e1 e2 e3 hpi hpx
          have HC3 := Lib.hid hC3
          have HR2 := Lib.hid hr2
          have HFK := Lib.hid hfk
          have HFA := Lib.hid hfa
          have HXX := Lib.hid hxx
          have HPP := Lib.hid hpp
          have CC := Lib.hid (fun W (hW : Below wr.heap.size wr W) => copied_as W x A2 A3 d2 d3 (CS_of_row (hr2.below hW) (by have := hfk.1; omega)) hr2.cap (Kd.C_below hC3 hW) hl3 hfk.1 hfa.1 hfa.2)
          have HOW := Lib.hid own0
          clear hcr hcj hsx hsk hEi hem hfk hfa HMM hxx hxx' hpp hr2 hC3 own own0
          go_wp2
          refine start_ (n := 15) (S := fun w' => w'.cell? ⟨tb, 0, none⟩ = some (.slice EA i ec) ∧ w'.cell? ⟨eb, 0, none⟩ = some (.slice (some ⟨b, o, none⟩) es.length c) ∧ w'.cell? ⟨b, o + pi * 4, none⟩ = some (.int .i64 x.f0) ∧ w'.cell? ⟨b, o + pi * 4 + 1, none⟩ = some (.string x.f1) ∧ w'.cell? ⟨b, o + pi * 4 + 2, none⟩ = some (.slice A2 x.f2.length d2) ∧ w'.cell? ⟨b, o + pi * 4 + 3, none⟩ = some (.slice A3 x.f3.length d3)) (ds := [11, 14]) #[false, false, false, false, false, false, false, false, false, false, false, false, false, false, false] (by kernel_rfl) rfl rfl ⟨k0, kx, e0, e1, e2, e3⟩ (fun hHeld => ?_)
          refine pure_ (i := 0) (N := some 56) (v := ?_) (a' := ?_) #[true, false, false, false, false, false, false, false, false, false, false, false, false, false, false] rfl rfl (by kernel_rfl) (fun _ _ _ h => h) (Or.inl ⟨by rfl, ?_⟩) ?_ ?_
          rotate_left
          · intro w'
            go_simp
            with_reducible rfl
          rotate_left
          · simp only [Act.put, List.setIfInBounds_toArray, List.set_cons_zero, List.set_cons_succ, i64_w, i32_w]
            rfl
          refine pure_ (i := 1) (N := some 57) (v := ?_) (a' := ?_) #[true, true, false, false, false, false, false, false, false, false, false, false, false, false, false] rfl rfl (by kernel_rfl) (fun _ _ _ h => h) (Or.inl ⟨by rfl, ?_⟩) ?_ ?_
          rotate_left
          · intro w'
            go_simp
            with_reducible rfl
          rotate_left
          · simp only [Act.put, List.setIfInBounds_toArray, List.set_cons_zero, List.set_cons_succ, i64_w, i32_w]
            rfl
          refine pure_ (i := 2) (N := some 58) (v := ?_) (a' := ?_) #[true, true, true, false, false, false, false, false, false, false, false, false, false, false, false] rfl rfl (by kernel_rfl) (fun _ _ _ h => h) (Or.inl ⟨by rfl, ?_⟩) ?_ ?_
          rotate_left
          · intro w'
            go_simp
            with_reducible rfl
          rotate_left
          · simp only [Act.put, List.setIfInBounds_toArray, List.set_cons_zero, List.set_cons_succ, i64_w, i32_w]
            rfl
          refine pure_ (i := 3) (N := some 59) (v := ?_) (a' := ?_) #[true, true, true, true, false, false, false, false, false, false, false, false, false, false, false] rfl rfl (by kernel_rfl) (fun _ _ _ h => h) (Or.inl ⟨by rfl, ?_⟩) ?_ ?_
          rotate_left
          · intro w'
            go_simp
            with_reducible rfl
          rotate_left
          · simp only [Act.put, List.setIfInBounds_toArray, List.set_cons_zero, List.set_cons_succ, i64_w, i32_w]
            rfl
          refine pure_ (i := 6) (N := some 62) (v := ?_) (a' := ?_) #[true, true, true, true, false, false, true, false, false, false, false, false, false, false, false] rfl rfl (by kernel_rfl) (fun _ _ _ h => h) (Or.inl ⟨by rfl, ?_⟩) ?_ ?_
          rotate_left
          · intro w'
            go_simp
            with_reducible rfl
          rotate_left
          · simp only [Act.put, List.setIfInBounds_toArray, List.set_cons_zero, List.set_cons_succ, i64_w, i32_w]
            rfl
          refine take_ (i := 4) (N := some 60) (v := ?_) (a' := ?_) #[true, true, true, true, true, false, true, false, false, false, false, false, false, false, false] rfl rfl (by kernel_rfl) (fun _ _ _ h => h) (Or.inl ⟨by rfl, ?_⟩) hHeld ?_ ?_
          rotate_left
          · rintro w' ⟨s0, s1, s2, s3, s4, s5⟩
            go_simp
            with_reducible rfl
          rotate_left
          · simp only [Act.put, List.setIfInBounds_toArray, List.set_cons_zero, List.set_cons_succ, i64_w, i32_w]
            rfl
          refine take_ (i := 5) (N := some 61) (v := ?_) (a' := ?_) #[true, true, true, true, true, true, true, false, false, false, false, false, false, false, false] rfl rfl (by kernel_rfl) (fun _ _ _ h => h) (Or.inl ⟨by rfl, ?_⟩) hHeld ?_ ?_
          rotate_left
          · rintro w' ⟨s0, s1, s2, s3, s4, s5⟩
            go_simp
            with_reducible rfl
          rotate_left
          · simp only [Act.put, List.setIfInBounds_toArray, List.set_cons_zero, List.set_cons_succ, i64_w, i32_w]
            rfl
          refine pure_ (i := 7) (N := some 63) (v := ?_) (a' := ?_) #[true, true, true, true, true, true, true, true, false, false, false, false, false, false, false] rfl rfl (by kernel_rfl) (fun _ _ _ h => h) (Or.inl ⟨by rfl, ?_⟩) ?_ ?_
          rotate_left
          · intro w'
            go_simp
            with_reducible rfl
          rotate_left
          · simp only [Act.put, List.setIfInBounds_toArray, List.set_cons_zero, List.set_cons_succ, i64_w, i32_w]
            rfl
          refine take_ (i := 8) (N := some 64) (v := ?_) (a' := ?_) #[true, true, true, true, true, true, true, true, true, false, false, false, false, false, false] rfl rfl (by kernel_rfl) (fun _ _ _ h => h) (Or.inl ⟨by rfl, ?_⟩) hHeld ?_ ?_
          rotate_left
          · rintro w' ⟨s0, s1, s2, s3, s4, s5⟩
            go_simp
            with_reducible rfl
          rotate_left
          · simp only [Act.put, List.setIfInBounds_toArray, List.set_cons_zero, List.set_cons_succ, i64_w, i32_w]
            rfl
          refine one_ (i := 9) (N := some 65) #[true, true, true, true, true, true, true, true, true, true, false, false, false, false, false] rfl rfl (by kernel_rfl) (by decide) (fun K hK => ?_)
          refine goes_ Tryd.func48 (by kernel_rfl) rfl #[.agg #[.int .i64 x.f0, .string x.f1, .slice A2 x.f2.length d2, .slice A3 x.f3.length d3]] (by rfl) rfl rfl (by simp only [List.map_toArray, List.map_cons, List.map_nil]; rfl) ?_
          with_reducible refine (CC.out _ (by repeat (first | exact Below.refl _ _ | apply pw_below_drewN | apply below_drew1))).mono ?_
          rintro e W9 ⟨B9, e9, C9, f9, rfl, q1, q2, q3, q4⟩
          have HY : Hid (Below wr.heap.size wr W9) := Lib.hid (by repeat (first | exact q4 | apply undrewN | apply undrew1))
          have HQ := Lib.hid (And.intro q1 (And.intro q2 q3))
          clear q1 q2 q3 q4
          refine ⟨_, rfl, ?_⟩
          refine hK.out _ _ ⟨(HY.out.cell (p := ⟨tb, 0, none⟩) hbt).trans k0, (HY.out.cell (p := ⟨eb, 0, none⟩) hbe).trans kx, (HY.out.cell (p := ⟨b, o + pi * 4, none⟩) hbw).trans e0, (HY.out.cell (p := ⟨b, o + pi * 4 + 1, none⟩) hbw).trans e1, (HY.out.cell (p := ⟨b, o + pi * 4 + 2, none⟩) hbw).trans e2, (HY.out.cell (p := ⟨b, o + pi * 4 + 3, none⟩) hbw).trans e3⟩ (fun hHeld => ?_)
          clear hK K
          refine norm_ (a' := ?_) ?_ ?_
          rotate_left
          · show Act.put _ (some 65) _ = _
            simp only [Act.put, List.setIfInBounds_toArray, List.set_cons_zero, List.set_cons_succ, i64_w, i32_w]
            rfl
          refine one_ (i := 10) (N := some 66) #[true, true, true, true, true, true, true, true, true, true, true, false, false, false, false] rfl rfl (by kernel_rfl) (by decide) (fun K hK => ?_)
          refine value_ (w1 := ?_) (v := ?_) (by rfl) rfl ?_ ?_
          rotate_left 2
          · go_simp
            constructor
            · rfl
            · rfl
          refine hK.out _ _ ⟨((below_alloc HY.out _).cell (p := ⟨tb, 0, none⟩) hbt).trans k0, ((below_alloc HY.out _).cell (p := ⟨eb, 0, none⟩) hbe).trans kx, ((below_alloc HY.out _).cell (p := ⟨b, o + pi * 4, none⟩) hbw).trans e0, ((below_alloc HY.out _).cell (p := ⟨b, o + pi * 4 + 1, none⟩) hbw).trans e1, ((below_alloc HY.out _).cell (p := ⟨b, o + pi * 4 + 2, none⟩) hbw).trans e2, ((below_alloc HY.out _).cell (p := ⟨b, o + pi * 4 + 3, none⟩) hbw).trans e3⟩ (fun hHeld => ?_)
          clear hK K
          refine norm_ (a' := ?_) ?_ ?_
          rotate_left
          · show Act.put _ (some 66) _ = _
            simp only [Act.put, List.setIfInBounds_toArray, List.set_cons_zero, List.set_cons_succ, i64_w, i32_w]
            rfl
          refine last_ (i := 11) (N := some 67) #[true, true, true, true, true, true, true, true, true, true, true, true, false, false, false] rfl rfl (by kernel_rfl) (by decide) (fun K hK => ?_)
          refine step_append_cells (g + 1) (by rfl) (.tmp 60) (.tmp 66) 22 45 (.agg #[(.int .i64 0), (.string ⟨#[]⟩), (.slice none 0 0), (.slice none 0 0)]) 4 72 rfl Tryd.underlying22 info45 rfl (by decide) (by decide) (.slice EA i ec) i (hs.flatMap EH.cells) [.int .i64 x.f0, .string x.f1, .slice B9 x.f2.length e9, .slice C9 x.f3.length f9] rfl rfl rfl (by simp [Value.oneCell']) (own_below HOW.out HY.out) (Below.refl _ _) (by have := HY.out.size; omega) (by omega) ?_
          intro v1 w1 own1 _ hg1 hat1
          obtain ⟨EB, ec1, rfl⟩ := own_slice own1
          have hst := HST.out W9 w1 _ B9 e9 C9 f9 HY.out HQ.out.1 HQ.out.2.1 HQ.out.2.2 own1 hg1 hat1
          have k9 := hst.1.get 0 _ rfl
          have f9s := hst.1.free 0
          have HN := Lib.hid hst.2
          clear hst own1 hg1 hat1
          refine hK.out _ _ ?_
          clear hK K
          refine norm_ (a' := ?_) ?_ ?_
          rotate_left
          · show Act.put _ (some 67) _ = _
            simp only [Act.put, List.setIfInBounds_toArray, List.set_cons_zero, List.set_cons_succ, i64_w, i32_w]
            rfl
          refine pure_ (i := 12) (N := some 68) (v := ?_) (a' := ?_) #[true, true, true, true, true, true, true, true, true, true, true, true, true, false, false] rfl rfl (by kernel_rfl) (fun _ _ _ h => h) (Or.inl ⟨by rfl, ?_⟩) ?_ ?_
          rotate_left
          · intro w'
            go_simp
            with_reducible rfl
          rotate_left
          · simp only [Act.put, List.setIfInBounds_toArray, List.set_cons_zero, List.set_cons_succ, i64_w, i32_w]
            rfl
          refine pure_ (i := 13) (N := some 69) (v := ?_) (a' := ?_) #[true, true, true, true, true, true, true, true, true, true, true, true, true, true, false] rfl rfl (by kernel_rfl) (fun _ _ _ h => h) (Or.inl ⟨by rfl, ?_⟩) ?_ ?_
          rotate_left
          · intro w'
            go_simp
            with_reducible rfl
          rotate_left
          · simp only [Act.put, List.setIfInBounds_toArray, List.set_cons_zero, List.set_cons_succ, i64_w, i32_w]
            rfl
          refine last_ (i := 14) (N := none) #[true, true, true, true, true, true, true, true, true, true, true, true, true, true, true] rfl rfl (by kernel_rfl) (by decide) (fun K hK => ?_)
          refine skip_ (w1 := ?_) (by rfl) rfl ?_ ?_
          rotate_left
          · go_simp
            rfl
          refine hK.out _ _ ?_
          clear hK K
          refine done_ (by kernel_rfl) ?_
          obtain ⟨W6, e6⟩ : ∃ W, W = w1.setCell ⟨tb, 0, none⟩ (.slice EB (i + 1) ec1) := ⟨_, rfl⟩
          rw [← e6] at HN ⊢
          clear e6 k9 f9s
          have HN0 := HN
          have h5 := HN.out.tc.get 5 _ rfl
          have hx6 := HN.out.box.get 0 _ rfl
          have hE6 := (HE.out pi hpi).below HLT.out HN.out.below
          have hxp : es.getD pi z45 = x := by rw [← HPP.out]; exact HXX.out
          rw [hxp] at hE6
          obtain ⟨A5, d5, q5, _, _, e5, _, r5, _, _⟩ := hE6.more
          have HR5 := Lib.hid r5
          have hsk : (wordB x.f2).size ≤ maxLen := by have := wordL_le _ HFK.out.2.2; show (wordL x.f2).length ≤ maxLen; have := HFK.out.2.1; unfold maxLen; omega
          have hbk := HFK.out.2.1
          have hkn := HFK.out.1
          have hmi : i < maxLen := by unfold maxLen; omega
          have hwf : (Lit.int .i64 (i : Int)).wf = true := WalkArith.wf_i64 (by omega)
          have hb6 : b < W6.heap.size := Nat.lt_of_lt_of_le HLT.out HN.out.below.size
          have ht6 : tb < W6.heap.size := by have := HN.out.ord; omega
          have hn6 : eb < W6.heap.size := by have := HN.out.ord; omega
          have hip : i < p.length := by omega
          have HPT := Lib.hid (fun w8 W7 (hB : Below W6.heap.size W6 W7) (hn : Num w8 nb (i + 1) _) (hg : W7.grownBy w8 (some nb)) => (HN.out.on hB).put (w8 := w8) (k := x.f2) hip (by rw [HPP.out]; exact congrArg S45.f2 hxp) (new_key HND.out HS.out.perm hip (by rw [HPP.out]; exact congrArg S45.f2 hxp)) hn hg)
          have HTW := Lib.hid (Tabs_at HT.out HN.out.below)
          clear hE6 r5 hxp
          go_wp2
          refine start_ (n := 12) (S := fun w' => w'.cell? ⟨tb, 5, none⟩ = some (.map (some nb)) ∧ w'.cell? ⟨eb, 0, none⟩ = some (.slice (some ⟨b, o, none⟩) es.length c) ∧ w'.cell? ⟨b, o + pi * 4 + 2, none⟩ = some (.slice A5 x.f2.length d5)) (ds := [11]) #[false, false, false, false, false, false, false, false, false, false, false, false] (by kernel_rfl) rfl rfl ⟨h5, hx6, e5⟩ (fun hHeld => ?_)
          refine pure_ (i := 0) (N := some 70) (v := ?_) (a' := ?_) #[true, false, false, false, false, false, false, false, false, false, false, false] rfl rfl (by kernel_rfl) (fun _ _ _ h => h) (Or.inl ⟨by rfl, ?_⟩) ?_ ?_
          rotate_left
          · intro w'
            go_simp
            with_reducible rfl
          rotate_left
          · simp only [Act.put, List.setIfInBounds_toArray, List.set_cons_zero, List.set_cons_succ, i64_w, i32_w]
            rfl
          refine pure_ (i := 1) (N := some 71) (v := ?_) (a' := ?_) #[true, true, false, false, false, false, false, false, false, false, false, false] rfl rfl (by kernel_rfl) (fun _ _ _ h => h) (Or.inl ⟨by rfl, ?_⟩) ?_ ?_
          rotate_left
          · intro w'
            go_simp
            with_reducible rfl
          rotate_left
          · simp only [Act.put, List.setIfInBounds_toArray, List.set_cons_zero, List.set_cons_succ, i64_w, i32_w]
            rfl
          refine pure_ (i := 2) (N := some 72) (v := ?_) (a' := ?_) #[true, true, true, false, false, false, false, false, false, false, false, false] rfl rfl (by kernel_rfl) (fun _ _ _ h => h) (Or.inl ⟨by rfl, ?_⟩) ?_ ?_
          rotate_left
          · intro w'
            go_simp
            with_reducible rfl
          rotate_left
          · simp only [Act.put, List.setIfInBounds_toArray, List.set_cons_zero, List.set_cons_succ, i64_w, i32_w]
            rfl
          refine pure_ (i := 5) (N := some 75) (v := ?_) (a' := ?_) #[true, true, true, false, false, true, false, false, false, false, false, false] rfl rfl (by kernel_rfl) (fun _ _ _ h => h) (Or.inl ⟨by rfl, ?_⟩) ?_ ?_
          rotate_left
          · intro w'
            go_simp
            with_reducible rfl
          rotate_left
          · simp only [Act.put, List.setIfInBounds_toArray, List.set_cons_zero, List.set_cons_succ, i64_w, i32_w]
            rfl
          refine pure_ (i := 10) (N := some 80) (v := ?_) (a' := ?_) #[true, true, true, false, false, true, false, false, false, false, true, false] rfl rfl (by kernel_rfl) (fun _ _ _ h => h) (Or.inl ⟨by rfl, ?_⟩) ?_ ?_
          rotate_left
          · intro w'
            go_simp
            with_reducible rfl
          rotate_left
          · simp only [Act.put, List.setIfInBounds_toArray, List.set_cons_zero, List.set_cons_succ, i64_w, i32_w]
            rfl
          refine take_ (i := 3) (N := some 73) (v := ?_) (a' := ?_) #[true, true, true, true, false, true, false, false, false, false, true, false] rfl rfl (by kernel_rfl) (fun _ _ _ h => h) (Or.inl ⟨by rfl, ?_⟩) hHeld ?_ ?_
          rotate_left
          · rintro w' ⟨s0, s1, s2⟩
            go_simp
            with_reducible rfl
          rotate_left
          · simp only [Act.put, List.setIfInBounds_toArray, List.set_cons_zero, List.set_cons_succ, i64_w, i32_w]
            rfl
          refine take_ (i := 4) (N := some 74) (v := ?_) (a' := ?_) #[true, true, true, true, true, true, false, false, false, false, true, false] rfl rfl (by kernel_rfl) (fun _ _ _ h => h) (Or.inl ⟨by rfl, ?_⟩) hHeld ?_ ?_
          rotate_left
          · rintro w' ⟨s0, s1, s2⟩
            go_simp
            with_reducible rfl
          rotate_left
          · simp only [Act.put, List.setIfInBounds_toArray, List.set_cons_zero, List.set_cons_succ, i64_w, i32_w]
            rfl
          refine pure_ (i := 6) (N := some 76) (v := ?_) (a' := ?_) #[true, true, true, true, true, true, true, false, false, false, true, false] rfl rfl (by kernel_rfl) (fun _ _ _ h => h) (Or.inl ⟨by rfl, ?_⟩) ?_ ?_
          rotate_left
          · intro w'
            go_simp
            with_reducible rfl
          rotate_left
          · simp only [Act.put, List.setIfInBounds_toArray, List.set_cons_zero, List.set_cons_succ, i64_w, i32_w]
            rfl
          refine pure_ (i := 7) (N := some 77) (v := ?_) (a' := ?_) #[true, true, true, true, true, true, true, true, false, false, true, false] rfl rfl (by kernel_rfl) (fun _ _ _ h => h) (Or.inl ⟨by rfl, ?_⟩) ?_ ?_
          rotate_left
          · intro w'
            go_simp
            with_reducible rfl
          rotate_left
          · simp only [Act.put, List.setIfInBounds_toArray, List.set_cons_zero, List.set_cons_succ, i64_w, i32_w]
            rfl
          refine take_ (i := 8) (N := some 78) (v := ?_) (a' := ?_) #[true, true, true, true, true, true, true, true, true, false, true, false] rfl rfl (by kernel_rfl) (fun _ _ _ h => h) (Or.inl ⟨by rfl, ?_⟩) hHeld ?_ ?_
          rotate_left
          · rintro w' ⟨s0, s1, s2⟩
            go_simp
            with_reducible rfl
          rotate_left
          · simp only [Act.put, List.setIfInBounds_toArray, List.set_cons_zero, List.set_cons_succ, i64_w, i32_w]
            rfl
          refine one_ (i := 9) (N := some 79) #[true, true, true, true, true, true, true, true, true, true, true, false] rfl rfl (by kernel_rfl) (by decide) (fun K hK => ?_)
          refine goes_ Tryd.func49 (by kernel_rfl) rfl #[.slice A5 x.f2.length d5] (by rfl) rfl rfl (by simp only [List.map_toArray, List.map_cons, List.map_nil]; rfl) ?_
          with_reducible refine (word_as _ q5 A5 d5 x.f2 (by exact HR5.out.on (fun _ => rfl)) (Tabs_at HTW.out (by repeat (first | exact Below.refl _ _ | apply pw_below_drewN | apply below_drew1))) hbk hkn HFK.out.2.2).mono ?_
          rintro e W7 ⟨rfl, q⟩
          have HB7 : Hid (Below W6.heap.size W6 W7) := Lib.hid (by repeat (first | exact q | apply undrewN | apply undrew1))
          have HM7 := Lib.hid (HN.out.num.below HB7.out)
          clear q
          refine ⟨_, rfl, ?_⟩
          refine hK.out _ _ ⟨(HB7.out.cell (p := ⟨tb, 5, none⟩) ht6).trans h5, (HB7.out.cell (p := ⟨eb, 0, none⟩) hn6).trans hx6, (HB7.out.cell (p := ⟨b, o + pi * 4 + 2, none⟩) hb6).trans e5⟩ (fun hHeld => ?_)
          clear hK K
          refine norm_ (a' := ?_) ?_ ?_
          rotate_left
          · show Act.put _ (some 79) _ = _
            simp only [Act.put, List.setIfInBounds_toArray, List.set_cons_zero, List.set_cons_succ, i64_w, i32_w]
            rfl
          refine last_ (i := 11) (N := none) #[true, true, true, true, true, true, true, true, true, true, true, true] rfl rfl (by kernel_rfl) (by decide) (fun K hK => ?_)
          refine step_put _ (by rfl) (.tmp 73) (.tmp 79) (.tmp 80) rfl nb i _ rfl HM7.out hmi (wordB x.f2) rfl hsk (i : Int) rfl hwf ?_
          intro W8 hn8 hg8
          have HN8 := Lib.hid (HPT.out W8 W7 HB7.out hn8 hg8)
          clear hn8 hg8
          refine hK.out _ _ ?_
          clear hK K
          refine done_ (by kernel_rfl) ?_
          go_wp2
          go_roundw
          case rel => exact ⟨i + 1, _, by omega, by go_num, HN8⟩
          case measure => simp [intOf]; omega
        · have hlt : ¬ (i : Int) < (es.length : Int) := by omega
          obtain rfl : i = es.length := by omega
          have hlk := HL.out _ _ _ _ _ _ _ _ _ HS.out HW.out
          have HK := Lib.hid hlk
          clear hlk
          go_wp2_with (first
            | (go_at_call 50; go_loud ((with_reducible refine HK.out.mono ?_); rintro e W9 ⟨rfl, q⟩; have HQ := Lib.hid q; clear q))
            | go_in)
          go_ret3
          exact ⟨tb, p, rfl, HQ.out⟩
end Go.Proofs.YtnogmaljcocfjaaDoor.DitBuild

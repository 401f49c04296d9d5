/- By hand: the heap of headers in memory; the methods that container/heap asks of it. For every list and world. -/
import Derived.Test.YtnflokhffmfifaaOfTX
import Derived.Test.YtnflokhffmfifaaHeapPure
set_option linter.unusedVariables false
set_option linter.unusedSimpArgs false
namespace Go.Proofs.Ytnflokhffmfifaa.HeapWT
open Go.RowKit Go.Proofs.Ytnflokhffmfifaa.Blk Go.Proofs.Ytnflokhffmfifaa.Ris Go.Proofs.Ytnflokhffmfifaa.OfT Go.Proofs.Ytnflokhffmfifaa.Keys Go.Proofs.Ytnflokhffmfifaa.XV Go.Proofs.Ytnflokhffmfifaa.HeapPure Go.Proofs.YtnflokhffmfifaaW.PrintWords Go.Proofs.YtnflokhffmfifaaW.PrintLast Go.Proofs.YtnflokhffmfifaaW.PrintMore
/-- What a header tells: where its row lies, and what stands there. -/
structure Hd where
  A : Option Addr
  c : Nat
  g : Nat
  l : List ByteArray
instance : Inhabited Hd := ⟨⟨none, 0, 0, []⟩⟩
def Hd.v (d : Hd) : Value := .slice d.A d.l.length d.c
def key (d : Hd) : ByteArray := d.l.getD 0 E
/-- The row of one header: apart from the heap's own blocks. -/
structure Good (w : World) (hb r : Nat) (d : Hd) : Prop where
  row : Row w d.g d.A d.c d.l
  ne1 : d.g ≠ hb
  ne2 : d.g ≠ r
/-- Block hb holds a header of block r's headers, of which ds are in use. -/
structure HB (w : World) (hb r cap : Nat) (ds : List Hd) : Prop where
  box : Blk.At w hb [.slice (some ⟨r, 0, none⟩) ds.length cap] 106
  row : ∃ rest, Blk.At w r (ds.map Hd.v ++ rest) 59
  cap : ds.length ≤ cap
  ne : hb ≠ r
  good : ∀ d ∈ ds, Good w hb r d
theorem Good.on {w w1 : World} {hb r : Nat} {d : Hd} (h : Good w hb r d) (k : w1.heap[d.g]? = w.heap[d.g]?) : Good w1 hb r d := ⟨h.row.on (fun _ => k), h.ne1, h.ne2⟩
section
variable {w : World} {hb r cap : Nat} {ds : List Hd}
theorem HB.cellv (h : HB w hb r cap ds) {i : Nat} (hi : i < ds.length) : w.cell? ⟨r, i, none⟩ = some (ds.getD i default).v := by
  obtain ⟨rest, hr⟩ := h.row
  refine hr.get i _ ?_
  rw [List.getElem?_append_left (by simpa using hi)]
  simp [List.getD_eq_getElem?_getD, List.getElem?_eq_getElem hi]
theorem HB.free (h : HB w hb r cap ds) (i : Nat) : w.frozen? ⟨r, i, none⟩ = false := by
  obtain ⟨rest, hr⟩ := h.row
  exact hr.free i
theorem HB.at_ (h : HB w hb r cap ds) {i : Nat} (hi : i < ds.length) : Good w hb r (ds.getD i default) := by
  refine h.good _ ?_
  rw [← getElem_getD _ _ hi]
  exact List.getElem_mem hi
theorem Good.head {d : Hd} (h : Good w hb r d) (hp : 0 < d.l.length) : ∃ o, d.A = some ⟨d.g, o, none⟩ ∧ w.cell? ⟨d.g, o, none⟩ = some (.string (key d)) := by
  obtain ⟨o, h1, h2⟩ := h.row.at_ hp
  exact ⟨o, h1, h2 0 hp⟩
theorem HB.draw (h : HB w hb r cap ds) (n : Nat) : HB (w.drewN n) hb r cap ds := ⟨h.box, h.row, h.cap, h.ne, fun d hd => (h.good d hd).on rfl⟩
theorem HB.drawn {w1 : World} (h : HB w hb r cap ds) (hd : Drawn0 w w1) : HB w1 hb r cap ds := by
  obtain ⟨n, rfl⟩ := hd
  exact h.draw n
/-- Two cells of the row exchanged. -/
theorem HB.swap (h : HB w hb r cap ds) {i j : Nat} (hi : i < ds.length) (hj : j < ds.length) : HB ((w.setCell ⟨r, i, none⟩ (ds.getD j default).v).setCell ⟨r, j, none⟩ (ds.getD i default).v) hb r cap (swp ds i j) := by
  have hl := swp_length ds i j
  refine ⟨?_, ?_, by rw [hl]; exact h.cap, h.ne, fun d hd => ?_⟩
  · rw [hl]
    exact (h.box.other ⟨r, i, none⟩ _ h.ne).other ⟨r, j, none⟩ _ h.ne
  · obtain ⟨rest, hr⟩ := h.row
    refine ⟨rest, ?_⟩
    have := (hr.set i (ds.getD j default).v).set j (ds.getD i default).v
    have e : (((ds.map Hd.v ++ rest).set i (ds.getD j default).v).set j (ds.getD i default).v) = (swp ds i j).map Hd.v ++ rest := by
      unfold swp
      rw [List.set_append_left _ _ (by simpa using hi), List.set_append_left _ _ (by simpa using hj), List.map_set, List.map_set]
    rwa [e] at this
  · have hm : d ∈ ds := (swp_perm ds hi hj).mem_iff.1 hd
    have hg := h.good d hm
    exact hg.on (by rw [Below.heap_setCell _ _ _ _ hg.ne2, Below.heap_setCell _ _ _ _ hg.ne2])
end
theorem run_wrapnil {P : Program} (xt : TypeId) (a : Addr) (s : String) (w : World) : Sem.run P (Builtin.ssaWrapNilChk_ #[xt] xt #[.pointer (some a), strVal "", strVal s]) w = .ok (.pointer (some a)) w := rfl
theorem meth_val {P : Program} {T E : TypeId} {name : String} {f : Nat} {i : TypeInfo} {m : Method} (hi : P.info? T = some i) (hm : i.methods.find? (·.name == name) = some m) (hp : m.path = #[]) (hf : m.func = some (f, false))
    (hu : P.underlying T = some (.pointer E)) (hE : ∀ w, Sem.run P (Go.isAgg E) w = .ok false w) (fuel : Nat) (w : World) (a : Addr) (v : Value) (hc : w.cell? a = some v) :
    Sem.run P (method (fuel + 1) T (.pointer (some a)) name) w = .ok (f, v) w := by
  unfold method
  simp [go_sem, typeInfo, hi, hm, hp, hf, follow, receiverAt, underlying, hu, Place.get, run_wrapnil, loadVar, hE, asAddr, hc]
theorem meth_ptr {P : Program} {T E : TypeId} {name : String} {f : Nat} {i : TypeInfo} {m : Method} (hi : P.info? T = some i) (hm : i.methods.find? (·.name == name) = some m) (hp : m.path = #[]) (hf : m.func = some (f, true))
    (hu : P.underlying T = some (.pointer E)) (fuel : Nat) (w : World) (v : Value) : Sem.run P (method (fuel + 1) T v name) w = .ok (f, v) w := by
  unfold method
  simp [go_sem, typeInfo, hi, hm, hp, hf, follow, receiverAt, underlying, hu, Place.get]
/-- A type's row of one method. -/
def rowOf (P : Program) (T : TypeId) (name : String) : Option (Array FieldStep × Option (Nat × Bool)) := match P.info? T with
  | some i => match i.methods.find? (·.name == name) with
    | some m => some (m.path, m.func)
    | none => none
  | none => none
theorem rowOf_open {P : Program} {T : TypeId} {name : String} {x : Array FieldStep × Option (Nat × Bool)} (h : rowOf P T name = some x) : ∃ i m, P.info? T = some i ∧ i.methods.find? (·.name == name) = some m ∧ m.path = x.1 ∧ m.func = x.2 := by
  unfold rowOf at h
  split at h
  · rename_i i hi
    split at h
    · rename_i m hm
      obtain rfl := Option.some.inj h
      exact ⟨i, m, hi, hm, rfl, rfl⟩
    · cases h
  · cases h
theorem agg98 (w : World) : Sem.run Try.prog (Go.isAgg 106) w = .ok false w := by
  simp [go_sem, Go.isAgg, underlying, Try.underlying106]
theorem mLess (w : World) (hb : Nat) (v : Value) (hc : w.cell? ⟨hb, 0, none⟩ = some v) : Sem.run Try.prog (method 263 105 (.pointer (some ⟨hb, 0, none⟩)) "Less") w = .ok (133, v) w := by
  obtain ⟨i, m, h1, h2, h3, h4⟩ := rowOf_open (show rowOf Try.prog 105 "Less" = some (#[], some (133, false)) by kernel_rfl)
  exact meth_val h1 h2 h3 h4 Try.underlying105 agg98 262 w _ v hc
theorem mLen (w : World) (hb : Nat) (v : Value) (hc : w.cell? ⟨hb, 0, none⟩ = some v) : Sem.run Try.prog (method 263 105 (.pointer (some ⟨hb, 0, none⟩)) "Len") w = .ok (77, v) w := by
  obtain ⟨i, m, h1, h2, h3, h4⟩ := rowOf_open (show rowOf Try.prog 105 "Len" = some (#[], some (77, false)) by kernel_rfl)
  exact meth_val h1 h2 h3 h4 Try.underlying105 agg98 262 w _ v hc
theorem mSwap (w : World) (hb : Nat) (v : Value) (hc : w.cell? ⟨hb, 0, none⟩ = some v) : Sem.run Try.prog (method 263 105 (.pointer (some ⟨hb, 0, none⟩)) "Swap") w = .ok (135, v) w := by
  obtain ⟨i, m, h1, h2, h3, h4⟩ := rowOf_open (show rowOf Try.prog 105 "Swap" = some (#[], some (135, false)) by kernel_rfl)
  exact meth_val h1 h2 h3 h4 Try.underlying105 agg98 262 w _ v hc
theorem mPop (w : World) (v : Value) : Sem.run Try.prog (method 263 105 v "Pop") w = .ok (134, v) w := by
  obtain ⟨i, m, h1, h2, h3, h4⟩ := rowOf_open (show rowOf Try.prog 105 "Pop" = some (#[], some (134, true)) by kernel_rfl)
  exact meth_ptr h1 h2 h3 h4 Try.underlying105 262 w v
theorem len_as (w : World) (A : Option Addr) (m cap : Nat) : Calls Try.prog 77 #[.slice A m cap] w fun e w' => e = .returned (.int .i64 (m : Int)) ∧ w' = w := by
  go_enter Try.func77, Try.ntmps77
  go_wp2
  go_ret
  exact ⟨rfl, rfl⟩
set_option maxRecDepth 100000 in
theorem less_as (w : World) (hb r cap : Nat) (ds : List Hd) (i j : Nat) (h : HB w hb r cap ds) (hi : i < ds.length) (hj : j < ds.length) (pi : 0 < (ds.getD i default).l.length) (pj : 0 < (ds.getD j default).l.length) :
    Calls Try.prog 133 #[.slice (some ⟨r, 0, none⟩) ds.length cap, .int .i64 (i : Int), .int .i64 (j : Int)] w fun e w' => e = .returned (.bool (ltS (key (ds.getD i default)) (key (ds.getD j default)))) ∧ Drawn0 w w' := by
  have hil : (i : Int) < (ds.length : Int) := by omega
  have hjl : (j : Int) < (ds.length : Int) := by omega
  have ci := h.cellv hi
  have cj := h.cellv hj
  have gi := h.at_ hi
  have gj := h.at_ hj
  obtain ⟨oi, ei, ki⟩ := gi.head pi
  obtain ⟨oj, ej, kj⟩ := gj.head pj
  unfold Hd.v at ci cj
  rw [ei] at ci
  rw [ej] at cj
  have qi : (0 : Int) < ((ds.getD i default).l.length : Int) := by omega
  have qj : (0 : Int) < ((ds.getD j default).l.length : Int) := by omega
  clear gi gj ei ej h pi pj
  generalize key (ds.getD i default) = x at ki ⊢
  generalize key (ds.getD j default) = y at kj ⊢
  generalize (ds.getD i default).l.length = ni at ci qi
  generalize (ds.getD j default).l.length = nj at cj qj
  generalize (ds.getD i default).g = gi at ci ki
  generalize (ds.getD j default).g = gj at cj kj
  generalize (ds.getD i default).c = xi at ci
  generalize (ds.getD j default).c = xj at cj
  go_enter Try.func133, Try.ntmps133
  go_wp2
  repeat (go_quiet (fail); try go_wp2)
  go_ret
  exact ⟨rfl, by repeat (first | exact Drawn0.refl _ | apply Drawn0.step)⟩
set_option maxRecDepth 100000 in
theorem swap_as (w : World) (hb r cap : Nat) (ds : List Hd) (i j : Nat) (h : HB w hb r cap ds) (hi : i < ds.length) (hj : j < ds.length) :
    Calls Try.prog 135 #[.slice (some ⟨r, 0, none⟩) ds.length cap, .int .i64 (i : Int), .int .i64 (j : Int)] w fun e w' => e = .returned (.tuple #[]) ∧ HB w' hb r cap (swp ds i j) ∧ w.grownBy w' (some r) := by
  have hil : (i : Int) < (ds.length : Int) := by omega
  have hjl : (j : Int) < (ds.length : Int) := by omega
  have ci := h.cellv hi
  have cj := h.cellv hj
  have fi := h.free i
  have fj := h.free j
  have HS := Lib.hid ((h.swap hi hj).draw 1)
  have cj2 := (h.swap hi hj).cellv (i := j) (by rw [swp_length]; exact hj)
  have fj2 : (w.setCell ⟨r, i, none⟩ (ds.getD j default).v).frozen? ⟨r, j, none⟩ = false := by rw [World.frozen?_setCell]; exact fj
  have ck2 : ∃ u, (w.setCell ⟨r, i, none⟩ (ds.getD j default).v).cell? ⟨r, j, none⟩ = some u := by
    obtain ⟨rest, hr⟩ := h.row
    have h2 := hr.set i (ds.getD j default).v
    rw [h2.cell j]
    exact ⟨_, List.getElem?_eq_getElem (by simp; omega)⟩
  obtain ⟨u, ck2⟩ := ck2
  clear h cj2
  obtain ⟨Ai, ni, xi, ei⟩ : ∃ A n c, (ds.getD i default).v = .slice A n c := ⟨_, _, _, rfl⟩
  obtain ⟨Aj, nj, xj, ej⟩ : ∃ A n c, (ds.getD j default).v = .slice A n c := ⟨_, _, _, rfl⟩
  rw [ei] at ci
  rw [ej] at cj fj2 ck2
  rw [ei, ej] at HS
  clear ei ej
  go_enter Try.func135, Try.ntmps135
  go_wp2
  refine start_ (n := 16) (S := fun w' => w'.cell? ⟨r, i, none⟩ = some (.slice Ai ni xi) ∧ w'.cell? ⟨r, j, none⟩ = some (.slice Aj nj xj)) (ds := [13, 15]) #[false, false, false, false, false, false, false, false, false, false, false, false, false, false, false, false] (by kernel_rfl) rfl rfl ⟨ci, cj⟩ (fun hHeld => ?_)
  refine pure_ (i := 0) (N := some 6) (v := ?_) (a' := ?_) #[true, false, false, false, false, false, false, false, false, false, false, false, false, false, false, false] rfl rfl (by kernel_rfl) (fun _ _ _ h => h) (Or.inl ⟨by rfl, ?_⟩) ?_ ?_
  rotate_left
  · intro w'
    go_simp
    with_reducible rfl
  rotate_left
  · simp only [Act.put, List.setIfInBounds_toArray, List.set_cons_zero, List.set_cons_succ, i64_w, i32_w]
    rfl
  refine pure_ (i := 1) (N := some 7) (v := ?_) (a' := ?_) #[true, true, false, false, false, false, false, false, false, false, false, false, false, false, false, false] rfl rfl (by kernel_rfl) (fun _ _ _ h => h) (Or.inl ⟨by rfl, ?_⟩) ?_ ?_
  rotate_left
  · intro w'
    go_simp
    with_reducible rfl
  rotate_left
  · simp only [Act.put, List.setIfInBounds_toArray, List.set_cons_zero, List.set_cons_succ, i64_w, i32_w]
    rfl
  refine pure_ (i := 2) (N := some 8) (v := ?_) (a' := ?_) #[true, true, true, false, false, false, false, false, false, false, false, false, false, false, false, false] rfl rfl (by kernel_rfl) (fun _ _ _ h => h) (Or.inl ⟨by rfl, ?_⟩) ?_ ?_
  rotate_left
  · intro w'
    go_simp
    with_reducible rfl
  rotate_left
  · simp only [Act.put, List.setIfInBounds_toArray, List.set_cons_zero, List.set_cons_succ, i64_w, i32_w]
    rfl
  refine pure_ (i := 3) (N := some 9) (v := ?_) (a' := ?_) #[true, true, true, true, false, false, false, false, false, false, false, false, false, false, false, false] rfl rfl (by kernel_rfl) (fun _ _ _ h => h) (Or.inl ⟨by rfl, ?_⟩) ?_ ?_
  rotate_left
  · intro w'
    go_simp
    with_reducible rfl
  rotate_left
  · simp only [Act.put, List.setIfInBounds_toArray, List.set_cons_zero, List.set_cons_succ, i64_w, i32_w]
    rfl
  refine pure_ (i := 4) (N := some 10) (v := ?_) (a' := ?_) #[true, true, true, true, true, false, false, false, false, false, false, false, false, false, false, false] rfl rfl (by kernel_rfl) (fun _ _ _ h => h) (Or.inl ⟨by rfl, ?_⟩) ?_ ?_
  rotate_left
  · intro w'
    go_simp
    with_reducible rfl
  rotate_left
  · simp only [Act.put, List.setIfInBounds_toArray, List.set_cons_zero, List.set_cons_succ, i64_w, i32_w]
    rfl
  refine pure_ (i := 5) (N := some 11) (v := ?_) (a' := ?_) #[true, true, true, true, true, true, false, false, false, false, false, false, false, false, false, false] rfl rfl (by kernel_rfl) (fun _ _ _ h => h) (Or.inl ⟨by rfl, ?_⟩) ?_ ?_
  rotate_left
  · intro w'
    go_simp
    with_reducible rfl
  rotate_left
  · simp only [Act.put, List.setIfInBounds_toArray, List.set_cons_zero, List.set_cons_succ, i64_w, i32_w]
    rfl
  refine pure_ (i := 6) (N := some 12) (v := ?_) (a' := ?_) #[true, true, true, true, true, true, true, false, false, false, false, false, false, false, false, false] rfl rfl (by kernel_rfl) (fun _ _ _ h => h) (Or.inl ⟨by rfl, ?_⟩) ?_ ?_
  rotate_left
  · intro w'
    go_simp
    with_reducible rfl
  rotate_left
  · simp only [Act.put, List.setIfInBounds_toArray, List.set_cons_zero, List.set_cons_succ, i64_w, i32_w]
    rfl
  refine pure_ (i := 8) (N := some 14) (v := ?_) (a' := ?_) #[true, true, true, true, true, true, true, false, true, false, false, false, false, false, false, false] rfl rfl (by kernel_rfl) (fun _ _ _ h => h) (Or.inl ⟨by rfl, ?_⟩) ?_ ?_
  rotate_left
  · intro w'
    go_simp
    with_reducible rfl
  rotate_left
  · simp only [Act.put, List.setIfInBounds_toArray, List.set_cons_zero, List.set_cons_succ, i64_w, i32_w]
    rfl
  refine pure_ (i := 9) (N := some 15) (v := ?_) (a' := ?_) #[true, true, true, true, true, true, true, false, true, true, false, false, false, false, false, false] rfl rfl (by kernel_rfl) (fun _ _ _ h => h) (Or.inl ⟨by rfl, ?_⟩) ?_ ?_
  rotate_left
  · intro w'
    go_simp
    with_reducible rfl
  rotate_left
  · simp only [Act.put, List.setIfInBounds_toArray, List.set_cons_zero, List.set_cons_succ, i64_w, i32_w]
    rfl
  refine pure_ (i := 10) (N := some 16) (v := ?_) (a' := ?_) #[true, true, true, true, true, true, true, false, true, true, true, false, false, false, false, false] rfl rfl (by kernel_rfl) (fun _ _ _ h => h) (Or.inl ⟨by rfl, ?_⟩) ?_ ?_
  rotate_left
  · intro w'
    go_simp
    with_reducible rfl
  rotate_left
  · simp only [Act.put, List.setIfInBounds_toArray, List.set_cons_zero, List.set_cons_succ, i64_w, i32_w]
    rfl
  refine take_ (i := 7) (N := some 13) (v := ?_) (a' := ?_) #[true, true, true, true, true, true, true, true, true, true, true, false, false, false, false, false] rfl rfl (by kernel_rfl) (fun _ _ _ h => h) (Or.inl ⟨by rfl, ?_⟩) hHeld ?_ ?_
  rotate_left
  · rintro w' ⟨s0, s1⟩
    go_simp
    with_reducible rfl
  rotate_left
  · simp only [Act.put, List.setIfInBounds_toArray, List.set_cons_zero, List.set_cons_succ, i64_w, i32_w]
    rfl
  refine take_ (i := 11) (N := some 17) (v := ?_) (a' := ?_) #[true, true, true, true, true, true, true, true, true, true, true, true, false, false, false, false] rfl rfl (by kernel_rfl) (fun _ _ _ h => h) (Or.inl ⟨by rfl, ?_⟩) hHeld ?_ ?_
  rotate_left
  · rintro w' ⟨s0, s1⟩
    go_simp
    with_reducible rfl
  rotate_left
  · simp only [Act.put, List.setIfInBounds_toArray, List.set_cons_zero, List.set_cons_succ, i64_w, i32_w]
    rfl
  refine pure_ (i := 12) (N := some 18) (v := ?_) (a' := ?_) #[true, true, true, true, true, true, true, true, true, true, true, true, true, false, false, false] rfl rfl (by kernel_rfl) (fun _ _ _ h => h) (Or.inl ⟨by rfl, ?_⟩) ?_ ?_
  rotate_left
  · intro w'
    go_simp
    with_reducible rfl
  rotate_left
  · simp only [Act.put, List.setIfInBounds_toArray, List.set_cons_zero, List.set_cons_succ, i64_w, i32_w]
    rfl
  refine last_ (i := 13) (N := none) #[true, true, true, true, true, true, true, true, true, true, true, true, true, true, false, false] rfl rfl (by kernel_rfl) (by decide) (fun K hK => ?_)
  refine skip_ (w1 := ?_) (by rfl) rfl ?_ ?_
  rotate_left
  · go_simp
    rfl
  refine hK.out _ _ ?_
  clear hK K
  refine pure_ (i := 14) (N := some 19) (v := ?_) (a' := ?_) #[true, true, true, true, true, true, true, true, true, true, true, true, true, true, true, false] rfl rfl (by kernel_rfl) (fun _ _ _ h => h) (Or.inl ⟨by rfl, ?_⟩) ?_ ?_
  rotate_left
  · intro w'
    go_simp
    with_reducible rfl
  rotate_left
  · simp only [Act.put, List.setIfInBounds_toArray, List.set_cons_zero, List.set_cons_succ, i64_w, i32_w]
    rfl
  refine last_ (i := 15) (N := none) #[true, true, true, true, true, true, true, true, true, true, true, true, true, true, true, true] rfl rfl (by kernel_rfl) (by decide) (fun K hK => ?_)
  refine skip_ (w1 := ?_) (by rfl) rfl ?_ ?_
  rotate_left
  · go_simp
    rfl
  refine hK.out _ _ ?_
  clear hK K
  refine done_ (by kernel_rfl) ?_
  go_wp2
  go_end0
  exact ⟨rfl, HS.out, grown_drewN (grown_set (grown_set (grown_refl _ _) _ _) _ _) 1⟩
end Go.Proofs.Ytnflokhffmfifaa.HeapWT

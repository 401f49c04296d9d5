/- By hand: the bytes of a whole group, appended. For every world. -/
import Derived.Test.YtppnhlkfkedlmaaDoorUnW
import Derived.BigRegion
import Derived.StillTailTactics
set_option linter.unusedVariables false
set_option linter.unusedSimpArgs false
namespace Go.Proofs.YtppnhlkfkedlmaaDoor.UnX
open Go.RowKit Go.Proofs.YtppnhlkfkedlmaaDoor.Blk Go.Proofs.YtppnhlkfkedlmaaDoor.L64 Go.Proofs.YtppnhlkfkedlmaaDoor.UnB64 Go.Proofs.YtppnhlkfkedlmaaDoor.RawB64 Go.Proofs.YtppnhlkfkedlmaaDoor.UnW Go.Proofs.YtppnhlkfkedlmaaDoorW.PrintWords Go.Proofs.YtppnhlkfkedlmaaDoorW.PrintLast Go.Proofs.YtppnhlkfkedlmaaDoorW.PrintMore
theorem or1 (x y : Int) (h : 0 ≤ x ∧ x < 64) (h2 : 0 ≤ y ∧ y < 64) : Go.bits .or .u8 (x * 4) (y / 16) = x * 4 + y / 16 := by
  obtain ⟨a, rfl⟩ := fin_of x 64 h.1 (by omega)
  obtain ⟨b, rfl⟩ := fin_of y 64 h2.1 (by omega)
  have : ∀ (a b : Fin 64), Go.bits .or .u8 ((a.val : Int) * 4) ((b.val : Int) / 16) = (a.val : Int) * 4 + (b.val : Int) / 16 := by decide +kernel
  exact this a b
theorem or2 (x y : Int) (h : 0 ≤ x ∧ x < 64) (h2 : 0 ≤ y ∧ y < 64) : Go.bits .or .u8 (x * 16 % 256) (y / 4) = x % 16 * 16 + y / 4 := by
  obtain ⟨a, rfl⟩ := fin_of x 64 h.1 (by omega)
  obtain ⟨b, rfl⟩ := fin_of y 64 h2.1 (by omega)
  have : ∀ (a b : Fin 64), Go.bits .or .u8 ((a.val : Int) * 16 % 256) ((b.val : Int) / 4) = (a.val : Int) % 16 * 16 + (b.val : Int) / 4 := by decide +kernel
  exact this a b
theorem or3 (x y : Int) (h : 0 ≤ x ∧ x < 64) (h2 : 0 ≤ y ∧ y < 64) : Go.bits .or .u8 (x * 64 % 256) y = x % 4 * 64 + y := by
  obtain ⟨a, rfl⟩ := fin_of x 64 h.1 (by omega)
  obtain ⟨b, rfl⟩ := fin_of y 64 h2.1 (by omega)
  have : ∀ (a b : Fin 64), Go.bits .or .u8 ((a.val : Int) * 64 % 256) (b.val : Int) = (a.val : Int) % 4 * 64 + (b.val : Int) := by decide +kernel
  exact this a b
def BytesQ (w : World) (g : G) (base : Nat) (v : Value) (acc : List Int) (e : Ending) (w' : World) : Prop := ∃ v', e = .returned v' ∧ w'.ownsRow base 5 1 v' (acc ++ bytesG g).length (nums .u8 (acc ++ bytesG g)) ∧ w.grownBy w' v.ownBlock
theorem news_at (w : World) (cs : List Value) (t : TypeId) (m : Nat) : ∀ j u, (cs.take m)[j]? = some u → ((w.alloc (.cells cs.toArray t)).drew).cell? ((⟨w.heap.size, 0, none⟩ : Addr).add j) = some u := by
  intro j u h
  have ha : (⟨w.heap.size, 0, none⟩ : Addr).add j = ⟨w.heap.size, j, none⟩ := by unfold Addr.add; split <;> simp_all
  rw [ha]
  have h2 : cs[j]? = some u := by
    rw [List.getElem?_take] at h
    split at h
    · exact h
    · cases h
  exact (At.fresh w cs t).get j u h2
theorem bytes_end {w : World} {g : G} {base m : Nat} {v v' : Value} {acc : List Int} {o : Obj} {w' : World} {bs : List Int} (hb : bytesG g = bs) (hm : m = bs.length) (h1 : w'.ownsRow base 5 1 v' (acc.length + m) (nums .u8 acc ++ nums .u8 bs)) (h2 : ((w.alloc o).drew).grownBy w' v.ownBlock) : BytesQ w g base v acc (.returned v') w' := by
  subst hm
  refine ⟨v', rfl, ?_, World.grownBy.trans (World.grownBy_alloc w o _) ⟨h2.os, h2.tape, h2.output, h2.size, h2.block⟩⟩
  rw [hb, List.length_append, nums_append]
  exact h1
theorem infoB : (Tryd.prog.info? 5).map (fun i => (i.zero, i.size, i.bytes)) = some (some (.int .u8 0), 1, 1) := by kernel_rfl
set_option maxHeartbeats 2000000 in
theorem bytes (b : Nat) (g : G) (base : Nat) (v : Value) (acc : List Int) (w : World) (hA : AtG w b g) (ok : OkG g) (hp2 : g.p ≤ 2) (HO : w.ownsRow base 5 1 v acc.length (nums .u8 acc)) (hbase : base ≤ w.heap.size) (hlen : acc.length ≤ 140737488355320) :
    Calls Tryd.prog 17 #[.pointer (some ⟨b, 0, none⟩), v] w (BytesQ w g base v acc) := by
  obtain ⟨a, w0, w1, w2, w3, p⟩ := g
  obtain ⟨ha, hw0, hw1, hw2, hw3, hp⟩ := ok
  simp only at ha hw0 hw1 hw2 hw3 hp hp2
  obtain ⟨i0, hi, hz0, hz1, hz2⟩ := info_parts infoB
  have hp3 : p = 0 ∨ p = 1 ∨ p = 2 := by omega
  clear hp2
  have c0 : w.cell? ⟨b, 0, none⟩ = some (.int .i64 a) := hA.get 0 _ rfl
  have c1 : w.cell? ⟨b, 1, none⟩ = some (.int .u8 w0) := hA.get 1 _ rfl
  have c2 : w.cell? ⟨b, 2, none⟩ = some (.int .u8 w1) := hA.get 2 _ rfl
  have c3 : w.cell? ⟨b, 3, none⟩ = some (.int .u8 w2) := hA.get 3 _ rfl
  have c4 : w.cell? ⟨b, 4, none⟩ = some (.int .u8 w3) := hA.get 4 _ rfl
  have c5 : w.cell? ⟨b, 5, none⟩ = some (.int .i64 p) := hA.get 5 _ rfl
  have HW : Hid (w.ownsRow base 5 1 v acc.length (nums .u8 acc)) := HO
  clear HO
  have HA : Hid (AtG w b ⟨a, w0, w1, w2, w3, p⟩) := hA
  have hbs : b < w.heap.size := At.lt hA
  have d1 := (At.alloc hA (Obj.cells #[Value.int .u8 0, Value.int .u8 0, Value.int .u8 0] 49)).get 1 _ rfl
  have d2 := (At.alloc hA (Obj.cells #[Value.int .u8 0, Value.int .u8 0, Value.int .u8 0] 49)).get 2 _ rfl
  have d3 := (At.alloc hA (Obj.cells #[Value.int .u8 0, Value.int .u8 0, Value.int .u8 0] 49)).get 3 _ rfl
  have d4 := (At.alloc hA (Obj.cells #[Value.int .u8 0, Value.int .u8 0, Value.int .u8 0] 49)).get 4 _ rfl
  have d5 := (At.alloc hA (Obj.cells #[Value.int .u8 0, Value.int .u8 0, Value.int .u8 0] 49)).get 5 _ rfl
  clear hA
  go_enter Tryd.func17, Tryd.ntmps17
  go_wp2
  refine start_ (n := 41) (S := fun w' => w'.cell? ⟨b, 1, none⟩ = some (.int .u8 w0) ∧ w'.cell? ⟨b, 2, none⟩ = some (.int .u8 w1) ∧ w'.cell? ⟨b, 3, none⟩ = some (.int .u8 w2) ∧ w'.cell? ⟨b, 4, none⟩ = some (.int .u8 w3)) (ds := [40]) #[false, false, false, false, false, false, false, false, false, false, false, false, false, false, false, false, false, false, false, false, false, false, false, false, false, false, false, false, false, false, false, false, false, false, false, false, false, false, false, false, false] (by kernel_rfl) rfl rfl ⟨c1, c2, c3, c4⟩ (fun hHeld => ?_)
  refine pure_ (i := 0) (N := some 7) (v := ?_) (a' := ?_) #[true, false, false, false, false, false, false, false, false, false, false, false, false, false, false, false, false, false, false, false, false, false, false, false, false, false, false, false, false, false, false, false, false, false, false, false, false, false, false, false, false] rfl rfl (by kernel_rfl) (fun _ _ _ h => h) (Or.inl ⟨by rfl, ?_⟩) ?_ ?_
  rotate_left
  · intro w'
    go_simp
    with_reducible rfl
  rotate_left
  · simp only [Act.put, List.setIfInBounds_toArray, List.set_cons_zero, List.set_cons_succ, i64_w, i32_w]
    rfl
  refine pure_ (i := 1) (N := some 8) (v := ?_) (a' := ?_) #[true, true, false, false, false, false, false, false, false, false, false, false, false, false, false, false, false, false, false, false, false, false, false, false, false, false, false, false, false, false, false, false, false, false, false, false, false, false, false, false, false] rfl rfl (by kernel_rfl) (fun _ _ _ h => h) (Or.inl ⟨by rfl, ?_⟩) ?_ ?_
  rotate_left
  · intro w'
    go_simp
    with_reducible rfl
  rotate_left
  · simp only [Act.put, List.setIfInBounds_toArray, List.set_cons_zero, List.set_cons_succ, i64_w, i32_w]
    rfl
  refine pure_ (i := 2) (N := some 9) (v := ?_) (a' := ?_) #[true, true, true, false, false, false, false, false, false, false, false, false, false, false, false, false, false, false, false, false, false, false, false, false, false, false, false, false, false, false, false, false, false, false, false, false, false, false, false, false, false] rfl rfl (by kernel_rfl) (fun _ _ _ h => h) (Or.inl ⟨by rfl, ?_⟩) ?_ ?_
  rotate_left
  · intro w'
    go_simp
    with_reducible rfl
  rotate_left
  · simp only [Act.put, List.setIfInBounds_toArray, List.set_cons_zero, List.set_cons_succ, i64_w, i32_w]
    rfl
  refine pure_ (i := 3) (N := some 10) (v := ?_) (a' := ?_) #[true, true, true, true, false, false, false, false, false, false, false, false, false, false, false, false, false, false, false, false, false, false, false, false, false, false, false, false, false, false, false, false, false, false, false, false, false, false, false, false, false] rfl rfl (by kernel_rfl) (fun _ _ _ h => h) (Or.inl ⟨by rfl, ?_⟩) ?_ ?_
  rotate_left
  · intro w'
    go_simp
    with_reducible rfl
  rotate_left
  · simp only [Act.put, List.setIfInBounds_toArray, List.set_cons_zero, List.set_cons_succ, i64_w, i32_w]
    rfl
  refine pure_ (i := 6) (N := some 13) (v := ?_) (a' := ?_) #[true, true, true, true, false, false, true, false, false, false, false, false, false, false, false, false, false, false, false, false, false, false, false, false, false, false, false, false, false, false, false, false, false, false, false, false, false, false, false, false, false] rfl rfl (by kernel_rfl) (fun _ _ _ h => h) (Or.inl ⟨by rfl, ?_⟩) ?_ ?_
  rotate_left
  · intro w'
    go_simp
    with_reducible rfl
  rotate_left
  · simp only [Act.put, List.setIfInBounds_toArray, List.set_cons_zero, List.set_cons_succ, i64_w, i32_w]
    rfl
  refine pure_ (i := 7) (N := some 14) (v := ?_) (a' := ?_) #[true, true, true, true, false, false, true, true, false, false, false, false, false, false, false, false, false, false, false, false, false, false, false, false, false, false, false, false, false, false, false, false, false, false, false, false, false, false, false, false, false] rfl rfl (by kernel_rfl) (fun _ _ _ h => h) (Or.inl ⟨by rfl, ?_⟩) ?_ ?_
  rotate_left
  · intro w'
    go_simp
    with_reducible rfl
  rotate_left
  · simp only [Act.put, List.setIfInBounds_toArray, List.set_cons_zero, List.set_cons_succ, i64_w, i32_w]
    rfl
  refine pure_ (i := 8) (N := some 15) (v := ?_) (a' := ?_) #[true, true, true, true, false, false, true, true, true, false, false, false, false, false, false, false, false, false, false, false, false, false, false, false, false, false, false, false, false, false, false, false, false, false, false, false, false, false, false, false, false] rfl rfl (by kernel_rfl) (fun _ _ _ h => h) (Or.inl ⟨by rfl, ?_⟩) ?_ ?_
  rotate_left
  · intro w'
    go_simp
    with_reducible rfl
  rotate_left
  · simp only [Act.put, List.setIfInBounds_toArray, List.set_cons_zero, List.set_cons_succ, i64_w, i32_w]
    rfl
  refine pure_ (i := 9) (N := some 16) (v := ?_) (a' := ?_) #[true, true, true, true, false, false, true, true, true, true, false, false, false, false, false, false, false, false, false, false, false, false, false, false, false, false, false, false, false, false, false, false, false, false, false, false, false, false, false, false, false] rfl rfl (by kernel_rfl) (fun _ _ _ h => h) (Or.inl ⟨by rfl, ?_⟩) ?_ ?_
  rotate_left
  · intro w'
    go_simp
    with_reducible rfl
  rotate_left
  · simp only [Act.put, List.setIfInBounds_toArray, List.set_cons_zero, List.set_cons_succ, i64_w, i32_w]
    rfl
  refine pure_ (i := 13) (N := some 20) (v := ?_) (a' := ?_) #[true, true, true, true, false, false, true, true, true, true, false, false, false, true, false, false, false, false, false, false, false, false, false, false, false, false, false, false, false, false, false, false, false, false, false, false, false, false, false, false, false] rfl rfl (by kernel_rfl) (fun _ _ _ h => h) (Or.inl ⟨by rfl, ?_⟩) ?_ ?_
  rotate_left
  · intro w'
    go_simp
    with_reducible rfl
  rotate_left
  · simp only [Act.put, List.setIfInBounds_toArray, List.set_cons_zero, List.set_cons_succ, i64_w, i32_w]
    rfl
  refine pure_ (i := 14) (N := some 21) (v := ?_) (a' := ?_) #[true, true, true, true, false, false, true, true, true, true, false, false, false, true, true, false, false, false, false, false, false, false, false, false, false, false, false, false, false, false, false, false, false, false, false, false, false, false, false, false, false] rfl rfl (by kernel_rfl) (fun _ _ _ h => h) (Or.inl ⟨by rfl, ?_⟩) ?_ ?_
  rotate_left
  · intro w'
    go_simp
    with_reducible rfl
  rotate_left
  · simp only [Act.put, List.setIfInBounds_toArray, List.set_cons_zero, List.set_cons_succ, i64_w, i32_w]
    rfl
  refine pure_ (i := 15) (N := some 22) (v := ?_) (a' := ?_) #[true, true, true, true, false, false, true, true, true, true, false, false, false, true, true, true, false, false, false, false, false, false, false, false, false, false, false, false, false, false, false, false, false, false, false, false, false, false, false, false, false] rfl rfl (by kernel_rfl) (fun _ _ _ h => h) (Or.inl ⟨by rfl, ?_⟩) ?_ ?_
  rotate_left
  · intro w'
    go_simp
    with_reducible rfl
  rotate_left
  · simp only [Act.put, List.setIfInBounds_toArray, List.set_cons_zero, List.set_cons_succ, i64_w, i32_w]
    rfl
  refine pure_ (i := 16) (N := some 23) (v := ?_) (a' := ?_) #[true, true, true, true, false, false, true, true, true, true, false, false, false, true, true, true, true, false, false, false, false, false, false, false, false, false, false, false, false, false, false, false, false, false, false, false, false, false, false, false, false] rfl rfl (by kernel_rfl) (fun _ _ _ h => h) (Or.inl ⟨by rfl, ?_⟩) ?_ ?_
  rotate_left
  · intro w'
    go_simp
    with_reducible rfl
  rotate_left
  · simp only [Act.put, List.setIfInBounds_toArray, List.set_cons_zero, List.set_cons_succ, i64_w, i32_w]
    rfl
  refine pure_ (i := 19) (N := some 26) (v := ?_) (a' := ?_) #[true, true, true, true, false, false, true, true, true, true, false, false, false, true, true, true, true, false, false, true, false, false, false, false, false, false, false, false, false, false, false, false, false, false, false, false, false, false, false, false, false] rfl rfl (by kernel_rfl) (fun _ _ _ h => h) (Or.inl ⟨by rfl, ?_⟩) ?_ ?_
  rotate_left
  · intro w'
    go_simp
    with_reducible rfl
  rotate_left
  · simp only [Act.put, List.setIfInBounds_toArray, List.set_cons_zero, List.set_cons_succ, i64_w, i32_w]
    rfl
  refine pure_ (i := 20) (N := some 27) (v := ?_) (a' := ?_) #[true, true, true, true, false, false, true, true, true, true, false, false, false, true, true, true, true, false, false, true, true, false, false, false, false, false, false, false, false, false, false, false, false, false, false, false, false, false, false, false, false] rfl rfl (by kernel_rfl) (fun _ _ _ h => h) (Or.inl ⟨by rfl, ?_⟩) ?_ ?_
  rotate_left
  · intro w'
    go_simp
    with_reducible rfl
  rotate_left
  · simp only [Act.put, List.setIfInBounds_toArray, List.set_cons_zero, List.set_cons_succ, i64_w, i32_w]
    rfl
  refine pure_ (i := 21) (N := some 28) (v := ?_) (a' := ?_) #[true, true, true, true, false, false, true, true, true, true, false, false, false, true, true, true, true, false, false, true, true, true, false, false, false, false, false, false, false, false, false, false, false, false, false, false, false, false, false, false, false] rfl rfl (by kernel_rfl) (fun _ _ _ h => h) (Or.inl ⟨by rfl, ?_⟩) ?_ ?_
  rotate_left
  · intro w'
    go_simp
    with_reducible rfl
  rotate_left
  · simp only [Act.put, List.setIfInBounds_toArray, List.set_cons_zero, List.set_cons_succ, i64_w, i32_w]
    rfl
  refine pure_ (i := 22) (N := some 29) (v := ?_) (a' := ?_) #[true, true, true, true, false, false, true, true, true, true, false, false, false, true, true, true, true, false, false, true, true, true, true, false, false, false, false, false, false, false, false, false, false, false, false, false, false, false, false, false, false] rfl rfl (by kernel_rfl) (fun _ _ _ h => h) (Or.inl ⟨by rfl, ?_⟩) ?_ ?_
  rotate_left
  · intro w'
    go_simp
    with_reducible rfl
  rotate_left
  · simp only [Act.put, List.setIfInBounds_toArray, List.set_cons_zero, List.set_cons_succ, i64_w, i32_w]
    rfl
  refine pure_ (i := 26) (N := some 33) (v := ?_) (a' := ?_) #[true, true, true, true, false, false, true, true, true, true, false, false, false, true, true, true, true, false, false, true, true, true, true, false, false, false, true, false, false, false, false, false, false, false, false, false, false, false, false, false, false] rfl rfl (by kernel_rfl) (fun _ _ _ h => h) (Or.inl ⟨by rfl, ?_⟩) ?_ ?_
  rotate_left
  · intro w'
    go_simp
    with_reducible rfl
  rotate_left
  · simp only [Act.put, List.setIfInBounds_toArray, List.set_cons_zero, List.set_cons_succ, i64_w, i32_w]
    rfl
  refine pure_ (i := 27) (N := some 34) (v := ?_) (a' := ?_) #[true, true, true, true, false, false, true, true, true, true, false, false, false, true, true, true, true, false, false, true, true, true, true, false, false, false, true, true, false, false, false, false, false, false, false, false, false, false, false, false, false] rfl rfl (by kernel_rfl) (fun _ _ _ h => h) (Or.inl ⟨by rfl, ?_⟩) ?_ ?_
  rotate_left
  · intro w'
    go_simp
    with_reducible rfl
  rotate_left
  · simp only [Act.put, List.setIfInBounds_toArray, List.set_cons_zero, List.set_cons_succ, i64_w, i32_w]
    rfl
  refine pure_ (i := 28) (N := some 35) (v := ?_) (a' := ?_) #[true, true, true, true, false, false, true, true, true, true, false, false, false, true, true, true, true, false, false, true, true, true, true, false, false, false, true, true, true, false, false, false, false, false, false, false, false, false, false, false, false] rfl rfl (by kernel_rfl) (fun _ _ _ h => h) (Or.inl ⟨by rfl, ?_⟩) ?_ ?_
  rotate_left
  · intro w'
    go_simp
    with_reducible rfl
  rotate_left
  · simp only [Act.put, List.setIfInBounds_toArray, List.set_cons_zero, List.set_cons_succ, i64_w, i32_w]
    rfl
  refine pure_ (i := 29) (N := some 36) (v := ?_) (a' := ?_) #[true, true, true, true, false, false, true, true, true, true, false, false, false, true, true, true, true, false, false, true, true, true, true, false, false, false, true, true, true, true, false, false, false, false, false, false, false, false, false, false, false] rfl rfl (by kernel_rfl) (fun _ _ _ h => h) (Or.inl ⟨by rfl, ?_⟩) ?_ ?_
  rotate_left
  · intro w'
    go_simp
    with_reducible rfl
  rotate_left
  · simp only [Act.put, List.setIfInBounds_toArray, List.set_cons_zero, List.set_cons_succ, i64_w, i32_w]
    rfl
  refine pure_ (i := 32) (N := some 39) (v := ?_) (a' := ?_) #[true, true, true, true, false, false, true, true, true, true, false, false, false, true, true, true, true, false, false, true, true, true, true, false, false, false, true, true, true, true, false, false, true, false, false, false, false, false, false, false, false] rfl rfl (by kernel_rfl) (fun _ _ _ h => h) (Or.inl ⟨by rfl, ?_⟩) ?_ ?_
  rotate_left
  · intro w'
    go_simp
    with_reducible rfl
  rotate_left
  · simp only [Act.put, List.setIfInBounds_toArray, List.set_cons_zero, List.set_cons_succ, i64_w, i32_w]
    rfl
  refine pure_ (i := 33) (N := some 40) (v := ?_) (a' := ?_) #[true, true, true, true, false, false, true, true, true, true, false, false, false, true, true, true, true, false, false, true, true, true, true, false, false, false, true, true, true, true, false, false, true, true, false, false, false, false, false, false, false] rfl rfl (by kernel_rfl) (fun _ _ _ h => h) (Or.inl ⟨by rfl, ?_⟩) ?_ ?_
  rotate_left
  · intro w'
    go_simp
    with_reducible rfl
  rotate_left
  · simp only [Act.put, List.setIfInBounds_toArray, List.set_cons_zero, List.set_cons_succ, i64_w, i32_w]
    rfl
  refine pure_ (i := 34) (N := some 41) (v := ?_) (a' := ?_) #[true, true, true, true, false, false, true, true, true, true, false, false, false, true, true, true, true, false, false, true, true, true, true, false, false, false, true, true, true, true, false, false, true, true, true, false, false, false, false, false, false] rfl rfl (by kernel_rfl) (fun _ _ _ h => h) (Or.inl ⟨by rfl, ?_⟩) ?_ ?_
  rotate_left
  · intro w'
    go_simp
    with_reducible rfl
  rotate_left
  · simp only [Act.put, List.setIfInBounds_toArray, List.set_cons_zero, List.set_cons_succ, i64_w, i32_w]
    rfl
  refine pure_ (i := 35) (N := some 42) (v := ?_) (a' := ?_) #[true, true, true, true, false, false, true, true, true, true, false, false, false, true, true, true, true, false, false, true, true, true, true, false, false, false, true, true, true, true, false, false, true, true, true, true, false, false, false, false, false] rfl rfl (by kernel_rfl) (fun _ _ _ h => h) (Or.inl ⟨by rfl, ?_⟩) ?_ ?_
  rotate_left
  · intro w'
    go_simp
    with_reducible rfl
  rotate_left
  · simp only [Act.put, List.setIfInBounds_toArray, List.set_cons_zero, List.set_cons_succ, i64_w, i32_w]
    rfl
  refine take_ (i := 4) (N := some 11) (v := ?_) (a' := ?_) #[true, true, true, true, true, false, true, true, true, true, false, false, false, true, true, true, true, false, false, true, true, true, true, false, false, false, true, true, true, true, false, false, true, true, true, true, false, false, false, false, false] rfl rfl (by kernel_rfl) (fun _ _ _ h => h) (Or.inl ⟨by rfl, ?_⟩) hHeld ?_ ?_
  rotate_left
  · rintro w' ⟨s0, s1, s2, s3⟩
    go_simp
    with_reducible rfl
  rotate_left
  · simp only [Act.put, List.setIfInBounds_toArray, List.set_cons_zero, List.set_cons_succ, i64_w, i32_w]
    rfl
  refine pure_ (i := 5) (N := some 12) (v := ?_) (a' := ?_) #[true, true, true, true, true, true, true, true, true, true, false, false, false, true, true, true, true, false, false, true, true, true, true, false, false, false, true, true, true, true, false, false, true, true, true, true, false, false, false, false, false] rfl rfl (by kernel_rfl) (fun _ _ _ h => h) (Or.inl ⟨by rfl, ?_⟩) ?_ ?_
  rotate_left
  · intro w'
    go_simp
    with_reducible rfl
  rotate_left
  · simp only [Act.put, List.setIfInBounds_toArray, List.set_cons_zero, List.set_cons_succ, i64_w, i32_w]
    rfl
  refine take_ (i := 10) (N := some 17) (v := ?_) (a' := ?_) #[true, true, true, true, true, true, true, true, true, true, true, false, false, true, true, true, true, false, false, true, true, true, true, false, false, false, true, true, true, true, false, false, true, true, true, true, false, false, false, false, false] rfl rfl (by kernel_rfl) (fun _ _ _ h => h) (Or.inl ⟨by rfl, ?_⟩) hHeld ?_ ?_
  rotate_left
  · rintro w' ⟨s0, s1, s2, s3⟩
    go_simp
    with_reducible rfl
  rotate_left
  · simp only [Act.put, List.setIfInBounds_toArray, List.set_cons_zero, List.set_cons_succ, i64_w, i32_w]
    rfl
  refine pure_ (i := 11) (N := some 18) (v := ?_) (a' := ?_) #[true, true, true, true, true, true, true, true, true, true, true, true, false, true, true, true, true, false, false, true, true, true, true, false, false, false, true, true, true, true, false, false, true, true, true, true, false, false, false, false, false] rfl rfl (by kernel_rfl) (fun _ _ _ h => h) (Or.inl ⟨by rfl, ?_⟩) ?_ ?_
  rotate_left
  · intro w'
    go_simp
    with_reducible rfl
  rotate_left
  · simp only [Act.put, List.setIfInBounds_toArray, List.set_cons_zero, List.set_cons_succ, i64_w, i32_w]
    rfl
  refine pure_ (i := 12) (N := some 19) (v := ?_) (a' := ?_) #[true, true, true, true, true, true, true, true, true, true, true, true, true, true, true, true, true, false, false, true, true, true, true, false, false, false, true, true, true, true, false, false, true, true, true, true, false, false, false, false, false] rfl rfl (by kernel_rfl) (fun _ _ _ h => h) (Or.inl ⟨by rfl, ?_⟩) ?_ ?_
  rotate_left
  · intro w'
    go_simp
    with_reducible rfl
  rotate_left
  · simp only [Act.put, List.setIfInBounds_toArray, List.set_cons_zero, List.set_cons_succ, i64_w, i32_w]
    rfl
  refine take_ (i := 17) (N := some 24) (v := ?_) (a' := ?_) #[true, true, true, true, true, true, true, true, true, true, true, true, true, true, true, true, true, true, false, true, true, true, true, false, false, false, true, true, true, true, false, false, true, true, true, true, false, false, false, false, false] rfl rfl (by kernel_rfl) (fun _ _ _ h => h) (Or.inl ⟨by rfl, ?_⟩) hHeld ?_ ?_
  rotate_left
  · rintro w' ⟨s0, s1, s2, s3⟩
    go_simp
    with_reducible rfl
  rotate_left
  · simp only [Act.put, List.setIfInBounds_toArray, List.set_cons_zero, List.set_cons_succ, i64_w, i32_w]
    rfl
  refine pure_ (i := 18) (N := some 25) (v := ?_) (a' := ?_) #[true, true, true, true, true, true, true, true, true, true, true, true, true, true, true, true, true, true, true, true, true, true, true, false, false, false, true, true, true, true, false, false, true, true, true, true, false, false, false, false, false] rfl rfl (by kernel_rfl) (fun _ _ _ h => h) (Or.inl ⟨by rfl, ?_⟩) ?_ ?_
  rotate_left
  · intro w'
    go_simp
    with_reducible rfl
  rotate_left
  · simp only [Act.put, List.setIfInBounds_toArray, List.set_cons_zero, List.set_cons_succ, i64_w, i32_w]
    rfl
  refine take_ (i := 23) (N := some 30) (v := ?_) (a' := ?_) #[true, true, true, true, true, true, true, true, true, true, true, true, true, true, true, true, true, true, true, true, true, true, true, true, false, false, true, true, true, true, false, false, true, true, true, true, false, false, false, false, false] rfl rfl (by kernel_rfl) (fun _ _ _ h => h) (Or.inl ⟨by rfl, ?_⟩) hHeld ?_ ?_
  rotate_left
  · rintro w' ⟨s0, s1, s2, s3⟩
    go_simp
    with_reducible rfl
  rotate_left
  · simp only [Act.put, List.setIfInBounds_toArray, List.set_cons_zero, List.set_cons_succ, i64_w, i32_w]
    rfl
  refine pure_ (i := 24) (N := some 31) (v := ?_) (a' := ?_) #[true, true, true, true, true, true, true, true, true, true, true, true, true, true, true, true, true, true, true, true, true, true, true, true, true, false, true, true, true, true, false, false, true, true, true, true, false, false, false, false, false] rfl rfl (by kernel_rfl) (fun _ _ _ h => h) (Or.inl ⟨by rfl, ?_⟩) ?_ ?_
  rotate_left
  · intro w'
    go_simp
    with_reducible rfl
  rotate_left
  · simp only [Act.put, List.setIfInBounds_toArray, List.set_cons_zero, List.set_cons_succ, i64_w, i32_w]
    rfl
  refine pure_ (i := 25) (N := some 32) (v := ?_) (a' := ?_) #[true, true, true, true, true, true, true, true, true, true, true, true, true, true, true, true, true, true, true, true, true, true, true, true, true, true, true, true, true, true, false, false, true, true, true, true, false, false, false, false, false] rfl rfl (by kernel_rfl) (fun _ _ _ h => h) (Or.inl ⟨by rfl, ?_⟩) ?_ ?_
  rotate_left
  · intro w'
    go_simp
    with_reducible rfl
  rotate_left
  · simp only [Act.put, List.setIfInBounds_toArray, List.set_cons_zero, List.set_cons_succ, i64_w, i32_w]
    rfl
  refine take_ (i := 30) (N := some 37) (v := ?_) (a' := ?_) #[true, true, true, true, true, true, true, true, true, true, true, true, true, true, true, true, true, true, true, true, true, true, true, true, true, true, true, true, true, true, true, false, true, true, true, true, false, false, false, false, false] rfl rfl (by kernel_rfl) (fun _ _ _ h => h) (Or.inl ⟨by rfl, ?_⟩) hHeld ?_ ?_
  rotate_left
  · rintro w' ⟨s0, s1, s2, s3⟩
    go_simp
    with_reducible rfl
  rotate_left
  · simp only [Act.put, List.setIfInBounds_toArray, List.set_cons_zero, List.set_cons_succ, i64_w, i32_w]
    rfl
  refine pure_ (i := 31) (N := some 38) (v := ?_) (a' := ?_) #[true, true, true, true, true, true, true, true, true, true, true, true, true, true, true, true, true, true, true, true, true, true, true, true, true, true, true, true, true, true, true, true, true, true, true, true, false, false, false, false, false] rfl rfl (by kernel_rfl) (fun _ _ _ h => h) (Or.inl ⟨by rfl, ?_⟩) ?_ ?_
  rotate_left
  · intro w'
    go_simp
    with_reducible rfl
  rotate_left
  · simp only [Act.put, List.setIfInBounds_toArray, List.set_cons_zero, List.set_cons_succ, i64_w, i32_w]
    rfl
  refine take_ (i := 36) (N := some 43) (v := ?_) (a' := ?_) #[true, true, true, true, true, true, true, true, true, true, true, true, true, true, true, true, true, true, true, true, true, true, true, true, true, true, true, true, true, true, true, true, true, true, true, true, true, false, false, false, false] rfl rfl (by kernel_rfl) (fun _ _ _ h => h) (Or.inl ⟨by rfl, ?_⟩) hHeld ?_ ?_
  rotate_left
  · rintro w' ⟨s0, s1, s2, s3⟩
    go_simp
    with_reducible rfl
  rotate_left
  · simp only [Act.put, List.setIfInBounds_toArray, List.set_cons_zero, List.set_cons_succ, i64_w, i32_w]
    rfl
  refine pure_ (i := 37) (N := some 44) (v := ?_) (a' := ?_) #[true, true, true, true, true, true, true, true, true, true, true, true, true, true, true, true, true, true, true, true, true, true, true, true, true, true, true, true, true, true, true, true, true, true, true, true, true, true, false, false, false] rfl rfl (by kernel_rfl) (fun _ _ _ h => h) (Or.inl ⟨by rfl, ?_⟩) ?_ ?_
  rotate_left
  · intro w'
    go_simp
    with_reducible rfl
  rotate_left
  · simp only [Act.put, List.setIfInBounds_toArray, List.set_cons_zero, List.set_cons_succ, i64_w, i32_w]
    rfl
  refine pure_ (i := 38) (N := some 45) (v := ?_) (a' := ?_) #[true, true, true, true, true, true, true, true, true, true, true, true, true, true, true, true, true, true, true, true, true, true, true, true, true, true, true, true, true, true, true, true, true, true, true, true, true, true, true, false, false] rfl rfl (by kernel_rfl) (fun _ _ _ h => h) (Or.inl ⟨by rfl, ?_⟩) ?_ ?_
  rotate_left
  · intro w'
    go_simp
    with_reducible rfl
  rotate_left
  · simp only [Act.put, List.setIfInBounds_toArray, List.set_cons_zero, List.set_cons_succ, i64_w, i32_w]
    rfl
  refine one_ (i := 39) (N := some 5) #[true, true, true, true, true, true, true, true, true, true, true, true, true, true, true, true, true, true, true, true, true, true, true, true, true, true, true, true, true, true, true, true, true, true, true, true, true, true, true, true, false] rfl rfl (by kernel_rfl) (by decide) (fun K hK => ?_)
  refine value_ (w1 := ?_) (v := ?_) (by rfl) rfl ?_ ?_
  rotate_left 2
  · go_simp
    constructor
    · rfl
    · rfl
  refine hK.out _ _ ⟨d1, d2, d3, d4⟩ (fun hHeld => ?_)
  clear hK K
  refine norm_ (a' := ?_) ?_ ?_
  rotate_left
  · show Act.put _ (some 5) _ = _
    simp only [Act.put, List.setIfInBounds_toArray, List.set_cons_zero, List.set_cons_succ, i64_w, i32_w]
    rfl
  refine last_ (i := 40) (N := none) #[true, true, true, true, true, true, true, true, true, true, true, true, true, true, true, true, true, true, true, true, true, true, true, true, true, true, true, true, true, true, true, true, true, true, true, true, true, true, true, true, true] rfl rfl (by kernel_rfl) (by decide) (fun K hK => ?_)
  refine skip_ (w1 := ?_) (by rfl) rfl ?_ ?_
  rotate_left
  · go_simp
    rfl
  refine hK.out _ _ ?_
  clear hK K
  refine done_ (by kernel_rfl) ?_
  have E1 : Hid (Go.bits .or .u8 (w0 * 4) (w1 / 16) = w0 * 4 + w1 / 16) := or1 _ _ hw0 hw1
  have E2 : Hid (Go.bits .or .u8 (w1 * 16 % 256) (w2 / 4) = w1 % 16 * 16 + w2 / 4) := or2 _ _ hw1 hw2
  have E3 : Hid (Go.bits .or .u8 (w2 * 64 % 256) w3 = w2 % 4 * 64 + w3) := or3 _ _ hw2 hw3
  rcases hp3 with rfl | rfl | rfl
  · go_wp2_with (at_builtin; refine wpList_append_own _ rfl _ _ 28 rfl base 5 i0 (.int .u8 0) 1 1 Tryd.underlying28 hi hz0 hz1 hz2 rfl (by decide) _ _ _ rfl (World.ownsRow.drew (HW.out.alloc _)) ⟨w.heap.size, 0, none⟩ 3 3 _ rfl ?l1 (news_at w _ 49 3) ?l2 ?l3 ?l4 ?l5 ?_; (case l1 => rfl); (case l2 => intro u hu; have hu2 := List.mem_of_mem_take hu; simp only [List.mem_cons, List.not_mem_nil, or_false] at hu2; rcases hu2 with rfl | rfl | rfl <;> rfl); (case l3 => unfold maxLen; omega); (case l4 => omega); (case l5 => simp; omega); intro v1 W1 hown hg _)
    go_ret
    exact bytes_end (m := 3) (bs := [Go.bits .or .u8 (w0 * 4) (w1 / 16), Go.bits .or .u8 (w1 * 16 % 256) (w2 / 4), Go.bits .or .u8 (w2 * 64 % 256) w3]) (by show [w0 * 4 + w1 / 16, w1 % 16 * 16 + w2 / 4, w2 % 4 * 64 + w3] = _; rw [E1.out, E2.out, E3.out]) rfl hown hg
  · go_wp2_with (at_builtin; refine wpList_append_own _ rfl _ _ 28 rfl base 5 i0 (.int .u8 0) 1 1 Tryd.underlying28 hi hz0 hz1 hz2 rfl (by decide) _ _ _ rfl (World.ownsRow.drew (HW.out.alloc _)) ⟨w.heap.size, 0, none⟩ 2 3 _ rfl ?l1 (news_at w _ 49 2) ?l2 ?l3 ?l4 ?l5 ?_; (case l1 => rfl); (case l2 => intro u hu; have hu2 := List.mem_of_mem_take hu; simp only [List.mem_cons, List.not_mem_nil, or_false] at hu2; rcases hu2 with rfl | rfl | rfl <;> rfl); (case l3 => unfold maxLen; omega); (case l4 => omega); (case l5 => simp; omega); intro v1 W1 hown hg _)
    go_ret
    exact bytes_end (m := 2) (bs := [Go.bits .or .u8 (w0 * 4) (w1 / 16), Go.bits .or .u8 (w1 * 16 % 256) (w2 / 4)]) (by show [w0 * 4 + w1 / 16, w1 % 16 * 16 + w2 / 4] = _; rw [E1.out, E2.out]) rfl hown hg
  · go_wp2_with (at_builtin; refine wpList_append_own _ rfl _ _ 28 rfl base 5 i0 (.int .u8 0) 1 1 Tryd.underlying28 hi hz0 hz1 hz2 rfl (by decide) _ _ _ rfl (World.ownsRow.drew (HW.out.alloc _)) ⟨w.heap.size, 0, none⟩ 1 3 _ rfl ?l1 (news_at w _ 49 1) ?l2 ?l3 ?l4 ?l5 ?_; (case l1 => rfl); (case l2 => intro u hu; have hu2 := List.mem_of_mem_take hu; simp only [List.mem_cons, List.not_mem_nil, or_false] at hu2; rcases hu2 with rfl | rfl | rfl <;> rfl); (case l3 => unfold maxLen; omega); (case l4 => omega); (case l5 => simp; omega); intro v1 W1 hown hg _)
    go_ret
    exact bytes_end (m := 1) (bs := [Go.bits .or .u8 (w0 * 4) (w1 / 16)]) (by show [w0 * 4 + w1 / 16] = _; rw [E1.out]) rfl hown hg
end Go.Proofs.YtppnhlkfkedlmaaDoor.UnX

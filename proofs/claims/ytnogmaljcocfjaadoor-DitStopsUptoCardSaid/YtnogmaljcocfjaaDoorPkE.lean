/- Joined: the methods and the iterators. For every world. -/
import Derived.Test.YtnogmaljcocfjaaDoorPkD
import Derived.RangeFuncNested
import Derived.RangeFuncBound
import Derived.RangeFuncCalls
import Derived.RangeFuncLeaves
import Derived.RangeFuncBox
import Derived.Test.YtnogmaljcocfjaaDoorWMore
import Derived.Test.YtnogmaljcocfjaaDoorPkA
import Derived.Shelf.Abstract
import Derived.Shelf.RegionOpen
import Derived.OwnWalkIn
import Derived.TacticsInMore
import Derived.LoopNIn
import Derived.LoopIn
set_option linter.unusedVariables false
set_option linter.unusedSimpArgs false
set_option linter.unusedSectionVars false
namespace Go.Proofs.YtnogmaljcocfjaaDoor.DitMeth
open Go Go.Maps Go.RowKit Go.Proofs.YtnogmaljcocfjaaDoor.XK Go.Proofs.YtnogmaljcocfjaaDoor.Blk Go.Proofs.YtnogmaljcocfjaaDoor.DitTab Go.Proofs.YtnogmaljcocfjaaDoor.DitRow Go.Proofs.YtnogmaljcocfjaaDoor.DitTerm Go.Proofs.YtnogmaljcocfjaaDoor.DitMap Go.Proofs.YtnogmaljcocfjaaDoor.DitCheck Go.Proofs.YtnogmaljcocfjaaDoor.DitCopy Go.Proofs.YtnogmaljcocfjaaDoor.DitPure Go.Proofs.YtnogmaljcocfjaaDoor.DitSort Go.Proofs.YtnogmaljcocfjaaDoor.DitBuild Go.Proofs.YtnogmaljcocfjaaDoor.Keys Go.Proofs.YtnogmaljcocfjaaDoorW.PrintWords Go.Proofs.YtnogmaljcocfjaaDoorW.PrintLast Go.Proofs.YtnogmaljcocfjaaDoorW.PrintMore
abbrev TP (tb : Nat) : Value := .pointer (some ⟨tb, 0, none⟩)
section
variable {es : List S45} {p : List Nat} {n tb : Nat} {PI : Nat → Nat} {w : World}
def isIn (n : Nat) (x : Int) : Bool := decide (0 ≤ x) && decide (x < (n : Int))
set_option maxRecDepth 100000 in
theorem has_as (h : TreeAt es p n PI tb w) (x : Int) : Calls Tryd.prog 51 #[TP tb, .int .i64 x] w fun e w' => e = .returned (.bool (isIn n x)) ∧ w' = w := by
  obtain ⟨L, eg, ec, g, cap, pc, e, V, Z, a1, a2, a3, a4, a5, _⟩ := h
  have k0 := a5.get 0 _ rfl
  clear a1 a2 a3 a4 a5
  unfold isIn
  by_cases h0 : 0 ≤ x
  · by_cases h1 : x < (n : Int)
    · have d1 : decide (x < (n : Int)) = true := decide_eq_true h1
      go_enter Tryd.func51, Tryd.ntmps51
      go_wp2
      go_ret
      exact ⟨by simp [h0, h1], rfl⟩
    · have d1 : decide (x < (n : Int)) = false := decide_eq_false h1
      go_enter Tryd.func51, Tryd.ntmps51
      go_wp2
      go_ret
      exact ⟨by simp [h0, h1], rfl⟩
  · have h0' : x < 0 := by omega
    go_enter Tryd.func51, Tryd.ntmps51
    go_wp2
    go_ret
    exact ⟨by simp; omega, rfl⟩
set_option maxRecDepth 100000 in
theorem len_as (h : TreeAt es p n PI tb w) : Calls Tryd.prog 19 #[TP tb] w fun e w' => e = .returned (.int .i64 (n : Int)) ∧ w' = w := by
  obtain ⟨L, eg, ec, g, cap, pc, e, V, Z, a1, a2, a3, a4, a5, _⟩ := h
  have k0 := a5.get 0 _ rfl
  clear a1 a2 a3 a4 a5
  go_enter Tryd.func19, Tryd.ntmps19
  go_wp2
  go_ret
  exact ⟨rfl, rfl⟩
theorem isIn_true {n : Nat} {x : Int} (h0 : 0 ≤ x) (h1 : x < (n : Int)) : isIn n x = true := by simp [isIn, h0, h1]
theorem isIn_nat {n : Nat} {x : Int} (h : isIn n x = true) : ∃ j : Nat, x = (j : Int) ∧ j < n := by
  simp only [isIn, Bool.and_eq_true, decide_eq_true_eq] at h
  exact ⟨x.toNat, by omega, by omega⟩
/-- What Place answers. -/
def placeR (p : List Nat) (n : Nat) (x : Int) : Int := if isIn n x = true then (p.getD x.toNat 0 : Int) else -1
set_option maxRecDepth 100000 in
theorem place_as (h : TreeAt es p n PI tb w) (x : Int) : Calls Tryd.prog 25 #[TP tb, .int .i64 x] w fun e w' => e = .returned (.int .i64 (placeR p n x)) ∧ w' = w := by
  have HH := Lib.hid (has_as h x)
  obtain ⟨L, eg, ec, g, cap, pc, e, V, Z, a1, a2, a3, a4, a5, a6, a7, ⟨cur, a8, a8'⟩, _⟩ := h
  have k1 := a5.get 1 _ rfl
  unfold placeR
  cases hb : isIn n x with
  | true =>
    rw [hb] at HH
    obtain ⟨j, rfl, hj⟩ := isIn_nat hb
    have kc := a8.get j _ (a8' j hj)
    have hlt : (j : Int) < (n : Int) := by omega
    clear a1 a2 a3 a4 a5 a6 a7 a8 a8' hb
    go_enter Tryd.func25, Tryd.ntmps25
    go_wp2_with (first
      | (go_at_call 51; ((with_reducible refine HH.out.mono ?_); rintro e W1 ⟨rfl, rfl⟩))
      | go_in)
    go_ret
    exact ⟨by simp, rfl⟩
  | false =>
    rw [hb] at HH
    clear a1 a2 a3 a4 a5 a6 a7 a8 a8' hb
    go_enter Tryd.func25, Tryd.ntmps25
    go_wp2_with (first
      | (go_at_call 51; ((with_reducible refine HH.out.mono ?_); rintro e W1 ⟨rfl, rfl⟩))
      | go_in)
    go_ret
    exact ⟨by simp, rfl⟩
/-- What Parent answers. -/
def parentR (PI : Nat → Nat) (n : Nat) (x : Int) : Int := if 0 < x ∧ x < (n : Int) then (PI x.toNat : Int) else -1
set_option maxRecDepth 100000 in
theorem parent_as (h : TreeAt es p n PI tb w) (x : Int) : Calls Tryd.prog 39 #[TP tb, .int .i64 x] w fun e w' => e = .returned (.int .i64 (parentR PI n x)) ∧ w' = w := by
  have HH := Lib.hid (has_as h x)
  obtain ⟨L, eg, ec, g, cap, pc, e, V, Z, a1, a2, a3, a4, a5, a6, a7, _, a9, a10, _⟩ := h
  have k1 := a5.get 2 _ rfl
  unfold parentR
  cases hb : isIn n x with
  | true =>
    rw [hb] at HH
    obtain ⟨j, rfl, hj⟩ := isIn_nat hb
    obtain ⟨c, b1, _, _, b4, b5⟩ := a10.2 j hj
    have kc := a9.get j _ b1
    have hlt : (j : Int) < (n : Int) := by omega
    have hres : (if 0 < (j : Int) ∧ (j : Int) < (n : Int) then (PI (j : Int).toNat : Int) else -1) = c := by
      by_cases h0 : j = 0
      · rw [if_neg (by omega), b4 h0]
      · rw [if_pos (by omega), b5 (by omega) rfl]
        simp
    rw [hres]
    clear a1 a2 a3 a4 a5 a6 a7 a9 a10 hb b1 b4 b5 hres
    go_enter Tryd.func39, Tryd.ntmps39
    go_wp2_with (first
      | (go_at_call 51; ((with_reducible refine HH.out.mono ?_); rintro e W1 ⟨rfl, rfl⟩))
      | go_in)
    go_ret
    exact ⟨by simp, rfl⟩
  | false =>
    rw [hb] at HH
    have hres : ¬ (0 < x ∧ x < (n : Int)) := fun hq => by rw [isIn_true (by omega) hq.2] at hb; cases hb
    rw [if_neg hres]
    clear a1 a2 a3 a4 a5 a6 a7 a9 a10 hb hres
    go_enter Tryd.func39, Tryd.ntmps39
    go_wp2_with (first
      | (go_at_call 51; ((with_reducible refine HH.out.mono ?_); rintro e W1 ⟨rfl, rfl⟩))
      | go_in)
    go_ret
    exact ⟨by simp, rfl⟩
end
end Go.Proofs.YtnogmaljcocfjaaDoor.DitMeth
namespace Go.Proofs.YtnogmaljcocfjaaDoor.DitMeth
open Go Go.Maps Go.RowKit Go.Proofs.YtnogmaljcocfjaaDoor.XK Go.Proofs.YtnogmaljcocfjaaDoor.Blk Go.Proofs.YtnogmaljcocfjaaDoor.DitTab Go.Proofs.YtnogmaljcocfjaaDoor.DitRow Go.Proofs.YtnogmaljcocfjaaDoor.DitTerm Go.Proofs.YtnogmaljcocfjaaDoor.DitMap Go.Proofs.YtnogmaljcocfjaaDoor.DitCheck Go.Proofs.YtnogmaljcocfjaaDoor.DitCopy Go.Proofs.YtnogmaljcocfjaaDoor.DitClone Go.Proofs.YtnogmaljcocfjaaDoor.DitPure Go.Proofs.YtnogmaljcocfjaaDoor.DitSort Go.Proofs.YtnogmaljcocfjaaDoor.DitBuild Go.Proofs.YtnogmaljcocfjaaDoor.Keys Go.Proofs.YtnogmaljcocfjaaDoorW.PrintWords Go.Proofs.YtnogmaljcocfjaaDoorW.PrintLast Go.Proofs.YtnogmaljcocfjaaDoorW.PrintMore
theorem num_run_ok {w : World} {b n : Nat} {f : ByteArray → Option Int} (h : Num w b n f) (s : ByteArray) (hs : s.size ≤ maxLen) : (Instr.lookup 78 (.map (some b)) (.string s) true).run Tryd.prog w = .ok (.tuple #[.int .i64 ((f s).getD 0), .bool (f s).isSome]) w := by
  obtain ⟨D, h1, h2, h3⟩ := h.val
  obtain ⟨v, ps, hrun, hv⟩ := h1.look_ok law9 Tryd.underlying78 (zero3 w) (plainElem_int (H := Unit) Tryd.underlying3 (by decide : (Lit.int .i64 0).wf = true)) (key_mk s hs)
  obtain ⟨c, rfl, hc, _⟩ := plainElem_int_inv Tryd.underlying3 hv
  rw [hrun, ← h2 s, h3 s c (congrArg Prod.fst hc)]
theorem own_heap {w W : World} {base : Nat} {e : TypeId} {size : Nat} {v : Value} {n : Nat} {xs : List Value} (h : w.ownsRow base e size v n xs) (hW : W.heap = w.heap) : W.ownsRow base e size v n xs := by
  refine ⟨h.1, ?_⟩
  rw [hW]
  exact h.2
section
variable {es : List S45} {p : List Nat} {n tb : Nat} {PI : Nat → Nat} {w : World}
/-- Where a subtree ends. -/
noncomputable def endR (S : List Key) (m : Nat) : Nat := Classical.epsilon fun e => IsEnd S m e
theorem isEnd_one {S : List Key} {m e e' : Nat} (h : IsEnd S m e) (k : IsEnd S m e') : e = e' := by
  obtain ⟨a1, a2, a3⟩ := h
  obtain ⟨b1, b2, b3⟩ := k
  rcases Nat.lt_trichotomy e e' with h1 | h1 | h1
  · have := ((a3 e (by omega)).1 ((b3 e (by omega)).2 ⟨by omega, h1⟩)).2; omega
  · exact h1
  · have := ((b3 e' (by omega)).1 ((a3 e' (by omega)).2 ⟨by omega, h1⟩)).2; omega
theorem endR_eq {S : List Key} {m e : Nat} (h : IsEnd S m e) : endR S m = e := isEnd_one (Classical.epsilon_spec (p := fun e => IsEnd S m e) ⟨e, h⟩) h
noncomputable def spanR (es : List S45) (p : List Nat) (n : Nat) (x : Int) : Int × Int := if isIn n x = true then (x, (endR (keyS es p) x.toNat : Int)) else (0, 0)
set_option maxRecDepth 100000 in
theorem span_as (h : TreeAt es p n PI tb w) (x : Int) : Calls Tryd.prog 30 #[TP tb, .int .i64 x] w fun e w' => e = .returned (.tuple #[.int .i64 (spanR es p n x).1, .int .i64 (spanR es p n x).2]) ∧ Below w.heap.size w w' := by
  have HH := Lib.hid (has_as h x)
  obtain ⟨L, eg, ec, g, cap, pc, e, V, Z, a1, a2, a3, a4, a5, a6, a7, _, a9, a10, a11, a12, _⟩ := h
  have k3 := a5.get 3 _ rfl
  unfold spanR
  cases hb : isIn n x with
  | true =>
    rw [hb] at HH
    obtain ⟨j, rfl, hj⟩ := isIn_nat hb
    have kc := a11.get j _ (endc_at e hj)
    have hlt : (j : Int) < (n : Int) := by omega
    have hres : endR (keyS es p) (j : Int).toNat = e j := by rw [Int.toNat_natCast]; exact endR_eq (a12 j hj)
    rw [if_pos rfl, hres]
    clear a1 a2 a3 a4 a5 a6 a7 a9 a10 a11 a12 hb hres
    go_enter Tryd.func30, Tryd.ntmps30
    go_wp2_with (first
      | (go_at_call 51; ((with_reducible refine HH.out.mono ?_); rintro e W1 ⟨rfl, rfl⟩))
      | go_in)
    refine start_ (n := 10) (S := fun w' => w'.cell? ⟨tb, 3, none⟩ = some (.slice (some ⟨L.ge, 0, none⟩) n n) ∧ w'.cell? ⟨L.ge, j, none⟩ = some (.int .i64 (e j : Int))) (ds := []) #[false, false, false, false, false, false, false, false, false, false] (by kernel_rfl) rfl rfl ⟨k3, kc⟩ (fun hHeld => ?_)
    refine pure_ (i := 0) (N := some 10) (v := ?_) (a' := ?_) #[true, false, false, false, false, false, false, false, false, false] rfl rfl (by kernel_rfl) (fun _ _ _ h => h) (Or.inl ⟨by rfl, ?_⟩) ?_ ?_
    rotate_left
    · intro w'
      go_simp
      with_reducible rfl
    rotate_left
    · simp only [Act.put, List.setIfInBounds_toArray, List.set_cons_zero, List.set_cons_succ, i64_w, i32_w]
      rfl
    refine pure_ (i := 1) (N := some 11) (v := ?_) (a' := ?_) #[true, true, false, false, false, false, false, false, false, false] rfl rfl (by kernel_rfl) (fun _ _ _ h => h) (Or.inl ⟨by rfl, ?_⟩) ?_ ?_
    rotate_left
    · intro w'
      go_simp
      with_reducible rfl
    rotate_left
    · simp only [Act.put, List.setIfInBounds_toArray, List.set_cons_zero, List.set_cons_succ, i64_w, i32_w]
      rfl
    refine pure_ (i := 2) (N := some 12) (v := ?_) (a' := ?_) #[true, true, true, false, false, false, false, false, false, false] rfl rfl (by kernel_rfl) (fun _ _ _ h => h) (Or.inl ⟨by rfl, ?_⟩) ?_ ?_
    rotate_left
    · intro w'
      go_simp
      with_reducible rfl
    rotate_left
    · simp only [Act.put, List.setIfInBounds_toArray, List.set_cons_zero, List.set_cons_succ, i64_w, i32_w]
      rfl
    refine pure_ (i := 3) (N := some 13) (v := ?_) (a' := ?_) #[true, true, true, true, false, false, false, false, false, false] rfl rfl (by kernel_rfl) (fun _ _ _ h => h) (Or.inl ⟨by rfl, ?_⟩) ?_ ?_
    rotate_left
    · intro w'
      go_simp
      with_reducible rfl
    rotate_left
    · simp only [Act.put, List.setIfInBounds_toArray, List.set_cons_zero, List.set_cons_succ, i64_w, i32_w]
      rfl
    refine pure_ (i := 5) (N := some 15) (v := ?_) (a' := ?_) #[true, true, true, true, false, true, false, false, false, false] rfl rfl (by kernel_rfl) (fun _ _ _ h => h) (Or.inl ⟨by rfl, ?_⟩) ?_ ?_
    rotate_left
    · intro w'
      go_simp
      with_reducible rfl
    rotate_left
    · simp only [Act.put, List.setIfInBounds_toArray, List.set_cons_zero, List.set_cons_succ, i64_w, i32_w]
      rfl
    refine pure_ (i := 8) (N := some 4) (v := ?_) (a' := ?_) #[true, true, true, true, false, true, false, false, true, false] rfl rfl (by kernel_rfl) (fun _ _ _ h => h) (Or.inl ⟨by rfl, ?_⟩) ?_ ?_
    rotate_left
    · intro w'
      go_simp
      with_reducible rfl
    rotate_left
    · simp only [Act.put, List.setIfInBounds_toArray, List.set_cons_zero, List.set_cons_succ, i64_w, i32_w]
      rfl
    refine take_ (i := 4) (N := some 14) (v := ?_) (a' := ?_) #[true, true, true, true, true, true, false, false, true, false] rfl rfl (by kernel_rfl) (fun _ _ _ h => h) (Or.inl ⟨by rfl, ?_⟩) hHeld ?_ ?_
    rotate_left
    · rintro w' ⟨s0, s1⟩
      go_simp
      with_reducible rfl
    rotate_left
    · simp only [Act.put, List.setIfInBounds_toArray, List.set_cons_zero, List.set_cons_succ, i64_w, i32_w]
      rfl
    refine pure_ (i := 6) (N := some 16) (v := ?_) (a' := ?_) #[true, true, true, true, true, true, true, false, true, false] rfl rfl (by kernel_rfl) (fun _ _ _ h => h) (Or.inl ⟨by rfl, ?_⟩) ?_ ?_
    rotate_left
    · intro w'
      go_simp
      with_reducible rfl
    rotate_left
    · simp only [Act.put, List.setIfInBounds_toArray, List.set_cons_zero, List.set_cons_succ, i64_w, i32_w]
      rfl
    refine take_ (i := 7) (N := some 17) (v := ?_) (a' := ?_) #[true, true, true, true, true, true, true, true, true, false] rfl rfl (by kernel_rfl) (fun _ _ _ h => h) (Or.inl ⟨by rfl, ?_⟩) hHeld ?_ ?_
    rotate_left
    · rintro w' ⟨s0, s1⟩
      go_simp
      with_reducible rfl
    rotate_left
    · simp only [Act.put, List.setIfInBounds_toArray, List.set_cons_zero, List.set_cons_succ, i64_w, i32_w]
      rfl
    refine pure_ (i := 9) (N := some 5) (v := ?_) (a' := ?_) #[true, true, true, true, true, true, true, true, true, true] rfl rfl (by kernel_rfl) (fun _ _ _ h => h) (Or.inl ⟨by rfl, ?_⟩) ?_ ?_
    rotate_left
    · intro w'
      go_simp
      with_reducible rfl
    rotate_left
    · simp only [Act.put, List.setIfInBounds_toArray, List.set_cons_zero, List.set_cons_succ, i64_w, i32_w]
      rfl
    refine done_ (by kernel_rfl) ?_
    go_wp2
    go_ret2
    exact ⟨rfl, by repeat (first | exact Below.refl _ _ | apply pw_below_drewN | apply below_drew1)⟩
  | false =>
    rw [hb] at HH
    rw [if_neg (by simp)]
    clear a1 a2 a3 a4 a5 a6 a7 a9 a10 a11 a12 hb
    go_enter Tryd.func30, Tryd.ntmps30
    go_wp2_with (first
      | (go_at_call 51; ((with_reducible refine HH.out.mono ?_); rintro e W1 ⟨rfl, rfl⟩))
      | go_in)
    go_ret2
    exact ⟨rfl, Below.refl _ _⟩
/-- What Find answers. -/
def findR (ks : List (List ByteArray)) (k : List ByteArray) : Int := (numF ks (wordB k)).getD (-1)
/-- Keys that the walk can bear. -/
structure KeyOK (k : List ByteArray) : Prop where
  len : k.length ≤ 1048576
  bulk : bulkK k ≤ 33554432
  part : ∀ q ∈ k, q.size ≤ 1048576
theorem KeyOK.word {k : List ByteArray} (h : KeyOK k) : (wordB k).size ≤ maxLen := by
  have := wordL_le _ h.part
  have := h.bulk
  show (wordL k).length ≤ maxLen
  unfold maxLen
  omega
set_option maxRecDepth 100000 in
theorem find_as (h : TreeAt es p n PI tb w) (ht : Tabs w) (g c : Nat) (A : Option Addr) (k : List ByteArray) (hk : RowS w g A c k) (hK : KeyOK k) : Calls Tryd.prog 32 #[TP tb, .slice A k.length c] w fun e w' => e = .returned (.int .i64 (findR (keysOf es p) k)) ∧ Below w.heap.size w w' := by
  have hlt := h.lt
  obtain ⟨L, eg, ec, g2, cap, pc, e, V, Z, a1, a2, a3, a4, a5, a6, a7, _, a9, a10, a11, a12, _, _, _, a16⟩ := h
  have k5 := a5.get 5 _ rfl
  have HNM := Lib.hid a16
  have HKR := Lib.hid hk
  have HK := Lib.hid hK
  have HT := Lib.hid ht
  have lk := num_run_ok a16 (wordB k) hK.word
  unfold findR
  cases hf : numF (keysOf es p) (wordB k) with
  | some v =>
    rw [hf] at lk
    simp only [Option.getD_some, Option.isSome_some] at lk ⊢
    have HLK : Hid (∀ W, Below w.heap.size w W → (Instr.lookup 78 (.map (some L.nb)) (.string (wordB k)) true).run Tryd.prog W = .ok (.tuple #[.int .i64 v, .bool true]) W) := Lib.hid (fun W hW => by have := num_run_ok (HNM.out.below hW) (wordB k) HK.out.word; rw [hf] at this; exact this)
    clear a1 a2 a3 a4 a5 a6 a7 a9 a10 a11 a12 a16 hf hk hK ht
    go_enter Tryd.func32, Tryd.ntmps32
    go_wp2
    refine start_ (n := 12) (S := fun w' => w'.cell? ⟨tb, 5, none⟩ = some (.map (some L.nb)) ∧ (Instr.lookup 78 (.map (some L.nb)) (.string (wordB k)) true).run Tryd.prog w' = .ok (.tuple #[.int .i64 v, .bool true]) w') (ds := []) #[false, false, false, false, false, false, false, false, false, false, false, false] (by kernel_rfl) rfl rfl ⟨k5, HLK.out _ (by repeat (first | exact Below.refl _ _ | apply pw_below_drewN | apply below_drew1))⟩ (fun hHeld => ?_)
    refine pure_ (i := 0) (N := some 8) (v := ?_) (a' := ?_) #[true, false, false, false, false, false, false, false, false, false, false, false] rfl rfl (by kernel_rfl) (fun _ _ _ h => h) (Or.inl ⟨by rfl, ?_⟩) ?_ ?_
    rotate_left
    · intro w'
      go_simp
      with_reducible rfl
    rotate_left
    · simp only [Act.put, List.setIfInBounds_toArray, List.set_cons_zero, List.set_cons_succ, i64_w, i32_w]
      rfl
    refine pure_ (i := 1) (N := some 9) (v := ?_) (a' := ?_) #[true, true, false, false, false, false, false, false, false, false, false, false] rfl rfl (by kernel_rfl) (fun _ _ _ h => h) (Or.inl ⟨by rfl, ?_⟩) ?_ ?_
    rotate_left
    · intro w'
      go_simp
      with_reducible rfl
    rotate_left
    · simp only [Act.put, List.setIfInBounds_toArray, List.set_cons_zero, List.set_cons_succ, i64_w, i32_w]
      rfl
    refine pure_ (i := 2) (N := some 10) (v := ?_) (a' := ?_) #[true, true, true, false, false, false, false, false, false, false, false, false] rfl rfl (by kernel_rfl) (fun _ _ _ h => h) (Or.inl ⟨by rfl, ?_⟩) ?_ ?_
    rotate_left
    · intro w'
      go_simp
      with_reducible rfl
    rotate_left
    · simp only [Act.put, List.setIfInBounds_toArray, List.set_cons_zero, List.set_cons_succ, i64_w, i32_w]
      rfl
    refine pure_ (i := 4) (N := some 12) (v := ?_) (a' := ?_) #[true, true, true, false, true, false, false, false, false, false, false, false] rfl rfl (by kernel_rfl) (fun _ _ _ h => h) (Or.inl ⟨by rfl, ?_⟩) ?_ ?_
    rotate_left
    · intro w'
      go_simp
      with_reducible rfl
    rotate_left
    · simp only [Act.put, List.setIfInBounds_toArray, List.set_cons_zero, List.set_cons_succ, i64_w, i32_w]
      rfl
    refine take_ (i := 3) (N := some 11) (v := ?_) (a' := ?_) #[true, true, true, true, true, false, false, false, false, false, false, false] rfl rfl (by kernel_rfl) (fun _ _ _ h => h) (Or.inl ⟨by rfl, ?_⟩) hHeld ?_ ?_
    rotate_left
    · rintro w' ⟨s0, s1⟩
      go_simp
      with_reducible rfl
    rotate_left
    · simp only [Act.put, List.setIfInBounds_toArray, List.set_cons_zero, List.set_cons_succ, i64_w, i32_w]
      rfl
    refine one_ (i := 5) (N := some 13) #[true, true, true, true, true, true, false, false, false, false, false, false] rfl rfl (by kernel_rfl) (by decide) (fun K hK => ?_)
    refine goes_ Tryd.func49 (by kernel_rfl) rfl #[.slice A k.length c] (by rfl) rfl rfl (by simp only [List.map_toArray, List.map_cons, List.map_nil]; rfl) ?_
    with_reducible refine (word_as _ g A c k (by exact HKR.out.on (fun _ => rfl)) (Tabs_at HT.out (by repeat (first | exact Below.refl _ _ | apply pw_below_drewN | apply below_drew1))) HK.out.bulk HK.out.len HK.out.part).mono ?_
    rintro e W7 ⟨rfl, q⟩
    have HB7 : Hid (Below w.heap.size w W7) := Lib.hid (by repeat (first | exact q | apply undrewN | apply undrew1))
    clear q
    refine ⟨_, rfl, ?_⟩
    refine hK.out _ _ ⟨(HB7.out.cell (p := ⟨tb, 5, none⟩) hlt).trans k5, HLK.out _ HB7.out⟩ (fun hHeld => ?_)
    clear hK K
    refine norm_ (a' := ?_) ?_ ?_
    rotate_left
    · show Act.put _ (some 13) _ = _
      simp only [Act.put, List.setIfInBounds_toArray, List.set_cons_zero, List.set_cons_succ, i64_w, i32_w]
      rfl
    refine take_ (i := 6) (N := some 14) (v := ?_) (a' := ?_) #[true, true, true, true, true, true, true, false, false, false, false, false] rfl rfl (by kernel_rfl) (fun _ _ _ h => h) (Or.inl ⟨by rfl, ?_⟩) hHeld ?_ ?_
    rotate_left
    · rintro w' ⟨s0, s1⟩
      go_simp
      with_reducible rfl
    rotate_left
    · simp only [Act.put, List.setIfInBounds_toArray, List.set_cons_zero, List.set_cons_succ, i64_w, i32_w]
      rfl
    refine pure_ (i := 7) (N := some 7) (v := ?_) (a' := ?_) #[true, true, true, true, true, true, true, true, false, false, false, false] rfl rfl (by kernel_rfl) (fun _ _ _ h => h) (Or.inl ⟨by rfl, ?_⟩) ?_ ?_
    rotate_left
    · intro w'
      go_simp
      with_reducible rfl
    rotate_left
    · simp only [Act.put, List.setIfInBounds_toArray, List.set_cons_zero, List.set_cons_succ, i64_w, i32_w]
      rfl
    refine pure_ (i := 8) (N := some 15) (v := ?_) (a' := ?_) #[true, true, true, true, true, true, true, true, true, false, false, false] rfl rfl (by kernel_rfl) (fun _ _ _ h => h) (Or.inl ⟨by rfl, ?_⟩) ?_ ?_
    rotate_left
    · intro w'
      go_simp
      with_reducible rfl
    rotate_left
    · simp only [Act.put, List.setIfInBounds_toArray, List.set_cons_zero, List.set_cons_succ, i64_w, i32_w]
      rfl
    refine pure_ (i := 9) (N := some 16) (v := ?_) (a' := ?_) #[true, true, true, true, true, true, true, true, true, true, false, false] rfl rfl (by kernel_rfl) (fun _ _ _ h => h) (Or.inl ⟨by rfl, ?_⟩) ?_ ?_
    rotate_left
    · intro w'
      go_simp
      with_reducible rfl
    rotate_left
    · simp only [Act.put, List.setIfInBounds_toArray, List.set_cons_zero, List.set_cons_succ, i64_w, i32_w]
      rfl
    refine pure_ (i := 10) (N := some 5) (v := ?_) (a' := ?_) #[true, true, true, true, true, true, true, true, true, true, true, false] rfl rfl (by kernel_rfl) (fun _ _ _ h => h) (Or.inl ⟨by rfl, ?_⟩) ?_ ?_
    rotate_left
    · intro w'
      go_simp
      with_reducible rfl
    rotate_left
    · simp only [Act.put, List.setIfInBounds_toArray, List.set_cons_zero, List.set_cons_succ, i64_w, i32_w]
      rfl
    refine pure_ (i := 11) (N := some 6) (v := ?_) (a' := ?_) #[true, true, true, true, true, true, true, true, true, true, true, true] rfl rfl (by kernel_rfl) (fun _ _ _ h => h) (Or.inl ⟨by rfl, ?_⟩) ?_ ?_
    rotate_left
    · intro w'
      go_simp
      with_reducible rfl
    rotate_left
    · simp only [Act.put, List.setIfInBounds_toArray, List.set_cons_zero, List.set_cons_succ, i64_w, i32_w]
      rfl
    refine done_ (by kernel_rfl) ?_
    go_wp2
    go_ret
    exact ⟨rfl, by repeat (first | exact HB7.out | apply pw_below_drewN | apply below_drew1)⟩
  | none =>
    rw [hf] at lk
    simp only [Option.getD_none, Option.isSome_none] at lk ⊢
    have HLK : Hid (∀ W, Below w.heap.size w W → (Instr.lookup 78 (.map (some L.nb)) (.string (wordB k)) true).run Tryd.prog W = .ok (.tuple #[.int .i64 0, .bool false]) W) := Lib.hid (fun W hW => by have := num_run_ok (HNM.out.below hW) (wordB k) HK.out.word; rw [hf] at this; exact this)
    clear a1 a2 a3 a4 a5 a6 a7 a9 a10 a11 a12 a16 hf hk hK ht
    go_enter Tryd.func32, Tryd.ntmps32
    go_wp2
    refine start_ (n := 12) (S := fun w' => w'.cell? ⟨tb, 5, none⟩ = some (.map (some L.nb)) ∧ (Instr.lookup 78 (.map (some L.nb)) (.string (wordB k)) true).run Tryd.prog w' = .ok (.tuple #[.int .i64 0, .bool false]) w') (ds := []) #[false, false, false, false, false, false, false, false, false, false, false, false] (by kernel_rfl) rfl rfl ⟨k5, HLK.out _ (by repeat (first | exact Below.refl _ _ | apply pw_below_drewN | apply below_drew1))⟩ (fun hHeld => ?_)
    refine pure_ (i := 0) (N := some 8) (v := ?_) (a' := ?_) #[true, false, false, false, false, false, false, false, false, false, false, false] rfl rfl (by kernel_rfl) (fun _ _ _ h => h) (Or.inl ⟨by rfl, ?_⟩) ?_ ?_
    rotate_left
    · intro w'
      go_simp
      with_reducible rfl
    rotate_left
    · simp only [Act.put, List.setIfInBounds_toArray, List.set_cons_zero, List.set_cons_succ, i64_w, i32_w]
      rfl
    refine pure_ (i := 1) (N := some 9) (v := ?_) (a' := ?_) #[true, true, false, false, false, false, false, false, false, false, false, false] rfl rfl (by kernel_rfl) (fun _ _ _ h => h) (Or.inl ⟨by rfl, ?_⟩) ?_ ?_
    rotate_left
    · intro w'
      go_simp
      with_reducible rfl
    rotate_left
    · simp only [Act.put, List.setIfInBounds_toArray, List.set_cons_zero, List.set_cons_succ, i64_w, i32_w]
      rfl
    refine pure_ (i := 2) (N := some 10) (v := ?_) (a' := ?_) #[true, true, true, false, false, false, false, false, false, false, false, false] rfl rfl (by kernel_rfl) (fun _ _ _ h => h) (Or.inl ⟨by rfl, ?_⟩) ?_ ?_
    rotate_left
    · intro w'
      go_simp
      with_reducible rfl
    rotate_left
    · simp only [Act.put, List.setIfInBounds_toArray, List.set_cons_zero, List.set_cons_succ, i64_w, i32_w]
      rfl
    refine pure_ (i := 4) (N := some 12) (v := ?_) (a' := ?_) #[true, true, true, false, true, false, false, false, false, false, false, false] rfl rfl (by kernel_rfl) (fun _ _ _ h => h) (Or.inl ⟨by rfl, ?_⟩) ?_ ?_
    rotate_left
    · intro w'
      go_simp
      with_reducible rfl
    rotate_left
    · simp only [Act.put, List.setIfInBounds_toArray, List.set_cons_zero, List.set_cons_succ, i64_w, i32_w]
      rfl
    refine take_ (i := 3) (N := some 11) (v := ?_) (a' := ?_) #[true, true, true, true, true, false, false, false, false, false, false, false] rfl rfl (by kernel_rfl) (fun _ _ _ h => h) (Or.inl ⟨by rfl, ?_⟩) hHeld ?_ ?_
    rotate_left
    · rintro w' ⟨s0, s1⟩
      go_simp
      with_reducible rfl
    rotate_left
    · simp only [Act.put, List.setIfInBounds_toArray, List.set_cons_zero, List.set_cons_succ, i64_w, i32_w]
      rfl
    refine one_ (i := 5) (N := some 13) #[true, true, true, true, true, true, false, false, false, false, false, false] rfl rfl (by kernel_rfl) (by decide) (fun K hK => ?_)
    refine goes_ Tryd.func49 (by kernel_rfl) rfl #[.slice A k.length c] (by rfl) rfl rfl (by simp only [List.map_toArray, List.map_cons, List.map_nil]; rfl) ?_
    with_reducible refine (word_as _ g A c k (by exact HKR.out.on (fun _ => rfl)) (Tabs_at HT.out (by repeat (first | exact Below.refl _ _ | apply pw_below_drewN | apply below_drew1))) HK.out.bulk HK.out.len HK.out.part).mono ?_
    rintro e W7 ⟨rfl, q⟩
    have HB7 : Hid (Below w.heap.size w W7) := Lib.hid (by repeat (first | exact q | apply undrewN | apply undrew1))
    clear q
    refine ⟨_, rfl, ?_⟩
    refine hK.out _ _ ⟨(HB7.out.cell (p := ⟨tb, 5, none⟩) hlt).trans k5, HLK.out _ HB7.out⟩ (fun hHeld => ?_)
    clear hK K
    refine norm_ (a' := ?_) ?_ ?_
    rotate_left
    · show Act.put _ (some 13) _ = _
      simp only [Act.put, List.setIfInBounds_toArray, List.set_cons_zero, List.set_cons_succ, i64_w, i32_w]
      rfl
    refine take_ (i := 6) (N := some 14) (v := ?_) (a' := ?_) #[true, true, true, true, true, true, true, false, false, false, false, false] rfl rfl (by kernel_rfl) (fun _ _ _ h => h) (Or.inl ⟨by rfl, ?_⟩) hHeld ?_ ?_
    rotate_left
    · rintro w' ⟨s0, s1⟩
      go_simp
      with_reducible rfl
    rotate_left
    · simp only [Act.put, List.setIfInBounds_toArray, List.set_cons_zero, List.set_cons_succ, i64_w, i32_w]
      rfl
    refine pure_ (i := 7) (N := some 7) (v := ?_) (a' := ?_) #[true, true, true, true, true, true, true, true, false, false, false, false] rfl rfl (by kernel_rfl) (fun _ _ _ h => h) (Or.inl ⟨by rfl, ?_⟩) ?_ ?_
    rotate_left
    · intro w'
      go_simp
      with_reducible rfl
    rotate_left
    · simp only [Act.put, List.setIfInBounds_toArray, List.set_cons_zero, List.set_cons_succ, i64_w, i32_w]
      rfl
    refine pure_ (i := 8) (N := some 15) (v := ?_) (a' := ?_) #[true, true, true, true, true, true, true, true, true, false, false, false] rfl rfl (by kernel_rfl) (fun _ _ _ h => h) (Or.inl ⟨by rfl, ?_⟩) ?_ ?_
    rotate_left
    · intro w'
      go_simp
      with_reducible rfl
    rotate_left
    · simp only [Act.put, List.setIfInBounds_toArray, List.set_cons_zero, List.set_cons_succ, i64_w, i32_w]
      rfl
    refine pure_ (i := 9) (N := some 16) (v := ?_) (a' := ?_) #[true, true, true, true, true, true, true, true, true, true, false, false] rfl rfl (by kernel_rfl) (fun _ _ _ h => h) (Or.inl ⟨by rfl, ?_⟩) ?_ ?_
    rotate_left
    · intro w'
      go_simp
      with_reducible rfl
    rotate_left
    · simp only [Act.put, List.setIfInBounds_toArray, List.set_cons_zero, List.set_cons_succ, i64_w, i32_w]
      rfl
    refine pure_ (i := 10) (N := some 5) (v := ?_) (a' := ?_) #[true, true, true, true, true, true, true, true, true, true, true, false] rfl rfl (by kernel_rfl) (fun _ _ _ h => h) (Or.inl ⟨by rfl, ?_⟩) ?_ ?_
    rotate_left
    · intro w'
      go_simp
      with_reducible rfl
    rotate_left
    · simp only [Act.put, List.setIfInBounds_toArray, List.set_cons_zero, List.set_cons_succ, i64_w, i32_w]
      rfl
    refine pure_ (i := 11) (N := some 6) (v := ?_) (a' := ?_) #[true, true, true, true, true, true, true, true, true, true, true, true] rfl rfl (by kernel_rfl) (fun _ _ _ h => h) (Or.inl ⟨by rfl, ?_⟩) ?_ ?_
    rotate_left
    · intro w'
      go_simp
      with_reducible rfl
    rotate_left
    · simp only [Act.put, List.setIfInBounds_toArray, List.set_cons_zero, List.set_cons_succ, i64_w, i32_w]
      rfl
    refine done_ (by kernel_rfl) ?_
    go_wp2
    go_ret
    exact ⟨rfl, by repeat (first | exact HB7.out | apply pw_below_drewN | apply below_drew1)⟩
/-- What Nearest has found behind the first i fronts. -/
def nearI (ks : List (List ByteArray)) (k : List ByteArray) (i : Nat) : Int := (List.range i).foldl (fun b j => (numF ks (wordB (k.take j))).getD b) (-1)
theorem nearI_succ (ks : List (List ByteArray)) (k : List ByteArray) (i : Nat) : nearI ks k (i + 1) = (numF ks (wordB (k.take i))).getD (nearI ks k i) := by
  unfold nearI
  rw [List.range_succ, List.foldl_append]
  rfl
def nearR (ks : List (List ByteArray)) (k : List ByteArray) : Int := nearI ks k (k.length + 1)
theorem KeyOK.take {k : List ByteArray} (h : KeyOK k) (i : Nat) : KeyOK (k.take i) :=
  ⟨by rw [List.length_take]; have := h.len; omega, Nat.le_trans (bulkK_take _ _) h.bulk, fun q hq => h.part q (List.mem_of_mem_take hq)⟩
set_option maxHeartbeats 2000000 in
set_option maxRecDepth 100000 in
theorem nearest_as (h : TreeAt es p n PI tb w) (ht : Tabs w) (g c : Nat) (A : Option Addr) (k : List ByteArray) (hk : RowS w g A c k) (hK : KeyOK k) : Calls Tryd.prog 33 #[TP tb, .slice A k.length c] w fun e w' => e = .returned (.int .i64 (nearR (keysOf es p) k)) ∧ Below w.heap.size w w' := by
  have hlt := h.lt
  obtain ⟨i0, hi0, hz0, hz1, hz2⟩ := info_parts info5
  obtain ⟨L, eg, ec, g2, cap, pc, e, V, Z, a1, a2, a3, a4, a5, a6, a7, _, a9, a10, a11, a12, _, _, _, a16⟩ := h
  have k5 := a5.get 5 _ rfl
  have HNM := Lib.hid a16
  have HR := Lib.hid hk
  have HK := Lib.hid hK
  have HT := Lib.hid ht
  have hkl := hK.len
  have HL0 : Hid (∀ W, Below w.heap.size w W → ∀ i, (Instr.lookup 78 (.map (some L.nb)) (.string (wordB (k.take i))) true).run Tryd.prog W = .ok (.tuple #[.int .i64 ((numF (keysOf es p) (wordB (k.take i))).getD 0), .bool (numF (keysOf es p) (wordB (k.take i))).isSome]) W) := Lib.hid (fun W hW i => num_run_ok (HNM.out.below hW) (wordB (k.take i)) (HK.out.take i).word)
  have hwl : IntKind.i64.wrap ((k.length : Int) + 1) = ((k.length + 1 : Nat) : Int) := by rw [IntWalk.i64_in _ (by omega)]; rfl
  have H0 : Hid (w.ownsRow w.heap.size 5 1 (.slice none 0 0) (wordL (k.take 0)).length (Lib.byteCells (wordL (k.take 0)))) := Lib.hid (World.ownsRow_nil _ _ _ _)
  have HK5 := Lib.hid k5
  clear a1 a2 a3 a4 a5 a6 a7 a9 a10 a11 a12 a16 hk hK ht k5
  unfold nearR
  go_enter Tryd.func33, Tryd.ntmps33
  go_wp2
  go_loopw [5, 6, 13] (fun v5 v6 v13 wr => ∃ i : Nat, i ≤ k.length + 1 ∧ v5 = .int .i64 (nearI (keysOf es p) k i) ∧ v13 = .int .i64 (i : Nat) ∧ Hid (Below w.heap.size w wr ∧ wr.ownsRow w.heap.size 5 1 v6 (wordL (k.take i)).length (Lib.byteCells (wordL (k.take i))))) (fun _ _ v _ => k.length + 1 - (intOf v).toNat)
  case atStart => exact ⟨0, Nat.zero_le _, rfl, rfl, Lib.hid ⟨Below.refl _ _, H0.out⟩⟩
  case round =>
    clear H0
    obtain ⟨i, hi, rfl, rfl, HW⟩ := hrel
    have hszW := HW.out.1.size
    by_cases hin : i < k.length + 1
    · have hlt1 : (i : Int) < ((k.length + 1 : Nat) : Int) := by omega
      have hwi : IntKind.i64.wrap ((i : Int) + 1) = ((i + 1 : Nat) : Int) := by rw [IntWalk.i64_in _ (by omega)]; rfl
      have k5 : wr.cell? ⟨tb, 5, none⟩ = some (.map (some L.nb)) := (HW.out.1.cell (p := ⟨tb, 5, none⟩) hlt).trans HK5.out
      have hnI := nearI_succ (keysOf es p) k i
      have hlkg := fun W hW => HL0.out W hW i
      have hown := HW.out.2
      have cv := fun (W : World) (hW : W.heap = wr.heap) => conv_own (W := W) (own_heap HW.out.2 hW)
      have hl1 := wordL_le (k.take (i + 1)) (HK.out.take (i + 1)).part
      have hl2 := (HK.out.take (i + 1)).bulk
      by_cases hil : i < k.length
      · have hlt2 : (i : Int) < (k.length : Int) := by omega
        obtain ⟨o, rfl, hc⟩ := HR.out.at_ (by omega)
        have cx := (HW.out.1.cell (p := ⟨g, o + i, none⟩) (World.block_lt_of_cell? w _ (hc i hil))).trans (hc i hil)
        have hpm := HK.out.part (k.getD i E) (by rw [List.getD_eq_getElem?_getD, List.getElem?_eq_getElem hil]; exact List.getElem_mem hil)
        have hsn : wordL (k.take (i + 1)) = wordL (k.take i) ++ DitWord.term (k.getD i E).data.toList := by
          rw [List.take_add_one, List.getElem?_eq_getElem hil, Option.toList_some, wordL_snoc]
          simp [List.getD_eq_getElem?_getD, List.getElem?_eq_getElem hil]
        rw [hsn, List.length_append] at hl1
        generalize k.getD i E = q at cx hpm hsn hl1
        have TA := Lib.hid (fun W (hT : Tabs W) => term_as q hpm W hT)
        have hlb : (wordL (k.take i)).length + (termB q).size ≤ 140737488355328 := by rw [termB_size]; omega
        have hlm : (wordL (k.take i)).length + (termB q).size ≤ maxLen := by unfold maxLen; omega
        have HSN := Lib.hid hsn
        clear hc hsn hl1 hl2
        cases hf : numF (keysOf es p) (wordB (k.take i)) with
        | some v =>
          rw [hf] at hnI hlkg
          simp only [Option.getD_some, Option.isSome_some] at hnI hlkg
          have HLK := Lib.hid hlkg
          have HNI := Lib.hid hnI
          have lk5 := hlkg _ (by exact HW.out.1)
          have HCV := Lib.hid cv
          clear hlkg hnI hf cv
          go_wp2
          refine start_ (n := 12) (S := fun w' => w'.cell? ⟨tb, 5, none⟩ = some (.map (some L.nb)) ∧ (Instr.lookup 78 (.map (some L.nb)) (.string (wordB (k.take i))) true).run Tryd.prog w' = .ok (.tuple #[.int .i64 v, .bool true]) w' ∧ (convert 89 9 u6).run Tryd.prog w' = .ok (.string (wordB (k.take i))) w') (ds := []) #[false, false, false, false, false, false, false, false, false, false, false, false] (by kernel_rfl) rfl rfl ⟨k5, HLK.out _ (by repeat (first | exact HW.out.1 | apply pw_below_drewN | apply below_drew1)), HCV.out _ rfl⟩ (fun hHeld => ?_)
          refine pure_ (i := 0) (N := some 17) (v := ?_) (a' := ?_) #[true, false, false, false, false, false, false, false, false, false, false, false] rfl rfl (by kernel_rfl) (fun _ _ _ h => h) (Or.inl ⟨by rfl, ?_⟩) ?_ ?_
          rotate_left
          · intro w'
            go_simp
            with_reducible rfl
          rotate_left
          · simp only [Act.put, List.setIfInBounds_toArray, List.set_cons_zero, List.set_cons_succ, i64_w, i32_w]
            rfl
          refine pure_ (i := 1) (N := some 18) (v := ?_) (a' := ?_) #[true, true, false, false, false, false, false, false, false, false, false, false] rfl rfl (by kernel_rfl) (fun _ _ _ h => h) (Or.inl ⟨by rfl, ?_⟩) ?_ ?_
          rotate_left
          · intro w'
            go_simp
            with_reducible rfl
          rotate_left
          · simp only [Act.put, List.setIfInBounds_toArray, List.set_cons_zero, List.set_cons_succ, i64_w, i32_w]
            rfl
          refine pure_ (i := 2) (N := some 19) (v := ?_) (a' := ?_) #[true, true, true, false, false, false, false, false, false, false, false, false] rfl rfl (by kernel_rfl) (fun _ _ _ h => h) (Or.inl ⟨by rfl, ?_⟩) ?_ ?_
          rotate_left
          · intro w'
            go_simp
            with_reducible rfl
          rotate_left
          · simp only [Act.put, List.setIfInBounds_toArray, List.set_cons_zero, List.set_cons_succ, i64_w, i32_w]
            rfl
          refine pure_ (i := 4) (N := some 21) (v := ?_) (a' := ?_) #[true, true, true, false, true, false, false, false, false, false, false, false] rfl rfl (by kernel_rfl) (fun _ _ _ h => h) (Or.inl ⟨by rfl, ?_⟩) ?_ ?_
          rotate_left
          · intro w'
            go_simp
            with_reducible rfl
          rotate_left
          · simp only [Act.put, List.setIfInBounds_toArray, List.set_cons_zero, List.set_cons_succ, i64_w, i32_w]
            rfl
          refine take_ (i := 3) (N := some 20) (v := ?_) (a' := ?_) #[true, true, true, true, true, false, false, false, false, false, false, false] rfl rfl (by kernel_rfl) (fun _ _ _ h => h) (Or.inl ⟨by rfl, ?_⟩) hHeld ?_ ?_
          rotate_left
          · rintro w' ⟨s0, s1, s2⟩
            go_simp
            with_reducible rfl
          rotate_left
          · simp only [Act.put, List.setIfInBounds_toArray, List.set_cons_zero, List.set_cons_succ, i64_w, i32_w]
            rfl
          refine one_ (i := 5) (N := some 22) #[true, true, true, true, true, true, false, false, false, false, false, false] rfl rfl (by kernel_rfl) (by decide) (fun K hK => ?_)
          refine value_ (w1 := ?_) (v := ?_) (by rfl) rfl ?_ ?_
          rotate_left 2
          · obtain ⟨s0, s1, s2⟩ := hHeld
            go_simp
            constructor
            · rfl
            · rfl
          refine hK.out _ _ ⟨hHeld.1, hHeld.2.1, hHeld.2.2⟩ (fun hHeld => ?_)
          clear hK K
          refine norm_ (a' := ?_) ?_ ?_
          rotate_left
          · show Act.put _ (some 22) _ = _
            simp only [Act.put, List.setIfInBounds_toArray, List.set_cons_zero, List.set_cons_succ, i64_w, i32_w]
            rfl
          refine take_ (i := 6) (N := some 23) (v := ?_) (a' := ?_) #[true, true, true, true, true, true, true, false, false, false, false, false] rfl rfl (by kernel_rfl) (fun _ _ _ h => h) (Or.inl ⟨by rfl, ?_⟩) hHeld ?_ ?_
          rotate_left
          · rintro w' ⟨s0, s1, s2⟩
            go_simp
            with_reducible rfl
          rotate_left
          · simp only [Act.put, List.setIfInBounds_toArray, List.set_cons_zero, List.set_cons_succ, i64_w, i32_w]
            rfl
          refine pure_ (i := 7) (N := some 16) (v := ?_) (a' := ?_) #[true, true, true, true, true, true, true, true, false, false, false, false] rfl rfl (by kernel_rfl) (fun _ _ _ h => h) (Or.inl ⟨by rfl, ?_⟩) ?_ ?_
          rotate_left
          · intro w'
            go_simp
            with_reducible rfl
          rotate_left
          · simp only [Act.put, List.setIfInBounds_toArray, List.set_cons_zero, List.set_cons_succ, i64_w, i32_w]
            rfl
          refine pure_ (i := 8) (N := some 24) (v := ?_) (a' := ?_) #[true, true, true, true, true, true, true, true, true, false, false, false] rfl rfl (by kernel_rfl) (fun _ _ _ h => h) (Or.inl ⟨by rfl, ?_⟩) ?_ ?_
          rotate_left
          · intro w'
            go_simp
            with_reducible rfl
          rotate_left
          · simp only [Act.put, List.setIfInBounds_toArray, List.set_cons_zero, List.set_cons_succ, i64_w, i32_w]
            rfl
          refine pure_ (i := 9) (N := some 25) (v := ?_) (a' := ?_) #[true, true, true, true, true, true, true, true, true, true, false, false] rfl rfl (by kernel_rfl) (fun _ _ _ h => h) (Or.inl ⟨by rfl, ?_⟩) ?_ ?_
          rotate_left
          · intro w'
            go_simp
            with_reducible rfl
          rotate_left
          · simp only [Act.put, List.setIfInBounds_toArray, List.set_cons_zero, List.set_cons_succ, i64_w, i32_w]
            rfl
          refine pure_ (i := 10) (N := some 8) (v := ?_) (a' := ?_) #[true, true, true, true, true, true, true, true, true, true, true, false] rfl rfl (by kernel_rfl) (fun _ _ _ h => h) (Or.inl ⟨by rfl, ?_⟩) ?_ ?_
          rotate_left
          · intro w'
            go_simp
            with_reducible rfl
          rotate_left
          · simp only [Act.put, List.setIfInBounds_toArray, List.set_cons_zero, List.set_cons_succ, i64_w, i32_w]
            rfl
          refine pure_ (i := 11) (N := some 9) (v := ?_) (a' := ?_) #[true, true, true, true, true, true, true, true, true, true, true, true] rfl rfl (by kernel_rfl) (fun _ _ _ h => h) (Or.inl ⟨by rfl, ?_⟩) ?_ ?_
          rotate_left
          · intro w'
            go_simp
            with_reducible rfl
          rotate_left
          · simp only [Act.put, List.setIfInBounds_toArray, List.set_cons_zero, List.set_cons_succ, i64_w, i32_w]
            rfl
          refine done_ (by kernel_rfl) ?_
          go_wp2_with (first
            | (go_at_call 52; ((with_reducible refine (TA.out _ ?ht).mono ?_); (case ht => exact Tabs_at HT.out (by repeat (first | exact HW.out.1 | apply pw_below_drewN | apply below_drew1))); rintro e W1 ⟨rfl, q1⟩; have HQ := Lib.hid (HW.out.1.trans ((show Below wr.heap.size wr W1 by repeat (first | exact q1 | apply undrewN | apply undrew1)).mono hszW)); have own1 := own_below HW.out.2 (show Below wr.heap.size wr W1 by repeat (first | exact q1 | apply undrewN | apply undrew1)); have hs1 := q1.size; clear q1))
            | (at_builtin; refine Lib.wpList_append_own_string (w := W1) rfl (.tmp 32) (.tmp 37) 89 9 rfl w.heap.size 5 i0 Tryd.underlying89 Tryd.underlying9 hi0 hz0 hz1 hz2 _ _ _ rfl own1 (termB q) rfl hlm hlb (by have h9 : wr.heap.size ≤ W1.heap.size := (by exact hs1); omega) ?_; intro v6 W2 q1 q2 _; have HQ2 := Lib.hid (And.intro (HQ.out.grown q2 (by have h9 : wr.heap.size ≤ W1.heap.size := (by exact hs1); omega) (fun j e => (own1.lt _ e).1)) q1); clear q1 q2)
            | go_in)
          go_roundw
          case rel => exact ⟨i + 1, by omega, by rw [HNI.out], by go_num, Lib.hid ⟨HQ2.out.1, by have := HQ2.out.2; rw [termB_cells, ← byteCells_app, ← HSN.out] at this; rw [termB_size, ← List.length_append, ← HSN.out] at this; exact this⟩⟩
          case measure => simp [intOf]; omega
        | none =>
          rw [hf] at hnI hlkg
          simp only [Option.getD_none, Option.isSome_none] at hnI hlkg
          have HLK := Lib.hid hlkg
          have HNI := Lib.hid hnI
          have lk5 := hlkg _ (by exact HW.out.1)
          have HCV := Lib.hid cv
          clear hlkg hnI hf cv
          go_wp2
          refine start_ (n := 12) (S := fun w' => w'.cell? ⟨tb, 5, none⟩ = some (.map (some L.nb)) ∧ (Instr.lookup 78 (.map (some L.nb)) (.string (wordB (k.take i))) true).run Tryd.prog w' = .ok (.tuple #[.int .i64 0, .bool false]) w' ∧ (convert 89 9 u6).run Tryd.prog w' = .ok (.string (wordB (k.take i))) w') (ds := []) #[false, false, false, false, false, false, false, false, false, false, false, false] (by kernel_rfl) rfl rfl ⟨k5, HLK.out _ (by repeat (first | exact HW.out.1 | apply pw_below_drewN | apply below_drew1)), HCV.out _ rfl⟩ (fun hHeld => ?_)
          refine pure_ (i := 0) (N := some 17) (v := ?_) (a' := ?_) #[true, false, false, false, false, false, false, false, false, false, false, false] rfl rfl (by kernel_rfl) (fun _ _ _ h => h) (Or.inl ⟨by rfl, ?_⟩) ?_ ?_
          rotate_left
          · intro w'
            go_simp
            with_reducible rfl
          rotate_left
          · simp only [Act.put, List.setIfInBounds_toArray, List.set_cons_zero, List.set_cons_succ, i64_w, i32_w]
            rfl
          refine pure_ (i := 1) (N := some 18) (v := ?_) (a' := ?_) #[true, true, false, false, false, false, false, false, false, false, false, false] rfl rfl (by kernel_rfl) (fun _ _ _ h => h) (Or.inl ⟨by rfl, ?_⟩) ?_ ?_
          rotate_left
          · intro w'
            go_simp
            with_reducible rfl
          rotate_left
          · simp only [Act.put, List.setIfInBounds_toArray, List.set_cons_zero, List.set_cons_succ, i64_w, i32_w]
            rfl
          refine pure_ (i := 2) (N := some 19) (v := ?_) (a' := ?_) #[true, true, true, false, false, false, false, false, false, false, false, false] rfl rfl (by kernel_rfl) (fun _ _ _ h => h) (Or.inl ⟨by rfl, ?_⟩) ?_ ?_
          rotate_left
          · intro w'
            go_simp
            with_reducible rfl
          rotate_left
          · simp only [Act.put, List.setIfInBounds_toArray, List.set_cons_zero, List.set_cons_succ, i64_w, i32_w]
            rfl
          refine pure_ (i := 4) (N := some 21) (v := ?_) (a' := ?_) #[true, true, true, false, true, false, false, false, false, false, false, false] rfl rfl (by kernel_rfl) (fun _ _ _ h => h) (Or.inl ⟨by rfl, ?_⟩) ?_ ?_
          rotate_left
          · intro w'
            go_simp
            with_reducible rfl
          rotate_left
          · simp only [Act.put, List.setIfInBounds_toArray, List.set_cons_zero, List.set_cons_succ, i64_w, i32_w]
            rfl
          refine take_ (i := 3) (N := some 20) (v := ?_) (a' := ?_) #[true, true, true, true, true, false, false, false, false, false, false, false] rfl rfl (by kernel_rfl) (fun _ _ _ h => h) (Or.inl ⟨by rfl, ?_⟩) hHeld ?_ ?_
          rotate_left
          · rintro w' ⟨s0, s1, s2⟩
            go_simp
            with_reducible rfl
          rotate_left
          · simp only [Act.put, List.setIfInBounds_toArray, List.set_cons_zero, List.set_cons_succ, i64_w, i32_w]
            rfl
          refine one_ (i := 5) (N := some 22) #[true, true, true, true, true, true, false, false, false, false, false, false] rfl rfl (by kernel_rfl) (by decide) (fun K hK => ?_)
          refine value_ (w1 := ?_) (v := ?_) (by rfl) rfl ?_ ?_
          rotate_left 2
          · obtain ⟨s0, s1, s2⟩ := hHeld
            go_simp
            constructor
            · rfl
            · rfl
          refine hK.out _ _ ⟨hHeld.1, hHeld.2.1, hHeld.2.2⟩ (fun hHeld => ?_)
          clear hK K
          refine norm_ (a' := ?_) ?_ ?_
          rotate_left
          · show Act.put _ (some 22) _ = _
            simp only [Act.put, List.setIfInBounds_toArray, List.set_cons_zero, List.set_cons_succ, i64_w, i32_w]
            rfl
          refine take_ (i := 6) (N := some 23) (v := ?_) (a' := ?_) #[true, true, true, true, true, true, true, false, false, false, false, false] rfl rfl (by kernel_rfl) (fun _ _ _ h => h) (Or.inl ⟨by rfl, ?_⟩) hHeld ?_ ?_
          rotate_left
          · rintro w' ⟨s0, s1, s2⟩
            go_simp
            with_reducible rfl
          rotate_left
          · simp only [Act.put, List.setIfInBounds_toArray, List.set_cons_zero, List.set_cons_succ, i64_w, i32_w]
            rfl
          refine pure_ (i := 7) (N := some 16) (v := ?_) (a' := ?_) #[true, true, true, true, true, true, true, true, false, false, false, false] rfl rfl (by kernel_rfl) (fun _ _ _ h => h) (Or.inl ⟨by rfl, ?_⟩) ?_ ?_
          rotate_left
          · intro w'
            go_simp
            with_reducible rfl
          rotate_left
          · simp only [Act.put, List.setIfInBounds_toArray, List.set_cons_zero, List.set_cons_succ, i64_w, i32_w]
            rfl
          refine pure_ (i := 8) (N := some 24) (v := ?_) (a' := ?_) #[true, true, true, true, true, true, true, true, true, false, false, false] rfl rfl (by kernel_rfl) (fun _ _ _ h => h) (Or.inl ⟨by rfl, ?_⟩) ?_ ?_
          rotate_left
          · intro w'
            go_simp
            with_reducible rfl
          rotate_left
          · simp only [Act.put, List.setIfInBounds_toArray, List.set_cons_zero, List.set_cons_succ, i64_w, i32_w]
            rfl
          refine pure_ (i := 9) (N := some 25) (v := ?_) (a' := ?_) #[true, true, true, true, true, true, true, true, true, true, false, false] rfl rfl (by kernel_rfl) (fun _ _ _ h => h) (Or.inl ⟨by rfl, ?_⟩) ?_ ?_
          rotate_left
          · intro w'
            go_simp
            with_reducible rfl
          rotate_left
          · simp only [Act.put, List.setIfInBounds_toArray, List.set_cons_zero, List.set_cons_succ, i64_w, i32_w]
            rfl
          refine pure_ (i := 10) (N := some 8) (v := ?_) (a' := ?_) #[true, true, true, true, true, true, true, true, true, true, true, false] rfl rfl (by kernel_rfl) (fun _ _ _ h => h) (Or.inl ⟨by rfl, ?_⟩) ?_ ?_
          rotate_left
          · intro w'
            go_simp
            with_reducible rfl
          rotate_left
          · simp only [Act.put, List.setIfInBounds_toArray, List.set_cons_zero, List.set_cons_succ, i64_w, i32_w]
            rfl
          refine pure_ (i := 11) (N := some 9) (v := ?_) (a' := ?_) #[true, true, true, true, true, true, true, true, true, true, true, true] rfl rfl (by kernel_rfl) (fun _ _ _ h => h) (Or.inl ⟨by rfl, ?_⟩) ?_ ?_
          rotate_left
          · intro w'
            go_simp
            with_reducible rfl
          rotate_left
          · simp only [Act.put, List.setIfInBounds_toArray, List.set_cons_zero, List.set_cons_succ, i64_w, i32_w]
            rfl
          refine done_ (by kernel_rfl) ?_
          go_wp2_with (first
            | (go_at_call 52; ((with_reducible refine (TA.out _ ?ht).mono ?_); (case ht => exact Tabs_at HT.out (by repeat (first | exact HW.out.1 | apply pw_below_drewN | apply below_drew1))); rintro e W1 ⟨rfl, q1⟩; have HQ := Lib.hid (HW.out.1.trans ((show Below wr.heap.size wr W1 by repeat (first | exact q1 | apply undrewN | apply undrew1)).mono hszW)); have own1 := own_below HW.out.2 (show Below wr.heap.size wr W1 by repeat (first | exact q1 | apply undrewN | apply undrew1)); have hs1 := q1.size; clear q1))
            | (at_builtin; refine Lib.wpList_append_own_string (w := W1) rfl (.tmp 32) (.tmp 37) 89 9 rfl w.heap.size 5 i0 Tryd.underlying89 Tryd.underlying9 hi0 hz0 hz1 hz2 _ _ _ rfl own1 (termB q) rfl hlm hlb (by have h9 : wr.heap.size ≤ W1.heap.size := (by exact hs1); omega) ?_; intro v6 W2 q1 q2 _; have HQ2 := Lib.hid (And.intro (HQ.out.grown q2 (by have h9 : wr.heap.size ≤ W1.heap.size := (by exact hs1); omega) (fun j e => (own1.lt _ e).1)) q1); clear q1 q2)
            | go_in)
          go_roundw
          case rel => exact ⟨i + 1, by omega, by rw [HNI.out], by go_num, Lib.hid ⟨HQ2.out.1, by have := HQ2.out.2; rw [termB_cells, ← byteCells_app, ← HSN.out] at this; rw [termB_size, ← List.length_append, ← HSN.out] at this; exact this⟩⟩
          case measure => simp [intOf]; omega
      · have hlt2 : ¬ (i : Int) < (k.length : Int) := by omega
        have hie : i = k.length := by omega
        have htk : k.take (i + 1) = k.take i := by rw [List.take_of_length_le (by omega), List.take_of_length_le (by omega)]
        have HTK := Lib.hid htk
        clear htk hl1 hl2 hie
        cases hf : numF (keysOf es p) (wordB (k.take i)) with
        | some v =>
          rw [hf] at hnI hlkg
          simp only [Option.getD_some, Option.isSome_some] at hnI hlkg
          have HLK := Lib.hid hlkg
          have HNI := Lib.hid hnI
          have lk5 := hlkg _ (by exact HW.out.1)
          have HCV := Lib.hid cv
          clear hlkg hnI hf cv
          go_wp2
          refine start_ (n := 12) (S := fun w' => w'.cell? ⟨tb, 5, none⟩ = some (.map (some L.nb)) ∧ (Instr.lookup 78 (.map (some L.nb)) (.string (wordB (k.take i))) true).run Tryd.prog w' = .ok (.tuple #[.int .i64 v, .bool true]) w' ∧ (convert 89 9 u6).run Tryd.prog w' = .ok (.string (wordB (k.take i))) w') (ds := []) #[false, false, false, false, false, false, false, false, false, false, false, false] (by kernel_rfl) rfl rfl ⟨k5, HLK.out _ (by repeat (first | exact HW.out.1 | apply pw_below_drewN | apply below_drew1)), HCV.out _ rfl⟩ (fun hHeld => ?_)
          refine pure_ (i := 0) (N := some 17) (v := ?_) (a' := ?_) #[true, false, false, false, false, false, false, false, false, false, false, false] rfl rfl (by kernel_rfl) (fun _ _ _ h => h) (Or.inl ⟨by rfl, ?_⟩) ?_ ?_
          rotate_left
          · intro w'
            go_simp
            with_reducible rfl
          rotate_left
          · simp only [Act.put, List.setIfInBounds_toArray, List.set_cons_zero, List.set_cons_succ, i64_w, i32_w]
            rfl
          refine pure_ (i := 1) (N := some 18) (v := ?_) (a' := ?_) #[true, true, false, false, false, false, false, false, false, false, false, false] rfl rfl (by kernel_rfl) (fun _ _ _ h => h) (Or.inl ⟨by rfl, ?_⟩) ?_ ?_
          rotate_left
          · intro w'
            go_simp
            with_reducible rfl
          rotate_left
          · simp only [Act.put, List.setIfInBounds_toArray, List.set_cons_zero, List.set_cons_succ, i64_w, i32_w]
            rfl
          refine pure_ (i := 2) (N := some 19) (v := ?_) (a' := ?_) #[true, true, true, false, false, false, false, false, false, false, false, false] rfl rfl (by kernel_rfl) (fun _ _ _ h => h) (Or.inl ⟨by rfl, ?_⟩) ?_ ?_
          rotate_left
          · intro w'
            go_simp
            with_reducible rfl
          rotate_left
          · simp only [Act.put, List.setIfInBounds_toArray, List.set_cons_zero, List.set_cons_succ, i64_w, i32_w]
            rfl
          refine pure_ (i := 4) (N := some 21) (v := ?_) (a' := ?_) #[true, true, true, false, true, false, false, false, false, false, false, false] rfl rfl (by kernel_rfl) (fun _ _ _ h => h) (Or.inl ⟨by rfl, ?_⟩) ?_ ?_
          rotate_left
          · intro w'
            go_simp
            with_reducible rfl
          rotate_left
          · simp only [Act.put, List.setIfInBounds_toArray, List.set_cons_zero, List.set_cons_succ, i64_w, i32_w]
            rfl
          refine take_ (i := 3) (N := some 20) (v := ?_) (a' := ?_) #[true, true, true, true, true, false, false, false, false, false, false, false] rfl rfl (by kernel_rfl) (fun _ _ _ h => h) (Or.inl ⟨by rfl, ?_⟩) hHeld ?_ ?_
          rotate_left
          · rintro w' ⟨s0, s1, s2⟩
            go_simp
            with_reducible rfl
          rotate_left
          · simp only [Act.put, List.setIfInBounds_toArray, List.set_cons_zero, List.set_cons_succ, i64_w, i32_w]
            rfl
          refine one_ (i := 5) (N := some 22) #[true, true, true, true, true, true, false, false, false, false, false, false] rfl rfl (by kernel_rfl) (by decide) (fun K hK => ?_)
          refine value_ (w1 := ?_) (v := ?_) (by rfl) rfl ?_ ?_
          rotate_left 2
          · obtain ⟨s0, s1, s2⟩ := hHeld
            go_simp
            constructor
            · rfl
            · rfl
          refine hK.out _ _ ⟨hHeld.1, hHeld.2.1, hHeld.2.2⟩ (fun hHeld => ?_)
          clear hK K
          refine norm_ (a' := ?_) ?_ ?_
          rotate_left
          · show Act.put _ (some 22) _ = _
            simp only [Act.put, List.setIfInBounds_toArray, List.set_cons_zero, List.set_cons_succ, i64_w, i32_w]
            rfl
          refine take_ (i := 6) (N := some 23) (v := ?_) (a' := ?_) #[true, true, true, true, true, true, true, false, false, false, false, false] rfl rfl (by kernel_rfl) (fun _ _ _ h => h) (Or.inl ⟨by rfl, ?_⟩) hHeld ?_ ?_
          rotate_left
          · rintro w' ⟨s0, s1, s2⟩
            go_simp
            with_reducible rfl
          rotate_left
          · simp only [Act.put, List.setIfInBounds_toArray, List.set_cons_zero, List.set_cons_succ, i64_w, i32_w]
            rfl
          refine pure_ (i := 7) (N := some 16) (v := ?_) (a' := ?_) #[true, true, true, true, true, true, true, true, false, false, false, false] rfl rfl (by kernel_rfl) (fun _ _ _ h => h) (Or.inl ⟨by rfl, ?_⟩) ?_ ?_
          rotate_left
          · intro w'
            go_simp
            with_reducible rfl
          rotate_left
          · simp only [Act.put, List.setIfInBounds_toArray, List.set_cons_zero, List.set_cons_succ, i64_w, i32_w]
            rfl
          refine pure_ (i := 8) (N := some 24) (v := ?_) (a' := ?_) #[true, true, true, true, true, true, true, true, true, false, false, false] rfl rfl (by kernel_rfl) (fun _ _ _ h => h) (Or.inl ⟨by rfl, ?_⟩) ?_ ?_
          rotate_left
          · intro w'
            go_simp
            with_reducible rfl
          rotate_left
          · simp only [Act.put, List.setIfInBounds_toArray, List.set_cons_zero, List.set_cons_succ, i64_w, i32_w]
            rfl
          refine pure_ (i := 9) (N := some 25) (v := ?_) (a' := ?_) #[true, true, true, true, true, true, true, true, true, true, false, false] rfl rfl (by kernel_rfl) (fun _ _ _ h => h) (Or.inl ⟨by rfl, ?_⟩) ?_ ?_
          rotate_left
          · intro w'
            go_simp
            with_reducible rfl
          rotate_left
          · simp only [Act.put, List.setIfInBounds_toArray, List.set_cons_zero, List.set_cons_succ, i64_w, i32_w]
            rfl
          refine pure_ (i := 10) (N := some 8) (v := ?_) (a' := ?_) #[true, true, true, true, true, true, true, true, true, true, true, false] rfl rfl (by kernel_rfl) (fun _ _ _ h => h) (Or.inl ⟨by rfl, ?_⟩) ?_ ?_
          rotate_left
          · intro w'
            go_simp
            with_reducible rfl
          rotate_left
          · simp only [Act.put, List.setIfInBounds_toArray, List.set_cons_zero, List.set_cons_succ, i64_w, i32_w]
            rfl
          refine pure_ (i := 11) (N := some 9) (v := ?_) (a' := ?_) #[true, true, true, true, true, true, true, true, true, true, true, true] rfl rfl (by kernel_rfl) (fun _ _ _ h => h) (Or.inl ⟨by rfl, ?_⟩) ?_ ?_
          rotate_left
          · intro w'
            go_simp
            with_reducible rfl
          rotate_left
          · simp only [Act.put, List.setIfInBounds_toArray, List.set_cons_zero, List.set_cons_succ, i64_w, i32_w]
            rfl
          refine done_ (by kernel_rfl) ?_
          go_wp2
          go_roundw
          case rel => exact ⟨i + 1, by omega, by rw [HNI.out], by go_num, Lib.hid (by rw [HTK.out]; exact ⟨by repeat (first | exact HW.out.1 | apply pw_below_drewN | apply below_drew1), HW.out.2⟩)⟩
          case measure => simp [intOf]; omega
        | none =>
          rw [hf] at hnI hlkg
          simp only [Option.getD_none, Option.isSome_none] at hnI hlkg
          have HLK := Lib.hid hlkg
          have HNI := Lib.hid hnI
          have lk5 := hlkg _ (by exact HW.out.1)
          have HCV := Lib.hid cv
          clear hlkg hnI hf cv
          go_wp2
          refine start_ (n := 12) (S := fun w' => w'.cell? ⟨tb, 5, none⟩ = some (.map (some L.nb)) ∧ (Instr.lookup 78 (.map (some L.nb)) (.string (wordB (k.take i))) true).run Tryd.prog w' = .ok (.tuple #[.int .i64 0, .bool false]) w' ∧ (convert 89 9 u6).run Tryd.prog w' = .ok (.string (wordB (k.take i))) w') (ds := []) #[false, false, false, false, false, false, false, false, false, false, false, false] (by kernel_rfl) rfl rfl ⟨k5, HLK.out _ (by repeat (first | exact HW.out.1 | apply pw_below_drewN | apply below_drew1)), HCV.out _ rfl⟩ (fun hHeld => ?_)
          refine pure_ (i := 0) (N := some 17) (v := ?_) (a' := ?_) #[true, false, false, false, false, false, false, false, false, false, false, false] rfl rfl (by kernel_rfl) (fun _ _ _ h => h) (Or.inl ⟨by rfl, ?_⟩) ?_ ?_
          rotate_left
          · intro w'
            go_simp
            with_reducible rfl
          rotate_left
          · simp only [Act.put, List.setIfInBounds_toArray, List.set_cons_zero, List.set_cons_succ, i64_w, i32_w]
            rfl
          refine pure_ (i := 1) (N := some 18) (v := ?_) (a' := ?_) #[true, true, false, false, false, false, false, false, false, false, false, false] rfl rfl (by kernel_rfl) (fun _ _ _ h => h) (Or.inl ⟨by rfl, ?_⟩) ?_ ?_
          rotate_left
          · intro w'
            go_simp
            with_reducible rfl
          rotate_left
          · simp only [Act.put, List.setIfInBounds_toArray, List.set_cons_zero, List.set_cons_succ, i64_w, i32_w]
            rfl
          refine pure_ (i := 2) (N := some 19) (v := ?_) (a' := ?_) #[true, true, true, false, false, false, false, false, false, false, false, false] rfl rfl (by kernel_rfl) (fun _ _ _ h => h) (Or.inl ⟨by rfl, ?_⟩) ?_ ?_
          rotate_left
          · intro w'
            go_simp
            with_reducible rfl
          rotate_left
          · simp only [Act.put, List.setIfInBounds_toArray, List.set_cons_zero, List.set_cons_succ, i64_w, i32_w]
            rfl
          refine pure_ (i := 4) (N := some 21) (v := ?_) (a' := ?_) #[true, true, true, false, true, false, false, false, false, false, false, false] rfl rfl (by kernel_rfl) (fun _ _ _ h => h) (Or.inl ⟨by rfl, ?_⟩) ?_ ?_
          rotate_left
          · intro w'
            go_simp
            with_reducible rfl
          rotate_left
          · simp only [Act.put, List.setIfInBounds_toArray, List.set_cons_zero, List.set_cons_succ, i64_w, i32_w]
            rfl
          refine take_ (i := 3) (N := some 20) (v := ?_) (a' := ?_) #[true, true, true, true, true, false, false, false, false, false, false, false] rfl rfl (by kernel_rfl) (fun _ _ _ h => h) (Or.inl ⟨by rfl, ?_⟩) hHeld ?_ ?_
          rotate_left
          · rintro w' ⟨s0, s1, s2⟩
            go_simp
            with_reducible rfl
          rotate_left
          · simp only [Act.put, List.setIfInBounds_toArray, List.set_cons_zero, List.set_cons_succ, i64_w, i32_w]
            rfl
          refine one_ (i := 5) (N := some 22) #[true, true, true, true, true, true, false, false, false, false, false, false] rfl rfl (by kernel_rfl) (by decide) (fun K hK => ?_)
          refine value_ (w1 := ?_) (v := ?_) (by rfl) rfl ?_ ?_
          rotate_left 2
          · obtain ⟨s0, s1, s2⟩ := hHeld
            go_simp
            constructor
            · rfl
            · rfl
          refine hK.out _ _ ⟨hHeld.1, hHeld.2.1, hHeld.2.2⟩ (fun hHeld => ?_)
          clear hK K
          refine norm_ (a' := ?_) ?_ ?_
          rotate_left
          · show Act.put _ (some 22) _ = _
            simp only [Act.put, List.setIfInBounds_toArray, List.set_cons_zero, List.set_cons_succ, i64_w, i32_w]
            rfl
          refine take_ (i := 6) (N := some 23) (v := ?_) (a' := ?_) #[true, true, true, true, true, true, true, false, false, false, false, false] rfl rfl (by kernel_rfl) (fun _ _ _ h => h) (Or.inl ⟨by rfl, ?_⟩) hHeld ?_ ?_
          rotate_left
          · rintro w' ⟨s0, s1, s2⟩
            go_simp
            with_reducible rfl
          rotate_left
          · simp only [Act.put, List.setIfInBounds_toArray, List.set_cons_zero, List.set_cons_succ, i64_w, i32_w]
            rfl
          refine pure_ (i := 7) (N := some 16) (v := ?_) (a' := ?_) #[true, true, true, true, true, true, true, true, false, false, false, false] rfl rfl (by kernel_rfl) (fun _ _ _ h => h) (Or.inl ⟨by rfl, ?_⟩) ?_ ?_
          rotate_left
          · intro w'
            go_simp
            with_reducible rfl
          rotate_left
          · simp only [Act.put, List.setIfInBounds_toArray, List.set_cons_zero, List.set_cons_succ, i64_w, i32_w]
            rfl
          refine pure_ (i := 8) (N := some 24) (v := ?_) (a' := ?_) #[true, true, true, true, true, true, true, true, true, false, false, false] rfl rfl (by kernel_rfl) (fun _ _ _ h => h) (Or.inl ⟨by rfl, ?_⟩) ?_ ?_
          rotate_left
          · intro w'
            go_simp
            with_reducible rfl
          rotate_left
          · simp only [Act.put, List.setIfInBounds_toArray, List.set_cons_zero, List.set_cons_succ, i64_w, i32_w]
            rfl
          refine pure_ (i := 9) (N := some 25) (v := ?_) (a' := ?_) #[true, true, true, true, true, true, true, true, true, true, false, false] rfl rfl (by kernel_rfl) (fun _ _ _ h => h) (Or.inl ⟨by rfl, ?_⟩) ?_ ?_
          rotate_left
          · intro w'
            go_simp
            with_reducible rfl
          rotate_left
          · simp only [Act.put, List.setIfInBounds_toArray, List.set_cons_zero, List.set_cons_succ, i64_w, i32_w]
            rfl
          refine pure_ (i := 10) (N := some 8) (v := ?_) (a' := ?_) #[true, true, true, true, true, true, true, true, true, true, true, false] rfl rfl (by kernel_rfl) (fun _ _ _ h => h) (Or.inl ⟨by rfl, ?_⟩) ?_ ?_
          rotate_left
          · intro w'
            go_simp
            with_reducible rfl
          rotate_left
          · simp only [Act.put, List.setIfInBounds_toArray, List.set_cons_zero, List.set_cons_succ, i64_w, i32_w]
            rfl
          refine pure_ (i := 11) (N := some 9) (v := ?_) (a' := ?_) #[true, true, true, true, true, true, true, true, true, true, true, true] rfl rfl (by kernel_rfl) (fun _ _ _ h => h) (Or.inl ⟨by rfl, ?_⟩) ?_ ?_
          rotate_left
          · intro w'
            go_simp
            with_reducible rfl
          rotate_left
          · simp only [Act.put, List.setIfInBounds_toArray, List.set_cons_zero, List.set_cons_succ, i64_w, i32_w]
            rfl
          refine done_ (by kernel_rfl) ?_
          go_wp2
          go_roundw
          case rel => exact ⟨i + 1, by omega, by rw [HNI.out], by go_num, Lib.hid (by rw [HTK.out]; exact ⟨by repeat (first | exact HW.out.1 | apply pw_below_drewN | apply below_drew1), HW.out.2⟩)⟩
          case measure => simp [intOf]; omega
    · have hlt1 : ¬ (i : Int) < ((k.length + 1 : Nat) : Int) := by omega
      obtain rfl : i = k.length + 1 := by omega
      go_wp2
      go_ret
      exact ⟨rfl, HW.out.1⟩
/-- What Children answers. -/
def childL (n : Nat) (PI : Nat → Nat) (x : Int) : List Int := ((List.range n).filter fun j => decide (0 < j) && decide ((PI j : Int) = x)).map fun (j : Nat) => (j : Int)
theorem childL_mem {n : Nat} {PI : Nat → Nat} {x y : Int} : y ∈ childL n PI x ↔ ∃ j : Nat, y = (j : Int) ∧ 0 < j ∧ j < n ∧ (PI j : Int) = x := by
  unfold childL
  simp only [List.mem_map, List.mem_filter, List.mem_range, Bool.and_eq_true, decide_eq_true_eq]
  exact ⟨fun ⟨j, ⟨a1, a2, a3⟩, a4⟩ => ⟨j, a4.symm, a2, a1, a3⟩, fun ⟨j, a1, a2, a3, a4⟩ => ⟨j, ⟨a3, a2, a4⟩, a1.symm⟩⟩
theorem childL_ris (n : Nat) (PI : Nat → Nat) (x : Int) : (childL n PI x).Pairwise (fun a b => a < b) := by
  unfold childL
  refine List.Pairwise.map _ (R := fun (a b : Nat) => a < b) (fun a b h => by omega) ?_
  exact (List.pairwise_lt_range).filter _
theorem ris_eq : ∀ {a b : List Int}, a.Pairwise (fun x y => x < y) → b.Pairwise (fun x y => x < y) → (∀ x, x ∈ a ↔ x ∈ b) → a = b
  | [], [], _, _, _ => rfl
  | [], y :: b, _, _, h => absurd ((h y).2 (by simp)) (by simp)
  | x :: a, [], _, _, h => absurd ((h x).1 (by simp)) (by simp)
  | x :: a, y :: b, ha, hb, h => by
    rw [List.pairwise_cons] at ha hb
    have hxy : x = y := by
      rcases List.mem_cons.1 ((h x).1 (by simp)) with h1 | h1
      · exact h1
      · rcases List.mem_cons.1 ((h y).2 (by simp)) with h2 | h2
        · exact h2.symm
        · have := ha.1 y h2; have := hb.1 x h1; omega
    subst hxy
    congr 1
    refine ris_eq ha.2 hb.2 fun z => ⟨fun hz => ?_, fun hz => ?_⟩
    · have h1 := ha.1 z hz
      rcases List.mem_cons.1 ((h z).1 (List.mem_cons_of_mem _ hz)) with h2 | h2
      · omega
      · exact h2
    · have h1 := hb.1 z hz
      rcases List.mem_cons.1 ((h z).2 (List.mem_cons_of_mem _ hz)) with h2 | h2
      · omega
      · exact h2
theorem sortZ_child {n : Nat} {PI : Nat → Nat} {Z : Int → List Int} (h : KidQ n PI (fun _ => true) Z) {x : Int} (hx : wfi x) : sortZ (Z x) = childL n PI x := by
  obtain ⟨h1, h2⟩ := h x hx
  have hnd : (sortZ (Z x)).Nodup := (sortZ_perm _).nodup_iff.2 h1
  refine ris_eq ?_ (childL_ris n PI x) fun y => ?_
  · exact (List.Pairwise.and (sortZ_sorted (Z x)) hnd).imp (fun h => by omega)
  · rw [(sortZ_perm _).mem_iff, h2, childL_mem]
    exact ⟨fun ⟨j, a1, a2, a3, _, a5⟩ => ⟨j, a1, a2, a3, a5⟩, fun ⟨j, a1, a2, a3, a4⟩ => ⟨j, a1, a2, a3, rfl, a4⟩⟩
theorem TreeAt.child (h : TreeAt es p n PI tb w) {x : Int} (hx : wfi x) : ∃ kb base v, w.cell? ⟨tb, 4, none⟩ = some (.map (some kb)) ∧ (∀ w' : World, w'.heap[kb]? = w.heap[kb]? → (Instr.lookup 77 (.map (some kb)) (.int .i64 x) false).run Tryd.prog w' = .ok v w') ∧ w.ownsInts base 3 .i64 v (childL n PI x) ∧ kb < w.heap.size ∧ (childL n PI x).length ≤ n := by
  obtain ⟨L, eg, ec, g2, cap, pc, e, V, Z, a1, a2, a3, a4, a5, a6, a7, _, a9, a10, a11, a12, a13, a14, a15, a16⟩ := h
  obtain ⟨b1, b2, b3⟩ := a14 x hx
  rw [sortZ_child a15 hx] at b2
  exact ⟨L.kb, L.base, V x, a5.get 4 _ rfl, b1, b2, a13, by rw [← sortZ_child a15 hx, sortZ_len]; exact b3⟩
theorem ints_form {w : World} {base : Nat} {v : Value} {zs : List Int} (h : w.ownsInts base 3 .i64 v zs) : ∃ A c, v = .slice A zs.length c ∧ zs.length ≤ c ∧ (∀ ad, A = some ad → ∀ (j : Nat) (u : Value), (zs.map (Value.int .i64))[j]? = some u → w.cell? (ad.add j) = some u) ∧ (A = none → zs.length = 0) := by
  rcases h.1.2 with ⟨rfl, h0⟩ | ⟨g, cap, cur, rfl, h3, h4, h5, h6, h7, h8⟩
  · exact ⟨none, 0, by rw [h0], by omega, (fun ad e => nomatch e), fun _ => h0⟩
  · refine ⟨_, cap, rfl, h5, fun ad e j u hu => ?_, (fun e => nomatch e)⟩
    obtain rfl := Option.some.inj e
    have hat : At w g cur.toList 3 := h4
    have hj : j < zs.length := by have := (List.getElem?_eq_some_iff.1 hu).1; simpa using this
    rw [add_off, Nat.zero_add, hat.cell, ← hu, ← h8, List.getElem?_take_of_lt (by omega)]
set_option maxRecDepth 100000 in
theorem children_as (h : TreeAt es p n PI tb w) (hn : n ≤ 1048576) (x : Int) (hx : wfi x) : Calls Tryd.prog 37 #[TP tb, .int .i64 x] w fun e w' => ∃ v, e = .returned v ∧ w'.ownsInts w.heap.size 3 .i64 v (childL n PI x) ∧ Below w.heap.size w w' := by
  obtain ⟨kb, base, v, k4, hlk, hoi, hkb, hle⟩ := TreeAt.child h hx
  obtain ⟨A, c, rfl, _, hc, h0⟩ := ints_form hoi
  have lk := hlk w rfl
  have hwf := hoi.2
  have CC := Lib.hid (clone54_as w A (childL n PI x).length c ((childL n PI x).map (Value.int .i64)) (by simp) hc h0 (by simp [Value.oneCell']) (by omega))
  have HWF := Lib.hid hwf
  clear hlk hoi hc h0 hwf h
  go_enter Tryd.func37, Tryd.ntmps37
  go_wp2_with (first
    | (go_at_call 54; ((with_reducible refine CC.out.mono ?_); rintro e W1 ⟨v1, rfl, q1, q2⟩; have HQ := Lib.hid (And.intro q1 q2); clear q1 q2))
    | go_in)
  go_ret
  exact ⟨v1, rfl, ⟨HQ.out.1, HWF.out⟩, HQ.out.2⟩
theorem fit_ent {es : List S45} (h : Fit es) (q : Nat) : (ent es q).f2.length ≤ 1048576 ∧ (ent es q).f3.length ≤ 1048576 ∧ ∀ a ∈ (ent es q).f3, a.f2.length ≤ 1048576 := by
  rcases Nat.lt_or_ge q es.length with h1 | h1
  · have hm := DitPure.getD_mem es z45 h1
    exact ⟨(h.key _ hm).1, (h.att _ hm).1, (h.att _ hm).2⟩
  · have : ent es q = z45 := by simp [ent, List.getD_eq_getElem?_getD, List.getElem?_eq_none h1]
    rw [this]
    exact ⟨by decide, by decide, fun a ha => by cases ha⟩
/-- The answer laid into the result's cell. -/
theorem copyQ_keep {w W9 Wf : World} {x : S45} {e : Ending} (o : Obj) {v0 v1 v2 v3 : Value} (h : CopyQ (w.alloc o) x e W9) (hf : Wf = (((W9.setCell ⟨w.heap.size, 0, none⟩ v0).setCell ⟨w.heap.size, 1, none⟩ v1).setCell ⟨w.heap.size, 2, none⟩ v2).setCell ⟨w.heap.size, 3, none⟩ v3) : CopyQ w x e Wf := by
  obtain ⟨B2, d2, B3, d3, rfl, c2, c3, rd, hb⟩ := h
  have hg : W9.grownBy Wf (some w.heap.size) := by rw [hf]; exact grown_set (grown_set (grown_set (grown_set (grown_refl _ _) _ _) _ _) _ _) _ _
  have hz : Wf.heap.size = W9.heap.size := by rw [hf]; simp only [World.size_setCell]
  have hs := hb.size
  rw [World.size_alloc] at hs
  have hB : Below w.heap.size w W9 := (below_alloc (Below.refl w.heap.size w) o).trans (hb.mono (by rw [World.size_alloc]; omega))
  refine ⟨B2, d2, B3, d3, rfl, c2, c3, fun W hW => rd W fun k h1 h2 => ?_, hB.grown hg hB.size (fun j e => by have := Option.some.inj e; omega)⟩
  rw [World.size_alloc] at h1
  exact (hW k (by omega) (by omega)).trans (hg.block k h2 (fun e => by have := Option.some.inj e; omega))
/-- What Entry answers. -/
def entryR (es : List S45) (p : List Nat) (n : Nat) (x : Int) : S45 := if isIn n x = true then ent es (p.getD x.toNat 0) else z45
set_option maxRecDepth 100000 in
theorem entry_as (h : TreeAt es p n PI tb w) (hF : Fit es) (x : Int) : Calls Tryd.prog 27 #[TP tb, .int .i64 x] w (CopyQ w (entryR es p n x)) := by
  have HT := Lib.hid h
  have hlt := h.lt
  obtain ⟨L, eg, ec, g2, cap, pc, e, V, Z, a1, a2, a3, a4, a5, a6, a7, _⟩ := h
  have k0 : (w.alloc (.cells #[.int .i64 0, .string ⟨#[]⟩, .slice none 0 0, .slice none 0 0] 45)).cell? ⟨tb, 0, none⟩ = some (.slice (some ⟨eg, 0, none⟩) n ec) := (a5.alloc _).get 0 _ rfl
  have hBA : Below w.heap.size w (w.alloc (.cells #[.int .i64 0, .string ⟨#[]⟩, .slice none 0 0, .slice none 0 0] 45)) := below_alloc (Below.refl _ _) _
  have HH := Lib.hid (has_as (HT.out.below hBA) x)
  have HOUT := Lib.hid (At.fresh w [.int .i64 0, .string ⟨#[]⟩, .slice none 0 0, .slice none 0 0] 45)
  unfold entryR
  cases hb : isIn n x with
  | true =>
    rw [hb] at HH
    obtain ⟨j, rfl, hj⟩ := isIn_nat hb
    have hltj : (j : Int) < (n : Int) := by omega
    have hE := (a7 j hj).below a6 hBA
    obtain ⟨f1, f2, f3⟩ := fit_ent hF (p.getD j 0)
    rw [if_pos rfl, Int.toNat_natCast]
    generalize ent es (p.getD j 0) = y at hE f1 f2 f3
    have e0 := hE.c0
    have e1 := hE.c1
    obtain ⟨A2, d2, q2, A3, d3, e2, e3, hr2, hl3, hC3⟩ := hE.more
    have CC := Lib.hid (copied_as _ y A2 A3 d2 d3 (CS_of_row hr2 (by omega)) hr2.cap hC3 hl3 f1 f2 f3)
    have HBA := Lib.hid hBA
    clear a1 a2 a3 a4 a5 a6 a7 hb hE f1 f2 f3 hr2 hl3 hC3 hBA
    go_enter Tryd.func27, Tryd.ntmps27
    go_wp2_with (first
      | (go_at_call 51; ((with_reducible refine HH.out.mono ?_); rintro e W1 ⟨rfl, rfl⟩))
      | (go_at_call 48; go_loud ((with_reducible refine CC.out.mono ?_); rintro e W9 ⟨B9, d9, C9, f9, rfl, q1, q2, q3, q4⟩; have HQ := Lib.hid (And.intro q1 (And.intro q2 (And.intro q3 q4))); have HO := Lib.hid (HOUT.out.below q4 (by rw [World.size_alloc]; omega)); have r0 := HO.out.get 0 _ rfl; have r1 := HO.out.get 1 _ rfl; have r2 := HO.out.get 2 _ rfl; have r3 := HO.out.get 3 _ rfl; have s0 := HO.out.free 0; have s1 := HO.out.free 1; have s2 := HO.out.free 2; have s3 := HO.out.free 3; clear q1 q2 q3 q4))
      | go_in)
    refine bodyPost_ret (results_cell_row rfl _ _ w.heap.size 45 #[.int .i64 y.f0, .string y.f1, .slice B9 y.f2.length d9, .slice C9 y.f3.length f9] (0, 0) _ rfl (by exact (((HO.out.set 0 _).set 1 _).set 2 _).set 3 _) Tryd.underlying45 rfl (by kernel_rfl)) rfl ?_
    exact copyQ_keep _ ⟨B9, d9, C9, f9, rfl, HQ.out.1, HQ.out.2.1, HQ.out.2.2.1, HQ.out.2.2.2⟩ rfl
  | false =>
    rw [hb] at HH
    rw [if_neg (by simp)]
    have HBA := Lib.hid hBA
    clear a1 a2 a3 a4 a5 a6 a7 hb hBA
    go_enter Tryd.func27, Tryd.ntmps27
    go_wp2_with (first
      | (go_at_call 51; go_loud ((with_reducible refine HH.out.mono ?_); rintro e W9 ⟨rfl, eW⟩; have HO := Lib.hid (show At W9 w.heap.size [.int .i64 0, .string ⟨#[]⟩, .slice none 0 0, .slice none 0 0] 45 by rw [eW]; exact HOUT.out); have HEW := Lib.hid eW; clear eW; have r0 := HO.out.get 0 _ rfl; have r1 := HO.out.get 1 _ rfl; have r2 := HO.out.get 2 _ rfl; have r3 := HO.out.get 3 _ rfl; have s0 := HO.out.free 0; have s1 := HO.out.free 1; have s2 := HO.out.free 2; have s3 := HO.out.free 3))
      | go_in)
    refine bodyPost_ret (results_cell_row rfl _ _ w.heap.size 45 #[.int .i64 0, .string ⟨#[]⟩, .slice none 0 0, .slice none 0 0] (0, 0) _ rfl (by exact (((HO.out.set 0 _).set 1 _).set 2 _).set 3 _) Tryd.underlying45 rfl (by kernel_rfl)) rfl ?_
    exact copyQ_keep (.cells #[.int .i64 0, .string ⟨#[]⟩, .slice none 0 0, .slice none 0 0] 45) (W9 := W9) ⟨none, 0, none, 0, rfl, Nat.le_refl _, Nat.le_refl _, fun W _ => ⟨⟨rfl, Nat.zero_le _, fun hp => absurd hp (by decide)⟩, ⟨rfl, Nat.zero_le _, fun hp => absurd hp (by decide)⟩⟩, by rw [HEW.out]; exact Below.refl _ _⟩ rfl
end
end Go.Proofs.YtnogmaljcocfjaaDoor.DitMeth
namespace Go.Proofs.YtnogmaljcocfjaaDoor.RFun
open Go Go.RowKit
/-- What J says, it says on behind the iterator's own steps. -/
def Clos {β : Type} (R : World → World → Prop) (J : β → World → Prop) : Prop := ∀ s A B, J s A → R A B → J s B
/-- An iterator's contract: gf with lb captured hands out what S tells, or a part that Sp tells. -/
def SeqR {α : Type} (F : Fence) (n : Nat) (P : Program) (gf : Nat) (lb : Array Value) (encs : α → Array Value) (Kp R : World → World → Prop) (S Sp : List α → Prop) (N : Nat) (w : World) : Prop :=
  ∀ (l : Nat) (J Jx : List α → World → Prop) (W : World), W.heap.size = w.heap.size + 2 → Below w.heap.size w W → Clos R J → Clos R Jx →
    (∀ pre x W1, J pre W1 → pre.length < N → YieldAt F (n - 1) P l (encs x) W1 fun e W' => (e = .returned (.bool true) ∧ J (pre ++ [x]) W' ∧ Kp W1 W') ∨ (e = .returned (.bool false) ∧ Jx (pre ++ [x]) W')) →
    J [] W → CallsIn F n P gf (#[.func (.yield l) #[] #[]] ++ lb) W fun e W' => (∃ v, e = .returned v) ∧ ((∃ xs, S xs ∧ J xs W') ∨ (∃ pre, Sp pre ∧ Jx pre W'))
/-- The two blocks that the loop lays for itself: the rounds' deferred calls, and the loop's record. -/
def Books (D : Nat) (r : Loop) (W : World) : Prop := W.heap[D]? = some (.deferred (some [])) ∧ W.heap[D + 1]? = some (.loop r)
theorem Books.turn {D : Nat} {r r' : Loop} {W : World} (h : Books D r W) : Books D r' (W.putObj (D + 1) (.loop r')) :=
  ⟨(World.putObj_heap_other (by omega)).trans h.1, World.putObj_heap_same (Array.getElem?_eq_some_iff.1 h.2).1⟩
theorem Books.from {D : Nat} {r : Loop} {W W' : World} (h : Books D r W) (k : KeepsFrom D W W') : Books D r W' := ⟨k.same _ _ (Nat.le_refl _) h.1 rfl, k.same _ _ (by omega) h.2 rfl⟩
variable {F : Fence} {n : Nat} {P : Program}
theorem rf_law {α : Type} {g : Operand} {ps : Array Tmp} {assign body : Code} {Q : Exit → Act → World → Prop} {a : Act} {w : World} (hro : F.round = none) (h1 : 1 ≤ n) {gf : Nat} {lb : Array Value} (hg : a.eval g = .func (.func gf) #[] lb) (hFg : F.fn gf) (eg : ∀ args w, (callFunc gf args).run P w = .ok (.enter gf args) w)
    {encs : α → Array Value} {Kp R : World → World → Prop} {S Sp : List α → Prop} {N : Nat} (hseq : SeqR F (n - 1) P gf lb encs Kp R S Sp N w)
    (hRk : ∀ A B k o, R A B → k < w.heap.size + 2 → A.heap[k]? = some o → o.isCells = false → B.heap[k]? = some o)
    (hKt : ∀ {A B C : World}, Kp A B → Kp B C → Kp A C) (hKb : ∀ (W : World) (l : Nat) (o o' : Obj), w.heap.size ≤ l → W.heap[l]? = some o → o.isCells = false → Kp W (W.putObj l o')) (hps : ∀ x, (encs x).size = ps.size)
    (I : List α → World → Prop) (Ix : Code → List α → World → Prop) (hI : OwnFrom w.heap.size I) (hIR : Clos R I) (hIx : ∀ c, OwnFrom w.heap.size (Ix c)) (hIxR : ∀ c, Clos R (Ix c)) (h0 : I [] w) (a₁ : α → Act)
    (hassign : ∀ (l : Nat) (x : α) (W : World) (K : Act → World → Prop), K (a₁ x) W → assign.wpIn (F.inRound l) (n - 1 - 1) P (Exit.then K (fun _ _ _ => False)) { tmps := (ps.zip (encs x)).foldl (fun t (p, v) => t.setIfInBounds p v) a.tmps, defers := [] } W)
    (hbody : ∀ (l : Nat) (pre : List α) (x : α) (W : World), I pre W → pre.length < N → body.wpIn (F.inRound l) (n - 1 - 1) P (ownPostG w.heap.size Kp I Ix (pre ++ [x]) W) (a₁ x) W)
    (hdone : ∀ (D : Nat) (xs : List α) (W : World), w.heap.size ≤ D → S xs → I xs W → W.heap[D]? = some (.deferred (some [])) → Q .normal { a with defers := { target := .collected D, args := #[] } :: a.defers } W)
    (hstop : ∀ (D : Nat) (c : Code) (pre : List α) (W : World), w.heap.size ≤ D → Sp pre → Ix c pre W → W.heap[D]? = some (.deferred (some [])) → c.wpIn F n P Q { a with defers := { target := .collected D, args := #[] } :: a.defers } W) :
    (Code.rangeFunc g ps assign body).wpIn F n P Q a w := by
  refine wpIn_rangeFunc fun fn hfn => ?_
  rw [hro]
  have hzD : ∀ W : World, (W.alloc (.deferred (some []))).heap.size = W.heap.size + 1 := fun W => World.size_alloc _ _
  let R0 : LoopState → Option Code → Loop := fun st pe => { state := st, pending := pe, fn, tmps := a.tmps, params := ps, assign, body, defers := w.heap.size }
  have hb0 : Books w.heap.size (R0 .ready none) ((w.alloc (.deferred (some []))).alloc (.loop (R0 .ready none))) := by
    refine ⟨(Below.heap_alloc _ _ _ (by rw [hzD]; omega)).trans (World.alloc_heap_new w _), ?_⟩
    have := World.alloc_heap_new (w.alloc (.deferred (some []))) (.loop (R0 .ready none))
    rwa [hzD] at this
  have hw0 : Below w.heap.size w ((w.alloc (.deferred (some []))).alloc (.loop (R0 .ready none))) := ((Below.refl _ w).alloc (Nat.le_refl _) _).alloc (by rw [hzD]; omega) _
  have hi0 : I [] ((w.alloc (.deferred (some []))).alloc (.loop (R0 .ready none))) := hI.alloc _ (hI.alloc _ h0)
  have hz0 : ((w.alloc (.deferred (some []))).alloc (.loop (R0 .ready none))).heap.size = w.heap.size + 2 := by rw [World.size_alloc, hzD]
  refine ⟨w.heap.size + 1, _, ((w.alloc (.deferred (some []))).alloc (.loop (R0 .ready none))), { target := .fn (.func gf) lb, args := #[.func (.yield (w.heap.size + 1)) #[] #[]] }, ((w.alloc (.deferred (some []))).alloc (.loop (R0 .ready none))), gf, #[.func (.yield (w.heap.size + 1)) #[] #[]] ++ lb, ((w.alloc (.deferred (some []))).alloc (.loop (R0 .ready none))), run_enterLoop_outer fn a.tmps ps assign body, ?_, ?_, ?_, fun _ => h1, ?_⟩
  · simp only [resolve, hg]
    simp [go_sem]
  · intro f' hf'
    simp [Target.leads] at hf'
    subst hf'
    exact hFg
  · simp [invoke, go_sem, eg]
  have closB : ∀ {r : Loop} {A B : World}, Books w.heap.size r A → R A B → Books w.heap.size r B := fun hb hr => ⟨hRk _ _ _ _ hr (by omega) hb.1 rfl, hRk _ _ _ _ hr (by omega) hb.2 rfl⟩
  refine (hseq (w.heap.size + 1) (fun pre W => I pre W ∧ Books w.heap.size (R0 .ready none) W) (fun pre W => ∃ c, Ix c pre W ∧ Books w.heap.size (R0 .done (some c)) W) _ hz0 hw0
    (fun s A B hs hr => ⟨hIR s A B hs.1 hr, closB hs.2 hr⟩) (fun s A B hs hr => by obtain ⟨c, hc, hb⟩ := hs; exact ⟨c, hIxR c s A B hc hr, closB hb hr⟩) ?_ ⟨hi0, hb0⟩).mono ?_
  · rintro pre x W ⟨hi, hb⟩ hlen
    refine ⟨fn, _, assign, body, run_yield hb.2 (hps x), roundIn_of_wpIn hfn (hassign _ x W _ ⟨_, run_beginRound hb.2 rfl, ?_⟩)⟩
    have hb2 : Books w.heap.size (R0 .busy none) (W.putObj (w.heap.size + 1) (.loop (R0 .busy none))) := hb.turn
    refine wpIn_mono (hbody _ pre x _ (hI.putObj _ hi (by omega) hb.2 rfl) hlen) ?_
    have leave : ∀ (c : Code) (W3 : World), KeepsFrom w.heap.size (W.putObj (w.heap.size + 1) (.loop (R0 .busy none))) W3 → Ix c (pre ++ [x]) W3 →
        ∃ v W4, (Instr.endRound (w.heap.size + 1) (some c)).run P W3 = .ok v W4 ∧ ((Ending.returned v = .returned (.bool true) ∧ (I (pre ++ [x]) W4 ∧ Books w.heap.size (R0 .ready none) W4) ∧ Kp W W4) ∨ (Ending.returned v = .returned (.bool false) ∧ ∃ c, Ix c (pre ++ [x]) W4 ∧ Books w.heap.size (R0 .done (some c)) W4)) := fun c W3 hk hx => by
      have hb3 := hb2.from hk
      exact ⟨_, _, run_endRound (some c) hb3.2, .inr ⟨rfl, c, (hIx c).putObj _ hx (by omega) hb3.2 rfl, hb3.turn⟩⟩
    rintro e a3 W3 hp
    cases e with
    | normal =>
      obtain ⟨hk, hkp, hi3⟩ := hp
      have hb3 := hb2.from hk
      exact ⟨_, _, run_endRound none hb3.2, .inl ⟨rfl, ⟨hI.putObj _ hi3 (by omega) hb3.2 rfl, hb3.turn⟩, hKt (hKt (hKb _ _ _ _ (by omega) hb.2 rfl) hkp) (hKb _ _ _ _ (by omega) hb3.2 rfl)⟩⟩
    | ret => exact leave _ _ hp.1 hp.2
    | exit id => exact leave _ _ hp.1 hp.2
    | goto t => exact leave _ _ hp.1 hp.2
    | panic ch => exact hp.elim
    | outgrown => exact hp.elim
  · rintro e W2 ⟨⟨v, rfl⟩, (⟨xs, hS, hi, hb⟩ | ⟨pre, hSp, c, hi, hb⟩)⟩
    · exact ⟨none, _, run_endLoop hb.2 (by simp [R0]), hdone _ xs _ (Nat.le_refl _) hS (hI.putObj _ hi (by omega) hb.2 rfl) (Books.turn (r' := { R0 .ready none with state := .exhausted }) hb).1⟩
    · exact ⟨some c, _, run_endLoop hb.2 (by simp [R0]), hstop _ c pre _ (Nat.le_refl _) hSp ((hIx c).putObj _ hi (by omega) hb.2 rfl) (Books.turn (r' := { R0 .done (some c) with state := .exhausted }) hb).1⟩
end Go.Proofs.YtnogmaljcocfjaaDoor.RFun
namespace Go.Proofs.YtnogmaljcocfjaaDoor.RFun
open Go Go.RowKit
/-- An iterator's contract: gf with lb captured hands out what S tells, or a part that Sp tells; d blocks are laid ahead of the call. -/
def SeqG {α : Type} (F : Fence) (d n : Nat) (P : Program) (gf : Nat) (lb : Array Value) (encs : α → Array Value) (Kp R : World → World → Prop) (S Sp : List α → Prop) (N : Nat) (G : List α → α → World → Prop) (w : World) : Prop :=
  ∀ (l : Nat) (J Jx : List α → World → Prop) (W : World), W.heap.size = w.heap.size + d → Below w.heap.size w W → Clos R J → Clos R Jx →
    (∀ pre x W1, J pre W1 → pre.length < N → G pre x W1 → YieldAt F (n - 1) P l (encs x) W1 fun e W' => (e = .returned (.bool true) ∧ J (pre ++ [x]) W' ∧ Kp W1 W') ∨ (e = .returned (.bool false) ∧ Jx (pre ++ [x]) W' ∧ KeepsFrom (w.heap.size + d) W1 W')) →
    J [] W → CallsIn F n P gf (#[.func (.yield l) #[] #[]] ++ lb) W fun e W' => (∃ v, e = .returned v) ∧ ((∃ xs, S xs ∧ J xs W') ∨ (∃ pre, Sp pre ∧ Jx pre W'))
theorem kf_mono {B B' : Nat} {W W' : World} (h : KeepsFrom B W W') (hb : B ≤ B') : KeepsFrom B' W W' := ⟨h.size, fun k o h1 h2 h3 => h.same k o (Nat.le_trans hb h1) h2 h3⟩
theorem kf_put {B l : Nat} (W : World) (o : Obj) (h : l < B) : KeepsFrom B W (W.putObj l o) := KeepsFrom.of_grownBy (grownBy_putObj' W l o) (fun j e => by cases e; exact h)
variable {F : Fence} {n : Nat} {P : Program}
theorem rf_lawG {α : Type} {g : Operand} {ps : Array Tmp} {assign body : Code} {Q : Exit → Act → World → Prop} {a : Act} {w : World} (hro : F.round = none) (h1 : 1 ≤ n) {gf : Nat} {lb : Array Value} (hg : a.eval g = .func (.func gf) #[] lb) (hFg : F.fn gf) (eg : ∀ args w, (callFunc gf args).run P w = .ok (.enter gf args) w)
    {encs : α → Array Value} {Kp R : World → World → Prop} {S Sp : List α → Prop} {N : Nat} {G : List α → α → World → Prop} (hseq : SeqG F 2 (n - 1) P gf lb encs Kp R S Sp N G w) (hG : ∀ pre x (W : World) (o o' : Obj), W.heap[w.heap.size + 1]? = some o → o.isCells = false → G pre x W → G pre x (W.putObj (w.heap.size + 1) o'))
    (hRk : ∀ A B k o, R A B → k < w.heap.size + 2 → A.heap[k]? = some o → o.isCells = false → B.heap[k]? = some o)
    (hKt : ∀ {A B C : World}, Kp A B → Kp B C → Kp A C) (hKb : ∀ (W : World) (o o' : Obj), W.heap[w.heap.size + 1]? = some o → o.isCells = false → Kp W (W.putObj (w.heap.size + 1) o')) (hps : ∀ x, (encs x).size = ps.size)
    (I : List α → World → Prop) (Ix : Code → List α → World → Prop) (hI : OwnFrom w.heap.size I) (hIR : Clos R I) (hIx : ∀ c, OwnFrom w.heap.size (Ix c)) (hIxR : ∀ c, Clos R (Ix c)) (h0 : I [] w) (a₁ : α → Act)
    (hassign : ∀ (l : Nat) (x : α) (W : World) (K : Act → World → Prop), K (a₁ x) W → assign.wpIn (F.inRound l) (n - 1 - 1) P (Exit.then K (fun _ _ _ => False)) { tmps := (ps.zip (encs x)).foldl (fun t (p, v) => t.setIfInBounds p v) a.tmps, defers := [] } W)
    (hbody : ∀ (l : Nat) (pre : List α) (x : α) (W : World), l = w.heap.size + 1 → (∃ r, W.heap[l]? = some (.loop r)) → I pre W → pre.length < N → G pre x W → body.wpIn (F.inRound l) (n - 1 - 1) P (ownPostG w.heap.size Kp I Ix (pre ++ [x]) W) (a₁ x) W)
    (hdone : ∀ (D : Nat) (xs : List α) (W : World), w.heap.size ≤ D → S xs → I xs W → W.heap[D]? = some (.deferred (some [])) → Q .normal { a with defers := { target := .collected D, args := #[] } :: a.defers } W)
    (hstop : ∀ (D : Nat) (c : Code) (pre : List α) (W : World), w.heap.size ≤ D → Sp pre → Ix c pre W → W.heap[D]? = some (.deferred (some [])) → c.wpIn F n P Q { a with defers := { target := .collected D, args := #[] } :: a.defers } W) :
    (Code.rangeFunc g ps assign body).wpIn F n P Q a w := by
  refine wpIn_rangeFunc fun fn hfn => ?_
  rw [hro]
  have hzD : ∀ W : World, (W.alloc (.deferred (some []))).heap.size = W.heap.size + 1 := fun W => World.size_alloc _ _
  let R0 : LoopState → Option Code → Loop := fun st pe => { state := st, pending := pe, fn, tmps := a.tmps, params := ps, assign, body, defers := w.heap.size }
  have hb0 : Books w.heap.size (R0 .ready none) ((w.alloc (.deferred (some []))).alloc (.loop (R0 .ready none))) := by
    refine ⟨(Below.heap_alloc _ _ _ (by rw [hzD]; omega)).trans (World.alloc_heap_new w _), ?_⟩
    have := World.alloc_heap_new (w.alloc (.deferred (some []))) (.loop (R0 .ready none))
    rwa [hzD] at this
  have hw0 : Below w.heap.size w ((w.alloc (.deferred (some []))).alloc (.loop (R0 .ready none))) := ((Below.refl _ w).alloc (Nat.le_refl _) _).alloc (by rw [hzD]; omega) _
  have hi0 : I [] ((w.alloc (.deferred (some []))).alloc (.loop (R0 .ready none))) := hI.alloc _ (hI.alloc _ h0)
  have hz0 : ((w.alloc (.deferred (some []))).alloc (.loop (R0 .ready none))).heap.size = w.heap.size + 2 := by rw [World.size_alloc, hzD]
  refine ⟨w.heap.size + 1, _, ((w.alloc (.deferred (some []))).alloc (.loop (R0 .ready none))), { target := .fn (.func gf) lb, args := #[.func (.yield (w.heap.size + 1)) #[] #[]] }, ((w.alloc (.deferred (some []))).alloc (.loop (R0 .ready none))), gf, #[.func (.yield (w.heap.size + 1)) #[] #[]] ++ lb, ((w.alloc (.deferred (some []))).alloc (.loop (R0 .ready none))), run_enterLoop_outer fn a.tmps ps assign body, ?_, ?_, ?_, fun _ => h1, ?_⟩
  · simp only [resolve, hg]
    simp [go_sem]
  · intro f' hf'
    simp [Target.leads] at hf'
    subst hf'
    exact hFg
  · simp [invoke, go_sem, eg]
  have closB : ∀ {r : Loop} {A B : World}, Books w.heap.size r A → R A B → Books w.heap.size r B := fun hb hr => ⟨hRk _ _ _ _ hr (by omega) hb.1 rfl, hRk _ _ _ _ hr (by omega) hb.2 rfl⟩
  refine (hseq (w.heap.size + 1) (fun pre W => I pre W ∧ Books w.heap.size (R0 .ready none) W) (fun pre W => ∃ c, Ix c pre W ∧ Books w.heap.size (R0 .done (some c)) W) _ hz0 hw0
    (fun s A B hs hr => ⟨hIR s A B hs.1 hr, closB hs.2 hr⟩) (fun s A B hs hr => by obtain ⟨c, hc, hb⟩ := hs; exact ⟨c, hIxR c s A B hc hr, closB hb hr⟩) ?_ ⟨hi0, hb0⟩).mono ?_
  · rintro pre x W ⟨hi, hb⟩ hlen hg0
    refine ⟨fn, _, assign, body, run_yield hb.2 (hps x), roundIn_of_wpIn hfn (hassign _ x W _ ⟨_, run_beginRound hb.2 rfl, ?_⟩)⟩
    have hb2 : Books w.heap.size (R0 .busy none) (W.putObj (w.heap.size + 1) (.loop (R0 .busy none))) := hb.turn
    refine wpIn_mono (hbody _ pre x _ rfl ⟨_, hb2.2⟩ (hI.putObj _ hi (by omega) hb.2 rfl) hlen (hG _ _ _ _ _ hb.2 rfl hg0)) ?_
    have leave : ∀ (c : Code) (W3 : World), KeepsFrom w.heap.size (W.putObj (w.heap.size + 1) (.loop (R0 .busy none))) W3 → Ix c (pre ++ [x]) W3 →
        ∃ v W4, (Instr.endRound (w.heap.size + 1) (some c)).run P W3 = .ok v W4 ∧ ((Ending.returned v = .returned (.bool true) ∧ (I (pre ++ [x]) W4 ∧ Books w.heap.size (R0 .ready none) W4) ∧ Kp W W4) ∨ (Ending.returned v = .returned (.bool false) ∧ (∃ c, Ix c (pre ++ [x]) W4 ∧ Books w.heap.size (R0 .done (some c)) W4) ∧ KeepsFrom (w.heap.size + 2) W W4)) := fun c W3 hk hx => by
      have hb3 := hb2.from hk
      exact ⟨_, _, run_endRound (some c) hb3.2, .inr ⟨rfl, ⟨c, (hIx c).putObj _ hx (by omega) hb3.2 rfl, hb3.turn⟩, (KeepsFrom.trans (kf_put W _ (by omega)) (kf_mono hk (by omega))).trans (kf_put W3 _ (by omega))⟩⟩
    rintro e a3 W3 hp
    cases e with
    | normal =>
      obtain ⟨hk, hkp, hi3⟩ := hp
      have hb3 := hb2.from hk
      exact ⟨_, _, run_endRound none hb3.2, .inl ⟨rfl, ⟨hI.putObj _ hi3 (by omega) hb3.2 rfl, hb3.turn⟩, hKt (hKt (hKb _ _ _ hb.2 rfl) hkp) (hKb _ _ _ hb3.2 rfl)⟩⟩
    | ret => exact leave _ _ hp.1 hp.2
    | exit id => exact leave _ _ hp.1 hp.2
    | goto t => exact leave _ _ hp.1 hp.2
    | panic ch => exact hp.elim
    | outgrown => exact hp.elim
  · rintro e W2 ⟨⟨v, rfl⟩, (⟨xs, hS, hi, hb⟩ | ⟨pre, hSp, c, hi, hb⟩)⟩
    · exact ⟨none, _, run_endLoop hb.2 (by simp [R0]), hdone _ xs _ (Nat.le_refl _) hS (hI.putObj _ hi (by omega) hb.2 rfl) (Books.turn (r' := { R0 .ready none with state := .exhausted }) hb).1⟩
    · exact ⟨some c, _, run_endLoop hb.2 (by simp [R0]), hstop _ c pre _ (Nat.le_refl _) hSp ((hIx c).putObj _ hi (by omega) hb.2 rfl) (Books.turn (r' := { R0 .done (some c) with state := .exhausted }) hb).1⟩
/-- An iterator's contract goes into a round as it is. -/
theorem SeqG.inRound {α : Type} {d gf : Nat} {lb : Array Value} {encs : α → Array Value} {Kp Rr : World → World → Prop} {S Sp : List α → Prop} {N : Nat} {G : List α → α → World → Prop} {w : World} (l : Nat) (h : SeqG F d n P gf lb encs Kp Rr S Sp N G w) : SeqG (F.inRound l) d n P gf lb encs Kp Rr S Sp N G w := h
/-- The same, within a round of loop l₀. -/
theorem rf_lawGN {α : Type} {g : Operand} {ps : Array Tmp} {assign body : Code} {Q : Exit → Act → World → Prop} {a : Act} {w : World} {l₀ : Nat} {r₀ : Loop} (hro : F.round = some l₀) (hl₀ : w.heap[l₀]? = some (.loop r₀)) (h1 : 1 ≤ n) {gf : Nat} {lb : Array Value} (hg : a.eval g = .func (.func gf) #[] lb) (hFg : F.fn gf) (eg : ∀ args w, (callFunc gf args).run P w = .ok (.enter gf args) w)
    {encs : α → Array Value} {Kp R : World → World → Prop} {S Sp : List α → Prop} {N : Nat} {G : List α → α → World → Prop} (hseq : SeqG F 1 (n - 1) P gf lb encs Kp R S Sp N G w) (hG : ∀ pre x (W : World) (o o' : Obj), W.heap[w.heap.size]? = some o → o.isCells = false → G pre x W → G pre x (W.putObj w.heap.size o'))
    (hRk : ∀ A B k o, R A B → k < w.heap.size + 1 → A.heap[k]? = some o → o.isCells = false → B.heap[k]? = some o)
    (hKt : ∀ {A B C : World}, Kp A B → Kp B C → Kp A C) (hKb : ∀ (W : World) (o o' : Obj), W.heap[w.heap.size]? = some o → o.isCells = false → Kp W (W.putObj w.heap.size o')) (hps : ∀ x, (encs x).size = ps.size)
    (I : List α → World → Prop) (Ix : Code → List α → World → Prop) (hI : OwnFrom w.heap.size I) (hIR : Clos R I) (hIx : ∀ c, OwnFrom w.heap.size (Ix c)) (hIxR : ∀ c, Clos R (Ix c)) (h0 : I [] w) (a₁ : α → Act)
    (hassign : ∀ (l : Nat) (x : α) (W : World) (K : Act → World → Prop), K (a₁ x) W → assign.wpIn (F.inRound l) (n - 1 - 1) P (Exit.then K (fun _ _ _ => False)) { tmps := (ps.zip (encs x)).foldl (fun t (p, v) => t.setIfInBounds p v) a.tmps, defers := [] } W)
    (hbody : ∀ (l : Nat) (pre : List α) (x : α) (W : World), (∃ r, W.heap[l]? = some (.loop r)) → I pre W → pre.length < N → G pre x W → body.wpIn (F.inRound l) (n - 1 - 1) P (ownPostG w.heap.size Kp I Ix (pre ++ [x]) W) (a₁ x) W)
    (hdone : ∀ (xs : List α) (W : World), S xs → I xs W → Q .normal a W)
    (hstop : ∀ (c : Code) (pre : List α) (W : World), Sp pre → Ix c pre W → c.wpIn F n P Q a W) :
    (Code.rangeFunc g ps assign body).wpIn F n P Q a w := by
  refine wpIn_rangeFunc fun fn hfn => ?_
  rw [hro]
  obtain ⟨rec, hrec⟩ : ∃ rec : LoopState → Option Code → Loop, rec = fun st pe => { state := st, pending := pe, fn, tmps := a.tmps, params := ps, assign, body, defers := r₀.defers } := ⟨_, rfl⟩
  obtain ⟨W1, hW1⟩ : ∃ W1, w.alloc (.loop (rec .ready none)) = W1 := ⟨_, rfl⟩
  have hL1 : W1.heap[w.heap.size]? = some (.loop (rec .ready none)) := by rw [← hW1]; exact World.alloc_heap_new w _
  have hI1 : I [] W1 := by rw [← hW1]; exact hI.alloc _ h0
  have hw1 : Below w.heap.size w W1 := by rw [← hW1]; exact (Below.refl _ w).alloc (Nat.le_refl _) _
  have hz1 : W1.heap.size = w.heap.size + 1 := by rw [← hW1, World.size_alloc]
  refine ⟨w.heap.size, [], W1, { target := .fn (.func gf) lb, args := #[.func (.yield w.heap.size) #[] #[]] }, W1, gf, #[.func (.yield w.heap.size) #[] #[]] ++ lb, W1, ?_, ?_, ?_, ?_, fun _ => h1, ?_⟩
  · rw [← hW1, hrec]; exact run_enterLoop_inner hl₀ _ _ _ _ _
  · simp only [resolve, hg]
    simp [go_sem]
  · intro f' hf'; simp [Target.leads] at hf'; subst hf'; exact hFg
  · simp [invoke, go_sem, eg]
  have clos : ∀ {r : Loop} {A B : World}, A.heap[w.heap.size]? = some (.loop r) → R A B → B.heap[w.heap.size]? = some (.loop r) := fun hb hr => hRk _ _ _ _ hr (by omega) hb rfl
  refine (hseq w.heap.size (fun pre W => I pre W ∧ W.heap[w.heap.size]? = some (.loop (rec .ready none))) (fun pre W => ∃ c, Ix c pre W ∧ W.heap[w.heap.size]? = some (.loop (rec .done (some c)))) W1 hz1 hw1
    (fun s A B hs hr => ⟨hIR s A B hs.1 hr, clos hs.2 hr⟩) (fun s A B hs hr => by obtain ⟨c, hc, hb⟩ := hs; exact ⟨c, hIxR c s A B hc hr, clos hb hr⟩) ?_ ⟨hI1, hL1⟩).mono ?_
  · rintro pre x W ⟨hi, hl⟩ hlen hg0
    have hlt : w.heap.size < W.heap.size := (Array.getElem?_eq_some_iff.1 hl).1
    have hy := run_yield (P := P) (args := encs x) hl (by rw [hrec]; exact hps x)
    rw [hrec] at hy
    refine ⟨fn, _, assign, body, hy, roundIn_of_wpIn hfn (hassign _ x W _ ⟨_, run_beginRound hl (by rw [hrec]), ?_⟩)⟩
    clear hy
    have hl2 : (W.putObj w.heap.size (.loop { rec .ready none with state := .busy })).heap[w.heap.size]? = some (.loop { rec .ready none with state := .busy }) := World.putObj_heap_same hlt
    have hw2 : Kp W (W.putObj w.heap.size (.loop { rec .ready none with state := .busy })) := hKb _ _ _ hl rfl
    refine wpIn_mono (hbody _ pre x _ ⟨_, hl2⟩ (hI.putObj _ hi (Nat.le_refl _) hl rfl) hlen (hG _ _ _ _ _ hl rfl hg0)) ?_
    have fin : ∀ (jump : Option Code) (W3 : World), KeepsFrom w.heap.size (W.putObj w.heap.size (.loop { rec .ready none with state := .busy })) W3 →
        (Instr.endRound w.heap.size jump).run P W3 = .ok (.bool jump.isNone) (W3.putObj w.heap.size (.loop (rec (if jump.isNone then .ready else .done) jump))) ∧
        W3.heap[w.heap.size]? = some (.loop { rec .ready none with state := .busy }) ∧
        (W3.putObj w.heap.size (.loop (rec (if jump.isNone then .ready else .done) jump))).heap[w.heap.size]? = some (.loop (rec (if jump.isNone then .ready else .done) jump)) := fun jump W3 hk3 => by
      have hl3 := hk3.same _ _ (Nat.le_refl _) hl2 rfl
      have := run_endRound (P := P) jump hl3
      rw [hrec] at this ⊢
      exact ⟨this, by rw [hrec] at hl3; exact hl3, World.putObj_heap_same (Array.getElem?_eq_some_iff.1 hl3).1⟩
    have leave : ∀ (c : Code) (W3 : World), KeepsFrom w.heap.size (W.putObj w.heap.size (.loop { rec .ready none with state := .busy })) W3 → Ix c (pre ++ [x]) W3 →
        ∃ v W4, (Instr.endRound w.heap.size (some c)).run P W3 = .ok v W4 ∧ ((Ending.returned v = .returned (.bool true) ∧ (I (pre ++ [x]) W4 ∧ W4.heap[w.heap.size]? = some (.loop (rec .ready none))) ∧ Kp W W4) ∨ (Ending.returned v = .returned (.bool false) ∧ (∃ c, Ix c (pre ++ [x]) W4 ∧ W4.heap[w.heap.size]? = some (.loop (rec .done (some c)))) ∧ KeepsFrom (w.heap.size + 1) W W4)) := fun c W3 hk hx => by
      obtain ⟨hr, hl3, hl4⟩ := fin (some c) W3 hk
      exact ⟨_, _, hr, .inr ⟨rfl, ⟨c, (hIx c).putObj _ hx (Nat.le_refl _) hl3 rfl, hl4⟩, (KeepsFrom.trans (kf_put W _ (by omega)) (kf_mono hk (by omega))).trans (kf_put W3 _ (by omega))⟩⟩
    rintro e a3 W3 hp
    cases e with
    | normal =>
      obtain ⟨hk3, hkp3, hi3⟩ := hp
      obtain ⟨hr, hl3, hl4⟩ := fin none W3 hk3
      exact ⟨_, _, hr, .inl ⟨rfl, ⟨hI.putObj _ hi3 (Nat.le_refl _) hl3 rfl, hl4⟩, hKt (hKt hw2 hkp3) (hKb _ _ _ hl3 rfl)⟩⟩
    | ret => exact leave _ _ hp.1 hp.2
    | exit id => exact leave _ _ hp.1 hp.2
    | goto t => exact leave _ _ hp.1 hp.2
    | panic ch => exact hp.elim
    | outgrown => exact hp.elim
  · rintro e W2 ⟨⟨v, rfl⟩, (⟨xs, hS, hi, hl⟩ | ⟨pre, hSp, c, hi, hl⟩)⟩
    · exact ⟨none, _, by have := run_endLoop (P := P) hl (by rw [hrec]; simp); rw [hrec] at this; exact this, hdone xs _ hS (hI.putObj _ hi (Nat.le_refl _) hl rfl)⟩
    · exact ⟨some c, _, by have := run_endLoop (P := P) hl (by rw [hrec]; simp); rw [hrec] at this; exact this, hstop c pre _ hSp ((hIx c).putObj _ hi (Nat.le_refl _) hl rfl)⟩
end Go.Proofs.YtnogmaljcocfjaaDoor.RFun
namespace Go.Proofs.YtnogmaljcocfjaaDoor.RGen
open Go Go.RowKit Go.Proofs.YtnogmaljcocfjaaDoor.RFun Go.Proofs.YtnogmaljcocfjaaDoorW.PrintWords Go.Proofs.YtnogmaljcocfjaaDoorW.PrintLast Go.Proofs.YtnogmaljcocfjaaDoorW.PrintMore
/-- What a round may do: block b alone turns, and blocks that are no cells ahead of n₀. -/
structure KM (n₀ b : Nat) (A B : World) : Prop where
  size : A.heap.size ≤ B.heap.size
  cell : ∀ j cs t f, A.heap[j]? = some (.cells cs t f) → j ≠ b → B.heap[j]? = some (.cells cs t f)
  own : ∀ j o, n₀ ≤ j → A.heap[j]? = some o → o.isCells = false → B.heap[j]? = some o
theorem KM.trans {n₀ b : Nat} {A B C : World} (h : KM n₀ b A B) (k : KM n₀ b B C) : KM n₀ b A C :=
  ⟨Nat.le_trans h.size k.size, fun j cs t f h1 h2 => k.cell j cs t f (h.cell j cs t f h1 h2) h2, fun j o h1 h2 h3 => k.own j o h1 (h.own j o h1 h2 h3) h3⟩
theorem KM.putObj {n₀ b : Nat} (W : World) (l : Nat) (o o' : Obj) (hl : l < n₀) (h : W.heap[l]? = some o) (ho : o.isCells = false) : KM n₀ b W (W.putObj l o') :=
  ⟨by simp, fun j cs t f h1 _ => (World.putObj_heap_other (fun e => by subst e; rw [h] at h1; cases h1; cases ho)).trans h1, fun j p h1 h2 _ => (World.putObj_heap_other (fun e => by omega)).trans h2⟩
theorem KM.from {n₀ b n1 : Nat} {A B : World} (h : KM n₀ b A B) (hn : n₀ ≤ n1) : KeepsFrom n1 A B := ⟨h.size, fun j o h1 h2 h3 => h.own j o (Nat.le_trans hn h1) h2 h3⟩
theorem round_any {n m l' l : Nat} {P : Program} {f : FuncId} {tmps : Array Value} {assign body : Code} {w : World} {R : Ending → World → Prop} (h : RoundIn Fence.wide n P l f tmps assign body w R) : RoundIn (Fence.wide.inRound l') m P l f tmps assign body w R :=
  ⟨h.1, fun c cs _ => h.2 c cs (room_wide _)⟩
theorem calls_any {n l' : Nat} {P : Program} {f : FuncId} {args : Array Value} {w : World} {R : Ending → World → Prop} (h : Calls P f args w R) : CallsIn (Fence.wide.inRound l') n P f args w R := (callsIn_wide (n := n)).2 h
theorem grown_to_below {n₀ : Nat} {A B : World} {row : Option Nat} (hg : A.grownBy B row) (hr : ∀ k, row = some k → n₀ ≤ k) (hs : n₀ ≤ A.heap.size) : Below n₀ A B :=
  ⟨hg.os, hg.tape, hg.output, hg.size, fun j hj => hg.block j (by omega) (fun e => by have := hr j e.symm; omega)⟩
/-- Block b alone has turned. -/
structure FR (b : Nat) (A B : World) : Prop where
  os : B.os = A.os
  tape : B.tape = A.tape
  output : B.output = A.output
  size : A.heap.size ≤ B.heap.size
  block : ∀ j, j < A.heap.size → j ≠ b → B.heap[j]? = A.heap[j]?
theorem FR.refl (b : Nat) (A : World) : FR b A A := ⟨rfl, rfl, rfl, Nat.le_refl _, fun _ _ _ => rfl⟩
theorem FR.trans {b : Nat} {A B C : World} (h : FR b A B) (k : FR b B C) : FR b A C :=
  ⟨k.os.trans h.os, k.tape.trans h.tape, k.output.trans h.output, Nat.le_trans h.size k.size, fun j h1 h2 => (k.block j (Nat.lt_of_lt_of_le h1 h.size) h2).trans (h.block j h1 h2)⟩
theorem FR.below {b n₀ : Nat} {A B C : World} (h : FR b A B) (hn : A.heap.size ≤ n₀) (k : Below n₀ B C) : FR b A C :=
  ⟨k.os.trans h.os, k.tape.trans h.tape, k.output.trans h.output, Nat.le_trans h.size k.size, fun j h1 h2 => (k.block j (by omega)).trans (h.block j h1 h2)⟩
theorem FR.grown {b : Nat} {A B C : World} {row : Option Nat} (h : FR b A B) (k : B.grownBy C row) (hr : ∀ r, row = some r → A.heap.size ≤ r) : FR b A C :=
  ⟨k.os.trans h.os, k.tape.trans h.tape, k.output.trans h.output, Nat.le_trans h.size k.size, fun j h1 h2 => (k.block j (Nat.lt_of_lt_of_le h1 h.size) (fun e => by have := hr j e.symm; omega)).trans (h.block j h1 h2)⟩
theorem FR.set {b : Nat} {A B : World} (h : FR b A B) (u : Value) : FR b A (B.setCell ⟨b, 0, none⟩ u) :=
  ⟨h.os, h.tape, h.output, by rw [World.size_setCell]; exact h.size, fun j h1 h2 => (Below.heap_setCell _ _ _ _ h2).trans (h.block j h1 h2)⟩
theorem FR.box {b c : Nat} {A B : World} {t : TypeId} {v : Value} (h : FR b A B) (hv : Boxed A c t v) (hne : c ≠ b) : Boxed B c t v := (h.block c (Array.getElem?_eq_some_iff.1 hv).1 hne).trans hv
theorem FR.cell {b : Nat} {A B : World} {a : Addr} {v : Value} (h : FR b A B) (hc : A.cell? a = some v) (hne : a.block ≠ b) : B.cell? a = some v :=
  (World.cell?_of_block (h.block a.block (World.block_lt_of_cell? A _ hc) hne)).trans hc
theorem km_set {n₀ b : Nat} {W : World} {t : TypeId} {v : Value} (h : Boxed W b t v) (u : Value) : KM n₀ b W (W.setCell ⟨b, 0, none⟩ u) :=
  ⟨by simp, fun j cs t f h1 h2 => (Below.heap_setCell _ _ _ _ h2).trans h1, fun j o _ h2 h3 => (Below.heap_setCell _ _ _ _ (fun e => by subst e; rw [show W.heap[j]? = _ from h] at h2; cases h2; cases h3)).trans h2⟩
theorem kf_set {B b : Nat} {W : World} {t : TypeId} {v : Value} (h : Boxed W b t v) (u : Value) : KeepsFrom B W (W.setCell ⟨b, 0, none⟩ u) :=
  ⟨by simp, fun j o _ h2 h3 => (Below.heap_setCell _ _ _ _ (fun e => by subst e; rw [show W.heap[j]? = _ from h] at h2; cases h2; cases h3)).trans h2⟩
theorem below_km {n₀ b : Nat} {W W' : World} {t : TypeId} {v : Value} (hB : Below W.heap.size W W') (h : Boxed W' b t v) (u : Value) : KM n₀ b W (W'.setCell ⟨b, 0, none⟩ u) :=
  (KM.mk (n₀ := n₀) (b := b) hB.size (fun j cs t f h1 _ => (hB.block j (Array.getElem?_eq_some_iff.1 h1).1).trans h1) (fun j o _ h2 _ => (hB.block j (Array.getElem?_eq_some_iff.1 h2).1).trans h2)).trans (km_set h u)
theorem below_kf {B b : Nat} {W W' : World} {t : TypeId} {v : Value} (hB : Below W.heap.size W W') (h : Boxed W' b t v) (u : Value) : KeepsFrom B W (W'.setCell ⟨b, 0, none⟩ u) :=
  (KeepsFrom.mk (B := B) hB.size (fun j o _ h2 _ => (hB.block j (Array.getElem?_eq_some_iff.1 h2).1).trans h2)).trans (kf_set h u)
theorem fr_old {W W' : World} {o : Obj} (h : FR W.heap.size (W.alloc o) W') : Below W.heap.size W W' :=
  ⟨h.os, h.tape, h.output, by have := h.size; rw [World.size_alloc] at this; omega, fun j hj => (h.block j (by rw [World.size_alloc]; omega) (by omega)).trans (Below.heap_alloc _ _ _ hj)⟩
theorem below_fr {b : Nat} {A W W' : World} (h : FR b A W) (hB : Below W.heap.size W W') : FR b A W' := h.below h.size hB
/-- The marks that ranges have left, the last on top. -/
def Marks (b : Nat) : Nat → List Deferred → World → Prop
  | _, [], _ => True
  | u, d :: ds, w => ∃ D, d = { target := .collected D, args := #[] } ∧ b ≤ D ∧ D < u ∧ w.heap[D]? = some (.deferred (some [])) ∧ Marks b D ds w
theorem Marks.mono {b : Nat} {ds : List Deferred} {w w' : World} : ∀ {u u' : Nat}, u ≤ u' → (∀ j, b ≤ j → j < u → w.heap[j]? = some (.deferred (some [])) → w'.heap[j]? = some (.deferred (some []))) → Marks b u ds w → Marks b u' ds w' := by
  induction ds with
  | nil => intro _ _ _ _ _; trivial
  | cons d ds ih =>
    rintro u u' hu hk ⟨D, h1, h2, h3, h4, h5⟩
    exact ⟨D, h1, h2, by omega, hk D h2 h3 h4, ih (Nat.le_refl _) (fun j a b' c => hk j a (by omega) c) h5⟩
/-- The marks taken: cells stay, and all ahead of b. -/
structure Took (b : Nat) (A B : World) : Prop where
  os : B.os = A.os
  tape : B.tape = A.tape
  output : B.output = A.output
  size : A.heap.size ≤ B.heap.size
  block : ∀ j, j < A.heap.size → j < b → B.heap[j]? = A.heap[j]?
  cell : ∀ (j : Nat) (cs : Array Value) (t : TypeId) (f : Nat × Nat), A.heap[j]? = some (Obj.cells cs t f) → B.heap[j]? = some (Obj.cells cs t f)
theorem marks_leave {F : Fence} {n b : Nat} {P : Program} {fn : Func} {tmps : Array Value} {R : Ending → World → Prop} {ds : List Deferred} : ∀ {u : Nat} {w : World}, Marks b u ds w → (∀ w', Took b w w' → ∃ v, (results fn tmps).run P w' = .ok v w' ∧ R (.returned v) w') → LeavesInM F n P fn tmps R ds .returning w := by
  induction ds with
  | nil =>
    intro u w _ h
    exact h w ⟨rfl, rfl, rfl, Nat.le_refl _, fun _ _ _ => rfl, fun _ _ _ _ h => h⟩
  | cons d ds ih =>
    rintro u w ⟨D, rfl, h2, h3, h4, h5⟩ h
    refine ⟨by simp, .inl ⟨D, _, rfl, run_takeDeferred h4, ih (Marks.mono (Nat.le_refl _) (fun j _ hj hd => (World.putObj_heap_other (by omega)).trans hd) h5) (fun w' k => h w' ⟨k.os, k.tape, k.output, ?_, fun j hj hb => (k.block j (by simpa using hj) hb).trans (World.putObj_heap_other (by omega)), fun j cs t f hj => k.cell j cs t f ((World.putObj_heap_other (fun e => ?_)).trans hj)⟩)⟩⟩
    · have := k.size
      simpa using this
    · subst e
      rw [h4] at hj
      cases hj
theorem res_cell {P : Program} {fn : Func} {p : Tmp} {ty : TypeId} (h : fn.results = #[.cell p ty]) (tmps : Array Value) (w : World) (g : Nat) (v : Value) (hp : tmps.getD p undef = .pointer (some ⟨g, 0, none⟩)) (hc : w.cell? ⟨g, 0, none⟩ = some v) (hu : (isAgg ty).run P w = .ok false w) : (results fn tmps).run P w = .ok v w := by
  have hp' : tmps[p]?.getD undef = .pointer (some ⟨g, 0, none⟩) := by simpa using hp
  have hl : (load ⟨g, 0, none⟩).run P w = .ok v w := by simp [go_sem, hc]
  simp [results, h, hp', asAddr, loadVar, Sem.run_bind, hu, hl, Result.andThen]
end Go.Proofs.YtnogmaljcocfjaaDoor.RGen
namespace Go.Proofs.YtnogmaljcocfjaaDoor.DitMeth
open Go Go.Maps Go.RowKit Go.Shelf Go.Proofs.YtnogmaljcocfjaaDoor.RFun Go.Proofs.YtnogmaljcocfjaaDoor.RGen Go.Proofs.YtnogmaljcocfjaaDoor.XK Go.Proofs.YtnogmaljcocfjaaDoor.Blk Go.Proofs.YtnogmaljcocfjaaDoor.DitTab Go.Proofs.YtnogmaljcocfjaaDoor.DitRow Go.Proofs.YtnogmaljcocfjaaDoor.DitTerm Go.Proofs.YtnogmaljcocfjaaDoor.DitMap Go.Proofs.YtnogmaljcocfjaaDoor.DitCheck Go.Proofs.YtnogmaljcocfjaaDoor.DitCopy Go.Proofs.YtnogmaljcocfjaaDoor.DitPure Go.Proofs.YtnogmaljcocfjaaDoor.DitSort Go.Proofs.YtnogmaljcocfjaaDoor.DitBuild Go.Proofs.YtnogmaljcocfjaaDoor.Keys Go.Proofs.YtnogmaljcocfjaaDoorW.PrintWords Go.Proofs.YtnogmaljcocfjaaDoorW.PrintLast Go.Proofs.YtnogmaljcocfjaaDoorW.PrintMore
attribute [local go_sem] Oper.semAt_some
/-- What a round leaves: all ahead of m₀; of cells ahead of n₀ all but block b. -/
structure KC (m₀ n₀ b : Nat) (A B : World) : Prop where
  low : Below m₀ A B
  cell : ∀ (j : Nat) (cs : Array Value) (t : TypeId) (f : Nat × Nat), A.heap[j]? = some (Obj.cells cs t f) → j < n₀ → j ≠ b → B.heap[j]? = some (Obj.cells cs t f)
theorem KC.trans {m₀ n₀ b : Nat} {A B C : World} (h : KC m₀ n₀ b A B) (k : KC m₀ n₀ b B C) : KC m₀ n₀ b A C := ⟨h.low.trans k.low, fun j cs t f h1 h2 h3 => k.cell j cs t f (h.cell j cs t f h1 h2 h3) h2 h3⟩
theorem KC.putObj {m₀ n₀ b : Nat} (W : World) (l : Nat) (o o' : Obj) (hl : m₀ ≤ l) (h : W.heap[l]? = some o) (ho : o.isCells = false) : KC m₀ n₀ b W (W.putObj l o') :=
  ⟨⟨rfl, rfl, rfl, by simp, fun j hj => World.putObj_heap_other (by omega)⟩, fun j cs t f h1 _ _ => (World.putObj_heap_other (fun e => by subst e; rw [h] at h1; cases h1; cases ho)).trans h1⟩
theorem KC.box {m₀ n₀ b c : Nat} {A B : World} {t : TypeId} {v : Value} (k : KC m₀ n₀ b A B) (h : Boxed A c t v) (hc : c < n₀) (hne : c ≠ b) : Boxed B c t v := k.cell _ _ _ _ h hc hne
theorem box_on {c : Nat} {A B : World} {t : TypeId} {v : Value} (h : Boxed A c t v) (k : Below A.heap.size A B) : Boxed B c t v := (k.block _ (Array.getElem?_eq_some_iff.1 h).1).trans h
/-- The iterator's own steps: nothing that lay has turned. -/
abbrev Calm (A B : World) : Prop := Below A.heap.size A B
/-- Between two numbers. -/
structure IW (J : List Int → World → Prop) (W0 : World) (Bx : World → Prop) (L rest pre : List Int) (W : World) : Prop where
  j : J pre W
  low : Below W0.heap.size W0 W
  box : Bx W
  eq : L = pre ++ rest
theorem IW.calm {J : List Int → World → Prop} {W0 W W' : World} {Bx : World → Prop} {L rest pre : List Int} (h : IW J W0 Bx L rest pre W) (hJ : Clos Calm J) (hB : ∀ A B, Calm A B → Bx A → Bx B) (k : Calm W W') : IW J W0 Bx L rest pre W' :=
  ⟨hJ _ _ _ h.j k, h.low.trans (k.mono h.low.size), hB _ _ k h.box, h.eq⟩
theorem IW.round {J : List Int → World → Prop} {W0 W W' : World} {Bx : World → Prop} {L rest pre : List Int} {x : Int} {n₀ b : Nat} (h : IW J W0 Bx L (x :: rest) pre W) (hB : ∀ A B, KC W0.heap.size n₀ b A B → Bx A → Bx B) (hj : J (pre ++ [x]) W') (k : KC W0.heap.size n₀ b W W') : IW J W0 Bx L rest (pre ++ [x]) W' :=
  ⟨hj, h.low.trans k.low, hB _ _ k h.box, by rw [h.eq, List.append_assoc]; rfl⟩
theorem IW.pre {J : List Int → World → Prop} {W0 W : World} {Bx : World → Prop} {L rest pre : List Int} {x : Int} (h : IW J W0 Bx L (x :: rest) pre W) : pre ++ [x] <+: L := ⟨rest, by rw [h.eq, List.append_assoc]; rfl⟩
theorem IW.len {J : List Int → World → Prop} {W0 W : World} {Bx : World → Prop} {L rest pre : List Int} {x : Int} (h : IW J W0 Bx L (x :: rest) pre W) : pre.length < L.length := by rw [h.eq, List.length_append, List.length_cons]; omega
section
variable {es : List S45} {p : List Nat} {nn tb : Nat} {PI : Nat → Nat} {W0 : World}
/-- The way up from a number. -/
def upI (nn : Nat) (PI : Nat → Nat) (x : Int) : List Int := if isIn nn x = true then (ups PI x.toNat).map fun (j : Nat) => (j : Int) else []
theorem upI_out {nn : Nat} {PI : Nat → Nat} {x : Int} (h : isIn nn x = false) : upI nn PI x = [] := by unfold upI; rw [h]; rfl
theorem upI_in {nn : Nat} {PI : Nat → Nat} {S : List Key} (hS : TS S) (hP : Par S PI) (hl : S.length = nn) {j : Nat} (hj : j < nn) : upI nn PI (j : Int) = (j : Int) :: upI nn PI (parentR PI nn (j : Int)) := by
  have h1 : isIn nn (j : Int) = true := isIn_true (by omega) (by omega)
  unfold upI
  rw [h1, if_pos rfl, Int.toNat_natCast]
  by_cases h0 : j = 0
  · subst h0
    have e : parentR PI nn ((0 : Nat) : Int) = -1 := by unfold parentR; rw [if_neg (by omega)]
    have e2 : isIn nn (-1) = false := by simp [isIn]
    rw [ups_zero, e, e2]
    rfl
  · have hk := hP j (by omega) (by omega)
    have e : parentR PI nn (j : Int) = (PI j : Int) := by unfold parentR; rw [if_pos (by omega), Int.toNat_natCast]
    have e2 : isIn nn (PI j : Int) = true := isIn_true (by omega) (by have := hk.2.2.1; omega)
    rw [ups_step hS hP (by omega) (by omega), e, e2, if_pos rfl, Int.toNat_natCast, List.map_cons]
def BxU (tb ln lt : Nat) (x : Int) (W : World) : Prop := Boxed W ln 3 (.int .i64 x) ∧ Boxed W lt 32 (TP tb)
set_option maxRecDepth 100000 in
set_option maxHeartbeats 4000000 in
theorem up_seq (d n : Nat) (hn : 3 ≤ n) (w : World) (ln lt b : Nat) (x : Int) (hT : TreeAt es p nn PI tb W0) (hS : TS (keyS es p)) (hP : Par (keyS es p) PI) (hl : (keyS es p).length = nn) (hW : Below W0.heap.size W0 w) (hbx : BxU tb ln lt x w) (h1 : ln ≠ b) (h2 : lt ≠ b) :
    SeqG Fence.wide d n Tryd.prog 55 #[.pointer (some ⟨ln, 0, none⟩), .pointer (some ⟨lt, 0, none⟩)] (fun x : Int => #[.int .i64 x]) (KC W0.heap.size w.heap.size b) Calm (fun xs => xs = upI nn PI x) (fun pre => pre <+: upI nn PI x) (upI nn PI x).length (fun _ _ _ => True) w := by
  intro l J Jx W hz hB hJ hJx hY h0
  obtain ⟨n₀, hn0⟩ : ∃ n₀, n₀ = w.heap.size + d := ⟨_, rfl⟩
  rw [← hn0] at hY hz
  change CallsIn Fence.wide n Tryd.prog 55 #[.func (.yield l) #[] #[], .pointer (some ⟨ln, 0, none⟩), .pointer (some ⟨lt, 0, none⟩)] W _
  have hln : ln < w.heap.size := (Array.getElem?_eq_some_iff.1 hbx.1).1
  have hlt : lt < w.heap.size := (Array.getElem?_eq_some_iff.1 hbx.2).1
  have hU0 : IW J W0 (BxU tb ln lt x) (upI nn PI x) (upI nn PI x) [] W := ⟨h0, hW.trans (hB.mono hW.size), ⟨box_on hbx.1 hB, box_on hbx.2 hB⟩, rfl⟩
  have HBX : Hid (∀ A B, KC W0.heap.size w.heap.size b A B → BxU tb ln lt x A → BxU tb ln lt x B) := Lib.hid (fun A B k h => ⟨k.box h.1 hln h1, k.box h.2 hlt h2⟩)
  have HU0 := Lib.hid hU0
  have HY := Lib.hid hY
  have HJ := Lib.hid hJ
  have HT := Lib.hid hT
  have HUP := Lib.hid (fun (j : Nat) (hj : j < nn) => upI_in hS hP hl hj)
  have cN := HU0.out.box.1.cell
  clear hU0 hY hJ h0 hB hbx hz hn0 hT hW hln hlt h1 h2
  refine (callsIn_wide (n := n)).2 ?_
  go_enter Tryd.func55, Tryd.ntmps55
  go_wp2
  go_loopw [4] (fun v4 wr => ∃ (k : Int) (pre : List Int), v4 = .int .i64 k ∧ Hid (IW J W0 (BxU tb ln lt x) (upI nn PI x) (upI nn PI k) pre wr)) (fun v _ => (upI nn PI (intOf v)).length)
  case atStart => exact ⟨x, [], rfl, HU0⟩
  case round =>
    clear HU0 cN
    obtain ⟨k, pre, rfl, HU⟩ := hrel
    have cT := HU.out.box.2.cell
    have HH := Lib.hid (has_as (HT.out.below HU.out.low) k)
    cases hb : isIn nn k with
    | true =>
      rw [hb] at HH
      obtain ⟨j, rfl, hj⟩ := isIn_nat hb
      have hup := HUP.out j hj
      rw [hup] at HU
      clear hb
      obtain ⟨fn, tmps, assign, body, hy, hR⟩ := HY.out pre (j : Int) wr HU.out.j HU.out.len trivial
      try dsimp only at hy
      have HR := Lib.hid hR
      have HUPJ := Lib.hid hup
      clear hR hup
      go_upto_region 3 with (first
        | (go_at_call 51; ((with_reducible refine HH.out.mono ?_); rintro e W1 ⟨rfl, rfl⟩))
        | (go_in))
      refine (wpIn_wide (n := n)).1 ?_
      gi_wp2
      refine ⟨fun h => by simp [Fence.wide] at h, HR.out.mono ?_⟩
      rintro e W3 (⟨rfl, hJ3, hk3⟩ | ⟨rfl, hJ3, hk3⟩)
      · have HN := Lib.hid (HU.out.round HBX.out hJ3 hk3)
        have cT := HN.out.box.2.cell
        obtain ⟨L, eg, ec, g, cap, pc, e, V, Z, a1, a2, a3, a4, a5, a6, a7, _, a9, a10, _⟩ := HT.out.below HN.out.low
        have k1 := a5.get 2 _ rfl
        obtain ⟨c, b1, _, _, b4, b5⟩ := a10.2 j hj
        have kc := a9.get j _ b1
        have hlt : (j : Int) < (nn : Int) := by omega
        have hres : parentR PI nn (j : Int) = c := by
          unfold parentR
          by_cases h0 : j = 0
          · rw [if_neg (by omega), b4 h0]
          · rw [if_pos (by omega), b5 (by omega) rfl]
            simp
        have HME : Hid ((upI nn PI c).length < (upI nn PI (j : Int)).length) := Lib.hid (by rw [HUPJ.out, hres]; simp)
        rw [hres] at HN
        clear hJ3 hk3 a1 a2 a3 a4 a5 a6 a7 a9 a10 b1 b4 b5 hres
        gi_wp2
        go_wp2
        go_roundw
        case rel => exact ⟨_, _, rfl, HN⟩
        case measure => exact HME.out
      · have hpx := HU.out.pre
        gi_wp2
        go_wp2
        refine bodyPost_ret (results_none rfl _ _ _) rfl ?_
        exact ⟨⟨_, rfl⟩, .inr ⟨_, hpx, hJ3⟩⟩
    | false =>
      rw [hb] at HH
      go_wp2_with (first
        | (go_at_call 51; ((with_reducible refine HH.out.mono ?_); rintro e W1 ⟨rfl, rfl⟩))
        | go_in)
      go_end0
      exact ⟨⟨_, rfl⟩, .inl ⟨pre, by rw [HU.out.eq, upI_out hb, List.append_nil], HU.out.j⟩⟩
end
end Go.Proofs.YtnogmaljcocfjaaDoor.DitMeth
namespace Go.Proofs.YtnogmaljcocfjaaDoor.DitMeth
open Go Go.Maps Go.RowKit Go.Shelf Go.Proofs.YtnogmaljcocfjaaDoor.RFun Go.Proofs.YtnogmaljcocfjaaDoor.RGen Go.Proofs.YtnogmaljcocfjaaDoor.XK Go.Proofs.YtnogmaljcocfjaaDoor.Blk Go.Proofs.YtnogmaljcocfjaaDoor.DitTab Go.Proofs.YtnogmaljcocfjaaDoor.DitRow Go.Proofs.YtnogmaljcocfjaaDoor.DitTerm Go.Proofs.YtnogmaljcocfjaaDoor.DitMap Go.Proofs.YtnogmaljcocfjaaDoor.DitCheck Go.Proofs.YtnogmaljcocfjaaDoor.DitCopy Go.Proofs.YtnogmaljcocfjaaDoor.DitPure Go.Proofs.YtnogmaljcocfjaaDoor.DitSort Go.Proofs.YtnogmaljcocfjaaDoor.DitBuild Go.Proofs.YtnogmaljcocfjaaDoor.Keys Go.Proofs.YtnogmaljcocfjaaDoorW.PrintWords Go.Proofs.YtnogmaljcocfjaaDoorW.PrintLast Go.Proofs.YtnogmaljcocfjaaDoorW.PrintMore
attribute [local go_sem] Oper.semAt_some
section
variable {es : List S45} {p : List Nat} {nn tb : Nat} {PI : Nat → Nat} {W0 : World}
/-- What Scope gives. -/
noncomputable def scopeI (es : List S45) (p : List Nat) (nn : Nat) (PI : Nat → Nat) (x s : Int) : List Int :=
  if isIn nn x = true then (if s = 0 then [x] else if s = 1 then childL nn PI x else if s = 2 then (List.range (endR (keyS es p) x.toNat - x.toNat)).map fun (i : Nat) => x + (i : Int) else []) else []
def BxS (tb lt ln ls : Nat) (x s : Int) (W : World) : Prop := Boxed W lt 32 (TP tb) ∧ Boxed W ln 3 (.int .i64 x) ∧ Boxed W ls 66 (.int .i64 s)
theorem drop_cons {l : List Int} {i : Nat} (h : i < l.length) : l.drop i = l.getD i 0 :: l.drop (i + 1) := by
  rw [List.drop_eq_getElem_cons h, List.getD_eq_getElem?_getD, List.getElem?_eq_getElem h]
  rfl
theorem span_drop (x : Int) (m i : Nat) (h : i < m) : (((List.range m).map fun (i : Nat) => x + (i : Int)).drop i) = (x + (i : Int)) :: (((List.range m).map fun (i : Nat) => x + (i : Int)).drop (i + 1)) := by
  rw [drop_cons (by simpa using h)]
  congr 1
  simp [List.getD_eq_getElem?_getD, h]
set_option maxRecDepth 100000 in
set_option maxHeartbeats 4000000 in
theorem scope_seq (d n : Nat) (hn : 3 ≤ n) (w : World) (lt ln ls b : Nat) (x s : Int) (hT : TreeAt es p nn PI tb W0) (hnn : nn ≤ 1048576) (hpl : p.length = nn) (hW : Below W0.heap.size W0 w) (hbx : BxS tb lt ln ls x s w) (h1 : lt ≠ b) (h2 : ln ≠ b) (h3 : ls ≠ b) :
    SeqG Fence.wide d n Tryd.prog 53 #[.pointer (some ⟨lt, 0, none⟩), .pointer (some ⟨ln, 0, none⟩), .pointer (some ⟨ls, 0, none⟩)] (fun x : Int => #[.int .i64 x]) (KC W0.heap.size w.heap.size b) Calm (fun xs => xs = scopeI es p nn PI x s) (fun pre => pre <+: scopeI es p nn PI x s) (scopeI es p nn PI x s).length (fun _ _ _ => True) w := by
  intro l J Jx W hz hB hJ hJx hY h0
  obtain ⟨n₀, hn0⟩ : ∃ n₀, n₀ = w.heap.size + d := ⟨_, rfl⟩
  rw [← hn0] at hY hz
  change CallsIn Fence.wide n Tryd.prog 53 #[.func (.yield l) #[] #[], .pointer (some ⟨lt, 0, none⟩), .pointer (some ⟨ln, 0, none⟩), .pointer (some ⟨ls, 0, none⟩)] W _
  have hlt : lt < w.heap.size := (Array.getElem?_eq_some_iff.1 hbx.1).1
  have hln : ln < w.heap.size := (Array.getElem?_eq_some_iff.1 hbx.2.1).1
  have hls : ls < w.heap.size := (Array.getElem?_eq_some_iff.1 hbx.2.2).1
  have hU0 : IW J W0 (BxS tb lt ln ls x s) (scopeI es p nn PI x s) (scopeI es p nn PI x s) [] W := ⟨h0, hW.trans (hB.mono hW.size), ⟨box_on hbx.1 hB, box_on hbx.2.1 hB, box_on hbx.2.2 hB⟩, rfl⟩
  have HBX : Hid (∀ A B, KC W0.heap.size w.heap.size b A B → BxS tb lt ln ls x s A → BxS tb lt ln ls x s B) := Lib.hid (fun A B k h => ⟨k.box h.1 hlt h1, k.box h.2.1 hln h2, k.box h.2.2 hls h3⟩)
  have HBC : Hid (∀ A B, Calm A B → BxS tb lt ln ls x s A → BxS tb lt ln ls x s B) := Lib.hid (fun A B k h => ⟨box_on h.1 k, box_on h.2.1 k, box_on h.2.2 k⟩)
  have HU0 := Lib.hid hU0
  have HY := Lib.hid hY
  have HJ := Lib.hid hJ
  have HT := Lib.hid hT
  have cT := HU0.out.box.1.cell
  have cN := HU0.out.box.2.1.cell
  have cS := HU0.out.box.2.2.cell
  have HH := Lib.hid (has_as (HT.out.below HU0.out.low) x)
  clear hU0 hY hJ h0 hB hbx hz hn0 hT hW hln hlt hls h1 h2 h3
  refine (callsIn_wide (n := n)).2 ?_
  cases hb : isIn nn x with
  | false =>
    have hL : scopeI es p nn PI x s = [] := by unfold scopeI; rw [hb]; rfl
    rw [hL] at HU0 ⊢
    rw [hb] at HH
    go_enter Tryd.func53, Tryd.ntmps53
    go_wp2_with (first
      | (go_at_call 51; ((with_reducible refine HH.out.mono ?_); rintro e W1 ⟨rfl, rfl⟩))
      | go_in)
    refine bodyPost_ret (results_none rfl _ _ _) rfl ?_
    exact ⟨⟨_, rfl⟩, .inl ⟨[], rfl, HU0.out.j⟩⟩
  | true =>
    rw [hb] at HH
    obtain ⟨xn, hxn, hxl⟩ := isIn_nat hb
    have hx0 : 0 ≤ x := by omega
    have hx1 : x < (nn : Int) := by omega
    have HXN := Lib.hid hxn
    clear hxn
    by_cases hs0 : s = 0
    · have hL : scopeI es p nn PI x s = [x] := by unfold scopeI; rw [hb, if_pos rfl, if_pos hs0]
      rw [hL] at HU0 HY ⊢
      subst hs0
      obtain ⟨fn, tmps, assign, body, hy, hR⟩ := HY.out [] x W HU0.out.j (by simp) trivial
      try dsimp only at hy
      have HR := Lib.hid hR
      clear hR hb
      go_enter Tryd.func53, Tryd.ntmps53
      go_upto_region 1 with (first
        | (go_at_call 51; ((with_reducible refine HH.out.mono ?_); rintro e W1 ⟨rfl, rfl⟩))
        | (go_in))
      go_upto_region 3 with (first | go_in)
      refine (wpIn_wide (n := n)).1 ?_
      gi_wp2
      refine ⟨fun h => by simp [Fence.wide] at h, HR.out.mono ?_⟩
      rintro e W3 (⟨rfl, hJ3, hk3⟩ | ⟨rfl, hJ3, hk3⟩)
      · gi_wp2
        go_wp2
        go_end0
        exact ⟨⟨_, rfl⟩, .inl ⟨[x], rfl, hJ3⟩⟩
      · gi_wp2
        go_wp2
        go_end0
        exact ⟨⟨_, rfl⟩, .inr ⟨[x], List.prefix_refl _, hJ3⟩⟩
    · by_cases hs1 : s = 1
      · have hL : scopeI es p nn PI x s = childL nn PI x := by unfold scopeI; rw [hb, if_pos rfl, if_neg hs0, if_pos hs1]
        rw [hL] at HU0 HY ⊢
        subst hs1
        have hwx : wfi x := WalkArith.wf_i64 (by omega)
        obtain ⟨kb, base, v, k4, hlk, hoi, hkb, hle⟩ := TreeAt.child HT.out hwx
        obtain ⟨A, c, rfl, hcap, hc, hnone⟩ := ints_form hoi
        have hbase : ∀ ad, A = some ad → ∀ j, j < (childL nn PI x).length → W0.cell? (ad.add j) = some (.int .i64 ((childL nn PI x).getD j 0)) := fun ad e j hj => hc ad e j _ (by rw [List.getElem?_map, List.getElem?_eq_getElem hj, List.getD_eq_getElem?_getD, List.getElem?_eq_getElem hj]; rfl)
        have htb := HT.out.lt
        have k4W := (HU0.out.low.cell (p := ⟨tb, 4, none⟩) htb).trans k4
        have HLK := Lib.hid (fun W' (hW' : Below W0.heap.size W0 W') => hlk W' (hW'.block kb hkb))
        generalize childL nn PI x = cl at HU0 HY HLK hle hcap hc hbase hnone ⊢
        have HCB := Lib.hid hbase
        clear hc hoi hlk hb k4 hbase hL
        go_enter Tryd.func53, Tryd.ntmps53
        go_wp2_with (first
          | (go_at_call 51; ((with_reducible refine HH.out.mono ?_); rintro e W1 ⟨rfl, rfl⟩))
          | go_in)
        refine start_ (n := 8) (S := fun w' => w'.cell? ⟨lt, 0, none⟩ = some (TP tb) ∧ w'.cell? ⟨tb, 4, none⟩ = some (.map (some kb)) ∧ w'.cell? ⟨ln, 0, none⟩ = some (.int .i64 x) ∧ (Instr.lookup 77 (.map (some kb)) (.int .i64 x) false).run Tryd.prog w' = .ok (.slice A cl.length c) w') (ds := []) #[false, false, false, false, false, false, false, false] (by kernel_rfl) rfl rfl ⟨cT, k4W, cN, HLK.out W1.drew (below_drew1 HU0.out.low)⟩ (fun hHeld => ?_)
        refine pure_ (i := 7) (N := some 27) (v := ?_) (a' := ?_) #[false, false, false, false, false, false, false, true] rfl rfl (by kernel_rfl) (fun _ _ _ h => h) (Or.inl ⟨by rfl, ?_⟩) ?_ ?_
        rotate_left
        · intro w'
          go_simp
          with_reducible rfl
        rotate_left
        · simp only [Act.put, List.setIfInBounds_toArray, List.set_cons_zero, List.set_cons_succ, i64_w, i32_w]
          rfl
        refine take_ (i := 0) (N := some 20) (v := ?_) (a' := ?_) #[true, false, false, false, false, false, false, true] rfl rfl (by kernel_rfl) (fun _ _ _ h => h) (Or.inl ⟨by rfl, ?_⟩) hHeld ?_ ?_
        rotate_left
        · rintro w' ⟨s0, s1, s2, s3⟩
          go_simp
          with_reducible rfl
        rotate_left
        · simp only [Act.put, List.setIfInBounds_toArray, List.set_cons_zero, List.set_cons_succ, i64_w, i32_w]
          rfl
        refine pure_ (i := 1) (N := some 21) (v := ?_) (a' := ?_) #[true, true, false, false, false, false, false, true] rfl rfl (by kernel_rfl) (fun _ _ _ h => h) (Or.inl ⟨by rfl, ?_⟩) ?_ ?_
        rotate_left
        · intro w'
          go_simp
          with_reducible rfl
        rotate_left
        · simp only [Act.put, List.setIfInBounds_toArray, List.set_cons_zero, List.set_cons_succ, i64_w, i32_w]
          rfl
        refine pure_ (i := 2) (N := some 22) (v := ?_) (a' := ?_) #[true, true, true, false, false, false, false, true] rfl rfl (by kernel_rfl) (fun _ _ _ h => h) (Or.inl ⟨by rfl, ?_⟩) ?_ ?_
        rotate_left
        · intro w'
          go_simp
          with_reducible rfl
        rotate_left
        · simp only [Act.put, List.setIfInBounds_toArray, List.set_cons_zero, List.set_cons_succ, i64_w, i32_w]
          rfl
        refine take_ (i := 3) (N := some 23) (v := ?_) (a' := ?_) #[true, true, true, true, false, false, false, true] rfl rfl (by kernel_rfl) (fun _ _ _ h => h) (Or.inl ⟨by rfl, ?_⟩) hHeld ?_ ?_
        rotate_left
        · rintro w' ⟨s0, s1, s2, s3⟩
          go_simp
          with_reducible rfl
        rotate_left
        · simp only [Act.put, List.setIfInBounds_toArray, List.set_cons_zero, List.set_cons_succ, i64_w, i32_w]
          rfl
        refine take_ (i := 4) (N := some 24) (v := ?_) (a' := ?_) #[true, true, true, true, true, false, false, true] rfl rfl (by kernel_rfl) (fun _ _ _ h => h) (Or.inl ⟨by rfl, ?_⟩) hHeld ?_ ?_
        rotate_left
        · rintro w' ⟨s0, s1, s2, s3⟩
          go_simp
          with_reducible rfl
        rotate_left
        · simp only [Act.put, List.setIfInBounds_toArray, List.set_cons_zero, List.set_cons_succ, i64_w, i32_w]
          rfl
        refine take_ (i := 5) (N := some 25) (v := ?_) (a' := ?_) #[true, true, true, true, true, true, false, true] rfl rfl (by kernel_rfl) (fun _ _ _ h => h) (Or.inl ⟨by rfl, ?_⟩) hHeld ?_ ?_
        rotate_left
        · rintro w' ⟨s0, s1, s2, s3⟩
          go_simp
          with_reducible rfl
        rotate_left
        · simp only [Act.put, List.setIfInBounds_toArray, List.set_cons_zero, List.set_cons_succ, i64_w, i32_w]
          rfl
        refine pure_ (i := 6) (N := some 26) (v := ?_) (a' := ?_) #[true, true, true, true, true, true, true, true] rfl rfl (by kernel_rfl) (fun _ _ _ h => h) (Or.inl ⟨by rfl, ?_⟩) ?_ ?_
        rotate_left
        · intro w'
          go_simp
          with_reducible rfl
        rotate_left
        · simp only [Act.put, List.setIfInBounds_toArray, List.set_cons_zero, List.set_cons_succ, i64_w, i32_w]
          rfl
        refine done_ (by kernel_rfl) ?_
        have HU1 : Hid (IW J W0 (BxS tb lt ln ls x 1) cl (cl.drop 0) (cl.take 0) W1.drew) := Lib.hid (HU0.out.calm HJ.out HBC.out (by repeat (first | exact Below.refl _ _ | apply pw_below_drewN | apply below_drew1)))
        go_wp2
        go_loopw [6, 27] (fun v6 v27 wr => ∃ i : Nat, i ≤ cl.length ∧ v27 = .int .i64 (i : Nat) ∧ Hid (IW J W0 (BxS tb lt ln ls x 1) cl (cl.drop i) (cl.take i) wr)) (fun _ v _ => cl.length - (intOf v).toNat)
        case atStart => exact ⟨0, Nat.zero_le _, rfl, HU1⟩
        case round =>
          clear HU1 HU0 cT cN cS k4W
          obtain ⟨i, hi, rfl, HU⟩ := hrel
          by_cases hin : i < cl.length
          · cases A with
            | none => exact absurd (hnone rfl) (by omega)
            | some ad =>
              have hlt : (i : Int) < (cl.length : Int) := by omega
              have hwi : IntKind.i64.wrap ((i : Int) + 1) = ((i + 1 : Nat) : Int) := by rw [IntWalk.i64_in _ (by omega)]; rfl
              have cx0 := HCB.out ad rfl i hin
              have cx := (HU.out.low.cell (p := ad.add i) (World.block_lt_of_cell? W0 _ cx0)).trans cx0
              have htk : cl.take i ++ [cl.getD i 0] = cl.take (i + 1) := by
                rw [List.take_add_one, List.getElem?_eq_getElem hin, List.getD_eq_getElem?_getD, List.getElem?_eq_getElem hin]
                rfl
              rw [drop_cons hin] at HU
              have HTK := Lib.hid htk
              clear cx0 htk
              generalize cl.getD i 0 = y at HU HTK cx
              obtain ⟨fn, tmps, assign, body, hy, hR⟩ := HY.out (cl.take i) y wr HU.out.j HU.out.len trivial
              try dsimp only at hy
              have HR := Lib.hid hR
              clear hR
              go_upto_region 8 with (first | go_in)
              refine (wpIn_wide (n := n)).1 ?_
              gi_wp2
              refine ⟨fun h => by simp [Fence.wide] at h, HR.out.mono ?_⟩
              rintro e W3 (⟨rfl, hJ3, hk3⟩ | ⟨rfl, hJ3, hk3⟩)
              · have HN := Lib.hid (HU.out.round HBX.out hJ3 hk3)
                rw [HTK.out] at HN
                clear hJ3 hk3
                gi_wp2
                go_wp2
                go_roundw
                case rel => exact ⟨i + 1, by omega, by go_num, HN⟩
                case measure => simp [intOf]; omega
              · have hpx := HU.out.pre
                gi_wp2
                go_wp2
                refine bodyPost_ret (results_none rfl _ _ _) rfl ?_
                exact ⟨⟨_, rfl⟩, .inr ⟨_, hpx, hJ3⟩⟩
          · have hlt : ¬ (i : Int) < (cl.length : Int) := by omega
            have hj := HU.out.j
            rw [List.take_of_length_le (by omega)] at hj
            go_wp2
            go_end0
            first | exact ⟨⟨_, rfl⟩, .inl hj⟩ | exact ⟨⟨_, rfl⟩, .inl ⟨cl, rfl, hj⟩⟩
      · by_cases hs2 : s = 2
        · have hL : scopeI es p nn PI x s = (List.range (endR (keyS es p) x.toNat - x.toNat)).map fun (i : Nat) => x + (i : Int) := by unfold scopeI; rw [hb, if_pos rfl, if_neg hs0, if_neg hs1, if_pos hs2]
          rw [hL] at HU0 HY ⊢
          subst hs2
          have hxn := HXN.out
          subst hxn
          obtain ⟨L, eg, ec, g, cap, pc, ef, V, Z, a1, a2, a3, a4, a5, a6, a7, _, a9, a10, a11, a12, _⟩ := HT.out
          have htb := HT.out.lt
          have k3 := a5.get 3 _ rfl
          have kE := a11.get xn _ (endc_at ef hxl)
          have hge := a11.lt
          rw [Int.toNat_natCast, endR_eq (a12 xn hxl)] at HU0 HY ⊢
          obtain ⟨hi1, hi2, _⟩ := a12 xn hxl
          rw [keyS_len] at hi2
          generalize ef xn = e at kE hi1 hi2 HU0 HY ⊢
          generalize L.ge = ge at k3 kE hge
          clear a1 a2 a3 a4 a5 a6 a7 a9 a10 a11 a12 hb hL
          have hle : e ≤ 1048576 := by omega
          obtain ⟨m, hm⟩ : ∃ m, m = e - xn := ⟨_, rfl⟩
          rw [← hm] at HU0 HY ⊢
          have HK3 := Lib.hid k3
          have HKE := Lib.hid kE
          clear k3 kE
          go_enter Tryd.func53, Tryd.ntmps53
          go_wp2_with (first
            | (go_at_call 51; ((with_reducible refine HH.out.mono ?_); rintro e W1 ⟨rfl, rfl⟩))
            | go_in)
          go_loopw [7] (fun v7 wr => ∃ (i : Nat) (y : Int), i ≤ m ∧ Hid (y = (xn : Int) + (i : Int)) ∧ v7 = .int .i64 y ∧ Hid (IW J W0 (BxS tb lt ln ls (xn : Int) 2) ((List.range m).map fun (i : Nat) => (xn : Int) + (i : Int)) (((List.range m).map fun (i : Nat) => (xn : Int) + (i : Int)).drop i) (((List.range m).map fun (i : Nat) => (xn : Int) + (i : Int)).take i) wr)) (fun v _ => e - (intOf v).toNat)
          case atStart => exact ⟨0, (xn : Int), Nat.zero_le _, Lib.hid (by simp), rfl, HU0⟩
          case round =>
            clear HU0 cT cN cS
            obtain ⟨i, y, hi, HYI, rfl, HU⟩ := hrel
            have k3 := (HU.out.low.cell (p := ⟨tb, 3, none⟩) htb).trans HK3.out
            have kE := (HU.out.low.cell (p := ⟨ge, xn, none⟩) hge).trans HKE.out
            have cT := HU.out.box.1.cell
            have cN := HU.out.box.2.1.cell
            by_cases hin : i < m
            · have hlt : y < (e : Int) := by have := HYI.out; omega
              have hwy : IntKind.i64.wrap (y + 1) = y + 1 := IntWalk.i64_in _ (by have := HYI.out; omega)
              have hy0 : 0 ≤ y := by have := HYI.out; omega
              go_wp2
              refine start_ (n := 9) (S := fun w' => w'.cell? ⟨lt, 0, none⟩ = some (TP tb) ∧ w'.cell? ⟨tb, 3, none⟩ = some (.slice (some ⟨ge, 0, none⟩) nn nn) ∧ w'.cell? ⟨ln, 0, none⟩ = some (.int .i64 (xn : Int)) ∧ w'.cell? ⟨ge, xn, none⟩ = some (.int .i64 (e : Int))) (ds := []) #[false, false, false, false, false, false, false, false, false] (by kernel_rfl) rfl rfl ⟨cT, k3, cN, kE⟩ (fun hHeld => ?_)
              refine pure_ (i := 0) (N := some 39) (v := ?_) (a' := ?_) #[true, false, false, false, false, false, false, false, false] rfl rfl (by kernel_rfl) (fun _ _ _ h => h) (Or.inl ⟨by rfl, ?_⟩) ?_ ?_
              rotate_left
              · intro w'
                go_simp
                with_reducible rfl
              rotate_left
              · simp only [Act.put, List.setIfInBounds_toArray, List.set_cons_zero, List.set_cons_succ, i64_w, i32_w]
                rfl
              refine take_ (i := 1) (N := some 40) (v := ?_) (a' := ?_) #[true, true, false, false, false, false, false, false, false] rfl rfl (by kernel_rfl) (fun _ _ _ h => h) (Or.inl ⟨by rfl, ?_⟩) hHeld ?_ ?_
              rotate_left
              · rintro w' ⟨s0, s1, s2, s3⟩
                go_simp
                with_reducible rfl
              rotate_left
              · simp only [Act.put, List.setIfInBounds_toArray, List.set_cons_zero, List.set_cons_succ, i64_w, i32_w]
                rfl
              refine pure_ (i := 2) (N := some 41) (v := ?_) (a' := ?_) #[true, true, true, false, false, false, false, false, false] rfl rfl (by kernel_rfl) (fun _ _ _ h => h) (Or.inl ⟨by rfl, ?_⟩) ?_ ?_
              rotate_left
              · intro w'
                go_simp
                with_reducible rfl
              rotate_left
              · simp only [Act.put, List.setIfInBounds_toArray, List.set_cons_zero, List.set_cons_succ, i64_w, i32_w]
                rfl
              refine pure_ (i := 3) (N := some 42) (v := ?_) (a' := ?_) #[true, true, true, true, false, false, false, false, false] rfl rfl (by kernel_rfl) (fun _ _ _ h => h) (Or.inl ⟨by rfl, ?_⟩) ?_ ?_
              rotate_left
              · intro w'
                go_simp
                with_reducible rfl
              rotate_left
              · simp only [Act.put, List.setIfInBounds_toArray, List.set_cons_zero, List.set_cons_succ, i64_w, i32_w]
                rfl
              refine take_ (i := 4) (N := some 43) (v := ?_) (a' := ?_) #[true, true, true, true, true, false, false, false, false] rfl rfl (by kernel_rfl) (fun _ _ _ h => h) (Or.inl ⟨by rfl, ?_⟩) hHeld ?_ ?_
              rotate_left
              · rintro w' ⟨s0, s1, s2, s3⟩
                go_simp
                with_reducible rfl
              rotate_left
              · simp only [Act.put, List.setIfInBounds_toArray, List.set_cons_zero, List.set_cons_succ, i64_w, i32_w]
                rfl
              refine take_ (i := 5) (N := some 44) (v := ?_) (a' := ?_) #[true, true, true, true, true, true, false, false, false] rfl rfl (by kernel_rfl) (fun _ _ _ h => h) (Or.inl ⟨by rfl, ?_⟩) hHeld ?_ ?_
              rotate_left
              · rintro w' ⟨s0, s1, s2, s3⟩
                go_simp
                with_reducible rfl
              rotate_left
              · simp only [Act.put, List.setIfInBounds_toArray, List.set_cons_zero, List.set_cons_succ, i64_w, i32_w]
                rfl
              refine pure_ (i := 6) (N := some 45) (v := ?_) (a' := ?_) #[true, true, true, true, true, true, true, false, false] rfl rfl (by kernel_rfl) (fun _ _ _ h => h) (Or.inl ⟨by rfl, ?_⟩) ?_ ?_
              rotate_left
              · intro w'
                go_simp
                with_reducible rfl
              rotate_left
              · simp only [Act.put, List.setIfInBounds_toArray, List.set_cons_zero, List.set_cons_succ, i64_w, i32_w]
                rfl
              refine take_ (i := 7) (N := some 46) (v := ?_) (a' := ?_) #[true, true, true, true, true, true, true, true, false] rfl rfl (by kernel_rfl) (fun _ _ _ h => h) (Or.inl ⟨by rfl, ?_⟩) hHeld ?_ ?_
              rotate_left
              · rintro w' ⟨s0, s1, s2, s3⟩
                go_simp
                with_reducible rfl
              rotate_left
              · simp only [Act.put, List.setIfInBounds_toArray, List.set_cons_zero, List.set_cons_succ, i64_w, i32_w]
                rfl
              refine pure_ (i := 8) (N := some 47) (v := ?_) (a' := ?_) #[true, true, true, true, true, true, true, true, true] rfl rfl (by kernel_rfl) (fun _ _ _ h => h) (Or.inl ⟨by rfl, ?_⟩) ?_ ?_
              rotate_left
              · intro w'
                go_simp
                with_reducible rfl
              rotate_left
              · simp only [Act.put, List.setIfInBounds_toArray, List.set_cons_zero, List.set_cons_succ, i64_w, i32_w]
                rfl
              refine done_ (by kernel_rfl) ?_
              have HU2 : Hid (IW J W0 (BxS tb lt ln ls (xn : Int) 2) ((List.range m).map fun (i : Nat) => (xn : Int) + (i : Int)) (((List.range m).map fun (i : Nat) => (xn : Int) + (i : Int)).drop i) (((List.range m).map fun (i : Nat) => (xn : Int) + (i : Int)).take i) wr.drew) := Lib.hid (HU.out.calm HJ.out HBC.out (by repeat (first | exact Below.refl _ _ | apply pw_below_drewN | apply below_drew1)))
              have htk : ((List.range m).map fun (i : Nat) => (xn : Int) + (i : Int)).take i ++ [y] = ((List.range m).map fun (i : Nat) => (xn : Int) + (i : Int)).take (i + 1) := by
                rw [List.take_add_one, HYI.out]
                simp [hin]
              rw [span_drop _ _ _ hin, ← HYI.out] at HU2
              have HTK := Lib.hid htk
              clear htk HU
              obtain ⟨fn, tmps, assign, body, hy, hR⟩ := HY.out _ y wr.drew HU2.out.j HU2.out.len trivial
              try dsimp only at hy
              have HR := Lib.hid hR
              clear hR
              go_upto_region 14 with (first | go_in)
              refine (wpIn_wide (n := n)).1 ?_
              gi_wp2
              refine ⟨fun h => by simp [Fence.wide] at h, HR.out.mono ?_⟩
              rintro e W3 (⟨rfl, hJ3, hk3⟩ | ⟨rfl, hJ3, hk3⟩)
              · have HN := Lib.hid (HU2.out.round HBX.out hJ3 hk3)
                rw [HTK.out] at HN
                clear hJ3 hk3
                gi_wp2
                go_wp2
                go_roundw
                case rel => exact ⟨i + 1, y + 1, by omega, Lib.hid (by have := HYI.out; omega), rfl, HN⟩
                case measure => simp [intOf]; omega
              · have hpx := HU2.out.pre
                gi_wp2
                go_wp2
                refine bodyPost_ret (results_none rfl _ _ _) rfl ?_
                exact ⟨⟨_, rfl⟩, .inr ⟨_, hpx, hJ3⟩⟩
            · have hlt : ¬ y < (e : Int) := by have := HYI.out; omega
              go_wp2
              refine start_ (n := 9) (S := fun w' => w'.cell? ⟨lt, 0, none⟩ = some (TP tb) ∧ w'.cell? ⟨tb, 3, none⟩ = some (.slice (some ⟨ge, 0, none⟩) nn nn) ∧ w'.cell? ⟨ln, 0, none⟩ = some (.int .i64 (xn : Int)) ∧ w'.cell? ⟨ge, xn, none⟩ = some (.int .i64 (e : Int))) (ds := []) #[false, false, false, false, false, false, false, false, false] (by kernel_rfl) rfl rfl ⟨cT, k3, cN, kE⟩ (fun hHeld => ?_)
              refine pure_ (i := 0) (N := some 39) (v := ?_) (a' := ?_) #[true, false, false, false, false, false, false, false, false] rfl rfl (by kernel_rfl) (fun _ _ _ h => h) (Or.inl ⟨by rfl, ?_⟩) ?_ ?_
              rotate_left
              · intro w'
                go_simp
                with_reducible rfl
              rotate_left
              · simp only [Act.put, List.setIfInBounds_toArray, List.set_cons_zero, List.set_cons_succ, i64_w, i32_w]
                rfl
              refine take_ (i := 1) (N := some 40) (v := ?_) (a' := ?_) #[true, true, false, false, false, false, false, false, false] rfl rfl (by kernel_rfl) (fun _ _ _ h => h) (Or.inl ⟨by rfl, ?_⟩) hHeld ?_ ?_
              rotate_left
              · rintro w' ⟨s0, s1, s2, s3⟩
                go_simp
                with_reducible rfl
              rotate_left
              · simp only [Act.put, List.setIfInBounds_toArray, List.set_cons_zero, List.set_cons_succ, i64_w, i32_w]
                rfl
              refine pure_ (i := 2) (N := some 41) (v := ?_) (a' := ?_) #[true, true, true, false, false, false, false, false, false] rfl rfl (by kernel_rfl) (fun _ _ _ h => h) (Or.inl ⟨by rfl, ?_⟩) ?_ ?_
              rotate_left
              · intro w'
                go_simp
                with_reducible rfl
              rotate_left
              · simp only [Act.put, List.setIfInBounds_toArray, List.set_cons_zero, List.set_cons_succ, i64_w, i32_w]
                rfl
              refine pure_ (i := 3) (N := some 42) (v := ?_) (a' := ?_) #[true, true, true, true, false, false, false, false, false] rfl rfl (by kernel_rfl) (fun _ _ _ h => h) (Or.inl ⟨by rfl, ?_⟩) ?_ ?_
              rotate_left
              · intro w'
                go_simp
                with_reducible rfl
              rotate_left
              · simp only [Act.put, List.setIfInBounds_toArray, List.set_cons_zero, List.set_cons_succ, i64_w, i32_w]
                rfl
              refine take_ (i := 4) (N := some 43) (v := ?_) (a' := ?_) #[true, true, true, true, true, false, false, false, false] rfl rfl (by kernel_rfl) (fun _ _ _ h => h) (Or.inl ⟨by rfl, ?_⟩) hHeld ?_ ?_
              rotate_left
              · rintro w' ⟨s0, s1, s2, s3⟩
                go_simp
                with_reducible rfl
              rotate_left
              · simp only [Act.put, List.setIfInBounds_toArray, List.set_cons_zero, List.set_cons_succ, i64_w, i32_w]
                rfl
              refine take_ (i := 5) (N := some 44) (v := ?_) (a' := ?_) #[true, true, true, true, true, true, false, false, false] rfl rfl (by kernel_rfl) (fun _ _ _ h => h) (Or.inl ⟨by rfl, ?_⟩) hHeld ?_ ?_
              rotate_left
              · rintro w' ⟨s0, s1, s2, s3⟩
                go_simp
                with_reducible rfl
              rotate_left
              · simp only [Act.put, List.setIfInBounds_toArray, List.set_cons_zero, List.set_cons_succ, i64_w, i32_w]
                rfl
              refine pure_ (i := 6) (N := some 45) (v := ?_) (a' := ?_) #[true, true, true, true, true, true, true, false, false] rfl rfl (by kernel_rfl) (fun _ _ _ h => h) (Or.inl ⟨by rfl, ?_⟩) ?_ ?_
              rotate_left
              · intro w'
                go_simp
                with_reducible rfl
              rotate_left
              · simp only [Act.put, List.setIfInBounds_toArray, List.set_cons_zero, List.set_cons_succ, i64_w, i32_w]
                rfl
              refine take_ (i := 7) (N := some 46) (v := ?_) (a' := ?_) #[true, true, true, true, true, true, true, true, false] rfl rfl (by kernel_rfl) (fun _ _ _ h => h) (Or.inl ⟨by rfl, ?_⟩) hHeld ?_ ?_
              rotate_left
              · rintro w' ⟨s0, s1, s2, s3⟩
                go_simp
                with_reducible rfl
              rotate_left
              · simp only [Act.put, List.setIfInBounds_toArray, List.set_cons_zero, List.set_cons_succ, i64_w, i32_w]
                rfl
              refine pure_ (i := 8) (N := some 47) (v := ?_) (a' := ?_) #[true, true, true, true, true, true, true, true, true] rfl rfl (by kernel_rfl) (fun _ _ _ h => h) (Or.inl ⟨by rfl, ?_⟩) ?_ ?_
              rotate_left
              · intro w'
                go_simp
                with_reducible rfl
              rotate_left
              · simp only [Act.put, List.setIfInBounds_toArray, List.set_cons_zero, List.set_cons_succ, i64_w, i32_w]
                rfl
              refine done_ (by kernel_rfl) ?_
              have HU2 : Hid (IW J W0 (BxS tb lt ln ls (xn : Int) 2) ((List.range m).map fun (i : Nat) => (xn : Int) + (i : Int)) (((List.range m).map fun (i : Nat) => (xn : Int) + (i : Int)).drop i) (((List.range m).map fun (i : Nat) => (xn : Int) + (i : Int)).take i) wr.drew) := Lib.hid (HU.out.calm HJ.out HBC.out (by repeat (first | exact Below.refl _ _ | apply pw_below_drewN | apply below_drew1)))
              have hj := HU2.out.j
              rw [List.take_of_length_le (by simp; omega)] at hj
              go_wp2
              go_end0
              first | exact ⟨⟨_, rfl⟩, .inl hj⟩ | exact ⟨⟨_, rfl⟩, .inl ⟨_, rfl, hj⟩⟩
        · have hL : scopeI es p nn PI x s = [] := by unfold scopeI; rw [hb, if_pos rfl, if_neg hs0, if_neg hs1, if_neg hs2]
          rw [hL] at HU0 ⊢
          clear hb
          go_enter Tryd.func53, Tryd.ntmps53
          go_wp2_with (first
            | (go_at_call 51; ((with_reducible refine HH.out.mono ?_); rintro e W1 ⟨rfl, rfl⟩))
            | go_in)
          go_end0
          exact ⟨⟨_, rfl⟩, .inl ⟨[], rfl, HU0.out.j⟩⟩
end
end Go.Proofs.YtnogmaljcocfjaaDoor.DitMeth

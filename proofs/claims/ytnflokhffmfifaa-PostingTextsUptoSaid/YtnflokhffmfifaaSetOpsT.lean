/- By hand: posting's Union, Meet and Minus at numbers, and the law's own comparison. For every list of lists and world. -/
import Derived.Test.YtnflokhffmfifaaAtLeastWT
import Derived.Test.YtnflokhffmfifaaPostAlg
import Derived.Test.YtnflokhffmfifaaCurSkipT
import Derived.Test.YtnflokhffmfifaaNewCT
import Derived.Test.YtnflokhffmfifaaSkipsAT
set_option linter.unusedVariables false
set_option linter.unusedSimpArgs false
namespace Go.Proofs.Ytnflokhffmfifaa.CountWT
open Go.RowKit Go.Proofs.Ytnflokhffmfifaa.Blk Go.Proofs.Ytnflokhffmfifaa.Ris Go.Proofs.Ytnflokhffmfifaa.OfT Go.Proofs.Ytnflokhffmfifaa.Keys Go.Proofs.Ytnflokhffmfifaa.XV Go.Proofs.Ytnflokhffmfifaa.HeapPure Go.Proofs.Ytnflokhffmfifaa.HeapWT Go.Proofs.Ytnflokhffmfifaa.PostAlg Go.Proofs.YtnflokhffmfifaaW.PrintWords Go.Proofs.YtnflokhffmfifaaW.PrintLast Go.Proofs.YtnflokhffmfifaaW.PrintMore
/-- A list that has been handed back: its row is new. -/
def Got (w : World) (r : List ByteArray) (e : Ending) (w' : World) : Prop := ∃ g B cc, e = .returned (.slice B r.length cc) ∧ Row w' g B cc r ∧ (0 < r.length → w.heap.size ≤ g ∧ g < w'.heap.size) ∧ Below w.heap.size w w'
theorem _root_.Go.Proofs.Ytnflokhffmfifaa.OfT.GotM.got {w : World} {r : List ByteArray} {e : Ending} {w' : World} (h : GotM w r e w') : Got w r e w' := by
  obtain ⟨g, B, cc, e, h1, h2⟩ := h
  exact ⟨g, B, cc, e, h1.row, h1.new, h2⟩
theorem union_m (w : World) (c : Nat) (L : Option Addr) (Es : List Hd) (h : Heads w L Es) (hm : bulk Es ≤ 16777216) (hl : ∀ d ∈ Es, d.l.length ≤ 1048576) (hlen : Es.length ≤ 1048576) : Calls Try.prog 44 #[.slice L Es.length c] w (GotM w (union ltS (Es.map Hd.l))) := by
  have H := Lib.hid (atleast_m w 1 c L Es h hm hl hlen)
  unfold union
  clear h hl
  generalize atLeast ltS 1 (Es.map Hd.l) = r at H ⊢
  go_enter Try.func44, Try.ntmps44
  go_wp2_with (first | (go_at_call 48; ((with_reducible refine H.out.mono ?_); rintro e w' ⟨g, B, cc, rfl, q1, q2⟩; have HQ := Lib.hid (And.intro q1 q2); clear q1 q2)) | go_in)
  go_ret
  exact ⟨g, B, cc, rfl, HQ.out.1, HQ.out.2⟩
theorem union_as (w : World) (c : Nat) (L : Option Addr) (Es : List Hd) (h : Heads w L Es) (hm : bulk Es ≤ 16777216) (hl : ∀ d ∈ Es, d.l.length ≤ 1048576) (hlen : Es.length ≤ 1048576) : Calls Try.prog 44 #[.slice L Es.length c] w (Got w (union ltS (Es.map Hd.l))) :=
  (union_m w c L Es h hm hl hlen).mono fun _ _ h => h.got
theorem meet_m (w : World) (c : Nat) (L : Option Addr) (Es : List Hd) (h : Heads w L Es) (hm : bulk Es ≤ 16777216) (hl : ∀ d ∈ Es, d.l.length ≤ 1048576) (hlen : Es.length ≤ 1048576) : Calls Try.prog 46 #[.slice L Es.length c] w (GotM w (meet ltS (Es.map Hd.l))) := by
  have H := Lib.hid (atleast_m w (Es.length : Int) c L Es h hm hl hlen)
  unfold meet
  rw [List.length_map]
  clear h hl
  by_cases hz : Es.length = 0
  · rw [if_pos hz]
    have hz' : ((Es.length : Int) == 0) = true := by rw [hz]; rfl
    have HZ := Lib.hid hz
    clear hz H
    go_enter Try.func46, Try.ntmps46
    go_wp2
    go_ret
    exact ⟨0, none, 0, rfl, .inl ⟨rfl, rfl, rfl⟩, by repeat (first | exact Below.refl _ _ | apply below_alloc | apply pw_below_drewN | apply below_drew1)⟩
  · rw [if_neg hz]
    have hz' : ((Es.length : Int) == 0) = false := beq_eq_false_iff_ne.mpr (by omega)
    generalize atLeast ltS (Es.length : Int) (Es.map Hd.l) = r at H ⊢
    clear hz
    go_enter Try.func46, Try.ntmps46
    go_wp2_with (first | (go_at_call 48; ((with_reducible refine H.out.mono ?_); rintro e w' ⟨g, B, cc, rfl, q1, q2⟩; have HQ := Lib.hid (And.intro q1 q2); clear q1 q2)) | go_in)
    go_ret
    exact ⟨g, B, cc, rfl, HQ.out.1, HQ.out.2⟩
theorem meet_as (w : World) (c : Nat) (L : Option Addr) (Es : List Hd) (h : Heads w L Es) (hm : bulk Es ≤ 16777216) (hl : ∀ d ∈ Es, d.l.length ≤ 1048576) (hlen : Es.length ≤ 1048576) : Calls Try.prog 46 #[.slice L Es.length c] w (Got w (meet ltS (Es.map Hd.l))) :=
  (meet_m w c L Es h hm hl hlen).mono fun _ _ h => h.got
/-- Two rows of one list. -/
theorem same_as (w : World) (g1 g2 c1 c2 : Nat) (A1 A2 : Option Addr) (l : List ByteArray) (h1 : Row w g1 A1 c1 l) (h2 : Row w g2 A2 c2 l) (hn : l.length ≤ 16777216) : Calls Try.prog 39 #[.slice A1 l.length c1, .slice A2 l.length c2] w fun e w' => e = .returned (.bool true) ∧ Drawn0 w w' := by
  have hne : ((l.length : Int) != (l.length : Int)) = false := bne_self_eq_false _
  have hrow : Hid (∀ k : Nat, k < l.length → (∃ o, A1 = some ⟨g1, o, none⟩ ∧ w.cell? ⟨g1, o + k, none⟩ = some (.string (l.getD k E))) ∧ (∃ o, A2 = some ⟨g2, o, none⟩ ∧ w.cell? ⟨g2, o + k, none⟩ = some (.string (l.getD k E)))) := fun k hk => by
    obtain ⟨o1, e1, k1⟩ := h1.at_ (by omega)
    obtain ⟨o2, e2, k2⟩ := h2.at_ (by omega)
    exact ⟨⟨o1, e1, k1 k hk⟩, ⟨o2, e2, k2 k hk⟩⟩
  clear h1 h2
  go_enter Try.func39, Try.ntmps39
  go_wp2
  go_loopw [5] (fun v wr => ∃ k : Nat, k ≤ l.length ∧ v = .int .i64 (k : Nat) ∧ Drawn0 w wr) (fun v _ => l.length - (intOf v).toNat)
  case atStart => exact ⟨0, Nat.zero_le _, rfl, by repeat (first | exact Drawn0.refl _ | apply Drawn0.step)⟩
  case round =>
    obtain ⟨k, hk, rfl, HW⟩ := hrel
    obtain ⟨n, rfl⟩ := HW
    by_cases hin : k < l.length
    · have hlt : (k : Int) < (l.length : Int) := by omega
      obtain ⟨⟨o1, rfl, k1⟩, ⟨o2, rfl, k2⟩⟩ := hrow.out k hin
      generalize l.getD k E = x at k1 k2
      have hxx : (x.toList != x.toList) = false := bne_self_eq_false _
      go_wp2
      repeat (go_quiet (fail); try go_wp2)
      go_roundw
      case rel => exact ⟨k + 1, by omega, by go_num, by repeat (first | exact Drawn0.refl _ | apply Drawn0.step)⟩
      case measure => simp [intOf]; omega
    · have hlt : ¬ ((k : Int) < (l.length : Int)) := by omega
      go_wp2
      go_ret
      exact ⟨rfl, by repeat (first | exact Drawn0.refl _ | apply Drawn0.step)⟩
instance memS (x : ByteArray) (b : List ByteArray) : Decidable (x ∈ b) := @List.instDecidableMemOfLawfulBEq ByteArray instBEqOfDecidableEq _ x b
theorem mem_drop_place {ms : List ByteArray} (hr : Ris ltS ms) (x y : ByteArray) : y ∈ ms.drop (place ms x) ↔ y ∈ ms ∧ ltS y x = false := by
  have hp := place_le ms x
  constructor
  · intro h
    obtain ⟨j, hj, rfl⟩ := List.getElem_of_mem h
    rw [List.length_drop] at hj
    refine ⟨List.mem_of_mem_drop h, ?_⟩
    have h1 := ris_above hr (place_end ms x (by omega)) (place ms x + j) (by omega) (by omega)
    rw [getElem_getD (β := ByteArray) _ _ (by rw [List.length_drop]; omega)]
    simp only [List.getD_eq_getElem?_getD, List.getElem?_drop] at h1 ⊢
    exact h1
  · rintro ⟨h, hy⟩
    obtain ⟨j, hj, rfl⟩ := List.getElem_of_mem h
    have hle : place ms x ≤ j := by
      rcases Nat.lt_or_ge j (place ms x) with h1 | h1
      · have := place_lt ms x j h1
        rw [getElem_getD (β := ByteArray) _ _ hj] at hy
        have hy' : ltS (ms.getD j E) x = false := hy
        rw [hy'] at this; cases this
      · exact h1
    refine List.mem_iff_getElem.2 ⟨j - place ms x, by rw [List.length_drop]; omega, ?_⟩
    rw [List.getElem_drop]
    congr 1
    omega
/-- What the cursor has left, ahead of the element number i. -/
structure ML (w : World) (pc gc n₀ : Nat) (s b : List ByteArray) (sg : Nat) (SA : Option Addr) (sc i : Nat) (ms : List ByteArray) (wr : World) : Prop where
  cur : Cur wr pc gc ms
  ris : Ris ltS ms
  len : ms.length ≤ 1048576
  mem : ∀ j, i ≤ j → j < s.length → (s.getD j E ∈ ms ↔ s.getD j E ∈ b)
  gc_ : 0 < ms.length → gc < n₀ ∧ gc ≠ pc
  row : Row wr sg SA sc s
  far : 0 < s.length → sg < n₀ ∧ sg ≠ pc
  pc_ : w.heap.size ≤ pc ∧ pc < n₀ ∧ n₀ ≤ wr.heap.size
  below : Below w.heap.size w wr
theorem ML.go {w wr w5 : World} {pc gc n₀ sg sc i : Nat} {SA : Option Addr} {s b ms : List ByteArray} (h : ML w pc gc n₀ s b sg SA sc i ms wr) (hs : Ris ltS s) (hi : i < s.length) (c5 : Cur w5 pc gc (ms.drop (place ms (s.getD i E)))) (g5 : wr.grownBy w5 (some pc)) (q : Nat) :
    ML w pc gc n₀ s b sg SA sc (i + 1) (ms.drop (place ms (s.getD i E))) (w5.drewN q) := by
  have hz := g5.size
  have hpc := h.pc_
  refine ⟨c5.on rfl (fun _ => rfl), ris_drop h.ris _, by rw [List.length_drop]; have := h.len; omega, fun j h1 h2 => ?_, fun hp => h.gc_ (by rw [List.length_drop] at hp; omega), (h.row.on (fun hp => grown_on g5 (Row.lt h.row hp) (h.far hp).2)).on (fun _ => rfl), h.far, ⟨hpc.1, hpc.2.1, Nat.le_trans hpc.2.2 hz⟩, pw_below_drewN (below_grown h.below g5 hpc.1) q⟩
  rw [mem_drop_place h.ris]
  have h3 := ris_at hs (show i < j by omega) h2
  constructor
  · exact fun h4 => (h.mem j (by omega) h2).1 h4.1
  · exact fun h4 => ⟨(h.mem j (by omega) h2).2 h4, totS.asym h3⟩
/-- Whether the element stands in b, as the cursor tells it. -/
theorem ML.tells {w wr : World} {pc gc n₀ sg sc i : Nat} {SA : Option Addr} {s b ms : List ByteArray} (h : ML w pc gc n₀ s b sg SA sc i ms wr) (hi : i < s.length) :
    s.getD i E ∈ b ↔ 0 < (ms.drop (place ms (s.getD i E))).length ∧ (ms.drop (place ms (s.getD i E))).getD 0 E = s.getD i E := by
  have hm := mem_drop_place h.ris (s.getD i E)
  have hr := ris_drop h.ris (place ms (s.getD i E))
  rw [← h.mem i (Nat.le_refl _) hi]
  have h1 : s.getD i E ∈ ms ↔ s.getD i E ∈ ms.drop (place ms (s.getD i E)) := by rw [hm]; exact ⟨fun h => ⟨h, totS.irr _⟩, fun h => h.1⟩
  rw [h1]
  generalize s.getD i E = x at hm hr ⊢
  generalize ms.drop (place ms x) = ns at hm hr
  cases ns with
  | nil => simp
  | cons y t =>
    have hy := ((hm y).1 (by simp)).2
    constructor
    · intro h2
      refine ⟨by simp, ?_⟩
      rcases List.mem_cons.1 h2 with h3 | h3
      · exact h3.symm
      · have := (ris_cons.1 hr).1 x h3
        rw [hy] at this; cases this
    · rintro ⟨_, h2⟩
      have : y = x := by simpa using h2
      subst this
      simp
theorem ML.grow {w W w1 : World} {pc gc n₀ sg sc i : Nat} {SA : Option Addr} {s b ms : List ByteArray} {o : Obj} {row : Option Nat} (h : ML w pc gc n₀ s b sg SA sc i ms W) (hg : (W.alloc o).grownBy w1 row) (hr : ∀ j, row = some j → n₀ ≤ j) : ML w pc gc n₀ s b sg SA sc i ms w1 := by
  have hz : (W.alloc o).heap.size = W.heap.size + 1 := World.size_alloc _ _
  have hs := hg.size
  have hpc := h.pc_
  have hbs := h.below.size
  have k : ∀ j, j < W.heap.size → j < n₀ → w1.heap[j]? = W.heap[j]? := fun j h1 h2 => (hg.block j (by omega) (fun e => by have := hr j e.symm; omega)).trans (Below.heap_alloc _ _ _ h1)
  refine ⟨h.cur.on (k _ (by omega) hpc.2.1) (fun hp => k _ (by have := (h.gc_ hp).1; omega) (h.gc_ hp).1), h.ris, h.len, h.mem, h.gc_, h.row.on (fun hp => k _ (Row.lt h.row hp) (h.far hp).1), h.far, ⟨hpc.1, hpc.2.1, by omega⟩, ?_⟩
  exact (h.below.alloc hbs o).grown hg (by omega) (fun j e => by have := hr j e; omega)
theorem take_snoc' (l : List ByteArray) {k : Nat} (hk : k < l.length) : l.take (k + 1) = l.take k ++ [l.getD k E] := by
  rw [List.take_add_one, List.getElem?_eq_getElem hk]
  simp [List.getD_eq_getElem?_getD, List.getElem?_eq_getElem hk]
/-- The first so many. -/
def so_take (l : List ByteArray) (k : Nat) : List ByteArray := l.take k
theorem own_grown {wr w5 : World} {n₀ pc : Nat} {v : Value} {xs : List Value} {m : Nat} (h : wr.ownsRow n₀ 9 1 v m xs) (g : wr.grownBy w5 (some pc)) (hp : pc < n₀) : w5.ownsRow n₀ 9 1 v m xs :=
  h.kept g (.inr (fun e => by have := (h.lt _ e).1; omega))
theorem sets1_as (W : World) (ga ca pc : Nat) (A : Option Addr) (a : List ByteArray) (h : Row W ga A ca a) (la : a.length ≤ 1048576) (hpc : pc < W.heap.size) (hne : 0 < a.length → ga ≠ pc) :
    Calls Try.prog 63 #[.slice (some ⟨W.heap.size, 0, none⟩) 1 1] (W.alloc (.cells #[.slice A a.length ca] 59)) fun e W' => ∃ r o c2 SA sc sg, e = .returned (.slice (some ⟨r, o, none⟩) 1 c2) ∧ W'.cell? ⟨r, o, none⟩ = some (.slice SA (setL ltS a).length sc) ∧ Row W' sg SA sc (setL ltS a) ∧ (0 < (setL ltS a).length → sg ≠ pc) ∧ Below W.heap.size W W' := by
  have hz : (W.alloc (.cells #[.slice A a.length ca] 59)).heap.size = W.heap.size + 1 := World.size_alloc _ _
  refine (sets_as (W.alloc (.cells #[.slice A a.length ca] 59)) pc 1 (some ⟨W.heap.size, 0, none⟩) [⟨A, ca, ga, a⟩] ⟨fun k hk => ?_, fun d hd => ?_⟩ (by simp) (fun d hd => ?_) (by omega) (fun d hd hp => ?_)).mono ?_
  · obtain rfl : k = 0 := by simpa using hk
    exact ⟨W.heap.size, 0, rfl, (Boxed.new W 59 (.slice A a.length ca)).cell⟩
  · rw [List.mem_singleton] at hd
    subst hd
    exact h.on (fun hp => Below.heap_alloc _ _ _ (Row.lt h hp))
  · rw [List.mem_singleton] at hd; subst hd; exact la
  · rw [List.mem_singleton] at hd; subst hd; exact hne hp
  · rintro e W2 ⟨L2, c2, Ds, rfl, q1, q2, q3, q4⟩
    obtain ⟨⟨SA, sc, sg, s⟩, rfl⟩ : ∃ d0, Ds = [d0] := List.length_eq_one_iff.1 (by have := congrArg List.length q3; simpa using this)
    obtain ⟨lr, lo, rfl, hc⟩ := q1.head 0 (by simp)
    have hs : s = setL ltS a := by simpa using q3
    subst hs
    refine ⟨lr, lo, c2, SA, sc, sg, rfl, ?_, q1.row ⟨SA, sc, sg, _⟩ (by simp), q2 ⟨SA, sc, sg, _⟩ (by simp), ((Below.refl _ W).alloc (Nat.le_refl _) _).trans (q4.mono (by omega))⟩
    simpa [Hd.v] using hc
set_option maxHeartbeats 2000000 in
set_option maxRecDepth 100000 in
theorem minus_m (w : World) (ga gb ca cb : Nat) (A B : Option Addr) (a b : List ByteArray) (ha : Row w ga A ca a) (hb : Row w gb B cb b) (la : a.length ≤ 1048576) (lb : b.length ≤ 1048576) : Calls Try.prog 49 #[.slice A a.length ca, .slice B b.length cb] w (GotM w (minus ltS a b)) := by
  obtain ⟨i0, hi, hz0, hz1, hz2⟩ := info_parts info9
  have N1 := new_as B cb b w (Row.nums hb lb) lb
  unfold NewQ at N1
  have H1 := Lib.hid N1
  have HA := Lib.hid ha
  have ST := Lib.hid (fun W pc (hW : Row W ga A ca a) (hpc : pc < W.heap.size) hne => sets1_as W ga ca pc A a hW la hpc hne)
  clear N1 ha hb
  go_enter Try.func49, Try.ntmps49
  go_wp2_with (first
    | (go_at_call 64; ((with_reducible refine H1.out.mono ?_); rintro e W1 ⟨pc, gc, rfl, q1, q2, q3, q4, q5⟩; have HQ1 := Lib.hid (And.intro q1 (And.intro (And.intro q2 q3) (And.intro q4 q5))); clear q1 q2 q3 q4 q5))
    | (go_at_call 63; ((with_reducible refine (ST.out W1 pc (HA.out.on (fun hp => HQ1.out.2.2.2.block _ (Row.lt HA.out hp))) HQ1.out.2.1.2 (fun hp e => by have h1 := Row.lt HA.out hp; have h2 := HQ1.out.2.1.1; omega)).mono ?_); rintro e W2 ⟨lr, lo, c2, SA, sc, sg, rfl, hcs, q1, q2, q3⟩; have HQ2 := Lib.hid (And.intro q1 (And.intro q2 q3)); clear q1 q2 q3))
    | go_in)
  have hsr := ris_setL totS a
  have hmi : minus ltS a b = (setL ltS a).filter fun x => decide (x ∉ b) := rfl
  have hls : (setL ltS a).length ≤ 1048576 := Nat.le_trans (setL_len totS a) la
  generalize setL ltS a = s at *
  have hML : ML w pc gc W2.heap.size s b sg SA sc 0 (setL ltS b) W2 := by
    have hb12 := HQ2.out.2.2
    have h2 := HQ1.out.2.1
    have h3 := hb12.size
    refine ⟨HQ1.out.1.on (hb12.block _ h2.2) (fun hp => hb12.block _ (by have := HQ1.out.2.2.1 hp; omega)), ris_setL totS b, Nat.le_trans (setL_len totS b) lb, fun j _ _ => mem_setL totS _ b, fun hp => ?_, HQ2.out.1, fun hp => ⟨Row.lt HQ2.out.1 hp, HQ2.out.2.1 hp⟩, by omega, HQ1.out.2.2.2.trans (hb12.mono HQ1.out.2.2.2.size)⟩
    have h1 := HQ1.out.2.2.1 hp
    omega
  have HM0 := Lib.hid (And.intro hML (World.ownsRow_nil W2 W2.heap.size 9 1))
  have HSR := Lib.hid hsr
  have HMI := Lib.hid hmi
  clear hML hsr hmi HQ2 HQ1 ST H1 hcs
  go_loopw [5, 19] (fun v v19 wr => ∃ (k : Nat) (ms : List ByteArray), k ≤ s.length ∧ v19 = .int .i64 (k : Nat) ∧ Hid (ML w pc gc W2.heap.size s b sg SA sc k ms wr ∧ wr.ownsRow W2.heap.size 9 1 v ((s.take k).filter fun x => decide (x ∉ b)).length (((s.take k).filter fun x => decide (x ∉ b)).map (Value.string)))) (fun _ v _ => s.length - (intOf v).toNat)
  case atStart => exact ⟨0, _, Nat.zero_le _, rfl, HM0⟩
  case round =>
    obtain ⟨k, ms, hk, rfl, HW⟩ := hrel
    by_cases hin : k < s.length
    · have hlt : (k : Int) < (s.length : Int) := by omega
      obtain ⟨so, rfl, hc⟩ := HW.out.1.row.at_ (by omega)
      have cx := hc k hin
      have SK := skip_as wr pc gc ms (s.getD k E) HW.out.1.ris HW.out.1.len HW.out.1.cur
      have HGO := Lib.hid (fun w5 hc5 hg5 q => HW.out.1.go HSR.out hin (w5 := w5) hc5 hg5 q)
      have htell := HW.out.1.tells hin
      have hown := HW.out.2
      have hpcn := HW.out.1.pc_.2.1
      have hsn := take_snoc' s hin
      generalize hms : ms.drop (place ms (s.getD k E)) = ns at SK HGO htell
      generalize s.getD k E = x at cx SK hsn htell
      have HE := fun W (hW : Cur W pc gc ns) => here_as W pc gc ns hW
      have hflen : ((s.take k).filter fun x => decide (x ∉ b)).length ≤ k := Nat.le_trans (List.length_filter_le _ _) (by rw [List.length_take]; omega)
      have hml : ((s.take k).filter fun x => decide (x ∉ b)).length + 1 ≤ maxLen := by simp only [maxLen]; omega
      clear hc hms
      have HTL := Lib.hid htell
      have HSN := Lib.hid hsn
      clear htell hsn
      have H18 := Lib.hid SK
      have hW2 := HW.out.1.pc_.2.2
      clear SK
      by_cases hin2 : x ∈ b
      · obtain ⟨h5, h6⟩ := HTL.out.1 hin2
        rw [h6, decide_eq_true h5] at HE
        have H14 := Lib.hid HE
        have hxx : (x.toList != x.toList) = false := bne_self_eq_false _
        have HF := Lib.hid (show ((so_take s (k + 1)).filter fun x => decide (x ∉ b)) = ((s.take k).filter fun x => decide (x ∉ b)) by
          show ((s.take (k + 1)).filter _) = _
          rw [HSN.out, List.filter_append, List.filter_cons_of_neg (by simpa using hin2), List.filter_nil, List.append_nil])
        clear HE h5 h6 hin2
        go_wp2_with (first | (go_at_call 65; ((with_reducible refine H18.out.mono ?_); rintro e w5 ⟨rfl, q1, q2⟩; have HQ := Lib.hid (And.intro q1 q2); have own5 := own_grown hown q2 hpcn; have hz5 := q2.size; clear q1 q2)) | (go_at_call 66; ((with_reducible refine (H14.out _ ?hx).mono ?_); (case hx => exact HQ.out.1); rintro e _ ⟨rfl, ⟨n1, rfl⟩⟩)) | go_in)
        go_roundw
        case rel => exact ⟨k + 1, ns, by omega, by go_num, Lib.hid ⟨HGO.out w5 HQ.out.1 HQ.out.2 n1, by have h7 := HF.out; unfold so_take at h7; rw [h7]; exact own5⟩⟩
        case measure => simp [intOf]; omega
      · have HF := Lib.hid (show ((so_take s (k + 1)).filter fun x => decide (x ∉ b)) = ((s.take k).filter fun x => decide (x ∉ b)) ++ [x] by
          show ((s.take (k + 1)).filter _) = _
          rw [HSN.out, List.filter_append, List.filter_cons_of_pos (by simpa using hin2), List.filter_nil])
        by_cases h5 : 0 < ns.length
        · have h6 : ns.getD 0 E ≠ x := fun e => hin2 (HTL.out.2 ⟨h5, e⟩)
          rw [decide_eq_true h5] at HE
          generalize ns.getD 0 E = y at HE h6
          have hxx : (!(y.toList == x.toList)) = true := by rw [beq_eq_false_iff_ne.mpr (fun e => h6 (OfT.toList_inj e))]; rfl
          have H14 := Lib.hid HE
          clear HE h5 h6 hin2
          go_wp2_with (first | (go_at_call 65; ((with_reducible refine H18.out.mono ?_); rintro e w5 ⟨rfl, q1, q2⟩; have HQ := Lib.hid (And.intro q1 q2); have own5 := own_grown hown q2 hpcn; have hz5 := q2.size; clear q1 q2)) | (go_at_call 66; ((with_reducible refine (H14.out _ ?hx).mono ?_); (case hx => exact HQ.out.1); rintro e _ ⟨rfl, ⟨n1, rfl⟩⟩)) | (at_builtin; refine wpList_append_own _ rfl (.tmp 38) (.tmp 40) 59 rfl W2.heap.size 9 i0 (.string ⟨#[]⟩) 1 16 Try.underlying59 hi hz0 hz1 hz2 rfl (by decide) _ _ _ rfl (World.ownsRow.alloc (show (w5.drewN n1).ownsRow W2.heap.size 9 1 _ _ _ from own5) _) ⟨w5.heap.size, 0, none⟩ 1 1 [.string x] rfl rfl (cell_one_new _ _ _) (by simp [Value.oneCell']) hml (by omega) (by have h5 : (w5.drewN n1).heap.size = w5.heap.size := rfl; rw [World.size_alloc]; omega) ?_; intro v' w6 own6 grow6 _; have HZ := Lib.hid (And.intro ((HGO.out w5 HQ.out.1 HQ.out.2 n1).grow grow6 (fun j e => (own5.lt _ e).1)) own6); clear own6 grow6) | go_in)
          go_roundw
          case rel => exact ⟨k + 1, ns, by omega, by go_num, Lib.hid ⟨HZ.out.1, by have h7 := HF.out; unfold so_take at h7; rw [h7, List.length_append, List.map_append]; exact HZ.out.2⟩⟩
          case measure => simp [intOf]; omega
        · rw [decide_eq_false h5] at HE
          generalize ns.getD 0 E = y at HE
          have H14 := Lib.hid HE
          clear HE h5 hin2
          go_wp2_with (first | (go_at_call 65; ((with_reducible refine H18.out.mono ?_); rintro e w5 ⟨rfl, q1, q2⟩; have HQ := Lib.hid (And.intro q1 q2); have own5 := own_grown hown q2 hpcn; have hz5 := q2.size; clear q1 q2)) | (go_at_call 66; ((with_reducible refine (H14.out _ ?hx).mono ?_); (case hx => exact HQ.out.1); rintro e _ ⟨rfl, ⟨n1, rfl⟩⟩)) | (at_builtin; refine wpList_append_own _ rfl (.tmp 38) (.tmp 40) 59 rfl W2.heap.size 9 i0 (.string ⟨#[]⟩) 1 16 Try.underlying59 hi hz0 hz1 hz2 rfl (by decide) _ _ _ rfl (World.ownsRow.alloc (show (w5.drewN n1).ownsRow W2.heap.size 9 1 _ _ _ from own5) _) ⟨w5.heap.size, 0, none⟩ 1 1 [.string x] rfl rfl (cell_one_new _ _ _) (by simp [Value.oneCell']) hml (by omega) (by have h5 : (w5.drewN n1).heap.size = w5.heap.size := rfl; rw [World.size_alloc]; omega) ?_; intro v' w6 own6 grow6 _; have HZ := Lib.hid (And.intro ((HGO.out w5 HQ.out.1 HQ.out.2 n1).grow grow6 (fun j e => (own5.lt _ e).1)) own6); clear own6 grow6) | go_in)
          go_roundw
          case rel => exact ⟨k + 1, ns, by omega, by go_num, Lib.hid ⟨HZ.out.1, by have h7 := HF.out; unfold so_take at h7; rw [h7, List.length_append, List.map_append]; exact HZ.out.2⟩⟩
          case measure => simp [intOf]; omega
    · have hlt : ¬ ((k : Int) < (s.length : Int)) := by omega
      obtain rfl : k = s.length := by omega
      go_wp2
      go_ret
      have h1 := HW.out.2
      rw [List.take_of_length_le (Nat.le_refl _)] at h1
      obtain ⟨g, B, cc, e, h2⟩ := mine_of_own h1
      have h4 := HW.out.1.pc_
      rw [HMI.out]
      exact ⟨g, B, cc, by rw [← e]; rfl, h2.low (by omega), HW.out.1.below⟩
theorem minus_as (w : World) (ga gb ca cb : Nat) (A B : Option Addr) (a b : List ByteArray) (ha : Row w ga A ca a) (hb : Row w gb B cb b) (la : a.length ≤ 1048576) (lb : b.length ≤ 1048576) : Calls Try.prog 49 #[.slice A a.length ca, .slice B b.length cb] w (Got w (minus ltS a b)) :=
  (minus_m w ga gb ca cb A B a b ha hb la lb).mono fun _ _ h => h.got
end Go.Proofs.Ytnflokhffmfifaa.CountWT

/- By hand: Of, at texts: the list of the set, rising, in memory of its own. For every list and world. -/
import Derived.Test.YtnflokhffmfifaaOfT
set_option linter.unusedVariables false
set_option linter.unusedSimpArgs false
namespace Go.Proofs.Ytnflokhffmfifaa.OfT
open Go.RowKit Go.Sort Go.Shelf Go.Proofs.Ytnflokhffmfifaa.Blk Go.Proofs.Ytnflokhffmfifaa.Ris Go.Proofs.Ytnflokhffmfifaa.Keys Go.Proofs.Ytnflokhffmfifaa.XV Go.Proofs.YtnflokhffmfifaaW.PrintWords Go.Proofs.YtnflokhffmfifaaW.PrintLast Go.Proofs.YtnflokhffmfifaaW.PrintMore
/-- What Of answers. -/
def OfQ (w : World) (l : List ByteArray) (e : Ending) (w' : World) : Prop := ∃ g B cc, e = .returned (.slice B (setL ltS l).length cc) ∧ Row w' g B cc (setL ltS l) ∧ (0 < (setL ltS l).length → w.heap.size ≤ g ∧ g < w'.heap.size) ∧ Below w.heap.size w w'
theorem le_less (x y : List UInt8) : decide (x ≤ y) = !Op.bytesLess y x := by
  rw [bytesLess_eq]
  by_cases h : y < x
  · rw [decide_eq_true h, decide_eq_false (fun h2 : x ≤ y => (List.not_lt.2 h2) h)]; rfl
  · rw [decide_eq_false h, decide_eq_true (List.not_lt.1 h)]; rfl
def soB (l : List ByteArray) : List (List UInt8) := (l.map fun x => x.toList).mergeSort fun x y => decide (x ≤ y)
def ofB (b : List UInt8) : ByteArray := ⟨b.toArray⟩
def so (l : List ByteArray) : List ByteArray := (soB l).map ofB
theorem ofB_to (x : ByteArray) : ofB x.toList = x := by
  rw [toList_data]
  exact ByteArray.ext (by simp [ofB])
theorem to_ofB (b : List UInt8) : (ofB b).toList = b := by
  rw [toList_data]
  simp [ofB]
theorem so_len (l : List ByteArray) : (so l).length = l.length := by
  unfold so soB
  rw [List.length_map, (List.mergeSort_perm _ _).length_eq, List.length_map]
theorem so_mem (l : List ByteArray) (x : ByteArray) : x ∈ so l ↔ x ∈ l := by
  unfold so soB
  rw [List.mem_map]
  constructor
  · rintro ⟨b, hb, rfl⟩
    obtain ⟨y, hy, rfl⟩ := List.mem_map.1 ((List.mergeSort_perm _ _).mem_iff.1 hb)
    rw [ofB_to]; exact hy
  · intro h
    exact ⟨x.toList, (List.mergeSort_perm _ _).mem_iff.2 (List.mem_map.2 ⟨x, h, rfl⟩), ofB_to x⟩
theorem so_le (l : List ByteArray) {i j : Nat} (hij : i < j) (hj : j < (so l).length) : ltS ((so l).getD j E) ((so l).getD i E) = false := by
  have hp : (soB l).Pairwise fun x y => decide (x ≤ y) = true := List.pairwise_mergeSort (fun a b c h1 h2 => by
    rw [le_less] at h1 h2 ⊢
    simp only [Bool.not_eq_true'] at h1 h2 ⊢
    cases hc : Op.bytesLess c a with
    | false => rfl
    | true =>
      rcases less_tri a b with h | h | h
      · have := less_trans _ _ _ hc h
        rw [this] at h2; cases h2
      · subst h; rw [hc] at h2; cases h2
      · rw [h] at h1; cases h1) (fun a b => by
    rw [le_less, le_less]
    cases h : Op.bytesLess b a with
    | false => rfl
    | true => rw [less_asymm h]; rfl) _
  have hl : (so l).length = (soB l).length := by unfold so; rw [List.length_map]
  have := List.pairwise_iff_getElem.1 hp i j (by omega) (by omega) hij
  rw [le_less] at this
  have e : ∀ k (hk : k < (soB l).length), ((so l).getD k E).toList = (soB l)[k] := fun k hk => by
    unfold so
    rw [List.getD_eq_getElem?_getD, List.getElem?_map, List.getElem?_eq_getElem hk]
    exact to_ofB _
  unfold ltS
  rw [e i (by omega), e j (by omega)]
  simpa using this
/-- The row while what stands twice is taken out: i places read behind the first, ds kept. -/
structure DR (w : World) (g cap : Nat) (l : List ByteArray) (i : Nat) (ds : List ByteArray) (wr : World) : Prop where
  blk : ∃ cs, At wr g cs 9 ∧ cs.length = cap ∧ (∀ j, j < ds.length → cs[j]? = some (.string (ds.getD j E))) ∧ (∀ j, i + 1 ≤ j → j < l.length → cs[j]? = some (.string ((so l).getD j E)))
  low : 1 ≤ ds.length
  top : ds.length ≤ i + 1
  ris : Ris ltS ds
  mem : ∀ x, x ∈ ds ↔ x ∈ (so l).take (i + 1)
  last : ds.getD (ds.length - 1) E = (so l).getD i E
  below : Below w.heap.size w wr
theorem take_more (l : List ByteArray) (i : Nat) (hi : i < l.length) : l.take (i + 1) = l.take i ++ [l.getD i E] := by
  rw [List.take_add_one, List.getElem?_eq_getElem hi, List.getD_eq_getElem?_getD, List.getElem?_eq_getElem hi]
  rfl
theorem ris_max {ds : List ByteArray} (h : Ris ltS ds) (hp : 1 ≤ ds.length) (x : ByteArray) (hx : x ∈ ds) : ltS (ds.getD (ds.length - 1) E) x = false := by
  obtain ⟨k, hk, rfl⟩ := List.getElem_of_mem hx
  have e : ds[k] = ds.getD k E := by rw [List.getD_eq_getElem?_getD, List.getElem?_eq_getElem hk]; rfl
  rw [e]
  rcases Nat.lt_or_ge k (ds.length - 1) with h1 | h1
  · exact totS.asym (ris_at h h1 (by omega))
  · rw [show k = ds.length - 1 by omega]; exact totS.irr _
theorem ris_snoc {ds : List ByteArray} (h : Ris ltS ds) (x : ByteArray) (hx : ∀ y ∈ ds, ltS y x = true) : Ris ltS (ds ++ [x]) := by
  unfold Ris at h ⊢
  rw [List.pairwise_append]
  exact ⟨h, by simp, fun a ha b hb => by simp at hb; subst hb; exact hx a ha⟩
theorem DR.same {w wr : World} {g cap i : Nat} {l ds : List ByteArray} (h : DR w g cap l i ds wr) (hi : i + 1 < l.length) (he : (so l).getD (i + 1) E = ds.getD (ds.length - 1) E) : DR w g cap l (i + 1) ds wr := by
  obtain ⟨cs, h1, h2, h3, h4⟩ := h.blk
  refine ⟨⟨cs, h1, h2, h3, fun j hj hl => h4 j (by omega) hl⟩, h.low, by have := h.top; omega, h.ris, fun x => ?_, he.symm, h.below⟩
  rw [take_more _ (i + 1) (by rw [so_len]; exact hi), List.mem_append, ← h.mem, he]
  constructor
  · exact .inl
  · rintro (hx | hx)
    · exact hx
    · simp only [List.mem_singleton] at hx
      rw [hx, List.getD_eq_getElem?_getD, List.getElem?_eq_getElem (by have := h.low; omega)]
      exact List.getElem_mem _
theorem DR.more {w wr : World} {g cap i : Nat} {l ds : List ByteArray} (h : DR w g cap l i ds wr) (hg : w.heap.size ≤ g) (hi : i + 1 < l.length) (hcap : l.length ≤ cap) (hne : (so l).getD (i + 1) E ≠ ds.getD (ds.length - 1) E) :
    DR w g cap l (i + 1) (ds ++ [(so l).getD (i + 1) E]) (wr.setCell ⟨g, ds.length, none⟩ (.string ((so l).getD (i + 1) E))) := by
  obtain ⟨cs, h1, h2, h3, h4⟩ := h.blk
  have ht := h.top
  have hlt : ltS (ds.getD (ds.length - 1) E) ((so l).getD (i + 1) E) = true := by
    have h8 : ltS ((so l).getD (i + 1) E) ((so l).getD i E) = false := so_le l (Nat.lt_succ_self i) (by rw [so_len]; exact hi)
    rw [← h.last] at h8
    cases h9 : ltS (ds.getD (ds.length - 1) E) ((so l).getD (i + 1) E) with
    | true => rfl
    | false => exact absurd (totS.tot _ _ h8 h9) hne
  refine ⟨⟨_, h1.set ds.length _, by simpa using h2, fun j hj => ?_, fun j hj hl => ?_⟩, by simp, by simp; omega, ris_snoc h.ris _ (fun y hy => totS.le_lt (ris_max h.ris h.low y hy) hlt), fun x => ?_, ?_, h.below.setCell hg _⟩
  · rw [List.length_append, List.length_singleton] at hj
    by_cases e : j = ds.length
    · subst e
      rw [List.getElem?_set_self (by omega)]
      simp [List.getD_eq_getElem?_getD]
    · rw [List.getElem?_set_ne (by omega), h3 j (by omega)]
      simp only [List.getD_eq_getElem?_getD]
      rw [List.getElem?_append_left (by omega)]
  · rw [List.getElem?_set_ne (by omega), h4 j (by omega) hl]
  · rw [take_more _ (i + 1) (by rw [so_len]; exact hi), List.mem_append, List.mem_append, h.mem]
  · simp [List.getD_eq_getElem?_getD]
theorem DR.done {w wr : World} {g cap i : Nat} {l ds : List ByteArray} (h : DR w g cap l i ds wr) (hi : l.length ≤ i + 1) : ds = setL ltS l :=
  setL_eq totS h.ris (fun x => by rw [h.mem, List.take_of_length_le (by rw [so_len]; exact hi), so_mem])
theorem DR.row {w wr : World} {g cap i : Nat} {l ds : List ByteArray} (h : DR w g cap l i ds wr) : Row wr g (some ⟨g, 0, none⟩) ds.length ds := by
  obtain ⟨cs, h1, h2, h3, h4⟩ := h.blk
  exact ⟨Nat.le_refl _, fun hp => ⟨0, rfl, fun j hj => by rw [Nat.zero_add]; exact h1.get j _ (h3 j hj)⟩⟩
/-- A row in a block of its own, from b on. -/
def Mine (W : World) (b g : Nat) (A : Option Addr) (c : Nat) (l : List ByteArray) : Prop :=
  (A = none ∧ c = 0 ∧ l = []) ∨ (A = some ⟨g, 0, none⟩ ∧ b ≤ g ∧ ∃ cs, At W g cs 9 ∧ c ≤ cs.length ∧ l.length ≤ c ∧ ∀ j, j < l.length → cs[j]? = some (.string (l.getD j E)))
theorem Mine.row {W : World} {b g c : Nat} {A : Option Addr} {l : List ByteArray} (h : Mine W b g A c l) : Row W g A c l := by
  rcases h with ⟨rfl, rfl, rfl⟩ | ⟨rfl, _, cs, h1, h2, h3, h4⟩
  · exact ⟨Nat.le_refl _, fun hp => absurd hp (by simp)⟩
  · exact ⟨h3, fun _ => ⟨0, rfl, fun j hj => by rw [Nat.zero_add]; exact h1.get j _ (h4 j hj)⟩⟩
theorem Mine.new {W : World} {b g c : Nat} {A : Option Addr} {l : List ByteArray} (h : Mine W b g A c l) (hp : 0 < l.length) : b ≤ g ∧ g < W.heap.size := by
  rcases h with ⟨rfl, rfl, rfl⟩ | ⟨rfl, h0, cs, h1, h2, h3, h4⟩
  · simp at hp
  · exact ⟨h0, h1.lt⟩
theorem Mine.on {W W' : World} {b g c : Nat} {A : Option Addr} {l : List ByteArray} (h : Mine W b g A c l) (k : W'.heap[g]? = W.heap[g]?) : Mine W' b g A c l := by
  rcases h with h | ⟨rfl, h0, cs, h1, h⟩
  · exact .inl h
  · exact .inr ⟨rfl, h0, cs, k.trans h1, h⟩
theorem Mine.low {W : World} {b b' g c : Nat} {A : Option Addr} {l : List ByteArray} (h : Mine W b g A c l) (hb : b' ≤ b) : Mine W b' g A c l := by
  rcases h with h | ⟨rfl, h0, h⟩
  · exact .inl h
  · exact .inr ⟨rfl, Nat.le_trans hb h0, h⟩
/-- A list that has been handed back, in a block of its own. -/
def GotM (w : World) (r : List ByteArray) (e : Ending) (w' : World) : Prop := ∃ g B cc, e = .returned (.slice B r.length cc) ∧ Mine w' w.heap.size g B cc r ∧ Below w.heap.size w w'
theorem mine_of_own {base : Nat} {W : World} {v : Value} {r : List ByteArray} (h : W.ownsRow base 9 1 v r.length (r.map (Value.string))) : ∃ g B cc, v = .slice B r.length cc ∧ Mine W base g B cc r := by
  obtain ⟨h1, ⟨e, h2⟩ | ⟨g, cap, cur, e, h3, h4, h5, h6, h7, h8⟩⟩ := h
  · exact ⟨0, none, 0, by rw [e, h2], .inl ⟨rfl, rfl, List.length_eq_zero_iff.1 h2⟩⟩
  · refine ⟨g, some ⟨g, 0, none⟩, cap, e, .inr ⟨rfl, h3, cur.toList, h4, by simp at h7 ⊢; omega, h5, fun j hj => ?_⟩⟩
    have h9 : (cur.toList.take (r.length * 1))[j]? = some (.string (r.getD j E)) := by
      rw [h8, List.getElem?_map, List.getElem?_eq_getElem hj]
      simp [List.getD_eq_getElem?_getD, List.getElem?_eq_getElem hj]
    rwa [List.getElem?_take_of_lt (by omega)] at h9
theorem mine_of_R {W : World} {b : Nat} {ok : Nat → Prop} {v : Value} {l : List ByteArray} (h : Kd.R Kd.string 9 W b ok v l) : ∃ g B cc, v = .slice B l.length cc ∧ Mine W b g B cc l := by
  have h0 := Kd.own_of_R h
  exact mine_of_own (by simpa [encs] using h0)
theorem row_of_R {W : World} {b : Nat} {ok : Nat → Prop} {A : Option Addr} {c : Nat} {l : List ByteArray} (h : Kd.R Kd.string 9 W b ok (.slice A l.length c) l) : ∃ g, Row W g A c l ∧ (0 < l.length → b ≤ g ∧ g < W.heap.size) := by
  by_cases hp : 0 < l.length
  · obtain ⟨g, cap, cur, e, hb, ha, h1, _, h3, h4⟩ := own_block h hp
    cases e
    refine ⟨g, ⟨h1, fun _ => ⟨0, rfl, fun j hj => ?_⟩⟩, fun _ => ⟨hb, ha.lt⟩⟩
    rw [Nat.zero_add]
    refine ha.get j _ ?_
    have : (cur.take l.length)[j]? = (l.map (Value.string))[j]? := by rw [h4]
    rw [List.getElem?_take_of_lt hj] at this
    rw [this, List.getElem?_map, List.getD_eq_getElem?_getD, List.getElem?_eq_getElem hj]
    rfl
  · exact ⟨0, ⟨by omega, fun h0 => absurd h0 hp⟩, fun h0 => absurd h0 hp⟩
/-- The block that the library has sorted. -/
theorem sorted_start {w W : World} {g cap n : Nat} {os : Array Obj} {cur : List Value} {l : List ByteArray} (hb : Below w.heap.size w W) (hg : w.heap.size ≤ g) (ha : At W g cur 9) (h1 : l.length ≤ cap) (h3 : cur.length = cap) (hp : 0 < l.length) :
    DR w g cap l 0 [(so l).getD 0 E] (grow (putRow encStr (Sort.ahead W n) g 0 (soB l).toArray) os) := by
  have hsl : (soB l).length = l.length := by rw [← so_len l]; unfold so; rw [List.length_map]
  have hse : (soB l).map encStr = (so l).map Value.string := by unfold so; rw [List.map_map]; rfl
  have hs := heap_sorted (os := os) (n := n) (soB l).toArray ha
  have ht := take_putCells cur.toArray (soB l) (by rw [hsl]; simpa [h3] using h1)
  have hc : ∀ j, j < l.length → (putCells encStr 0 (soB l).toArray cur.toArray).toList[j]? = some (.string ((so l).getD j E)) := fun j hj => by
    have : ((putCells encStr 0 (soB l).toArray cur.toArray).toList.take (soB l).length)[j]? = ((so l).map (Value.string))[j]? := by rw [ht, hse]
    rw [List.getElem?_take_of_lt (by rw [hsl]; exact hj)] at this
    rw [this, List.getElem?_map, List.getD_eq_getElem?_getD, List.getElem?_eq_getElem (by rw [so_len]; exact hj)]
    rfl
  refine ⟨⟨(putCells encStr 0 (soB l).toArray cur.toArray).toList, by unfold Blk.At; simpa using hs, by simp [putCells, h3], fun j hj => ?_, fun j _ hj => hc j hj⟩, by simp, by simp, by simp [Ris], fun x => ?_, by simp, ?_⟩
  · simp only [List.length_singleton] at hj
    obtain rfl : j = 0 := by omega
    simpa using hc 0 hp
  · rw [take_more _ 0 (by rw [so_len]; exact hp)]
    simp
  · have hgr := grownBy_sorted (w := W) (g := g) (n := n) (os := os) (soB l).toArray
    exact ⟨hgr.os.trans hb.os, hgr.tape.trans hb.tape, hgr.output.trans hb.output, Nat.le_trans hb.size hgr.size, fun k hk => (hgr.block k (Nat.lt_of_lt_of_le hk hb.size) (fun e => by cases e; omega)).trans (hb.block k hk)⟩
end Go.Proofs.Ytnflokhffmfifaa.OfT

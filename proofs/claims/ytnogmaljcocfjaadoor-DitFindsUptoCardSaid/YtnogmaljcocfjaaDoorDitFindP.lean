/- What Find and Nearest answer. No program. -/
import Derived.Test.YtnogmaljcocfjaaDoorPkF
set_option linter.unusedVariables false
set_option linter.unusedSimpArgs false
namespace Go.Proofs.YtnogmaljcocfjaaDoor.DitLaw
open Go Go.Maps Go.RowKit Go.Proofs.YtnogmaljcocfjaaDoor.XK Go.Proofs.YtnogmaljcocfjaaDoor.Blk Go.Proofs.YtnogmaljcocfjaaDoor.DitTab Go.Proofs.YtnogmaljcocfjaaDoor.DitRow Go.Proofs.YtnogmaljcocfjaaDoor.DitTerm Go.Proofs.YtnogmaljcocfjaaDoor.DitMap Go.Proofs.YtnogmaljcocfjaaDoor.DitCheck Go.Proofs.YtnogmaljcocfjaaDoor.DitCopy Go.Proofs.YtnogmaljcocfjaaDoor.DitPure Go.Proofs.YtnogmaljcocfjaaDoor.DitSort Go.Proofs.YtnogmaljcocfjaaDoor.DitBuild Go.Proofs.YtnogmaljcocfjaaDoor.DitMeth Go.Proofs.YtnogmaljcocfjaaDoor.DitGr Go.Proofs.YtnogmaljcocfjaaDoor.Keys Go.Proofs.YtnogmaljcocfjaaDoorW.PrintWords Go.Proofs.YtnogmaljcocfjaaDoorW.PrintLast Go.Proofs.YtnogmaljcocfjaaDoorW.PrintMore
section
variable {l : List S45} {p : List Nat} {PI : Nat → Nat}
theorem PT.klen (h : PT l p PI) : (keysOf l p).length = l.length := by simp [keysOf, h.len]
theorem PT.kat (h : PT l p PI) {j : Nat} (hj : j < l.length) : (keysOf l p).getD j [] = keyN l p j := by
  have : j < p.length := by rw [h.len]; exact hj
  simp [keysOf, keyN, List.getD_eq_getElem?_getD, List.getElem?_eq_getElem this]
theorem PT.knd (h : PT l p PI) : (keysOf l p).Nodup := keysOf_nodup h.sorted h.good
theorem PT.kmem (h : PT l p PI) {k : List ByteArray} : k ∈ keysOf l p ↔ ∃ j, j < l.length ∧ keyN l p j = k := by
  constructor
  · intro hk
    obtain ⟨j, hj, e⟩ := DitPure.mem_getD (d := []) hk
    rw [h.klen] at hj
    exact ⟨j, hj, by rw [← h.kat hj]; exact e⟩
  · rintro ⟨j, hj, rfl⟩
    rw [← h.kat hj]
    exact DitPure.getD_mem _ _ (by rw [h.klen]; exact hj)
theorem PT.kmemL (h : PT l p PI) {k : List ByteArray} : k ∈ keysOf l p ↔ k ∈ l.map S45.f2 := by
  rw [h.kmem]
  constructor
  · rintro ⟨j, hj, rfl⟩
    exact List.mem_map_of_mem (ent_mem (h.mem hj))
  · intro hk
    obtain ⟨e, he, rfl⟩ := List.mem_map.1 hk
    obtain ⟨i, hi, e2⟩ := DitPure.mem_getD (d := z45) he
    have hm : i ∈ p := h.sorted.perm.mem_iff.2 (by simpa using hi)
    obtain ⟨j, hj, e3⟩ := DitPure.mem_getD (d := 0) hm
    refine ⟨j, by rw [← h.len]; exact hj, ?_⟩
    unfold keyN ent
    rw [e3, e2]
theorem num_none {ks : List (List ByteArray)} {k : List ByteArray} (h : k ∉ ks) : numF ks (wordB k) = none := by
  unfold numF
  have : ks.findIdx? (fun q => decide (wordB q = wordB k)) = none := by
    rw [List.findIdx?_eq_none_iff]
    intro q hq
    exact decide_eq_false (fun e => h (by rw [← wordB_inj e]; exact hq))
  rw [this]
  rfl
theorem PT.num (h : PT l p PI) {j : Nat} (hj : j < l.length) : numF (keysOf l p) (wordB (keyN l p j)) = some (j : Int) := by
  rw [← h.kat hj]
  exact numF_at h.knd (by rw [h.klen]; exact hj)
theorem PT.find (h : PT l p PI) {j : Nat} (hj : j < l.length) : findR (keysOf l p) (keyN l p j) = (j : Int) := by
  unfold findR
  rw [h.num hj]
  rfl
theorem PT.find_no (h : PT l p PI) {k : List ByteArray} (hk : k ∉ keysOf l p) : findR (keysOf l p) k = -1 := by
  unfold findR
  rw [num_none hk]
  rfl
/-- What has been found behind i fronts. -/
theorem PT.nearI (h : PT l p PI) (k : List ByteArray) : ∀ i, (nearI (keysOf l p) k i = -1 ∧ ∀ j, j < i → k.take j ∉ keysOf l p) ∨ (∃ j m, j < i ∧ m < l.length ∧ nearI (keysOf l p) k i = (m : Int) ∧ keyN l p m = k.take j ∧ ∀ j', j < j' → j' < i → k.take j' ∉ keysOf l p)
  | 0 => .inl ⟨rfl, fun j hj => absurd hj (Nat.not_lt_zero j)⟩
  | i + 1 => by
    rw [nearI_succ]
    by_cases hm : k.take i ∈ keysOf l p
    · obtain ⟨m, hml, e⟩ := h.kmem.1 hm
      refine .inr ⟨i, m, by omega, hml, ?_, e, fun j' h1 h2 => by omega⟩
      rw [← e, h.num hml]
      rfl
    · rw [num_none hm, Option.getD_none]
      rcases PT.nearI h k i with ⟨h1, h2⟩ | ⟨j, m, h1, h2, h3, h4, h5⟩
      · refine .inl ⟨h1, fun j hj => ?_⟩
        by_cases e : j = i
        · rw [e]; exact hm
        · exact h2 j (by omega)
      · refine .inr ⟨j, m, by omega, h2, h3, h4, fun j' a b => ?_⟩
        by_cases e : j' = i
        · rw [e]; exact hm
        · exact h5 j' a (by omega)
/-- The nearest of a key of which an entry's is a front. -/
theorem PT.near (h : PT l p PI) {k : List ByteArray} {n : Nat} (hn : n < l.length) (hf : keyN l p n <+: k) : ∃ m, m < l.length ∧ nearR (keysOf l p) k = (m : Int) ∧ keyN l p m <+: k ∧ ∀ q, q ∈ l.map S45.f2 → q <+: k → q.length ≤ (keyN l p m).length := by
  unfold nearR
  rcases h.nearI k (k.length + 1) with ⟨_, h2⟩ | ⟨j, m, h1, h2, h3, h4, h5⟩
  · exfalso
    refine h2 (keyN l p n).length (by have := hf.length_le; omega) ?_
    rw [← List.prefix_iff_eq_take.1 hf]
    exact h.kmem.2 ⟨n, hn, rfl⟩
  · refine ⟨m, h2, h3, by rw [h4]; exact List.take_prefix _ _, fun q hq hqk => ?_⟩
    rw [h4, List.length_take]
    rcases Nat.lt_or_ge j q.length with h6 | h6
    · exfalso
      have h7 := hqk.length_le
      refine h5 q.length h6 (by omega) ?_
      rw [← List.prefix_iff_eq_take.1 hqk]
      exact h.kmemL.2 hq
    · have := hqk.length_le
      omega
theorem PT.near_self (h : PT l p PI) {n : Nat} (hn : n < l.length) : nearR (keysOf l p) (keyN l p n) = (n : Int) := by
  obtain ⟨m, h1, h2, h3, h4⟩ := h.near hn (List.prefix_refl _)
  rw [h2]
  have h5 := h4 (keyN l p n) (h.kmemL.1 (h.kmem.2 ⟨n, hn, rfl⟩)) (List.prefix_refl _)
  have e : keyN l p m = keyN l p n := h3.eq_of_length (by have := h3.length_le; omega)
  have e2 : findR (keysOf l p) (keyN l p m) = findR (keysOf l p) (keyN l p n) := by rw [e]
  rw [h.find h1, h.find hn] at e2
  exact e2
/-- Where an entry with this key stands, by the list and by the tree. -/
theorem PT.both (h : PT l p PI) (k : List ByteArray) : (DitEv.amongR l k = -1 ∧ findR (keysOf l p) k = -1) ∨ (∃ m, m < l.length ∧ findR (keysOf l p) k = (m : Int) ∧ DitEv.amongR l k = ((p.getD m 0 : Nat) : Int)) := by
  by_cases hk : k ∈ keysOf l p
  · obtain ⟨m, hm, e⟩ := h.kmem.1 hk
    refine .inr ⟨m, hm, by rw [← e]; exact h.find hm, ?_⟩
    exact DitEv.among_some h.good.nd (h.mem hm) e
  · refine .inl ⟨?_, h.find_no hk⟩
    have h1 : DitEv.amongR l k < 0 := DitEv.among_neg.2 (fun q => hk (h.kmemL.2 q))
    unfold DitEv.amongR at h1 ⊢
    split at h1
    · omega
    · rfl
end
end Go.Proofs.YtnogmaljcocfjaaDoor.DitLaw

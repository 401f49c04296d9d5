/- A tree's list laid by the lengths of its keys; the tree is the same. No program. -/
import Derived.Test.YtnogmaljcocfjaaDoorPkF
set_option linter.unusedVariables false
set_option linter.unusedSimpArgs false
namespace Go.Proofs.YtnogmaljcocfjaaDoor.DitLaw
open Go Go.Maps Go.RowKit Go.Proofs.YtnogmaljcocfjaaDoor.XK Go.Proofs.YtnogmaljcocfjaaDoor.Blk Go.Proofs.YtnogmaljcocfjaaDoor.DitTab Go.Proofs.YtnogmaljcocfjaaDoor.DitRow Go.Proofs.YtnogmaljcocfjaaDoor.DitTerm Go.Proofs.YtnogmaljcocfjaaDoor.DitMap Go.Proofs.YtnogmaljcocfjaaDoor.DitCheck Go.Proofs.YtnogmaljcocfjaaDoor.DitCopy Go.Proofs.YtnogmaljcocfjaaDoor.DitPure Go.Proofs.YtnogmaljcocfjaaDoor.DitSort Go.Proofs.YtnogmaljcocfjaaDoor.DitBuild Go.Proofs.YtnogmaljcocfjaaDoor.DitMeth Go.Proofs.YtnogmaljcocfjaaDoor.DitGr Go.Proofs.YtnogmaljcocfjaaDoor.Keys Go.Proofs.YtnogmaljcocfjaaDoorW.PrintWords Go.Proofs.YtnogmaljcocfjaaDoorW.PrintLast Go.Proofs.YtnogmaljcocfjaaDoorW.PrintMore
/-- How long a key is. -/
abbrev kln (l : List S45) (i : Nat) : Nat := (ent l i).f2.length
/-- Those of the first entries on from i whose keys are n long, the last first. -/
def idxF (l : List S45) (n i : Nat) : List Nat := (((List.range l.length).drop i).filter fun q => decide (kln l q = n)).reverse
def mI (l : List S45) (r N : Nat) : List Nat := ((List.range N).map fun d => idxF l (r + d) 0).flatten
theorem idxF_end (l : List S45) (n : Nat) : idxF l n l.length = [] := by
  unfold idxF
  rw [List.drop_of_length_le (by simp)]
  rfl
theorem idxF_step (l : List S45) (n i : Nat) (h : i < l.length) : idxF l n i = if kln l i = n then idxF l n (i + 1) ++ [i] else idxF l n (i + 1) := by
  unfold idxF
  rw [List.drop_eq_getElem_cons (by simpa using h), List.getElem_range, List.filter_cons]
  by_cases e : kln l i = n
  · rw [if_pos (by simpa using e), if_pos e, List.reverse_cons]
  · rw [if_neg (by simpa using e), if_neg e]
theorem mI_succ (l : List S45) (r N : Nat) : mI l r (N + 1) = mI l r N ++ idxF l (r + N) 0 := by
  unfold mI
  rw [List.range_succ, List.map_append, List.flatten_append]
  simp
theorem filt_perm {α : Type} (L : List α) (P Q : α → Bool) (h : ∀ x, ¬ (P x = true ∧ Q x = true)) : (L.filter P ++ L.filter Q).Perm (L.filter fun x => P x || Q x) := by
  induction L with
  | nil => exact List.Perm.nil
  | cons x L ih =>
    rw [List.filter_cons, List.filter_cons, List.filter_cons]
    cases hp : P x with
    | true =>
      have hq : Q x = false := by
        cases hq : Q x with
        | true => exact absurd ⟨hp, hq⟩ (h x)
        | false => rfl
      simp [hq]
      exact ih
    | false =>
      cases hq : Q x with
      | true => simp; exact List.perm_middle.trans (List.Perm.cons x ih)
      | false => simpa using ih
theorem mI_perm (l : List S45) (r : Nat) (h : ∀ i, i < l.length → r ≤ kln l i) : ∀ N, (mI l r N).Perm ((List.range l.length).filter fun q => decide (kln l q < r + N))
  | 0 => by
    have e : (List.range l.length).filter (fun q => decide (kln l q < r + 0)) = [] := by
      rw [List.filter_eq_nil_iff]
      intro q hq
      have := h q (List.mem_range.1 hq)
      simp
      omega
    rw [e]
    exact List.Perm.nil
  | N + 1 => by
    rw [mI_succ]
    have h1 : (idxF l (r + N) 0).Perm ((List.range l.length).filter fun q => decide (kln l q = r + N)) := List.reverse_perm _
    refine ((mI_perm l r h N).append h1).trans ?_
    have h2 := filt_perm (List.range l.length) (fun q => decide (kln l q < r + N)) (fun q => decide (kln l q = r + N)) (fun q hq => by have h3 := of_decide_eq_true hq.1; have h4 := of_decide_eq_true hq.2; omega)
    refine h2.trans ?_
    have e : (fun q => decide (kln l q < r + N) || decide (kln l q = r + N)) = fun q => decide (kln l q < r + (N + 1)) := by
      funext q
      rw [← Bool.decide_or]
      exact decide_eq_decide.2 (by omega)
    rw [e]
theorem mI_len (l : List S45) (r : Nat) (h : ∀ i, i < l.length → r ≤ kln l i) (N : Nat) : (mI l r N).length ≤ l.length := by
  rw [(mI_perm l r h N).length_eq]
  have := List.length_filter_le (fun q => decide (kln l q < r + N)) (List.range l.length)
  simpa using this
theorem mI_mem (l : List S45) (r : Nat) (h : ∀ i, i < l.length → r ≤ kln l i) (N : Nat) {q : Nat} (hq : q ∈ mI l r N) : q < l.length := by
  have := (mI_perm l r h N).mem_iff.1 hq
  exact List.mem_range.1 (List.mem_filter.1 this).1
theorem mI_all (l : List S45) (r : Nat) (h : ∀ i, i < l.length → r ≤ kln l i) (h2 : ∀ i, i < l.length → kln l i ≤ r + i) {N : Nat} (hN : (mI l r N).length = l.length ∨ l.length < N) : (mI l r N).Perm (List.range l.length) := by
  refine (mI_perm l r h N).trans ?_
  have e : (List.range l.length).filter (fun q => decide (kln l q < r + N)) = List.range l.length := by
    rcases hN with h3 | h3
    · have h4 := (mI_perm l r h N).length_eq
      rw [h3] at h4
      refine List.filter_eq_self.2 ?_
      have h5 : ((List.range l.length).filter fun q => decide (kln l q < r + N)).length = (List.range l.length).length := by rw [← h4]; simp
      exact List.length_filter_eq_length_iff.1 h5
    · refine List.filter_eq_self.2 fun q hq => ?_
      have h4 := List.mem_range.1 hq
      have := h2 q h4
      simp
      omega
  rw [e]
theorem mI_ris (l : List S45) (r N : Nat) : (mI l r N).Pairwise fun a b => kln l a ≤ kln l b := by
  unfold mI
  have hk : ∀ n q, q ∈ idxF l n 0 → kln l q = n := fun n q hq => by
    unfold idxF at hq
    rw [List.mem_reverse, List.mem_filter] at hq
    simpa using hq.2
  rw [List.pairwise_flatten]
  refine ⟨fun L hL => ?_, ?_⟩
  · obtain ⟨d, _, rfl⟩ := List.mem_map.1 hL
    refine List.pairwise_iff_getElem.2 fun i j hi hj _ => ?_
    have h1 := hk _ _ (List.getElem_mem hi)
    have h2 := hk _ _ (List.getElem_mem hj)
    omega
  · refine List.Pairwise.map _ (R := fun a b => a < b) (fun a b hab x hx y hy => ?_) List.pairwise_lt_range
    have h1 := hk _ _ hx
    have h2 := hk _ _ hy
    omega
/-- The list so laid is a tree's too. -/
theorem laid_good {l : List S45} (h : DitBuild.Good (DitCheck.Keys l)) {L : List Nat} (hp : L.Perm (List.range l.length)) (hr : L.Pairwise fun a b => kln l a ≤ kln l b) : DitBuild.Good (DitCheck.Keys (L.map (ent l))) := by
  have hlen : L.length = l.length := by simpa using hp.length_eq
  have hnd : L.Nodup := hp.nodup_iff.2 List.nodup_range
  have hmem : ∀ q, q ∈ L ↔ q < l.length := fun q => by rw [hp.mem_iff, List.mem_range]
  have hK : DitCheck.Keys (L.map (ent l)) = L.map fun q => (ent l q).f2 := by unfold DitCheck.Keys; rw [List.map_map]; rfl
  have hinj : ∀ a b, a < l.length → b < l.length → (ent l a).f2 = (ent l b).f2 → a = b := fun a b ha hb e => by
    rw [← keys_at ha, ← keys_at hb] at e
    have a1 : a < (DitCheck.Keys l).length := by rw [List.length_map]; exact ha
    have a2 : b < (DitCheck.Keys l).length := by rw [List.length_map]; exact hb
    have hg : ∀ i (hi : i < (DitCheck.Keys l).length), (DitCheck.Keys l).getD i [] = (DitCheck.Keys l)[i] := fun i hi => by
      rw [List.getD_eq_getElem?_getD, List.getElem?_eq_getElem hi]
      rfl
    rw [hg _ a1, hg _ a2] at e
    exact nodup_inj h.nd a1 a2 e
  have hpos : 0 < l.length := by have := h.pos; simpa using this
  rw [hK]
  refine ⟨by rw [List.length_map, hlen]; exact hpos, ?_, fun i h0 hi => ?_⟩
  · refine List.pairwise_map.2 (List.pairwise_iff_getElem.2 fun i j hi hj hij e => ?_)
    have := hinj _ _ ((hmem _).1 (List.getElem_mem hi)) ((hmem _).1 (List.getElem_mem hj)) e
    have := nodup_inj hnd hi hj this
    omega
  · rw [List.length_map] at hi
    have hat : ∀ j (hj : j < L.length), (L.map fun q => (ent l q).f2).getD j [] = (ent l L[j]).f2 := fun j hj => by
      rw [List.getD_eq_getElem?_getD, List.getElem?_map, List.getElem?_eq_getElem hj]
      rfl
    have hle : ∀ i j (hi : i < L.length) (hj : j < L.length), i < j → kln l L[i] ≤ kln l L[j] := fun i j hi hj hij => List.pairwise_iff_getElem.1 hr i j hi hj hij
    rw [hat i hi]
    have hqi := (hmem _).1 (List.getElem_mem hi)
    have hne : (ent l L[i]).f2 ≠ [] := fun e => by
      have h1 := hle 0 i (by omega) hi h0
      have h2 : (ent l L[0]).f2 = [] := List.eq_nil_of_length_eq_zero (by unfold kln at h1; rw [e] at h1; simp at h1; exact List.length_eq_zero_iff.2 h1)
      have := hinj _ _ ((hmem _).1 (List.getElem_mem (show 0 < L.length by omega))) hqi (by rw [h2, e])
      have := nodup_inj hnd (show 0 < L.length by omega) hi this
      omega
    refine ⟨hne, ?_⟩
    have hq0 : 0 < L[i] := by
      rcases Nat.eq_zero_or_pos L[i] with e | e
      · exfalso
        have h1 : ∀ q, q < l.length → (ent l 0).f2 <+: (ent l q).f2 := fun q hq => by
          have := h.tl.root q (by simpa using hq)
          rw [map_kl_at, map_kl_at, keys_at hpos, keys_at hq] at this
          exact kl_prefix.1 this
        have h2 := hle 0 i (by omega) hi h0
        have h3 := h1 _ ((hmem _).1 (List.getElem_mem (show 0 < L.length by omega)))
        rw [e] at h2
        have h4 := h3.eq_of_length (by have := h3.length_le; unfold kln at h2; omega)
        have := hinj _ _ hpos ((hmem _).1 (List.getElem_mem (show 0 < L.length by omega))) h4
        have := nodup_inj hnd hi (show 0 < L.length by omega) (e.trans this)
        omega
      · exact e
    have h5 := (h.par L[i] hq0 (by simpa using hqi)).2
    rw [keys_at hqi] at h5
    obtain ⟨q, hq1, hq2, e⟩ := DitPure.take_getD (d := []) h5
    rw [List.length_map] at hq2
    rw [keys_at hq2] at e
    obtain ⟨j, hj, ej⟩ := List.mem_iff_getElem.1 ((hmem q).2 hq2)
    have hji : j < i := by
      rcases Nat.lt_or_ge j i with h6 | h6
      · exact h6
      · exfalso
        have h7 : kln l L[i] ≤ kln l L[j] := by
          by_cases e2 : i = j
          · subst e2; exact Nat.le_refl _
          · exact hle i j hi hj (by omega)
        unfold kln at h7
        rw [ej, e, List.length_dropLast] at h7
        have := List.length_pos_iff.2 hne
        omega
    rw [← e, ← ej]
    have h8 : (L.map fun q => (ent l q).f2).take i = (L.take i).map fun q => (ent l q).f2 := List.map_take.symm
    rw [h8]
    refine List.mem_map.2 ⟨L[j], ?_, rfl⟩
    rw [List.mem_take_iff_getElem]
    exact ⟨j, by omega, rfl⟩
theorem sorted_eq {α : Type} {r : α → α → Prop} (hir : ∀ x, ¬ r x x) (has : ∀ x y, r x y → ¬ r y x) : ∀ {a b : List α}, a.Pairwise r → b.Pairwise r → (∀ x, x ∈ a ↔ x ∈ b) → a = b
  | [], [], _, _, _ => rfl
  | [], y :: b, _, _, h => absurd ((h y).2 (by simp)) (by simp)
  | x :: a, [], _, _, h => absurd ((h x).1 (by simp)) (by simp)
  | x :: a, y :: b, ha, hb, h => by
    rw [List.pairwise_cons] at ha hb
    have hxy : x = y := by
      rcases List.mem_cons.1 ((h x).1 (by simp)) with h1 | h1
      · exact h1
      · rcases List.mem_cons.1 ((h y).2 (by simp)) with h2 | h2
        · exact h2.symm
        · exact absurd (ha.1 _ h2) (has _ _ (hb.1 _ h1))
    subst hxy
    congr 1
    refine sorted_eq hir has ha.2 hb.2 fun z => ⟨fun hz => ?_, fun hz => ?_⟩
    · rcases List.mem_cons.1 ((h z).1 (List.mem_cons_of_mem _ hz)) with h1 | h1
      · subst h1; exact absurd (ha.1 _ hz) (hir _)
      · exact h1
    · rcases List.mem_cons.1 ((h z).2 (List.mem_cons_of_mem _ hz)) with h1 | h1
      · subst h1; exact absurd (hb.1 _ hz) (hir _)
      · exact h1
theorem TS.pair {S : List DitPure.Key} (h : TS S) : S.Pairwise fun a b => cmpK a b < 0 := by
  refine List.pairwise_iff_getElem.2 fun i j hi hj hij => ?_
  have := h.ris i j hij hj
  rwa [List.getD_eq_getElem?_getD, List.getD_eq_getElem?_getD, List.getElem?_eq_getElem hi, List.getElem?_eq_getElem hj] at this
/-- The two trees have the same entries at the same numbers. -/
theorem same_entries {l : List S45} {p p2 : List Nat} {PI PI2 : Nat → Nat} {L : List Nat} (hp : L.Perm (List.range l.length)) (h : PT l p PI) (h2 : PT (L.map (ent l)) p2 PI2) {n : Nat} (hn : n < l.length) : ent l (p.getD n 0) = ent (L.map (ent l)) (p2.getD n 0) := by
  have hlen : L.length = l.length := by simpa using hp.length_eq
  have hml : (L.map (ent l)).length = l.length := by rw [List.length_map, hlen]
  have hmem : ∀ q, q ∈ L ↔ q < l.length := fun q => by rw [hp.mem_iff, List.mem_range]
  have hperm : (keyK (L.map (ent l))).Perm (keyK l) := by
    unfold keyK DitCheck.Keys
    rw [List.map_map, List.map_map, List.map_map]
    refine (hp.map _).trans ?_
    have : (List.range l.length).map ((DitEv.kl ∘ S45.f2) ∘ ent l) = l.map (DitEv.kl ∘ S45.f2) := by
      apply List.ext_getElem
      · simp
      · intro i a b
        have h3 : i < l.length := by simpa using a
        simp [ent, List.getD_eq_getElem?_getD, List.getElem?_eq_getElem h3]
    rw [this]
  have e : keyS l p = keyS (L.map (ent l)) p2 := sorted_eq (r := fun a b => cmpK a b < 0) (fun x hx => by rw [cmpK_self] at hx; omega) (fun x y hx hy => by have := cmpK_neg x y; omega) (TS.pair h.ts) (TS.pair h2.ts) fun x => by
    rw [(keyS_perm h.sorted.perm).mem_iff, (keyS_perm h2.sorted.perm).mem_iff, hperm.mem_iff]
  have e2 : (keyS l p).getD n [] = (keyS (L.map (ent l)) p2).getD n [] := by rw [e]
  rw [h.key hn, h2.key (by rw [hml]; exact hn)] at e2
  have e3 := DitEv.kl_inj e2
  have hq2 := h2.mem (show n < (L.map (ent l)).length by rw [hml]; exact hn)
  have hq2' : p2.getD n 0 < L.length := by rw [hlen, ← hml]; exact hq2
  have e4 : ent (L.map (ent l)) (p2.getD n 0) = ent l L[p2.getD n 0] := by
    show (L.map (ent l)).getD (p2.getD n 0) z45 = _
    rw [List.getD_eq_getElem?_getD, List.getElem?_map, List.getElem?_eq_getElem hq2']
    rfl
  rw [e4] at e3 ⊢
  have hm1 := h.mem hn
  have hm2 := (hmem _).1 (List.getElem_mem hq2')
  rw [← keys_at hm1, ← keys_at hm2] at e3
  have a1 : p.getD n 0 < (DitCheck.Keys l).length := by rw [List.length_map]; exact hm1
  have a2 : L[p2.getD n 0] < (DitCheck.Keys l).length := by rw [List.length_map]; exact hm2
  have hg : ∀ i (hi : i < (DitCheck.Keys l).length), (DitCheck.Keys l).getD i [] = (DitCheck.Keys l)[i] := fun i hi => by
    rw [List.getD_eq_getElem?_getD, List.getElem?_eq_getElem hi]
    rfl
  rw [hg _ a1, hg _ a2] at e3
  rw [nodup_inj h.good.nd a1 a2 e3]
theorem fit_laid {l : List S45} (h : Fit l) {L : List Nat} (hp : L.Perm (List.range l.length)) : Fit (L.map (ent l)) := by
  have hlen : L.length = l.length := by simpa using hp.length_eq
  have hm : ∀ e ∈ L.map (ent l), e ∈ l := fun e he => by
    obtain ⟨q, hq, rfl⟩ := List.mem_map.1 he
    exact ent_mem (by simpa using hp.mem_iff.1 hq)
  exact ⟨by rw [List.length_map, hlen]; exact h.len, fun e he => h.key e (hm e he), fun e he => h.att e (hm e he)⟩
theorem key_depth {l : List S45} (h : DitBuild.Good (DitCheck.Keys l)) : ∀ i, i < l.length → kln l 0 ≤ kln l i ∧ kln l i ≤ kln l 0 + i := by
  have hpos : 0 < l.length := by have := h.pos; simpa using this
  intro i
  induction i using Nat.strongRecOn with
  | _ i ih =>
    intro hi
    by_cases h0 : i = 0
    · subst h0; exact ⟨Nat.le_refl _, Nat.le_refl _⟩
    · have h1 := h.par i (by omega) (by simpa using hi)
      rw [keys_at hi] at h1
      obtain ⟨q, hq1, hq2, e⟩ := DitPure.take_getD (d := []) h1.2
      rw [List.length_map] at hq2
      rw [keys_at hq2] at e
      have := ih q hq1 hq2
      have h3 := congrArg List.length e
      rw [List.length_dropLast] at h3
      have h4 := List.length_pos_iff.2 h1.1
      unfold kln at *
      omega
end Go.Proofs.YtnogmaljcocfjaaDoor.DitLaw

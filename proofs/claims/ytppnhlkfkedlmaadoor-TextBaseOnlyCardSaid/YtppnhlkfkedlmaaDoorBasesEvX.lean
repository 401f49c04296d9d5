/- The document's Base64 and Unbase64, as printed, on lists of byte numbers. For every text of at most 34359738368 bytes. -/
import Derived.Test.YtppnhlkfkedlmaaDoorX4
import Derived.Test.YtppnhlkfkedlmaaDoorB64RefX
import Derived.Test.YtppnhlkfkedlmaaDoorB64EvX
namespace Go.Proofs.YtppnhlkfkedlmaaDoor.BasesEvX
open Go.RowKit Go.Proofs.YtppnhlkfkedlmaaDoor.X Go.Proofs.YtppnhlkfkedlmaaDoor.XV Go.Proofs.YtppnhlkfkedlmaaDoor.L64 Go.Proofs.YtppnhlkfkedlmaaDoor.UnB64 Go.Proofs.YtppnhlkfkedlmaaDoor.UnZ Go.Proofs.YtppnhlkfkedlmaaDoor.FrontW Go.Proofs.YtppnhlkfkedlmaaDoor.Dec Go.Proofs.YtppnhlkfkedlmaaDoor.B64RefX Go.Proofs.YtppnhlkfkedlmaaDoor.B64EvX Go.Proofs.YtppnhlkfkedlmaaDoorW.PrintWords Go.Proofs.YtppnhlkfkedlmaaDoorW.PrintLast
set_option linter.unusedVariables false
set_option linter.unusedSimpArgs false
theorem rb_loop (s : ByteArray) (hs : s.size ≤ 34359738368) : ∀ (m i : Nat) (acc : List Int), s.size ≤ i + m → i % 3 = 0 → acc.length ≤ 2 * i → Ev (fun k => rosterref01_Base64.l0 k s acc (i : Int)) (strOfNums (acc ++ b64 ((bytesOf s).drop i)))
  | 0, i, acc, hi, h3, ha => by
    refine ev_round ?_
    simp only [rosterref01_Base64.l0]
    refine ev_neg (by omega) (ev_eq ?_)
    rw [List.drop_eq_nil_of_le (by rw [bytesOf_length]; omega)]
    simp [b64]
  | m + 1, i, acc, hi, h3, ha => by
    by_cases hlt : i < s.size
    · have hll : ((bytesOf s).drop i).length = s.size - i := by rw [List.length_drop, bytesOf_length]
      refine ev_round ?_
      simp only [rosterref01_Base64.l0]
      rw [wrp_id ((i : Int) + 3) (by omega) (by omega)]
      refine ev_pos (by omega) ?_
      by_cases hm : i + 3 > s.size
      · have hx : bytesOf (s.extract i s.size) = (bytesOf s).drop i := by rw [bytesOf_extract, List.take_of_length_le (by rw [bytesOf_length]; exact Nat.le_refl _)]
        have hg := group_ev (s.extract i s.size) (by rw [ByteArray.size_extract]; omega) (by rw [ByteArray.size_extract]; omega)
        rw [hx] at hg
        have hb4 : (b64 ((bytesOf s).drop i)).length ≤ 4 := by rw [b64_len, hll]; omega
        refine ev_pos (by omega) (ev_pos (by omega) (ev_pos (by omega) (ev_pos (by omega) ?_)))
        rw [Int.toNat_natCast, Int.toNat_natCast]
        refine Ev.bind hg (ev_pos (by rw [strOfNums_size]; omega) ?_)
        rw [bytesOf_nums _ (b64_rng (fun x hx => bytesOf_range s x (List.mem_of_mem_drop hx)))]
        refine ev_round ?_
        simp only [rosterref01_Base64.l0]
        exact ev_neg (by omega) (ev_eq rfl)
      · have hx : bytesOf (s.extract i (i + 3)) = ((bytesOf s).drop i).take 3 := by rw [bytesOf_extract, List.drop_take]; congr 1; omega
        have hg := group_ev (s.extract i (i + 3)) (by rw [ByteArray.size_extract]; omega) (by rw [ByteArray.size_extract]; omega)
        rw [hx] at hg
        have hl3 : (((bytesOf s).drop i).take 3).length = 3 := by rw [List.length_take, hll]; omega
        have hb4 : (b64 (((bytesOf s).drop i).take 3)).length = 4 := by rw [b64_len, hl3]
        have hsp : b64 ((bytesOf s).drop i) = b64 (((bytesOf s).drop i).take 3) ++ b64 ((bytesOf s).drop (i + 3)) := by
          conv => lhs; rw [← List.take_append_drop 3 ((bytesOf s).drop i)]
          rw [b64_append _ _ (by rw [hl3]), List.drop_drop]
        refine ev_neg (by omega) (ev_pos (by omega) (ev_pos (by omega) (ev_pos (by omega) ?_)))
        rw [Int.toNat_natCast, show ((i : Int) + 3).toNat = i + 3 from by omega]
        refine Ev.bind hg (ev_pos (by rw [strOfNums_size]; omega) ?_)
        rw [bytesOf_nums _ (b64_rng (fun x hx => bytesOf_range s x (List.mem_of_mem_drop (List.mem_of_mem_take hx))))]
        have := rb_loop s hs m (i + 3) (acc ++ b64 (((bytesOf s).drop i).take 3)) (by omega) (by omega) (by rw [List.length_append, hb4]; omega)
        rw [hsp, ← List.append_assoc]
        simpa using this
    · refine ev_round ?_
      simp only [rosterref01_Base64.l0]
      refine ev_neg (by omega) (ev_eq ?_)
      rw [List.drop_eq_nil_of_le (by rw [bytesOf_length]; omega)]
      simp [b64]
theorem rbase64_at (s : ByteArray) (hs : s.size ≤ 34359738368) : Ev (fun k => rosterref01_Base64.f k s) (strOfNums (b64 (bytesOf s))) := by
  have := rb_loop s hs s.size 0 [] (by omega) rfl (by simp)
  simpa [rosterref01_Base64.f] using this

/-! ### Fronts -/
theorem run_prefix {l : List Int} {st : St} (r : List Int) (h : runC st l = none) : runC st (l ++ r) = none := by
  induction l generalizing st with
  | nil => cases h
  | cons c l ih =>
    rw [runC] at h
    rw [List.cons_append, runC]
    cases hs : stepC st c with
    | none => rfl
    | some s1 => rw [hs] at h; exact ih h
theorem dec_some (g : ByteArray) : (decG g).2 = (runC st0 (bytesOf g)).isSome := by
  unfold decG decR
  cases runC st0 (bytesOf g) <;> rfl
theorem tail_bytes (n : Nat) (h1 : 1 ≤ n) (h4 : n ≤ 4) : bytesOf (tail n 0) = [] ∧ bytesOf (tail n 1) = [61] ∧ bytesOf (tail n 2) = (List.replicate (4 - n) 65) ∧ bytesOf (tail n 3) = [65, 65] := by
  rcases (show n = 1 ∨ n = 2 ∨ n = 3 ∨ n = 4 by omega) with rfl | rfl | rfl | rfl <;> exact ⟨rfl, rfl, by decide +kernel, rfl⟩
/-- Inside a group that is no whole one: nothing is whole behind it. -/
theorem rep_short {st : St} {l : List Int} (R : Rep st l) : ∃ q, l.length = 4 * q + st.g.length + st.p ∧ (b64 st.acc).length = 4 * q := by
  refine ⟨(st.acc.length + 2) / 3, ?_, by rw [b64_len]; omega⟩
  have := congrArg List.length R.all
  simp only [List.length_append, List.length_map, List.length_replicate, b64_len] at this
  omega
theorem on_65 (g : List Int) (acc : List Int) : stepC ⟨false, g, 0, acc⟩ 65 = some (more g 0 acc) := by
  simp [stepC, show w64 65 = some 0 from by decide]
theorem fit_run (t : ByteArray) (k : Nat) : fit t k = true ↔ (t ++ tail t.size k).size = 4 ∧ (runC st0 (bytesOf t ++ bytesOf (tail t.size k))).isSome = true := by
  unfold fit
  rw [Bool.and_eq_true, decide_eq_true_iff, dec_some, bytesOf_append]
theorem front_run (t : ByteArray) (h : t.size ≤ 4) : frontB t = (runC st0 (bytesOf t)).isSome := by
  unfold frontB
  by_cases h0 : t.size = 0
  · have : bytesOf t = [] := List.eq_nil_of_length_eq_zero (by rw [bytesOf_length]; exact h0)
    rw [if_pos h0, this]
    rfl
  · rw [if_neg h0, if_neg (by omega)]
    obtain ⟨T0, T1, T2, T3⟩ := tail_bytes t.size (by omega) h
    have sz : ∀ k, (t ++ tail t.size k).size = t.size + (bytesOf (tail t.size k)).length := fun k => by rw [ByteArray.size_append, bytesOf_length]
    cases hr : runC st0 (bytesOf t) with
    | none =>
      have hf : ∀ k, fit t k = false := fun k => by
        cases hk : fit t k with
        | false => rfl
        | true =>
          have := ((fit_run t k).1 hk).2
          rw [run_prefix _ hr] at this
          cases this
      rw [hf, hf, hf, hf]
      rfl
    | some st =>
      have R := rep_run rep0 hr
      rw [List.nil_append] at R
      obtain ⟨q, hq, _⟩ := rep_short R
      rw [bytesOf_length] at hq
      have ra : ∀ r, runC st0 (bytesOf t ++ r) = runC st r := fun r => run_append r hr
      suffices hs : fit t 0 = true ∨ fit t 1 = true ∨ fit t 2 = true ∨ fit t 3 = true by
        rcases hs with hs | hs | hs | hs <;> simp [hs]
      have cl : st.g ≠ [] → st.closed = false := fun hg => by
        cases hc : st.closed with
        | false => rfl
        | true => exact absurd (R.shut hc).2.1 hg
      obtain ⟨cl0, g, p, acc⟩ := st
      rcases R.form with ⟨h1, h2⟩ | ⟨a, h1, h2⟩ | ⟨a, b, h1, h2 | ⟨h2, h3⟩⟩ | ⟨a, b, c, h1, h2⟩
      · simp only at h1 h2
        subst h1; subst h2
        left
        refine (fit_run t 0).2 ⟨by rw [sz, T0]; simp at hq ⊢; omega, ?_⟩
        rw [ra, T0]
        rfl
      · simp only at h1 h2
        subst h1; subst h2
        obtain rfl : cl0 = false := cl (by simp)
        right; right; left
        have hn : t.size = 1 := by simp at hq; omega
        refine (fit_run t 2).2 ⟨by rw [sz, T2, hn]; rfl, ?_⟩
        rw [ra, T2, hn]
        simp only [show List.replicate (4 - 1) (65 : Int) = [65, 65, 65] from rfl, runC, on_65, more, List.cons_append, List.nil_append]
        rfl
      · simp only at h1 h2
        subst h1; subst h2
        obtain rfl : cl0 = false := cl (by simp)
        right; right; right
        have hn : t.size = 2 := by simp at hq; omega
        refine (fit_run t 3).2 ⟨by rw [sz, T3, hn]; rfl, ?_⟩
        rw [ra, T3]
        simp only [runC, on_65, more, List.cons_append, List.nil_append]
        rfl
      · simp only at h1 h2 h3
        subst h1; subst h2
        obtain rfl : cl0 = false := cl (by simp)
        right; left
        have hn : t.size = 3 := by simp at hq; omega
        refine (fit_run t 1).2 ⟨by rw [sz, T1, hn]; rfl, ?_⟩
        rw [ra, T1]
        simp [runC, stepC, pad]
      · simp only at h1 h2
        subst h1; subst h2
        obtain rfl : cl0 = false := cl (by simp)
        right; right; left
        have hn : t.size = 3 := by simp at hq; omega
        refine (fit_run t 2).2 ⟨by rw [sz, T2, hn]; rfl, ?_⟩
        rw [ra, T2, hn]
        simp only [show List.replicate (4 - 3) (65 : Int) = [65] from rfl, runC, on_65, more]
        rfl
/-- How far a text is the front of a group. -/
theorem short_loop (t : ByteArray) (h4 : t.size ≤ 4) (q : Nat) (hq : q ≤ t.size) (hn : q < t.size → runC st0 ((bytesOf t).take (q + 1)) = none) (hy : (runC st0 ((bytesOf t).take q)).isSome = true) :
    ∀ m i : Nat, i + m = q → Ev (fun k => rosterref01_short.l0 k t (i : Int) ((i + 1 : Nat) : Int)) (q : Int)
  | 0, i, hi => by
    obtain rfl : i = q := by omega
    refine ev_round ?_
    simp only [rosterref01_short.l0]
    by_cases h : i < t.size
    · refine ev_pos (by omega) (ev_pos (by omega) ?_)
      have hx : bytesOf (t.extract 0 (i + 1)) = (bytesOf t).take (i + 1) := by rw [bytesOf_extract, List.drop_zero]
      have hf : rosterref01_front.f (t.extract 0 (i + 1)) = some false := by
        unfold rosterref01_front.f
        rw [if_pos (by rw [ByteArray.size_extract]; omega), front_run _ (by rw [ByteArray.size_extract]; omega), hx, hn h]
        rfl
      rw [Int.toNat_natCast, hf]
      exact ev_some (ev_neg (by decide) (ev_eq rfl))
    · exact ev_neg (by omega) (ev_eq rfl)
  | m + 1, i, hi => by
    have ih := short_loop t h4 q hq hn hy m (i + 1) (by omega)
    refine ev_round ?_
    simp only [rosterref01_short.l0]
    refine ev_pos (by omega) (ev_pos (by omega) ?_)
    have hx : bytesOf (t.extract 0 (i + 1)) = (bytesOf t).take (i + 1) := by rw [bytesOf_extract, List.drop_zero]
    have hsm : (runC st0 ((bytesOf t).take (i + 1))).isSome = true := by
      cases hr : runC st0 ((bytesOf t).take (i + 1)) with
      | some _ => rfl
      | none =>
        have := run_prefix (((bytesOf t).take q).drop (i + 1)) hr
        rw [show (bytesOf t).take (i + 1) = ((bytesOf t).take q).take (i + 1) from by rw [List.take_take, Nat.min_eq_left (by omega)], List.take_append_drop] at this
        rw [this] at hy
        cases hy
    have hf : rosterref01_front.f (t.extract 0 (i + 1)) = some true := by
      unfold rosterref01_front.f
      rw [if_pos (by rw [ByteArray.size_extract]; omega), front_run _ (by rw [ByteArray.size_extract]; omega), hx, hsm]
    rw [Int.toNat_natCast, hf, wrp_id _ (by omega) (by omega)]
    exact ev_some (ev_pos rfl (by simpa using ih))
theorem short_ev (t : ByteArray) (h4 : t.size ≤ 4) (q : Nat) (hq : q ≤ t.size) (hn : q < t.size → runC st0 ((bytesOf t).take (q + 1)) = none) (hy : (runC st0 ((bytesOf t).take q)).isSome = true) : Ev (fun k => rosterref01_short.f k t) (q : Int) := by
  have := short_loop t h4 q hq hn hy q 0 (by omega)
  simpa [rosterref01_short.f] using this

/-! ### The reader -/
theorem stepC_shift (cl : Bool) (g : List Int) (p : Nat) (acc m : List Int) (c : Int) : stepC ⟨cl, g, p, m ++ acc⟩ c = (stepC ⟨cl, g, p, acc⟩ c).map fun st => ⟨st.closed, st.g, st.p, m ++ st.acc⟩ := by
  unfold stepC
  simp only
  split
  · rfl
  · split
    · unfold pad
      split <;> (try split) <;> simp
    · cases w64 c with
      | none => rfl
      | some w =>
        simp only
        split
        · unfold more
          split <;> simp
        · rfl
theorem runC_shift (m : List Int) : ∀ (l : List Int) (st : St), runC ⟨st.closed, st.g, st.p, m ++ st.acc⟩ l = (runC st l).map fun st => ⟨st.closed, st.g, st.p, m ++ st.acc⟩
  | [], st => rfl
  | c :: l, st => by
    rw [runC, runC, stepC_shift]
    cases hs : stepC ⟨st.closed, st.g, st.p, st.acc⟩ c with
    | none => rfl
    | some s1 =>
      have := runC_shift m l s1
      exact this
theorem run_from (m l : List Int) : runC ⟨false, [], 0, m⟩ l = (runC st0 l).map fun st => ⟨st.closed, st.g, st.p, m ++ st.acc⟩ := by
  have := runC_shift m l st0
  simpa [st0] using this
def outp (r : List Int × Int × Int) : ByteArray × Int × Int := (strOfNums r.1, r.2.1, r.2.2)
theorem last_b64 : ∀ (m : List Int), (∀ x ∈ m, 0 ≤ x ∧ x ≤ 255) → m.length ≤ 3 → 1 ≤ m.length → ((b64 m).getD 3 0 = 61 ↔ m.length % 3 ≠ 0)
  | [], _, _, h => by simp at h
  | [a], _, _, _ => by simp [b64]
  | [a, b], _, _, _ => by simp [b64]
  | [a, b, c], h, _, _ => by
    have := h c (by simp)
    simp only [b64, List.length_cons, List.length_nil]
    have := l64_ne (c % 64) (by omega) (by omega)
    simpa using this
  | a :: b :: c :: d :: r, _, h, _ => by simp at h
/-- Four characters that are taken are a whole group. -/
theorem four_whole {l : List Int} {st : St} (hl : l.length = 4) (h : runC st0 l = some st) : st.g = [] ∧ st.p = 0 ∧ l = b64 st.acc ∧ st.acc.length ≤ 3 ∧ 1 ≤ st.acc.length ∧ (∀ x ∈ st.acc, 0 ≤ x ∧ x ≤ 255) ∧ st.closed = decide (st.acc.length % 3 ≠ 0) := by
  have R := rep_run rep0 h
  rw [List.nil_append] at R
  obtain ⟨q, hq, hb⟩ := rep_short R
  rw [hl] at hq
  have hg : st.g = [] ∧ st.p = 0 := by
    rcases R.form with h | ⟨a, h1, h2⟩ | ⟨a, b, h1, h2⟩ | ⟨a, b, c, h1, h2⟩
    · exact h
    all_goals (rw [h1] at hq; simp at hq; omega)
  have ha := R.all
  rw [hg.1, hg.2] at ha hq
  simp only [List.map_nil, List.append_nil, List.replicate_zero] at ha
  simp only [List.length_nil] at hq
  rw [b64_len] at hb
  refine ⟨hg.1, hg.2, ha, by omega, by omega, R.accr, ?_⟩
  cases hc : st.closed with
  | false => have := R.whole hc; simp [this]
  | true => have := (R.shut hc).1; simp [this]
theorem unb_loop (s : ByteArray) (hs : s.size ≤ 34359738368) : ∀ (m i : Nat) (cl : Bool) (acc : List Int), s.size = i + m → i % 4 = 0 → acc.length ≤ i → (i = 0 → cl = false) → (0 < i → cl = decide ((bytesOf s).getD (i - 1) 0 = 61)) →
    Ev (fun k => rosterref01_Unbase64.l0 k s acc (i : Int)) (outp (unB ⟨cl, [], 0, acc⟩ (i : Int) ((bytesOf s).drop i))) := by
  intro m
  induction m using Nat.strongRecOn with
  | ind m ih =>
    intro i cl acc hi h4 ha h0 hc
    have hll : ((bytesOf s).drop i).length = m := by rw [List.length_drop, bytesOf_length]; omega
    by_cases hm : m = 0
    · subst hm
      refine ev_round ?_
      simp only [rosterref01_Unbase64.l0]
      refine ev_neg (by omega) (ev_eq ?_)
      rw [List.eq_nil_of_length_eq_zero hll]
      simp only [unB, fin, outp, if_true]
      rw [hi]
      simp
    · have hcl : Ev (fun k => rosterref01_Unbase64.j1 k s acc (i : Int) cl) (outp (unB ⟨cl, [], 0, acc⟩ (i : Int) ((bytesOf s).drop i))) := by
        refine ev_round ?_
        simp only [rosterref01_Unbase64.j1]
        rw [wrp_id ((i : Int) + 4) (by omega) (by omega)]
        cases cl with
        | true =>
          refine ev_pos rfl (ev_eq ?_)
          cases hd : (bytesOf s).drop i with
          | nil => rw [hd] at hll; simp at hll; omega
          | cons c r => simp [unB, stepC, outp]; rfl
        | false =>
          refine ev_neg (by decide) ?_
          -- what a front of the rest does
          have place : ∀ (t : ByteArray) (n : Nat), bytesOf t = ((bytesOf s).drop i).take n → n ≤ m → n ≤ 4 → (n = 4 → runC st0 (((bytesOf s).drop i).take n) = none) → (n < 4 → n = m) →
              ∃ q : Nat, Ev (fun k => rosterref01_short.f k t) (q : Int) ∧ unB ⟨false, [], 0, acc⟩ (i : Int) ((bytesOf s).drop i) = ([], 12, (i : Int) + q) ∧ q ≤ 4 := by
            intro t n ht hnm hn4 hnone hlt
            have htl : t.size = n := by rw [← bytesOf_length, ht, List.length_take, hll]; omega
            rcases run_or (((bytesOf s).drop i).take n) st0 with ⟨st', h⟩ | ⟨q, st', h1, h2, h3⟩
            · have hn : n < 4 := by
                rcases Nat.lt_or_ge n 4 with h' | h'
                · exact h'
                · have := hnone (by omega); rw [h] at this; cases this
              have hnm' := hlt hn
              have R := rep_run rep0 h
              rw [List.nil_append] at R
              obtain ⟨q, hq, _⟩ := rep_short R
              rw [List.length_take, hll] at hq
              have hg : st'.g ≠ [] := by
                rcases R.form with ⟨h1, h2⟩ | ⟨a, h1, h2⟩ | ⟨a, b, h1, h2⟩ | ⟨a, b, c, h1, h2⟩
                · rw [h1, h2] at hq; simp at hq; omega
                all_goals (rw [h1]; simp)
              have htk : ((bytesOf s).drop i).take n = (bytesOf s).drop i := List.take_of_length_le (by omega)
              refine ⟨n, short_ev t (by omega) n (by omega) (fun z => by omega) (by rw [ht, List.take_take, Nat.min_self, h]; rfl), ?_, hn4⟩
              have hr : runC ⟨false, [], 0, acc⟩ ((bytesOf s).drop i) = some ⟨st'.closed, st'.g, st'.p, acc ++ st'.acc⟩ := by rw [run_from, ← htk, h]; rfl
              have := unB_run [] (i : Int) hr
              rw [List.append_nil] at this
              rw [this, unB, fin, if_neg hg, hll, hnm']
            · rw [List.length_take, hll] at h1
              have hq : q < n := by omega
              rw [List.take_take, Nat.min_eq_left (by omega)] at h2
              have hgd : (((bytesOf s).drop i).take n).getD q 0 = ((bytesOf s).drop i).getD q 0 := by
                simp only [List.getD_eq_getElem?_getD, List.getElem?_take, if_pos hq]
              rw [hgd] at h3
              have hr : runC ⟨false, [], 0, acc⟩ (((bytesOf s).drop i).take q) = some ⟨st'.closed, st'.g, st'.p, acc ++ st'.acc⟩ := by rw [run_from, h2]; rfl
              have hst : stepC ⟨st'.closed, st'.g, st'.p, acc ++ st'.acc⟩ (((bytesOf s).drop i).getD q 0) = none := by
                rw [stepC_shift]
                have : stepC ⟨st'.closed, st'.g, st'.p, st'.acc⟩ (((bytesOf s).drop i).getD q 0) = none := h3
                rw [this]
                rfl
              refine ⟨q, short_ev t (by omega) q (by omega) (fun z => ?_) (by rw [ht, List.take_take, Nat.min_eq_left (by omega), h2]; rfl), unB_refused (i : Int) (by omega) hr hst, by omega⟩
              rw [ht, List.take_take, Nat.min_eq_left (by omega)]
              have hsp : ((bytesOf s).drop i).take (q + 1) = ((bytesOf s).drop i).take q ++ [((bytesOf s).drop i).getD q 0] := by
                rw [List.take_succ_eq_append_getElem (by omega)]
                simp [List.getD_eq_getElem?_getD, List.getElem?_eq_getElem (show q < ((bytesOf s).drop i).length by omega)]
              rw [hsp, run_append _ h2, runC, h3]
          by_cases hx : i + 4 > s.size
          · refine ev_pos (by omega) (ev_pos (by omega) (ev_pos (by omega) ?_))
            rw [Int.toNat_natCast]
            obtain ⟨q, hq, hu, hq4⟩ := place (s.extract i s.size) m (by rw [bytesOf_extract, List.take_of_length_le (by rw [bytesOf_length]; exact Nat.le_refl _), List.take_of_length_le (by omega)]) (Nat.le_refl _) (by omega) (fun z => by omega) (fun _ => rfl)
            refine Ev.bind hq (ev_eq ?_)
            rw [wrp_id _ (by omega) (by omega), hu]
            rfl
          · refine ev_neg (by omega) (ev_pos (by omega) (ev_pos (by omega) (ev_pos (by omega) ?_)))
            rw [Int.toNat_natCast, show ((i : Int) + 4).toNat = i + 4 from by omega]
            have hxb : bytesOf (s.extract i (i + 4)) = ((bytesOf s).drop i).take 4 := by rw [bytesOf_extract, List.drop_take]; congr 1; omega
            have hx4 : (s.extract i (i + 4)).size = 4 := by rw [ByteArray.size_extract]; omega
            have hl4 : (((bytesOf s).drop i).take 4).length = 4 := by rw [List.length_take, hll]; omega
            obtain ⟨c0, c1, c2, c3, hcs⟩ := size4 _ hx4
            have hbe := bytesOf_ev _ c0 c1 c2 c3 hcs
            rw [← hcs, hxb] at hbe
            refine Ev.bind hbe ?_
            cases hr : runC st0 (((bytesOf s).drop i).take 4) with
            | none =>
              have hd : decR (((bytesOf s).drop i).take 4) = (⟨#[]⟩, false) := by unfold decR; rw [hr]
              rw [hd]
              refine ev_neg (by simp) ?_
              obtain ⟨q, hq, hu, hq4⟩ := place (s.extract i (i + 4)) 4 hxb (by omega) (by omega) (fun _ => hr) (fun z => by omega)
              refine Ev.bind hq (ev_eq ?_)
              rw [wrp_id _ (by omega) (by omega), hu]
              rfl
            | some st =>
              have hd : decR (((bytesOf s).drop i).take 4) = (strOfNums st.acc, true) := by unfold decR; rw [hr]
              obtain ⟨g1, g2, g3, g4, g5, g6, g7⟩ := four_whole hl4 hr
              rw [hd]
              refine ev_pos rfl (ev_pos (by simp only [strOfNums_size]; omega) ?_)
              simp only
              rw [bytesOf_nums _ g6]
              have hgl : (bytesOf s).getD (i + 4 - 1) 0 = (b64 st.acc).getD 3 0 := by
                rw [← g3]
                simp only [List.getD_eq_getElem?_getD, List.getElem?_take, List.getElem?_drop]
                rw [if_pos (by omega), show i + 4 - 1 = i + 3 from by omega]
              have := ih (m - 4) (by omega) (i + 4) st.closed (acc ++ st.acc) (by omega) (by omega) (by rw [List.length_append]; omega) (fun z => by omega) (fun _ => by
                rw [hgl, g7]
                exact decide_eq_decide.mpr (last_b64 _ g6 g4 g5).symm)
              have hru : runC ⟨false, [], 0, acc⟩ (((bytesOf s).drop i).take 4) = some ⟨st.closed, [], 0, acc ++ st.acc⟩ := by rw [run_from, hr]; simp [g1, g2]
              have hsplit := unB_run (((bytesOf s).drop i).drop 4) (i : Int) hru
              rw [List.take_append_drop, hl4, List.drop_drop] at hsplit
              rw [hsplit]
              simpa using this
      refine ev_round ?_
      simp only [rosterref01_Unbase64.l0]
      refine ev_pos (by omega) ?_
      by_cases hi0 : i = 0
      · have := h0 hi0
        subst hi0
        rw [this] at hcl
        refine ev_neg (by decide) ?_
        rw [this]
        exact hcl
      · have hcv := hc (by omega)
        rw [wrp_id ((i : Int) - 1) (by omega) (by omega)]
        refine ev_pos (by omega) (ev_pos (by omega) (ev_pos (by omega) ?_))
        have hbt : (bt s ((i : Int) - 1) == 61) = cl := by
          rw [hcv, bt_byte, show ((i : Int) - 1).toNat = i - 1 from by omega]
          rfl
        rw [hbt]
        exact hcl
theorem runbase64_at (s : ByteArray) (hs : s.size ≤ 34359738368) : Ev (fun k => rosterref01_Unbase64.f k s) (outp (unS s)) := by
  have := unb_loop s hs s.size 0 false [] (by omega) rfl (by simp) (fun _ => rfl) (fun z => by omega)
  simpa [rosterref01_Unbase64.f, unS, st0] using this
theorem unbases_at (s : ByteArray) (hs : s.size ≤ 34359738368) : Ev (fun k => rosterlaw01_unbases.f k s) true := by
  have hu : text_Unbase64.f s = some (outp (unS s)) := by unfold text_Unbase64.f; rw [if_pos (by omega)]; rfl
  simp only [rosterlaw01_unbases.f, rosterlaw01_num.f, Option.bind_some, hu]
  refine Ev.bind (runbase64_at s hs) (ev_pos rfl (ev_pos rfl (ev_eq ?_)))
  simp
end Go.Proofs.YtppnhlkfkedlmaaDoor.BasesEvX

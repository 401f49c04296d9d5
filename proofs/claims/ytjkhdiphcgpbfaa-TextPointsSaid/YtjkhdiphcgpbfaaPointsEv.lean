/- TextPoints, pure: numbers written in the forms of UTF-8, one behind the other: the whole is UTF-8 unless one is too wide, a surrogate or too great, and the place is where the first such one begins. For every two lists. -/
import Derived.Test.YtjkhdiphcgpbfaaPTextPointsx3
import Derived.Test.YtjkhdiphcgpbfaaUtfEvPoints
namespace Go.Proofs.Ytjkhdiphcgpbfaa.PointsEv
open Go.RowKit Go.Proofs.Ytjkhdiphcgpbfaa.PTextPoints Go.Proofs.YtjkhdiphcgpbfaaW.PrintWords Go.Proofs.YtjkhdiphcgpbfaaW.PrintLast Go.Proofs.Ytjkhdiphcgpbfaa.Utf Go.Proofs.Ytjkhdiphcgpbfaa.EPoints
set_option linter.unusedVariables false
set_option linter.unusedSimpArgs false

theorem bytesOf_nums (l : List Int) (h : ∀ x ∈ l, 0 ≤ x ∧ x ≤ 255) : bytesOf (strOfNums l) = l := by
  unfold bytesOf
  rw [strOfNums_data, List.map_map]
  conv => rhs; rw [← List.map_id l]
  apply List.map_congr_left
  intro x hx
  have := h x hx
  simp
  omega

/-- n in k bytes. -/
def wd (n k : Int) : List Int :=
  if k = 1 then [n] else if k = 2 then [192 + n / 64, 128 + n % 64]
  else if k = 3 then [224 + n / 4096, 128 + n / 64 % 64, 128 + n % 64]
  else [240 + n / 262144, 128 + n / 4096 % 64, 128 + n / 64 % 64, 128 + n % 64]
def nd (n : Int) : Int := if n < 128 then 1 else if n < 2048 then 2 else if n < 65536 then 3 else 4
/-- Is it written wrong? -/
def wrong (n k : Int) : Prop := k > nd n ∨ (55296 ≤ n ∧ n ≤ 57343) ∨ 1114111 < n

theorem nd_range (n : Int) : 1 ≤ nd n ∧ nd n ≤ 4 := by unfold nd; (repeat' split) <;> omega
theorem wide_at (n k : Int) (h0 : 0 ≤ n) (h1 : n < 2097152) (hk : nd n ≤ k) (hk4 : k ≤ 4) : ∃ w, rosterlaw01_wide.f n k = some w ∧ bytesOf w = wd n k ∧ (w.size : Int) = k := by
  have hl : ∀ l : List Int, (∀ x ∈ l, 0 ≤ x ∧ x ≤ 255) → (l.length : Int) = k → l = wd n k → ∃ w, some (strOfNums l) = some w ∧ bytesOf w = wd n k ∧ (w.size : Int) = k := by
    intro l ha hb hc
    exact ⟨_, rfl, by rw [bytesOf_nums l ha, hc], by rw [strOfNums_size]; exact hb⟩
  have d1 := Int.tdiv_eq_ediv_of_nonneg (b := 64) h0
  have d2 := Int.tdiv_eq_ediv_of_nonneg (b := 4096) h0
  have d3 := Int.tdiv_eq_ediv_of_nonneg (b := 262144) h0
  have t1 := Int.tmod_eq_emod_of_nonneg (b := 64) h0
  have t2 := Int.tmod_eq_emod_of_nonneg (b := 64) (show 0 ≤ n / 64 by omega)
  have t3 := Int.tmod_eq_emod_of_nonneg (b := 64) (show 0 ≤ n / 4096 by omega)
  have wr : ∀ x : Int, 0 ≤ x → x ≤ 2097152 → wrap64 x = x := fun x a b => wrp_id x (by omega) (by omega)
  unfold rosterlaw01_wide.f
  rw [d1, d2, d3, t1, wr (n / 64) (by omega) (by omega), wr (n / 4096) (by omega) (by omega), wr (n / 262144) (by omega) (by omega), t2, t3]
  rw [wr (192 + n / 64) (by omega) (by omega), wr (128 + n % 64) (by omega) (by omega), wr (224 + n / 4096) (by omega) (by omega), wr (128 + n / 64 % 64) (by omega) (by omega), wr (240 + n / 262144) (by omega) (by omega), wr (128 + n / 4096 % 64) (by omega) (by omega)]
  unfold nd at hk
  by_cases k1 : k = 1
  · have hn : n < 128 := by (repeat' split at hk) <;> omega
    rw [if_pos k1]
    refine hl _ ?_ (by simp [k1]) ?_
    · intro x hx
      simp at hx
      omega
    · rw [wd, if_pos k1]
      congr 1
      omega
  · by_cases k2 : k = 2
    · have hn : n < 2048 := by (repeat' split at hk) <;> omega
      rw [if_neg k1, if_pos k2]
      refine hl _ ?_ (by simp [k2]) ?_
      · intro x hx
        simp at hx
        omega
      · rw [wd, if_neg k1, if_pos k2]
        congr 1
        · omega
        · congr 1
          omega
    · by_cases k3 : k = 3
      · have hn : n < 65536 := by (repeat' split at hk) <;> omega
        rw [if_neg k1, if_neg k2, if_pos k3]
        refine hl _ ?_ (by simp [k3]) ?_
        · intro x hx
          simp at hx
          omega
        · rw [wd, if_neg k1, if_neg k2, if_pos k3]
          congr 1
          · omega
          · congr 1
            · omega
            · congr 1
              omega
      · have k4 : k = 4 := by (repeat' split at hk) <;> omega
        rw [if_neg k1, if_neg k2, if_neg k3]
        refine hl _ ?_ (by simp [k4]) ?_
        · intro x hx
          simp at hx
          omega
        · rw [wd, if_neg k1, if_neg k2, if_neg k3]
          congr 1
          · omega
          · congr 1
            · omega
            · congr 1
              · omega
              · congr 1
                omega

theorem wd_length (n k : Int) (h1 : 1 ≤ k) (h4 : k ≤ 4) : ((wd n k).length : Int) = k := by
  unfold wd
  (repeat' split) <;> simp <;> omega
theorem wd1 (n : Int) : wd n 1 = [n] := by simp [wd]
theorem wd2 (n : Int) : wd n 2 = [192 + n / 64, 128 + n % 64] := by simp [wd]
theorem wd3 (n : Int) : wd n 3 = [224 + n / 4096, 128 + n / 64 % 64, 128 + n % 64] := by simp [wd]
theorem wd4 (n : Int) : wd n 4 = [240 + n / 262144, 128 + n / 4096 % 64, 128 + n / 64 % 64, 128 + n % 64] := by simp [wd]
theorem wd_wrong (n k : Int) (m : List Int) (h0 : 0 ≤ n) (h1 : n < 2097152) (hk : nd n ≤ k) (hk4 : k ≤ 4) (hw : wrong n k) : sq (wd n k ++ m) = 0 := by
  have hr := nd_range n
  unfold wrong at hw
  unfold nd at hw hk hr
  have hc : k = 1 ∨ k = 2 ∨ k = 3 ∨ k = 4 := by omega
  rcases hc with rfl | rfl | rfl | rfl
  · exfalso
    (repeat' split at hw) <;> (repeat' split at hk) <;> omega
  · have hn : n < 128 := by (repeat' split at hw) <;> (repeat' split at hk) <;> omega
    simp only [wd2, List.cons_append, List.nil_append, sq]
    rw [if_neg (by omega), if_pos (by omega)]
  · have hn : n < 2048 ∨ (55296 ≤ n ∧ n ≤ 57343) := by (repeat' split at hw) <;> (repeat' split at hk) <;> omega
    have hn2 : n < 65536 := by (repeat' split at hk) <;> omega
    simp only [wd3, List.cons_append, List.nil_append, sq]
    rw [if_neg (by omega), if_neg (by omega), if_neg (by omega), if_pos (by omega), if_neg]
    rintro ⟨a, b, c, d⟩
    unfold lo1 at a
    unfold hi1 at b
    (repeat' split at a) <;> (repeat' split at b) <;> omega
  · have hn : n < 65536 ∨ 1114111 < n := by (repeat' split at hw) <;> (repeat' split at hk) <;> omega
    simp only [wd4, List.cons_append, List.nil_append, sq]
    rw [if_neg (by omega), if_neg (by omega), if_neg (by omega), if_neg (by omega)]
    by_cases h4 : 240 + n / 262144 ≤ 244
    · rw [if_pos h4, if_neg]
      rintro ⟨a, b, c, d⟩
      unfold lo1 at a
      unfold hi1 at b
      (repeat' split at a) <;> (repeat' split at b) <;> omega
    · rw [if_neg h4]
theorem wd_right (n k : Int) (m : List Int) (h0 : 0 ≤ n) (h1 : n < 2097152) (hk : nd n ≤ k) (hk4 : k ≤ 4) (hw : ¬ wrong n k) : (sq (wd n k ++ m) : Int) = k := by
  have hr := nd_range n
  unfold wrong at hw
  unfold nd at hw hk hr
  have hc : k = 1 ∨ k = 2 ∨ k = 3 ∨ k = 4 := by omega
  rcases hc with rfl | rfl | rfl | rfl
  · have hn : n < 128 := by (repeat' split at hw) <;> (repeat' split at hk) <;> omega
    simp only [wd1, List.cons_append, List.nil_append, sq]
    rw [if_pos (by omega)]
    rfl
  · have hn : 128 ≤ n ∧ n < 2048 := by (repeat' split at hw) <;> (repeat' split at hk) <;> omega
    simp only [wd2, List.cons_append, List.nil_append, sq]
    rw [if_neg (by omega), if_neg (by omega), if_pos (by omega), if_pos (by omega)]
    rfl
  · have hn : 2048 ≤ n ∧ n < 65536 ∧ ¬ (55296 ≤ n ∧ n ≤ 57343) := by (repeat' split at hw) <;> (repeat' split at hk) <;> omega
    simp only [wd3, List.cons_append, List.nil_append, sq]
    rw [if_neg (by omega), if_neg (by omega), if_neg (by omega), if_pos (by omega), if_pos]
    · rfl
    · unfold lo1 hi1
      (repeat' split) <;> omega
  · have hn : 65536 ≤ n ∧ n ≤ 1114111 := by (repeat' split at hw) <;> (repeat' split at hk) <;> omega
    simp only [wd4, List.cons_append, List.nil_append, sq]
    rw [if_neg (by omega), if_neg (by omega), if_neg (by omega), if_neg (by omega), if_pos (by omega), if_pos]
    · rfl
    · unfold lo1 hi1
      (repeat' split) <;> omega

theorem need_at (n : Int) : rosterlaw01_need.f n = some (nd n) := by
  unfold rosterlaw01_need.f nd
  (repeat' split) <;> rfl

instance (n k : Int) : Decidable (wrong n k) := by unfold wrong; infer_instance

/-- The three ways in one. -/
theorem j2_eq (k : Nat) (x0 x1 : List Int) (x5 : ByteArray) (x6 x7 x8 x9 : Int) : rosterlaw01_TextPoints.j2 (k + 1) x0 x1 x5 x6 x7 x8 x9 (nd x8) =
    (rosterlaw01_wide.f x8 (if x9 > 4 then 4 else x9)).bind fun t => if x5.size + t.size ≤ 9223372036854775807 then
      rosterlaw01_TextPoints.l0 k x0 x1 (x5 ++ t) (if wrong x8 (if x9 > 4 then 4 else x9) then (if x6 < 0 then (x5.size : Int) else x6) else x6) (wrap64 (x7 + 1)) else none := by
  simp only [rosterlaw01_TextPoints.j2, wrong]
  by_cases h1 : x9 > 4
  · by_cases h2 : 4 > nd x8 <;> by_cases h3 : x8 ≥ 55296 <;> by_cases h4 : x8 ≤ 57343 <;> by_cases h5 : x8 > 1114111 <;> by_cases h6 : x6 < 0
    all_goals first
      | (exfalso; omega)
      | (simp [h1, h2, h3, h4, h5, h6]; done)
  · by_cases h2 : x9 > nd x8 <;> by_cases h3 : x8 ≥ 55296 <;> by_cases h4 : x8 ≤ 57343 <;> by_cases h5 : x8 > 1114111 <;> by_cases h6 : x6 < 0
    all_goals first
      | (exfalso; omega)
      | (simp [h1, h2, h3, h4, h5, h6]; done)

/-- What is known of the text so far: whole, or faulty at a place whatever follows. -/
def Bad (l : List Int) (bad : Int) : Prop := if bad < 0 then vp l = l.length else ∃ p : Nat, bad = p ∧ p < l.length ∧ ∀ m, vp (l ++ m) = p

theorem bad_step (l : List Int) (bad n k : Int) (h : Bad l bad) (h0 : 0 ≤ n) (h1 : n < 2097152) (hk : nd n ≤ k) (hk4 : k ≤ 4) :
    Bad (l ++ wd n k) (if wrong n k then (if bad < 0 then (l.length : Int) else bad) else bad) := by
  have hr := nd_range n
  have hlen := wd_length n k (by omega) hk4
  by_cases hb : bad < 0
  · unfold Bad at h
    rw [if_pos hb] at h
    by_cases hw : wrong n k
    · rw [if_pos hw, if_pos hb]
      unfold Bad
      rw [if_neg (by omega)]
      refine ⟨l.length, rfl, by rw [List.length_append]; omega, fun m => ?_⟩
      rw [List.append_assoc, vp_append _ _ h, vp_zero (wd_wrong n k m h0 h1 hk hk4 hw)]
      rfl
    · rw [if_neg hw]
      unfold Bad
      rw [if_pos hb]
      rw [vp_append _ _ h, List.length_append]
      have hq := wd_right n k [] h0 h1 hk hk4 hw
      rw [List.append_nil] at hq
      have hql : sq (wd n k) = (wd n k).length := by omega
      rw [vp_step (by omega), hql, List.drop_length, vp_nil]
      rfl
  · unfold Bad at h
    rw [if_neg hb] at h
    obtain ⟨p, rfl, hp, hm⟩ := h
    have : Bad (l ++ wd n k) (p : Int) := by
      unfold Bad
      rw [if_neg hb]
      exact ⟨p, rfl, by rw [List.length_append]; omega, fun m => by rw [List.append_assoc]; exact hm _⟩
    by_cases hw : wrong n k
    · rw [if_pos hw, if_neg hb]
      exact this
    · rw [if_neg hw]
      exact this

theorem band_eq (x : Int) : Go.bits .and .i64 x 2097151 = x % 2097152 := by
  have h127 : (BitVec.ofInt 64 2097151).toNat = 2 ^ 21 - 1 := by decide
  have key : (BitVec.ofInt 64 x &&& BitVec.ofInt 64 2097151).toNat = (x % ((2 ^ 64 : Nat) : Int)).toNat % 2 ^ 21 := by
    rw [BitVec.toNat_and, BitVec.toNat_ofInt, h127, Nat.and_two_pow_sub_one_eq_mod]
  show IntKind.i64.wrap ((BitVec.ofInt 64 x &&& BitVec.ofInt 64 2097151).toNat : Nat) = x % 2097152
  rw [key, IntKind.wrap_i64]
  omega
theorem band3_eq (x : Int) : Go.bits .and .i64 x 3 = x % 4 := by
  have h127 : (BitVec.ofInt 64 3).toNat = 2 ^ 2 - 1 := by decide
  have key : (BitVec.ofInt 64 x &&& BitVec.ofInt 64 3).toNat = (x % ((2 ^ 64 : Nat) : Int)).toNat % 2 ^ 2 := by
    rw [BitVec.toNat_and, BitVec.toNat_ofInt, h127, Nat.and_two_pow_sub_one_eq_mod]
  show IntKind.i64.wrap ((BitVec.ofInt 64 x &&& BitVec.ofInt 64 3).toNat : Nat) = x % 4
  rw [key, IntKind.wrap_i64]
  omega

theorem points_end (k : Nat) (x0 x1 : List Int) (s : ByteArray) (bad i : Int) : rosterlaw01_TextPoints.j1 (k + 1) x0 x1 s bad i false =
    (text_Check.f k s).bind fun bt146 => (if bad < 0 then ((rosterlaw01_num.f bt146.1).bind fun t148 => (if t148 = 0 then (some (bt146.2 == (s.size : Int))) else (some false))) else ((rosterlaw01_num.f bt146.1).bind fun t149 => (if t149 = 10 then (some (bt146.2 == bad)) else (some false)))) := by
  simp only [rosterlaw01_TextPoints.j1]
  rw [if_neg (by simp)]

theorem ends_true (x0 x1 : List Int) (s : ByteArray) (bad i : Int) (hs : s.size ≤ 4611686018427387904) (hB : Bad (bytesOf s) bad) : Ev (fun k => rosterlaw01_TextPoints.j1 k x0 x1 s bad i false) true := by
  refine Ev.step (fun k => points_end k x0 x1 s bad i) ?_
  refine Ev.bind (check_ev s hs) ?_
  have hl : (bytesOf s).length = s.size := bytesOf_length s
  simp only [rosterlaw01_num.f, Option.bind_some]
  unfold Bad at hB
  by_cases hb : bad < 0
  · rw [if_pos hb] at hB
    refine ev_pos hb ?_
    rw [hl] at hB
    rw [if_pos hB, hB]
    refine ev_pos rfl ?_
    simp only [beq_self_eq_true]
    exact Ev.now _
  · rw [if_neg hb] at hB
    obtain ⟨p, rfl, hp, hm⟩ := hB
    have h := hm []
    rw [List.append_nil] at h
    refine ev_neg hb ?_
    rw [h, if_neg (by omega : ¬ p = s.size)]
    refine ev_pos rfl ?_
    simp only [beq_self_eq_true]
    exact Ev.now _

theorem points_loop (x0 x1 : List Int) (h0 : x0.length ≤ 1152921504606846976) (h1 : x1.length ≤ 1152921504606846976) (d : Nat) : ∀ (i : Nat) (s : ByteArray) (bad : Int), i + d = 64 → s.size ≤ 4 * i → Bad (bytesOf s) bad →
    Ev (fun k => rosterlaw01_TextPoints.l0 k x0 x1 s bad (i : Int)) true := by
  induction d with
  | zero =>
    intro i s bad hi hs hB
    refine ev_round ?_
    simp only [rosterlaw01_TextPoints.l0]
    have hd : decide ((i : Int) < 64) = false := decide_eq_false (by omega)
    rw [hd]
    by_cases hc : (i : Int) < (x0.length : Int)
    · exact ev_pos hc (ends_true x0 x1 s bad i (by omega) hB)
    · exact ev_neg hc (ends_true x0 x1 s bad i (by omega) hB)
  | succ d ih =>
    intro i s bad hi hs hB
    refine ev_round ?_
    simp only [rosterlaw01_TextPoints.l0]
    have hd : decide ((i : Int) < 64) = true := decide_eq_true (by omega)
    rw [hd]
    by_cases hc : (i : Int) < (x0.length : Int)
    · refine ev_pos hc (ev_round ?_)
      simp only [rosterlaw01_TextPoints.j1, need_at, Option.bind_some, band_eq, band3_eq]
      refine ev_pos trivial (ev_pos (by omega) (ev_pos (by omega) ?_))
      have hn0 : 0 ≤ rd x0 (i : Int) % 2097152 := by omega
      have hn1 : rd x0 (i : Int) % 2097152 < 2097152 := by omega
      generalize rd x0 (i : Int) % 2097152 = n at *
      have hr := nd_range n
      have go : ∀ K : Int, nd n ≤ K → K ≤ nd n + 3 → Ev (fun k => rosterlaw01_TextPoints.j2 k x0 x1 s bad (i : Int) n K (nd n)) true := by
        intro K hK hK2
        refine Ev.step (fun k => j2_eq k x0 x1 s bad i n K) ?_
        have hk1 : nd n ≤ (if K > 4 then 4 else K) := by split <;> omega
        have hk2 : (if K > 4 then 4 else K) ≤ 4 := by split <;> omega
        generalize (if K > 4 then 4 else K) = K' at *
        obtain ⟨w, hw, hwb, hws⟩ := wide_at n K' hn0 hn1 hk1 hk2
        rw [hw]
        simp only [Option.bind_some]
        refine ev_pos (by omega) ?_
        rw [show wrap64 ((i : Int) + 1) = ((i + 1 : Nat) : Int) by rw [wrp_id _ (by omega) (by omega)]; rfl]
        have hl : (bytesOf s).length = s.size := bytesOf_length s
        have hstep := bad_step (bytesOf s) bad n K' hB hn0 hn1 hk1 hk2
        rw [hl] at hstep
        have hsz : (s ++ w).size = s.size + w.size := by rw [← bytesOf_length, bytesOf_append, List.length_append, bytesOf_length, bytesOf_length]
        refine ih (i + 1) (s ++ w) _ (by omega) (by omega) ?_
        rw [bytesOf_append, hwb]
        exact hstep
      by_cases hc1 : (i : Int) < (x1.length : Int)
      · refine ev_pos hc1 ?_
        rw [wrp_id _ (by omega) (by omega)]
        exact go _ (by omega) (by omega)
      · refine ev_neg hc1 ?_
        exact go _ (by omega) (by omega)
    · exact ev_neg hc (ends_true x0 x1 s bad i (by omega) hB)

theorem TextPoints : rosterlaw01_TextPoints.Pure := by
  intro l0 l1 a1 a2 a3 b1 b2 b3
  refine Ev.rounds ?_
  unfold rosterlaw01_TextPoints.f
  refine points_loop l0 l1 (by omega) (by omega) 64 0 _ _ rfl (by decide) ?_
  unfold Bad
  rw [if_pos (by decide)]
  exact vp_nil
end Go.Proofs.Ytjkhdiphcgpbfaa.PointsEv

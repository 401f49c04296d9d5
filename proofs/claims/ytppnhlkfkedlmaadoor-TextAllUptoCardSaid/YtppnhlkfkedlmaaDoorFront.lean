/- By hand: the document's front, the bytes of four characters. -/
import Derived.Test.YtppnhlkfkedlmaaDoorWMore
import Derived.Test.YtppnhlkfkedlmaaDoorHand
import Derived.Test.YtppnhlkfkedlmaaDoorXQ2
import Derived.Lib.Hide
set_option linter.unusedVariables false
set_option linter.unusedSimpArgs false
namespace Go.Proofs.YtppnhlkfkedlmaaDoor.XV
open Go.RowKit Go.Proofs.YtppnhlkfkedlmaaDoorW.PrintWords Go.Proofs.YtppnhlkfkedlmaaDoorW.PrintLast
theorem ev_pos {α : Type} {c : Prop} [Decidable c] {f g : Nat → Option α} {r : α} (hc : c) (h : Ev f r) : Ev (fun k => if c then f k else g k) r := Ev.congr (fun k => if_pos hc) h
theorem ev_neg {α : Type} {c : Prop} [Decidable c] {f g : Nat → Option α} {r : α} (hc : ¬ c) (h : Ev g r) : Ev (fun k => if c then f k else g k) r := Ev.congr (fun k => if_neg hc) h
theorem ev_round {α : Type} {g : Nat → Option α} {r : α} (h : Ev (fun k => g (k + 1)) r) : Ev g r := Ev.step (fun _ => rfl) h
theorem ev_some {α β : Type} {x : α} {f : Nat → α → Option β} {r : β} (h : Ev (fun k => f k x) r) : Ev (fun k => (some x).bind (f k)) r := h
theorem ev_eq {α : Type} {r r' : α} (h : r' = r) : Ev (fun _ => some r') r := h ▸ Ev.now r'
theorem ev_at {α : Type} {g : Nat → Option α} {r : α} (n : Nat) (h : ∀ m, g (m + n) = some r) : Ev g r := ⟨n, fun k hk => by
  obtain ⟨m, rfl⟩ : ∃ m, k = m + n := ⟨k - n, by omega⟩
  exact h m⟩
theorem ev_bindsome {α : Type} {g : Nat → Option α} {r : α} (h : Ev g r) : Ev (fun k => (g k).bind fun t => some t) r := Ev.congr (fun k => by cases g k <;> rfl) h
theorem wrp_id (n : Int) (h0 : -9223372036854775808 ≤ n) (h : n ≤ 9223372036854775807) : wrap64 n = n := by unfold wrap64; omega
theorem bt_byte (s : ByteArray) (i : Int) : bt s i = (bytesOf s).getD i.toNat 0 := by rw [← rd_bytesOf]; rfl
theorem bytesOf_append (a b : ByteArray) : bytesOf (a ++ b) = bytesOf a ++ bytesOf b := by
  unfold bytesOf
  rw [← List.map_append]
  congr 1
theorem bytesOf_extract (s : ByteArray) (i j : Nat) : bytesOf (s.extract i j) = ((bytesOf s).take j).drop i := by
  unfold bytesOf
  rw [← List.map_take, ← List.map_drop]
  congr 1
  have h : (s.extract i j).data.toList = (s.data.extract i j).toList := by simp
  rw [h]
  simp [List.drop_take]
theorem bytesOf_range (s : ByteArray) : ∀ x ∈ bytesOf s, 0 ≤ x ∧ x ≤ 255 := by
  intro x hx
  unfold bytesOf at hx
  obtain ⟨b, _, rfl⟩ := List.mem_map.1 hx
  have := b.toNat_lt
  omega
theorem bytesOf_nums (l : List Int) (h : ∀ x ∈ l, 0 ≤ x ∧ x ≤ 255) : bytesOf (strOfNums l) = l := by
  unfold bytesOf
  rw [strOfNums_data, List.map_map]
  conv => rhs; rw [← List.map_id l]
  apply List.map_congr_left
  intro x hx
  have := h x hx
  simp
  omega
theorem bytesOf_inj {a b : ByteArray} (h : bytesOf a = bytesOf b) : a = b := by
  have h2 : a.data.toList = b.data.toList := by
    unfold bytesOf at h
    have inj : ∀ (l m : List UInt8), (l.map fun b => (b.toNat : Int)) = (m.map fun b => (b.toNat : Int)) → l = m := by
      intro l
      induction l with
      | nil => intro m hm; cases m with
        | nil => rfl
        | cons y m => simp at hm
      | cons x l ih => intro m hm; cases m with
        | nil => simp at hm
        | cons y m =>
          simp only [List.map_cons, List.cons.injEq] at hm
          have h1 : x.toNat = y.toNat := by omega
          rw [UInt8.toNat_inj.1 h1, ih m hm.2]
    exact inj _ _ h
  have h3 : a.data = b.data := Array.toList_inj.1 h2
  cases a; cases b; simp_all
theorem toList_data (a : ByteArray) : a.toList = a.data.toList := by
  exact ByteArray.toList_eq a
theorem toList_eq_iff (a b : ByteArray) : a.toList = b.toList ↔ a = b := by
  rw [toList_data, toList_data]
  constructor
  · intro h
    have h3 : a.data = b.data := Array.toList_inj.1 h
    cases a; cases b; simp_all
  · intro h; rw [h]
end Go.Proofs.YtppnhlkfkedlmaaDoor.XV
namespace Go.Proofs.YtppnhlkfkedlmaaDoor.Dec
open Go.RowKit Go.Proofs.YtppnhlkfkedlmaaDoor.XV Go.Proofs.YtppnhlkfkedlmaaDoor.L64 Go.Proofs.YtppnhlkfkedlmaaDoor.UnB64 Go.Proofs.YtppnhlkfkedlmaaDoorW.PrintWords Go.Proofs.YtppnhlkfkedlmaaDoorW.PrintLast
def decR (l : List Int) : ByteArray × Bool := match runC st0 l with | some st => (strOfNums st.acc, true) | none => (⟨#[]⟩, false)
def val (c : Int) : Int := (w64 c).getD 0
theorem val_range (c : Int) : 0 ≤ val c ∧ val c < 64 := by
  unfold val
  cases h : w64 c with
  | none => simp
  | some w => have := w64_some h; simp; omega
theorem val_l64 (n : Int) (h : 0 ≤ n) (h2 : n < 64) : val (l64 n) = n := by unfold val; rw [w64_l64 n h h2]; rfl
theorem val_61 : val 61 = 0 := by decide
def three (c0 c1 c2 c3 : Int) : List Int := [val c0 * 4 + val c1 / 16, val c1 % 16 * 16 + val c2 / 4, val c2 % 4 * 64 + val c3]
theorem three_rng (c0 c1 c2 c3 : Int) : ∀ x ∈ three c0 c1 c2 c3, 0 ≤ x ∧ x ≤ 255 := by
  have := val_range c0; have := val_range c1; have := val_range c2; have := val_range c3
  intro x hx
  simp only [three, List.mem_cons, List.not_mem_nil, or_false] at hx
  omega
theorem dec_yes {l m : List Int} (hm : ∀ x ∈ m, 0 ≤ x ∧ x ≤ 255) (h : b64 m = l) : decR l = (strOfNums m, true) := by
  unfold decR
  have := run_b64 m [] hm
  rw [h] at this
  rw [show st0 = ⟨false, [], 0, []⟩ from rfl, this]
  simp
theorem dec_no (c0 c1 c2 c3 : Int) (h : ∀ n, 1 ≤ n → n ≤ 3 → b64 ((three c0 c1 c2 c3).take n) ≠ [c0, c1, c2, c3]) : decR [c0, c1, c2, c3] = (⟨#[]⟩, false) := by
  unfold decR
  cases hr : runC st0 [c0, c1, c2, c3] with
  | none => rfl
  | some st =>
    exfalso
    have R := rep_run rep0 hr
    rw [List.nil_append] at R
    have ha := R.all
    have hl := congrArg List.length ha
    simp only [List.length_append, List.length_map, List.length_replicate, List.length_cons, List.length_nil, b64_len] at hl
    have hg : st.g = [] ∧ st.p = 0 := by
      rcases R.form with h | ⟨a, h1, h2⟩ | ⟨a, b, h1, h2⟩ | ⟨a, b, c, h1, h2⟩
      · exact h
      all_goals (rw [h1] at hl; simp at hl; omega)
    rw [hg.1, hg.2] at ha hl
    simp only [List.map_nil, List.append_nil, List.replicate_zero] at ha
    simp at hl
    have acr := R.accr
    generalize st.acc = m at ha hl acr
    match m, ha, hl, acr with
    | [], _, hl, _ => simp at hl
    | [a], ha, _, acr =>
      have := acr a (by simp)
      refine h 1 (by omega) (by omega) ?_
      simp only [b64, List.cons.injEq, and_true] at ha
      obtain ⟨rfl, rfl, rfl, rfl⟩ := ha
      simp only [three, List.take_succ_cons, List.take_zero, val_l64 (a / 4) (by omega) (by omega), val_l64 (a % 4 * 16) (by omega) (by omega)]
      rw [show a / 4 * 4 + a % 4 * 16 / 16 = a from by omega]
      rfl
    | [a, b], ha, _, acr =>
      have := acr a (by simp); have := acr b (by simp)
      refine h 2 (by omega) (by omega) ?_
      simp only [b64, List.cons.injEq, and_true] at ha
      obtain ⟨rfl, rfl, rfl, rfl⟩ := ha
      simp only [three, List.take_succ_cons, List.take_zero, val_l64 (a / 4) (by omega) (by omega), val_l64 (a % 4 * 16 + b / 16) (by omega) (by omega), val_l64 (b % 16 * 4) (by omega) (by omega)]
      rw [show a / 4 * 4 + (a % 4 * 16 + b / 16) / 16 = a from by omega, show (a % 4 * 16 + b / 16) % 16 * 16 + b % 16 * 4 / 4 = b from by omega]
      rfl
    | [a, b, c], ha, _, acr =>
      have := acr a (by simp); have := acr b (by simp); have := acr c (by simp)
      refine h 3 (by omega) (by omega) ?_
      simp only [b64, List.cons.injEq, and_true] at ha
      obtain ⟨rfl, rfl, rfl, rfl⟩ := ha
      simp only [three, List.take_succ_cons, List.take_zero, val_l64 (a / 4) (by omega) (by omega), val_l64 (a % 4 * 16 + b / 16) (by omega) (by omega), val_l64 (b % 16 * 4 + c / 64) (by omega) (by omega), val_l64 (c % 64) (by omega) (by omega)]
      rw [show a / 4 * 4 + (a % 4 * 16 + b / 16) / 16 = a from by omega, show (a % 4 * 16 + b / 16) % 16 * 16 + (b % 16 * 4 + c / 64) / 4 = b from by omega, show (b % 16 * 4 + c / 64) % 4 * 64 + c % 64 = c from by omega]
      rfl
    | a :: b :: c :: d :: r, _, hl, _ => simp at hl; omega
theorem eq_nums {t g : ByteArray} {l m : List Int} (ht : t = strOfNums m) (hm : ∀ x ∈ m, 0 ≤ x ∧ x ≤ 255) (hg : bytesOf g = l) : t.toList = g.toList ↔ m = l := by
  rw [toList_eq_iff, ht]
  constructor
  · intro h
    rw [← hg, ← h, bytesOf_nums m hm]
  · intro h
    exact bytesOf_inj (by rw [bytesOf_nums m hm, hg, h])
theorem b64_rng {m : List Int} (hm : ∀ x ∈ m, 0 ≤ x ∧ x ≤ 255) : ∀ x ∈ b64 m, 0 ≤ x ∧ x ≤ 255 := fun x hx => by
  have := b64_ok m hm x hx
  omega
theorem size4 (g : ByteArray) (h : g.size = 4) : ∃ c0 c1 c2 c3, bytesOf g = [c0, c1, c2, c3] := by
  have hl := bytesOf_length g
  rw [h] at hl
  match hb : bytesOf g, hl with
  | [a, b, c, d], _ => exact ⟨a, b, c, d, rfl⟩
def decG (g : ByteArray) : ByteArray × Bool := decR (bytesOf g)
end Go.Proofs.YtppnhlkfkedlmaaDoor.Dec
namespace Go.Proofs.YtppnhlkfkedlmaaDoor.B64RefQ
open Go.RowKit Go.Proofs.YtppnhlkfkedlmaaDoor.XQ Go.Proofs.YtppnhlkfkedlmaaDoor.XV Go.Proofs.YtppnhlkfkedlmaaDoor.L64 Go.Proofs.YtppnhlkfkedlmaaDoor.UnB64 Go.Proofs.YtppnhlkfkedlmaaDoor.Dec Go.Proofs.YtppnhlkfkedlmaaDoorW.PrintWords Go.Proofs.YtppnhlkfkedlmaaDoorW.PrintLast
abbrev AB : ByteArray := (⟨#[65, 66, 67, 68, 69, 70, 71, 72, 73, 74, 75, 76, 77, 78, 79, 80, 81, 82, 83, 84, 85, 86, 87, 88, 89, 90, 97, 98, 99, 100, 101, 102, 103, 104, 105, 106, 107, 108, 109, 110, 111, 112, 113, 114, 115, 116, 117, 118, 119, 120, 121, 122, 48, 49, 50, 51, 52, 53, 54, 55, 56, 57, 43, 47]⟩ : ByteArray)
theorem bt_AB (x : Int) (h : 0 ≤ x) (h2 : x < 64) : bt AB x = l64 x := by
  obtain ⟨y, rfl⟩ := fin_of x 64 h (by omega)
  have : ∀ y : Fin 64, bt AB (y.val : Int) = l64 (y.val : Int) := by decide +kernel
  exact this y
theorem at_loop (c : Int) : ∀ m i : Nat, i + m = 64 → (∀ j : Nat, j < i → l64 (j : Int) ≠ c) → Ev (fun k => rosterref01_at.l0 k AB c (i : Int)) (if ∃ j : Fin 64, l64 (j.val : Int) = c then (match w64 c with | some w => w | none => -1) else -1)
  | 0, i, hi, hj => by
    refine ev_round ?_
    simp only [rosterref01_at.l0]
    rw [if_neg (by rintro ⟨j, hj'⟩; exact hj j.val (by have := j.isLt; omega) hj')]
    exact ev_neg (by show ¬ (i : Int) < (64 : Int); omega) (Ev.now _)
  | m + 1, i, hi, hj => by
    have ih := at_loop c m (i + 1) (by omega)
    refine ev_round ?_
    simp only [rosterref01_at.l0]
    rw [wrp_id _ (by omega) (by omega), show bt AB (i : Int) = l64 (i : Int) from bt_AB _ (by omega) (by omega)]
    refine ev_pos (by show (i : Int) < (64 : Int); omega) (ev_pos (by omega) ?_)
    by_cases h : l64 (i : Int) = c
    · refine ev_pos h (ev_eq ?_)
      rw [if_pos ⟨⟨i, by omega⟩, h⟩, ← h, w64_l64 _ (by omega) (by omega)]
    · refine ev_neg h ?_
      have := ih (fun j hj' => by
        by_cases e : j = i
        · subst e; exact h
        · exact hj j (by omega))
      simpa using this
theorem at_ev (c : Int) : Ev (fun k => rosterref01_at.f k AB c) (match w64 c with | some w => w | none => -1) := by
  have := at_loop c 64 0 rfl (fun j hj => by omega)
  simp only [rosterref01_at.f]
  cases hw : w64 c with
  | some w =>
    obtain ⟨w0, w1, w2, _⟩ := w64_some hw
    rw [if_pos ⟨⟨w.toNat, by omega⟩, by simpa [Int.toNat_of_nonneg w0] using w2⟩, hw] at this
    exact this
  | none =>
    rw [if_neg] at this
    · exact this
    · rintro ⟨j, hj⟩
      have := w64_l64 (j.val : Int) (by omega) (by have := j.isLt; omega)
      rw [hj, hw] at this
      cases this
theorem group_in (s : ByteArray) {r : ByteArray} (x : Int) (i : Nat) (hi : i < 3) (hs : i < s.size) (h0 : 0 ≤ x) (h1 : x ≤ 16777216) (h : Ev (fun k => rosterref01_group.l0 k s (x * 256 + bt s (i : Int)) ((i + 1 : Nat) : Int)) r) : Ev (fun k => rosterref01_group.l0 k s x (i : Int)) r := by
  have hb := bt_range s (i : Int)
  refine ev_round ?_
  simp only [rosterref01_group.l0]
  rw [wrp_id (bt s (i : Int)) (by omega) (by omega), wrp_id (x * 256) (by omega) (by omega), wrp_id (x * 256 + bt s (i : Int)) (by omega) (by omega), wrp_id ((i : Int) + 1) (by omega) (by omega)]
  exact ev_pos (by omega) (ev_pos (by omega) (ev_pos (by omega) h))
theorem group_out (s : ByteArray) {r : ByteArray} (x : Int) (i : Nat) (hi : i < 3) (hs : s.size ≤ i) (h0 : 0 ≤ x) (h1 : x ≤ 16777216) (h : Ev (fun k => rosterref01_group.l0 k s (x * 256) ((i + 1 : Nat) : Int)) r) : Ev (fun k => rosterref01_group.l0 k s x (i : Int)) r := by
  refine ev_round ?_
  simp only [rosterref01_group.l0]
  rw [wrp_id (x * 256) (by omega) (by omega), wrp_id ((i : Int) + 1) (by omega) (by omega)]
  exact ev_pos (by omega) (ev_neg (by omega) h)
theorem group_end (s : ByteArray) (n : Int) (h0 : 0 ≤ n) (h1 : n < 16777216) (hs : 1 ≤ s.size) (hs3 : s.size ≤ 3) : Ev (fun k => rosterref01_group.l0 k s n 3) (strOfNums [l64 (n / 262144), l64 (n / 4096 % 64), if s.size > 1 then l64 (n / 64 % 64) else 61, if s.size > 2 then l64 (n % 64) else 61]) := by
  refine ev_round ?_
  simp only [rosterref01_group.l0, Option.bind_some]
  rw [Int.tdiv_eq_ediv_of_nonneg h0, Int.tdiv_eq_ediv_of_nonneg h0, Int.tdiv_eq_ediv_of_nonneg h0, wrp_id (n / 262144) (by omega) (by omega), wrp_id (n / 4096) (by omega) (by omega), wrp_id (n / 64) (by omega) (by omega), Int.tmod_eq_emod_of_nonneg (by omega), Int.tmod_eq_emod_of_nonneg (by omega), Int.tmod_eq_emod_of_nonneg h0]
  rw [show bt AB (n / 262144) = _ from bt_AB _ (by omega) (by omega), show bt AB (n / 4096 % 64) = _ from bt_AB _ (by omega) (by omega), show bt AB (n / 64 % 64) = _ from bt_AB _ (by omega) (by omega), show bt AB (n % 64) = _ from bt_AB _ (by omega) (by omega)]
  refine ev_neg (by decide) (ev_pos (by omega) (ev_pos (by omega) (ev_pos (by omega) (ev_pos (by omega) ?_))))
  by_cases c1 : s.size > 1
  · refine ev_pos (by omega) (ev_pos (by omega) (ev_pos (by omega) (ev_pos (by show (2 : Int) < 4; omega) ?_)))
    by_cases c2 : s.size > 2
    · refine ev_pos (by omega) (ev_pos (by omega) (ev_pos (by omega) (ev_pos (by show (3 : Int) < 4; omega) (ev_eq ?_))))
      rw [if_pos c1, if_pos c2]
      rfl
    · refine ev_neg (by omega) (ev_eq ?_)
      rw [if_pos c1, if_neg c2]
      rfl
  · refine ev_neg (by omega) (ev_neg (by omega) (ev_eq ?_))
    rw [if_neg c1, if_neg (by omega)]
theorem list_of (s : ByteArray) : bytesOf s = (List.range s.size).map fun i : Nat => bt s (i : Int) := by
  apply List.ext_getElem?
  intro i
  by_cases h : i < s.size
  · have hl : i < (bytesOf s).length := by rw [bytesOf_length]; exact h
    simp [h, bt_byte, List.getD_eq_getElem?_getD, List.getElem?_eq_getElem hl]
  · rw [List.getElem?_eq_none (by rw [bytesOf_length]; omega), List.getElem?_eq_none (by simp; omega)]
theorem group_ev (s : ByteArray) (hs : 1 ≤ s.size) (hs3 : s.size ≤ 3) : Ev (fun k => rosterref01_group.f k s) (strOfNums (b64 (bytesOf s))) := by
  have b0 := bt_range s ((0 : Nat) : Int)
  have b1 := bt_range s ((1 : Nat) : Int)
  have b2 := bt_range s ((2 : Nat) : Int)
  have hlo := list_of s
  show Ev (fun k => rosterref01_group.l0 k s 0 ((0 : Nat) : Int)) _
  rcases (show s.size = 1 ∨ s.size = 2 ∨ s.size = 3 by omega) with hz | hz | hz
  · have hd : bytesOf s = [bt s ((0 : Nat) : Int)] := by rw [hlo, hz]; rfl
    refine group_in s 0 0 (by omega) (by omega) (by omega) (by omega) (group_out s _ 1 (by omega) (by omega) (by omega) (by omega) (group_out s _ 2 (by omega) (by omega) (by omega) (by omega) ?_))
    have := group_end s ((0 * 256 + bt s ((0 : Nat) : Int)) * 256 * 256) (by omega) (by omega) hs hs3
    rw [if_neg (by omega), if_neg (by omega)] at this
    rw [hd, b64]
    have e1 : (0 * 256 + bt s ((0 : Nat) : Int)) * 256 * 256 / 262144 = bt s ((0 : Nat) : Int) / 4 := by omega
    have e2 : (0 * 256 + bt s ((0 : Nat) : Int)) * 256 * 256 / 4096 % 64 = bt s ((0 : Nat) : Int) % 4 * 16 := by omega
    rw [e1, e2] at this
    exact this
  · have hd : bytesOf s = [bt s ((0 : Nat) : Int), bt s ((1 : Nat) : Int)] := by rw [hlo, hz]; rfl
    refine group_in s 0 0 (by omega) (by omega) (by omega) (by omega) (group_in s _ 1 (by omega) (by omega) (by omega) (by omega) (group_out s _ 2 (by omega) (by omega) (by omega) (by omega) ?_))
    have := group_end s (((0 * 256 + bt s ((0 : Nat) : Int)) * 256 + bt s ((1 : Nat) : Int)) * 256) (by omega) (by omega) hs hs3
    rw [if_pos (by omega), if_neg (by omega)] at this
    rw [hd, b64]
    have e1 : ((0 * 256 + bt s ((0 : Nat) : Int)) * 256 + bt s ((1 : Nat) : Int)) * 256 / 262144 = bt s ((0 : Nat) : Int) / 4 := by omega
    have e2 : ((0 * 256 + bt s ((0 : Nat) : Int)) * 256 + bt s ((1 : Nat) : Int)) * 256 / 4096 % 64 = bt s ((0 : Nat) : Int) % 4 * 16 + bt s ((1 : Nat) : Int) / 16 := by omega
    have e3 : ((0 * 256 + bt s ((0 : Nat) : Int)) * 256 + bt s ((1 : Nat) : Int)) * 256 / 64 % 64 = bt s ((1 : Nat) : Int) % 16 * 4 := by omega
    rw [e1, e2, e3] at this
    exact this
  · have hd : bytesOf s = [bt s ((0 : Nat) : Int), bt s ((1 : Nat) : Int), bt s ((2 : Nat) : Int)] := by rw [hlo, hz]; rfl
    refine group_in s 0 0 (by omega) (by omega) (by omega) (by omega) (group_in s _ 1 (by omega) (by omega) (by omega) (by omega) (group_in s _ 2 (by omega) (by omega) (by omega) (by omega) ?_))
    have := group_end s (((0 * 256 + bt s ((0 : Nat) : Int)) * 256 + bt s ((1 : Nat) : Int)) * 256 + bt s ((2 : Nat) : Int)) (by omega) (by omega) hs hs3
    rw [if_pos (by omega), if_pos (by omega)] at this
    rw [hd, b64]
    have e1 : (((0 * 256 + bt s ((0 : Nat) : Int)) * 256 + bt s ((1 : Nat) : Int)) * 256 + bt s ((2 : Nat) : Int)) / 262144 = bt s ((0 : Nat) : Int) / 4 := by omega
    have e2 : (((0 * 256 + bt s ((0 : Nat) : Int)) * 256 + bt s ((1 : Nat) : Int)) * 256 + bt s ((2 : Nat) : Int)) / 4096 % 64 = bt s ((0 : Nat) : Int) % 4 * 16 + bt s ((1 : Nat) : Int) / 16 := by omega
    have e3 : (((0 * 256 + bt s ((0 : Nat) : Int)) * 256 + bt s ((1 : Nat) : Int)) * 256 + bt s ((2 : Nat) : Int)) / 64 % 64 = bt s ((1 : Nat) : Int) % 16 * 4 + bt s ((2 : Nat) : Int) / 64 := by omega
    have e4 : (((0 * 256 + bt s ((0 : Nat) : Int)) * 256 + bt s ((1 : Nat) : Int)) * 256 + bt s ((2 : Nat) : Int)) % 64 = bt s ((2 : Nat) : Int) % 64 := by omega
    rw [e1, e2, e3, e4] at this
    exact this
theorem have_loop (g : ByteArray) (c0 c1 c2 c3 : Int) (hg : bytesOf g = [c0, c1, c2, c3]) : ∀ m i : Nat, i + m = 4 → 1 ≤ i → (∀ n, 1 ≤ n → n < i → b64 ((three c0 c1 c2 c3).take n) ≠ [c0, c1, c2, c3]) →
    Ev (fun k => rosterref01_bytesOf.l1 k g (strOfNums (three c0 c1 c2 c3)) (i : Int)) (decR [c0, c1, c2, c3])
  | 0, i, hi, h1, hn => by
    refine ev_round ?_
    simp only [rosterref01_bytesOf.l1]
    refine ev_neg (by omega) (ev_eq ?_)
    rw [dec_no c0 c1 c2 c3 (fun n h1 h2 => hn n h1 (by omega))]
  | m + 1, i, hi, h1, hn => by
    have ih := have_loop g c0 c1 c2 c3 hg m (i + 1) (by omega) (by omega)
    have hr3 := three_rng c0 c1 c2 c3
    have hz : (strOfNums (three c0 c1 c2 c3)).size = 3 := by rw [strOfNums_size]; rfl
    refine ev_round ?_
    simp only [rosterref01_bytesOf.l1]
    rw [wrp_id ((i : Int) + 1) (by omega) (by omega), Int.toNat_natCast]
    have hx : bytesOf ((strOfNums (three c0 c1 c2 c3)).extract 0 i) = (three c0 c1 c2 c3).take i := by rw [bytesOf_extract, bytesOf_nums _ hr3, List.drop_zero]
    have hge := group_ev ((strOfNums (three c0 c1 c2 c3)).extract 0 i) (by rw [ByteArray.size_extract]; omega) (by rw [ByteArray.size_extract]; omega)
    rw [hx] at hge
    have htr : ∀ x ∈ (three c0 c1 c2 c3).take i, 0 ≤ x ∧ x ≤ 255 := fun x hx => hr3 x (List.mem_of_mem_take hx)
    refine ev_pos (by omega) (ev_pos (by omega) (ev_pos (by omega) (Ev.bind hge ?_)))
    by_cases he : b64 ((three c0 c1 c2 c3).take i) = [c0, c1, c2, c3]
    · refine ev_pos ((eq_nums rfl (b64_rng htr) hg).2 he) (ev_eq ?_)
      rw [dec_yes htr he]
      congr 1
      exact bytesOf_inj (by rw [hx, bytesOf_nums _ htr])
    · refine ev_neg (fun z => he ((eq_nums rfl (b64_rng htr) hg).1 z)) ?_
      have := ih (fun n h1 h2 => by
        by_cases e : n = i
        · subst e; exact he
        · exact hn n h1 (by omega))
      simpa using this
theorem val_step (g : ByteArray) {r : ByteArray × Bool} (x : Int) (i : Nat) (hi : i < 4) (hs : i < g.size) (h0 : 0 ≤ x) (h1 : x ≤ 262144) (h : Ev (fun k => rosterref01_bytesOf.l0 k g (x * 64 + val (bt g (i : Int))) ((i + 1 : Nat) : Int)) r) : Ev (fun k => rosterref01_bytesOf.l0 k g x (i : Int)) r := by
  refine ev_round ?_
  simp only [rosterref01_bytesOf.l0]
  rw [wrp_id (x * 64) (by omega) (by omega), wrp_id ((i : Int) + 1) (by omega) (by omega)]
  refine ev_pos (by omega) (ev_pos (by omega) (ev_pos (by omega) (Ev.bind (at_ev _) ?_)))
  unfold val at h
  cases hw : w64 (bt g (i : Int)) with
  | none =>
    rw [hw] at h
    refine ev_pos (show (-1 : Int) < 0 by decide) ?_
    rw [wrp_id (x * 64 + 0) (by omega) (by omega)]
    exact h
  | some w =>
    rw [hw] at h
    have := w64_some hw
    refine ev_neg (show ¬ w < 0 by omega) ?_
    simp only
    rw [wrp_id (x * 64 + w) (by omega) (by omega)]
    exact h
theorem bytesOf_ev (g : ByteArray) (c0 c1 c2 c3 : Int) (hg : bytesOf g = [c0, c1, c2, c3]) : Ev (fun k => rosterref01_bytesOf.f k g) (decR [c0, c1, c2, c3]) := by
  have hz : g.size = 4 := by rw [← bytesOf_length, hg]; rfl
  have hb : ∀ i : Nat, bt g (i : Int) = [c0, c1, c2, c3].getD i 0 := fun i => by rw [bt_byte, hg]; rfl
  have v0 := val_range c0; have v1 := val_range c1; have v2 := val_range c2; have v3 := val_range c3
  show Ev (fun k => rosterref01_bytesOf.l0 k g 0 ((0 : Nat) : Int)) _
  have B0 : bt g ((0 : Nat) : Int) = c0 := hb 0
  have B1 : bt g ((1 : Nat) : Int) = c1 := hb 1
  have B2 : bt g ((2 : Nat) : Int) = c2 := hb 2
  have B3 : bt g ((3 : Nat) : Int) = c3 := hb 3
  refine val_step g 0 0 (by omega) (by omega) (by omega) (by omega) ?_
  rw [B0]
  refine val_step g _ 1 (by omega) (by omega) (by omega) (by omega) ?_
  rw [B1]
  refine val_step g _ 2 (by omega) (by omega) (by omega) (by omega) ?_
  rw [B2]
  refine val_step g _ 3 (by omega) (by omega) (by omega) (by omega) ?_
  rw [B3]
  refine ev_round ?_
  simp only [rosterref01_bytesOf.l0]
  refine ev_neg (by decide) ?_
  have := have_loop g c0 c1 c2 c3 hg 3 1 rfl (by omega) (fun n h1 h2 => by omega)
  generalize hn : (((0 * 64 + val c0) * 64 + val c1) * 64 + val c2) * 64 + val c3 = n
  have hn0 : 0 ≤ n := by omega
  have e : [(wrap64 (Int.tdiv n 65536)) % 256, (Int.tmod (wrap64 (Int.tdiv n 256)) 256) % 256, (Int.tmod n 256) % 256] = three c0 c1 c2 c3 := by
    rw [Int.tdiv_eq_ediv_of_nonneg hn0, Int.tdiv_eq_ediv_of_nonneg hn0, Int.tmod_eq_emod_of_nonneg hn0, wrp_id (n / 65536) (by omega) (by omega), wrp_id (n / 256) (by omega) (by omega), Int.tmod_eq_emod_of_nonneg (by omega)]
    unfold three
    rw [show n / 65536 % 256 = val c0 * 4 + val c1 / 16 from by omega, show n / 256 % 256 % 256 = val c1 % 16 * 16 + val c2 / 4 from by omega, show n % 256 % 256 = val c2 % 4 * 64 + val c3 from by omega]
  rw [e]
  exact this
end Go.Proofs.YtppnhlkfkedlmaaDoor.B64RefQ
namespace Go.Proofs.YtppnhlkfkedlmaaDoor.FrontW
open Go.RowKit Go.Proofs.YtppnhlkfkedlmaaDoor.Blk Go.Proofs.YtppnhlkfkedlmaaDoor.XQ Go.Proofs.YtppnhlkfkedlmaaDoor.B64RefQ Go.Proofs.YtppnhlkfkedlmaaDoor.Dec Go.Proofs.YtppnhlkfkedlmaaDoor.L64 Go.Proofs.YtppnhlkfkedlmaaDoor.UnB64 Go.Proofs.YtppnhlkfkedlmaaDoorW.PrintWords Go.Proofs.YtppnhlkfkedlmaaDoorW.PrintLast Go.Proofs.YtppnhlkfkedlmaaDoorW.PrintMore
theorem bytesOf_as (g : ByteArray) (w : World) (h : g.size = 4) : Calls Tryd.prog 35 #[.string g] w fun e w' => e = .returned (.tuple #[.string (decG g).1, .bool (decG g).2]) ∧ Below w.heap.size w w' := by
  obtain ⟨c0, c1, c2, c3, hg⟩ := size4 g h
  obtain ⟨k, hk⟩ := Ev.rounds (bytesOf_ev g c0 c1 c2 c3 hg)
  unfold decG
  rw [hg]
  exact rosterref01_bytesOf.calls k g _ _ w hk
def tail (n : Nat) : Nat → ByteArray
  | 0 => ⟨#[]⟩
  | 1 => ⟨#[61]⟩
  | 2 => (⟨#[65, 65, 65]⟩ : ByteArray).extract 0 (4 - n)
  | _ => ⟨#[65, 65]⟩
def fit (t : ByteArray) (k : Nat) : Bool := decide ((t ++ tail t.size k).size = 4) && (decG (t ++ tail t.size k)).2
def frontB (t : ByteArray) : Bool := if t.size = 0 then true else if 4 < t.size then false else fit t 0 || fit t 1 || fit t 2 || fit t 3
def fullsL (n : Nat) : List Value := [.string (tail n 0), .string (tail n 1), .string (tail n 2), .string (tail n 3)]
structure FR (w : World) (t : ByteArray) (n k : Nat) (wr : World) : Prop where
  at_ : At wr w.heap.size (fullsL n) 55
  below : Below w.heap.size w wr
  sz : t.size = n
  n1 : 1 ≤ n
  n4 : n ≤ 4
  none_ : ∀ j, j < k → fit t j = false
def FQ (w : World) (t : ByteArray) (e : Ending) (w' : World) : Prop := e = .returned (.bool (frontB t)) ∧ Below w.heap.size w w'
theorem fq_yes {w wr W : World} {t : ByteArray} {n k : Nat} (h : FR w t n k wr) (hk : k < 4) (hf : fit t k = true) (hb : Below wr.heap.size wr W) : FQ w t (.returned (.bool true)) W := by
  have h1 := h.n1; have h2 := h.n4; have h3 := h.sz
  have : frontB t = true := by
    unfold frontB
    rw [if_neg (by omega), if_neg (by omega)]
    rcases (show k = 0 ∨ k = 1 ∨ k = 2 ∨ k = 3 by omega) with rfl | rfl | rfl | rfl <;> simp [hf]
  unfold FQ
  rw [this]
  exact ⟨rfl, h.below.trans (hb.mono h.below.size)⟩
theorem fq_no {w wr : World} {t : ByteArray} {n : Nat} (h : FR w t n 4 wr) : FQ w t (.returned (.bool false)) wr := by
  have h1 := h.n1; have h2 := h.n4; have h3 := h.sz
  have : frontB t = false := by
    unfold frontB
    rw [if_neg (by omega), if_neg (by omega), h.none_ 0 (by omega), h.none_ 1 (by omega), h.none_ 2 (by omega), h.none_ 3 (by omega)]
    rfl
  unfold FQ
  rw [this]
  exact ⟨rfl, h.below⟩
theorem fr_step {w wr W : World} {t : ByteArray} {n k : Nat} (h : FR w t n k wr) (hn : fit t k = false) (hb : Below wr.heap.size wr W) : FR w t n (k + 1) W := by
  have hl := h.at_.lt
  refine ⟨h.at_.below hb hl, h.below.trans (hb.mono (Nat.le_of_lt hl)), h.sz, h.n1, h.n4, fun j hj => ?_⟩
  by_cases e : j = k
  · subst e; exact hn
  · exact h.none_ j (by omega)
theorem fit_size {t : ByteArray} {k m : Nat} (h : (t ++ tail t.size k).size = m) (hm : m ≠ 4) : fit t k = false := by
  unfold fit
  rw [h, decide_eq_false hm]
  rfl
theorem fit_dec {t : ByteArray} {k : Nat} {b : Bool} (h : (t ++ tail t.size k).size = 4) (hd : (decG (t ++ tail t.size k)).2 = b) : fit t k = b := by
  unfold fit
  rw [h, hd]
  rfl
set_option maxHeartbeats 2000000 in
theorem front1 (t : ByteArray) (w : World) (hz : t.size = 1) : Calls Tryd.prog 43 #[.string t] w (FQ w t) := by
  go_enter Tryd.func43, Tryd.ntmps43
  go_wp2_with fail
  go_loopw [4] (fun i wr => ∃ k : Nat, k ≤ 4 ∧ i = .int .i64 k ∧ Hid (FR w t 1 k wr)) (fun i _ => 4 - (intOf i).toNat)
  case atStart => exact ⟨0, by omega, rfl, ⟨At.fresh w (fullsL 1) 55, (Below.refl _ w).alloc (Nat.le_refl _) _, hz, by omega, by omega, fun j hj => absurd hj (by omega)⟩⟩
  case round =>
    obtain ⟨k, hk, rfl, HR⟩ := hrel
    have HZ : Hid (t.size = 1) := hz
    clear hz
    by_cases hlt : k < 4
    · rcases (show k = 0 ∨ k = 1 ∨ k = 2 ∨ k = 3 by omega) with rfl | rfl | rfl | rfl
      · have cK : wr.cell? ⟨w.heap.size, 0, none⟩ = some (.string (⟨#[]⟩ : ByteArray)) := HR.out.at_.get 0 _ rfl
        have hl0 : t.size + ((⟨#[]⟩ : ByteArray)).size = 1 := by rw [HZ.out]; rfl
        have hs0 : (t ++ (⟨#[]⟩ : ByteArray)).size = 1 := by rw [ByteArray.size_append]; exact hl0
        have HS : Hid ((t ++ tail t.size 0).size = 1) := by rw [HZ.out]; exact hs0
        go_wp2_with fail
        go_roundw
        case rel => exact ⟨1, by omega, by first | rfl | go_num, fr_step HR.out (fit_size HS.out (by decide)) (Below.refl _ _)⟩
        case measure => simp [intOf]; (try omega)
      · have cK : wr.cell? ⟨w.heap.size, 1, none⟩ = some (.string (⟨#[61]⟩ : ByteArray)) := HR.out.at_.get 1 _ rfl
        have hl0 : t.size + ((⟨#[61]⟩ : ByteArray)).size = 2 := by rw [HZ.out]; rfl
        have hs0 : (t ++ (⟨#[61]⟩ : ByteArray)).size = 2 := by rw [ByteArray.size_append]; exact hl0
        have HS : Hid ((t ++ tail t.size 1).size = 2) := by rw [HZ.out]; exact hs0
        go_wp2_with fail
        go_roundw
        case rel => exact ⟨2, by omega, by first | rfl | go_num, fr_step HR.out (fit_size HS.out (by decide)) (Below.refl _ _)⟩
        case measure => simp [intOf]; (try omega)
      · have cK : wr.cell? ⟨w.heap.size, 2, none⟩ = some (.string ((⟨#[65, 65, 65]⟩ : ByteArray).extract 0 3)) := HR.out.at_.get 2 _ rfl
        have hl0 : t.size + (((⟨#[65, 65, 65]⟩ : ByteArray).extract 0 3)).size = 4 := by rw [HZ.out]; rfl
        have hs0 : (t ++ ((⟨#[65, 65, 65]⟩ : ByteArray).extract 0 3)).size = 4 := by rw [ByteArray.size_append]; exact hl0
        have HS : Hid ((t ++ tail t.size 2).size = 4) := by rw [HZ.out]; exact hs0
        cases hd : (decG (t ++ ((⟨#[65, 65, 65]⟩ : ByteArray).extract 0 3))).2 with
        | true =>
          have HD : Hid ((decG (t ++ tail t.size 2)).2 = true) := by rw [HZ.out]; exact hd
          have HS0 : Hid ((t ++ ((⟨#[65, 65, 65]⟩ : ByteArray).extract 0 3)).size = 4) := hs0
          go_wp2_with (go_at_call 35; refine (bytesOf_as (t ++ ((⟨#[65, 65, 65]⟩ : ByteArray).extract 0 3)) _ HS0.out).mono ?_; rintro e W2 ⟨rfl, hb2⟩; have HB2 := Lib.hid hb2; clear hb2)
          go_ret
          exact fq_yes HR.out (by omega) (fit_dec HS.out HD.out) HB2.out
        | false =>
          have HD : Hid ((decG (t ++ tail t.size 2)).2 = false) := by rw [HZ.out]; exact hd
          have HS0 : Hid ((t ++ ((⟨#[65, 65, 65]⟩ : ByteArray).extract 0 3)).size = 4) := hs0
          go_wp2_with (go_at_call 35; refine (bytesOf_as (t ++ ((⟨#[65, 65, 65]⟩ : ByteArray).extract 0 3)) _ HS0.out).mono ?_; rintro e W2 ⟨rfl, hb2⟩; have HB2 := Lib.hid hb2; clear hb2)
          go_roundw
          case rel => exact ⟨3, by omega, by first | rfl | go_num, fr_step HR.out (fit_dec HS.out HD.out) HB2.out⟩
          case measure => simp [intOf]; (try omega)
      · have cK : wr.cell? ⟨w.heap.size, 3, none⟩ = some (.string (⟨#[65, 65]⟩ : ByteArray)) := HR.out.at_.get 3 _ rfl
        have hl0 : t.size + ((⟨#[65, 65]⟩ : ByteArray)).size = 3 := by rw [HZ.out]; rfl
        have hs0 : (t ++ (⟨#[65, 65]⟩ : ByteArray)).size = 3 := by rw [ByteArray.size_append]; exact hl0
        have HS : Hid ((t ++ tail t.size 3).size = 3) := by rw [HZ.out]; exact hs0
        go_wp2_with fail
        go_roundw
        case rel => exact ⟨4, by omega, by first | rfl | go_num, fr_step HR.out (fit_size HS.out (by decide)) (Below.refl _ _)⟩
        case measure => simp [intOf]; (try omega)
    · obtain rfl : k = 4 := by omega
      go_wp2_with fail
      go_ret
      exact fq_no HR.out
set_option maxHeartbeats 2000000 in
theorem front2 (t : ByteArray) (w : World) (hz : t.size = 2) : Calls Tryd.prog 43 #[.string t] w (FQ w t) := by
  go_enter Tryd.func43, Tryd.ntmps43
  go_wp2_with fail
  go_loopw [4] (fun i wr => ∃ k : Nat, k ≤ 4 ∧ i = .int .i64 k ∧ Hid (FR w t 2 k wr)) (fun i _ => 4 - (intOf i).toNat)
  case atStart => exact ⟨0, by omega, rfl, ⟨At.fresh w (fullsL 2) 55, (Below.refl _ w).alloc (Nat.le_refl _) _, hz, by omega, by omega, fun j hj => absurd hj (by omega)⟩⟩
  case round =>
    obtain ⟨k, hk, rfl, HR⟩ := hrel
    have HZ : Hid (t.size = 2) := hz
    clear hz
    by_cases hlt : k < 4
    · rcases (show k = 0 ∨ k = 1 ∨ k = 2 ∨ k = 3 by omega) with rfl | rfl | rfl | rfl
      · have cK : wr.cell? ⟨w.heap.size, 0, none⟩ = some (.string (⟨#[]⟩ : ByteArray)) := HR.out.at_.get 0 _ rfl
        have hl0 : t.size + ((⟨#[]⟩ : ByteArray)).size = 2 := by rw [HZ.out]; rfl
        have hs0 : (t ++ (⟨#[]⟩ : ByteArray)).size = 2 := by rw [ByteArray.size_append]; exact hl0
        have HS : Hid ((t ++ tail t.size 0).size = 2) := by rw [HZ.out]; exact hs0
        go_wp2_with fail
        go_roundw
        case rel => exact ⟨1, by omega, by first | rfl | go_num, fr_step HR.out (fit_size HS.out (by decide)) (Below.refl _ _)⟩
        case measure => simp [intOf]; (try omega)
      · have cK : wr.cell? ⟨w.heap.size, 1, none⟩ = some (.string (⟨#[61]⟩ : ByteArray)) := HR.out.at_.get 1 _ rfl
        have hl0 : t.size + ((⟨#[61]⟩ : ByteArray)).size = 3 := by rw [HZ.out]; rfl
        have hs0 : (t ++ (⟨#[61]⟩ : ByteArray)).size = 3 := by rw [ByteArray.size_append]; exact hl0
        have HS : Hid ((t ++ tail t.size 1).size = 3) := by rw [HZ.out]; exact hs0
        go_wp2_with fail
        go_roundw
        case rel => exact ⟨2, by omega, by first | rfl | go_num, fr_step HR.out (fit_size HS.out (by decide)) (Below.refl _ _)⟩
        case measure => simp [intOf]; (try omega)
      · have cK : wr.cell? ⟨w.heap.size, 2, none⟩ = some (.string ((⟨#[65, 65, 65]⟩ : ByteArray).extract 0 2)) := HR.out.at_.get 2 _ rfl
        have hl0 : t.size + (((⟨#[65, 65, 65]⟩ : ByteArray).extract 0 2)).size = 4 := by rw [HZ.out]; rfl
        have hs0 : (t ++ ((⟨#[65, 65, 65]⟩ : ByteArray).extract 0 2)).size = 4 := by rw [ByteArray.size_append]; exact hl0
        have HS : Hid ((t ++ tail t.size 2).size = 4) := by rw [HZ.out]; exact hs0
        cases hd : (decG (t ++ ((⟨#[65, 65, 65]⟩ : ByteArray).extract 0 2))).2 with
        | true =>
          have HD : Hid ((decG (t ++ tail t.size 2)).2 = true) := by rw [HZ.out]; exact hd
          have HS0 : Hid ((t ++ ((⟨#[65, 65, 65]⟩ : ByteArray).extract 0 2)).size = 4) := hs0
          go_wp2_with (go_at_call 35; refine (bytesOf_as (t ++ ((⟨#[65, 65, 65]⟩ : ByteArray).extract 0 2)) _ HS0.out).mono ?_; rintro e W2 ⟨rfl, hb2⟩; have HB2 := Lib.hid hb2; clear hb2)
          go_ret
          exact fq_yes HR.out (by omega) (fit_dec HS.out HD.out) HB2.out
        | false =>
          have HD : Hid ((decG (t ++ tail t.size 2)).2 = false) := by rw [HZ.out]; exact hd
          have HS0 : Hid ((t ++ ((⟨#[65, 65, 65]⟩ : ByteArray).extract 0 2)).size = 4) := hs0
          go_wp2_with (go_at_call 35; refine (bytesOf_as (t ++ ((⟨#[65, 65, 65]⟩ : ByteArray).extract 0 2)) _ HS0.out).mono ?_; rintro e W2 ⟨rfl, hb2⟩; have HB2 := Lib.hid hb2; clear hb2)
          go_roundw
          case rel => exact ⟨3, by omega, by first | rfl | go_num, fr_step HR.out (fit_dec HS.out HD.out) HB2.out⟩
          case measure => simp [intOf]; (try omega)
      · have cK : wr.cell? ⟨w.heap.size, 3, none⟩ = some (.string (⟨#[65, 65]⟩ : ByteArray)) := HR.out.at_.get 3 _ rfl
        have hl0 : t.size + ((⟨#[65, 65]⟩ : ByteArray)).size = 4 := by rw [HZ.out]; rfl
        have hs0 : (t ++ (⟨#[65, 65]⟩ : ByteArray)).size = 4 := by rw [ByteArray.size_append]; exact hl0
        have HS : Hid ((t ++ tail t.size 3).size = 4) := by rw [HZ.out]; exact hs0
        cases hd : (decG (t ++ (⟨#[65, 65]⟩ : ByteArray))).2 with
        | true =>
          have HD : Hid ((decG (t ++ tail t.size 3)).2 = true) := by rw [HZ.out]; exact hd
          have HS0 : Hid ((t ++ (⟨#[65, 65]⟩ : ByteArray)).size = 4) := hs0
          go_wp2_with (go_at_call 35; refine (bytesOf_as (t ++ (⟨#[65, 65]⟩ : ByteArray)) _ HS0.out).mono ?_; rintro e W2 ⟨rfl, hb2⟩; have HB2 := Lib.hid hb2; clear hb2)
          go_ret
          exact fq_yes HR.out (by omega) (fit_dec HS.out HD.out) HB2.out
        | false =>
          have HD : Hid ((decG (t ++ tail t.size 3)).2 = false) := by rw [HZ.out]; exact hd
          have HS0 : Hid ((t ++ (⟨#[65, 65]⟩ : ByteArray)).size = 4) := hs0
          go_wp2_with (go_at_call 35; refine (bytesOf_as (t ++ (⟨#[65, 65]⟩ : ByteArray)) _ HS0.out).mono ?_; rintro e W2 ⟨rfl, hb2⟩; have HB2 := Lib.hid hb2; clear hb2)
          go_roundw
          case rel => exact ⟨4, by omega, by first | rfl | go_num, fr_step HR.out (fit_dec HS.out HD.out) HB2.out⟩
          case measure => simp [intOf]; (try omega)
    · obtain rfl : k = 4 := by omega
      go_wp2_with fail
      go_ret
      exact fq_no HR.out
set_option maxHeartbeats 2000000 in
theorem front3 (t : ByteArray) (w : World) (hz : t.size = 3) : Calls Tryd.prog 43 #[.string t] w (FQ w t) := by
  go_enter Tryd.func43, Tryd.ntmps43
  go_wp2_with fail
  go_loopw [4] (fun i wr => ∃ k : Nat, k ≤ 4 ∧ i = .int .i64 k ∧ Hid (FR w t 3 k wr)) (fun i _ => 4 - (intOf i).toNat)
  case atStart => exact ⟨0, by omega, rfl, ⟨At.fresh w (fullsL 3) 55, (Below.refl _ w).alloc (Nat.le_refl _) _, hz, by omega, by omega, fun j hj => absurd hj (by omega)⟩⟩
  case round =>
    obtain ⟨k, hk, rfl, HR⟩ := hrel
    have HZ : Hid (t.size = 3) := hz
    clear hz
    by_cases hlt : k < 4
    · rcases (show k = 0 ∨ k = 1 ∨ k = 2 ∨ k = 3 by omega) with rfl | rfl | rfl | rfl
      · have cK : wr.cell? ⟨w.heap.size, 0, none⟩ = some (.string (⟨#[]⟩ : ByteArray)) := HR.out.at_.get 0 _ rfl
        have hl0 : t.size + ((⟨#[]⟩ : ByteArray)).size = 3 := by rw [HZ.out]; rfl
        have hs0 : (t ++ (⟨#[]⟩ : ByteArray)).size = 3 := by rw [ByteArray.size_append]; exact hl0
        have HS : Hid ((t ++ tail t.size 0).size = 3) := by rw [HZ.out]; exact hs0
        go_wp2_with fail
        go_roundw
        case rel => exact ⟨1, by omega, by first | rfl | go_num, fr_step HR.out (fit_size HS.out (by decide)) (Below.refl _ _)⟩
        case measure => simp [intOf]; (try omega)
      · have cK : wr.cell? ⟨w.heap.size, 1, none⟩ = some (.string (⟨#[61]⟩ : ByteArray)) := HR.out.at_.get 1 _ rfl
        have hl0 : t.size + ((⟨#[61]⟩ : ByteArray)).size = 4 := by rw [HZ.out]; rfl
        have hs0 : (t ++ (⟨#[61]⟩ : ByteArray)).size = 4 := by rw [ByteArray.size_append]; exact hl0
        have HS : Hid ((t ++ tail t.size 1).size = 4) := by rw [HZ.out]; exact hs0
        cases hd : (decG (t ++ (⟨#[61]⟩ : ByteArray))).2 with
        | true =>
          have HD : Hid ((decG (t ++ tail t.size 1)).2 = true) := by rw [HZ.out]; exact hd
          have HS0 : Hid ((t ++ (⟨#[61]⟩ : ByteArray)).size = 4) := hs0
          go_wp2_with (go_at_call 35; refine (bytesOf_as (t ++ (⟨#[61]⟩ : ByteArray)) _ HS0.out).mono ?_; rintro e W2 ⟨rfl, hb2⟩; have HB2 := Lib.hid hb2; clear hb2)
          go_ret
          exact fq_yes HR.out (by omega) (fit_dec HS.out HD.out) HB2.out
        | false =>
          have HD : Hid ((decG (t ++ tail t.size 1)).2 = false) := by rw [HZ.out]; exact hd
          have HS0 : Hid ((t ++ (⟨#[61]⟩ : ByteArray)).size = 4) := hs0
          go_wp2_with (go_at_call 35; refine (bytesOf_as (t ++ (⟨#[61]⟩ : ByteArray)) _ HS0.out).mono ?_; rintro e W2 ⟨rfl, hb2⟩; have HB2 := Lib.hid hb2; clear hb2)
          go_roundw
          case rel => exact ⟨2, by omega, by first | rfl | go_num, fr_step HR.out (fit_dec HS.out HD.out) HB2.out⟩
          case measure => simp [intOf]; (try omega)
      · have cK : wr.cell? ⟨w.heap.size, 2, none⟩ = some (.string ((⟨#[65, 65, 65]⟩ : ByteArray).extract 0 1)) := HR.out.at_.get 2 _ rfl
        have hl0 : t.size + (((⟨#[65, 65, 65]⟩ : ByteArray).extract 0 1)).size = 4 := by rw [HZ.out]; rfl
        have hs0 : (t ++ ((⟨#[65, 65, 65]⟩ : ByteArray).extract 0 1)).size = 4 := by rw [ByteArray.size_append]; exact hl0
        have HS : Hid ((t ++ tail t.size 2).size = 4) := by rw [HZ.out]; exact hs0
        cases hd : (decG (t ++ ((⟨#[65, 65, 65]⟩ : ByteArray).extract 0 1))).2 with
        | true =>
          have HD : Hid ((decG (t ++ tail t.size 2)).2 = true) := by rw [HZ.out]; exact hd
          have HS0 : Hid ((t ++ ((⟨#[65, 65, 65]⟩ : ByteArray).extract 0 1)).size = 4) := hs0
          go_wp2_with (go_at_call 35; refine (bytesOf_as (t ++ ((⟨#[65, 65, 65]⟩ : ByteArray).extract 0 1)) _ HS0.out).mono ?_; rintro e W2 ⟨rfl, hb2⟩; have HB2 := Lib.hid hb2; clear hb2)
          go_ret
          exact fq_yes HR.out (by omega) (fit_dec HS.out HD.out) HB2.out
        | false =>
          have HD : Hid ((decG (t ++ tail t.size 2)).2 = false) := by rw [HZ.out]; exact hd
          have HS0 : Hid ((t ++ ((⟨#[65, 65, 65]⟩ : ByteArray).extract 0 1)).size = 4) := hs0
          go_wp2_with (go_at_call 35; refine (bytesOf_as (t ++ ((⟨#[65, 65, 65]⟩ : ByteArray).extract 0 1)) _ HS0.out).mono ?_; rintro e W2 ⟨rfl, hb2⟩; have HB2 := Lib.hid hb2; clear hb2)
          go_roundw
          case rel => exact ⟨3, by omega, by first | rfl | go_num, fr_step HR.out (fit_dec HS.out HD.out) HB2.out⟩
          case measure => simp [intOf]; (try omega)
      · have cK : wr.cell? ⟨w.heap.size, 3, none⟩ = some (.string (⟨#[65, 65]⟩ : ByteArray)) := HR.out.at_.get 3 _ rfl
        have hl0 : t.size + ((⟨#[65, 65]⟩ : ByteArray)).size = 5 := by rw [HZ.out]; rfl
        have hs0 : (t ++ (⟨#[65, 65]⟩ : ByteArray)).size = 5 := by rw [ByteArray.size_append]; exact hl0
        have HS : Hid ((t ++ tail t.size 3).size = 5) := by rw [HZ.out]; exact hs0
        go_wp2_with fail
        go_roundw
        case rel => exact ⟨4, by omega, by first | rfl | go_num, fr_step HR.out (fit_size HS.out (by decide)) (Below.refl _ _)⟩
        case measure => simp [intOf]; (try omega)
    · obtain rfl : k = 4 := by omega
      go_wp2_with fail
      go_ret
      exact fq_no HR.out
set_option maxHeartbeats 2000000 in
theorem front4 (t : ByteArray) (w : World) (hz : t.size = 4) : Calls Tryd.prog 43 #[.string t] w (FQ w t) := by
  go_enter Tryd.func43, Tryd.ntmps43
  go_wp2_with fail
  go_loopw [4] (fun i wr => ∃ k : Nat, k ≤ 4 ∧ i = .int .i64 k ∧ Hid (FR w t 4 k wr)) (fun i _ => 4 - (intOf i).toNat)
  case atStart => exact ⟨0, by omega, rfl, ⟨At.fresh w (fullsL 4) 55, (Below.refl _ w).alloc (Nat.le_refl _) _, hz, by omega, by omega, fun j hj => absurd hj (by omega)⟩⟩
  case round =>
    obtain ⟨k, hk, rfl, HR⟩ := hrel
    have HZ : Hid (t.size = 4) := hz
    clear hz
    by_cases hlt : k < 4
    · rcases (show k = 0 ∨ k = 1 ∨ k = 2 ∨ k = 3 by omega) with rfl | rfl | rfl | rfl
      · have cK : wr.cell? ⟨w.heap.size, 0, none⟩ = some (.string (⟨#[]⟩ : ByteArray)) := HR.out.at_.get 0 _ rfl
        have hl0 : t.size + ((⟨#[]⟩ : ByteArray)).size = 4 := by rw [HZ.out]; rfl
        have hs0 : (t ++ (⟨#[]⟩ : ByteArray)).size = 4 := by rw [ByteArray.size_append]; exact hl0
        have HS : Hid ((t ++ tail t.size 0).size = 4) := by rw [HZ.out]; exact hs0
        cases hd : (decG (t ++ (⟨#[]⟩ : ByteArray))).2 with
        | true =>
          have HD : Hid ((decG (t ++ tail t.size 0)).2 = true) := by rw [HZ.out]; exact hd
          have HS0 : Hid ((t ++ (⟨#[]⟩ : ByteArray)).size = 4) := hs0
          go_wp2_with (go_at_call 35; refine (bytesOf_as (t ++ (⟨#[]⟩ : ByteArray)) _ HS0.out).mono ?_; rintro e W2 ⟨rfl, hb2⟩; have HB2 := Lib.hid hb2; clear hb2)
          go_ret
          exact fq_yes HR.out (by omega) (fit_dec HS.out HD.out) HB2.out
        | false =>
          have HD : Hid ((decG (t ++ tail t.size 0)).2 = false) := by rw [HZ.out]; exact hd
          have HS0 : Hid ((t ++ (⟨#[]⟩ : ByteArray)).size = 4) := hs0
          go_wp2_with (go_at_call 35; refine (bytesOf_as (t ++ (⟨#[]⟩ : ByteArray)) _ HS0.out).mono ?_; rintro e W2 ⟨rfl, hb2⟩; have HB2 := Lib.hid hb2; clear hb2)
          go_roundw
          case rel => exact ⟨1, by omega, by first | rfl | go_num, fr_step HR.out (fit_dec HS.out HD.out) HB2.out⟩
          case measure => simp [intOf]; (try omega)
      · have cK : wr.cell? ⟨w.heap.size, 1, none⟩ = some (.string (⟨#[61]⟩ : ByteArray)) := HR.out.at_.get 1 _ rfl
        have hl0 : t.size + ((⟨#[61]⟩ : ByteArray)).size = 5 := by rw [HZ.out]; rfl
        have hs0 : (t ++ (⟨#[61]⟩ : ByteArray)).size = 5 := by rw [ByteArray.size_append]; exact hl0
        have HS : Hid ((t ++ tail t.size 1).size = 5) := by rw [HZ.out]; exact hs0
        go_wp2_with fail
        go_roundw
        case rel => exact ⟨2, by omega, by first | rfl | go_num, fr_step HR.out (fit_size HS.out (by decide)) (Below.refl _ _)⟩
        case measure => simp [intOf]; (try omega)
      · have e0 : ((⟨#[65, 65, 65]⟩ : ByteArray).extract 0 0) = (⟨#[]⟩ : ByteArray) := by decide +kernel
        have eT : tail t.size 2 = (⟨#[]⟩ : ByteArray) := by rw [HZ.out]; exact e0
        have cK : wr.cell? ⟨w.heap.size, 2, none⟩ = some (.string (⟨#[]⟩ : ByteArray)) := HR.out.at_.get 2 _ (congrArg (fun z => some (Value.string z)) e0)
        have hl0 : t.size + ((⟨#[]⟩ : ByteArray)).size = 4 := by rw [HZ.out]; rfl
        have hs0 : (t ++ (⟨#[]⟩ : ByteArray)).size = 4 := by rw [ByteArray.size_append]; exact hl0
        have HS : Hid ((t ++ tail t.size 2).size = 4) := by rw [eT]; exact hs0
        replace eT := Lib.hid eT
        clear e0
        cases hd : (decG (t ++ (⟨#[]⟩ : ByteArray))).2 with
        | true =>
          have HD : Hid ((decG (t ++ tail t.size 2)).2 = true) := by rw [eT.out]; exact hd
          have HS0 : Hid ((t ++ (⟨#[]⟩ : ByteArray)).size = 4) := hs0
          go_wp2_with (go_at_call 35; refine (bytesOf_as (t ++ (⟨#[]⟩ : ByteArray)) _ HS0.out).mono ?_; rintro e W2 ⟨rfl, hb2⟩; have HB2 := Lib.hid hb2; clear hb2)
          go_ret
          exact fq_yes HR.out (by omega) (fit_dec HS.out HD.out) HB2.out
        | false =>
          have HD : Hid ((decG (t ++ tail t.size 2)).2 = false) := by rw [eT.out]; exact hd
          have HS0 : Hid ((t ++ (⟨#[]⟩ : ByteArray)).size = 4) := hs0
          go_wp2_with (go_at_call 35; refine (bytesOf_as (t ++ (⟨#[]⟩ : ByteArray)) _ HS0.out).mono ?_; rintro e W2 ⟨rfl, hb2⟩; have HB2 := Lib.hid hb2; clear hb2)
          go_roundw
          case rel => exact ⟨3, by omega, by first | rfl | go_num, fr_step HR.out (fit_dec HS.out HD.out) HB2.out⟩
          case measure => simp [intOf]; (try omega)
      · have cK : wr.cell? ⟨w.heap.size, 3, none⟩ = some (.string (⟨#[65, 65]⟩ : ByteArray)) := HR.out.at_.get 3 _ rfl
        have hl0 : t.size + ((⟨#[65, 65]⟩ : ByteArray)).size = 6 := by rw [HZ.out]; rfl
        have hs0 : (t ++ (⟨#[65, 65]⟩ : ByteArray)).size = 6 := by rw [ByteArray.size_append]; exact hl0
        have HS : Hid ((t ++ tail t.size 3).size = 6) := by rw [HZ.out]; exact hs0
        go_wp2_with fail
        go_roundw
        case rel => exact ⟨4, by omega, by first | rfl | go_num, fr_step HR.out (fit_size HS.out (by decide)) (Below.refl _ _)⟩
        case measure => simp [intOf]; (try omega)
    · obtain rfl : k = 4 := by omega
      go_wp2_with fail
      go_ret
      exact fq_no HR.out
theorem front (t : ByteArray) (w : World) (hs : t.size ≤ 9223372036854775807) : Calls Tryd.prog 43 #[.string t] w (FQ w t) := by
  by_cases h0 : t.size = 0
  · have hq : Hid (frontB t = true) := by unfold frontB; exact if_pos h0
    go_enter Tryd.func43, Tryd.ntmps43
    go_wp2_with fail
    go_ret
    unfold FQ
    rw [hq.out]
    exact ⟨rfl, Below.refl _ _⟩
  · by_cases h5 : 4 < t.size
    · have hq : Hid (frontB t = false) := by unfold frontB; rw [if_neg h0]; exact if_pos h5
      have h0' : ((t.size : Int) == 0) = false := beq_eq_false_iff_ne.mpr (by omega)
      have h5' : decide ((4 : Int) < (t.size : Int)) = true := decide_eq_true (by omega)
      have h5'' : decide (4 < t.size) = true := decide_eq_true h5
      go_enter Tryd.func43, Tryd.ntmps43
      go_wp2_with fail
      go_ret
      unfold FQ
      rw [hq.out]
      exact ⟨rfl, Below.refl _ _⟩
    · rcases (show t.size = 1 ∨ t.size = 2 ∨ t.size = 3 ∨ t.size = 4 by omega) with h | h | h | h
      · exact front1 t w h
      · exact front2 t w h
      · exact front3 t w h
      · exact front4 t w h
def rosterref01_front.f (a0 : ByteArray) : Option Bool := if a0.size ≤ 9223372036854775807 then some (frontB a0) else none
theorem rosterref01_front.calls (a0 : ByteArray) (r : Bool) (w : World) (h : rosterref01_front.f a0 = some r) : Calls Tryd.prog 43 #[.string a0] w fun e w' => e = .returned (.bool r) ∧ Below w.heap.size w w' := by
  unfold rosterref01_front.f at h
  split at h
  case isFalse => cases h
  case isTrue hs =>
  obtain rfl := Option.some.inj h
  exact front a0 w hs
end Go.Proofs.YtppnhlkfkedlmaaDoor.FrontW

/- text and the document's Fold, Collapse, Squeeze and Normal, as printed, give the lists of Norm. For every text of at most 140737488351232 bytes. -/
import Derived.Test.YtjkhdiphcgpbfaaX2
import Derived.Test.YtjkhdiphcgpbfaaXV
import Derived.Test.YtjkhdiphcgpbfaaNorm
namespace Go.Proofs.Ytjkhdiphcgpbfaa.NormEv
open Go.RowKit Go.Proofs.Ytjkhdiphcgpbfaa.X Go.Proofs.Ytjkhdiphcgpbfaa.XE Go.Proofs.Ytjkhdiphcgpbfaa.XV Go.Proofs.Ytjkhdiphcgpbfaa.Norm Go.Proofs.YtjkhdiphcgpbfaaW.PrintWords Go.Proofs.YtjkhdiphcgpbfaaW.PrintLast
set_option linter.unusedVariables false
set_option linter.unusedSimpArgs false

def Rng (l : List Int) : Prop := ∀ x ∈ l, 0 ≤ x ∧ x ≤ 255
theorem rng_fold {l : List Int} (h : Rng l) : Rng (foldN l) := by
  intro x hx
  obtain ⟨y, hy, rfl⟩ := List.mem_map.1 hx
  have := h y hy
  unfold lowN
  split <;> omega
theorem rng_cons {c : Int} {l : List Int} (h : Rng (c :: l)) : (0 ≤ c ∧ c ≤ 255) ∧ Rng l := ⟨h c (by simp), fun x hx => h x (by simp [hx])⟩
theorem cons_rng {c : Int} {l : List Int} (hc : 0 ≤ c ∧ c ≤ 255) (h : Rng l) : Rng (c :: l) := by
  intro x hx
  rcases List.mem_cons.1 hx with rfl | hx
  · exact hc
  · exact h x hx
theorem rng_col : ∀ {l : List Int} (p : Bool), Rng l → Rng (colL p l)
  | [], p, _ => by intro x hx; simp [colL] at hx
  | c :: r, p, h => by
    obtain ⟨hc, hr⟩ := rng_cons h
    unfold colL
    split
    · split
      · exact rng_col true hr
      · exact cons_rng (by omega) (rng_col true hr)
    · exact cons_rng hc (rng_col false hr)
theorem rng_em : ∀ {l : List Int} (p : Bool), Rng l → Rng (em p l)
  | [], p, _ => by intro x hx; simp [em] at hx
  | c :: r, p, h => by
    obtain ⟨hc, hr⟩ := rng_cons h
    unfold em
    split
    · exact rng_em true hr
    · split
      · exact cons_rng (by omega) (cons_rng hc (rng_em false hr))
      · exact cons_rng hc (rng_em false hr)
theorem rng_nm : ∀ {l : List Int}, Rng l → Rng (nm l)
  | [], _ => by intro x hx; simp [nm] at hx
  | c :: r, h => by
    obtain ⟨hc, hr⟩ := rng_cons h
    unfold nm
    split
    · exact rng_nm hr
    · exact cons_rng hc (rng_em false hr)
theorem col_len : ∀ (l : List Int) (p : Bool), (colL p l).length ≤ l.length
  | [], p => by simp [colL]
  | c :: r, p => by
    have h1 := col_len r true
    have h2 := col_len r false
    unfold colL
    split
    · split <;> simp <;> omega
    · simp; omega
theorem strip_len : ∀ (l : List Int), (stripT l).length ≤ l.length
  | [] => by simp [stripT]
  | [x] => by unfold stripT; split <;> simp
  | x :: y :: r => by
    have := strip_len (y :: r)
    simp only [stripT, List.length_cons] at this ⊢
    omega
theorem nm_len (l : List Int) : (nm l).length ≤ l.length := by
  rw [← strip_nm]
  exact Nat.le_trans (strip_len _) (col_len _ _)
theorem size_nums (l : List Int) : (strOfNums l).size = l.length := strOfNums_size l
theorem len_bytes (s : ByteArray) : (bytesOf s).length = s.size := bytesOf_length s

theorem drop_cons (s : ByteArray) (i : Nat) (h : i < s.size) : (bytesOf s).drop i = bt s (i : Int) :: (bytesOf s).drop (i + 1) := by
  have hl : i < (bytesOf s).length := by rw [bytesOf_length]; exact h
  rw [bt_byte, List.drop_eq_getElem_cons hl]
  simp [List.getD_eq_getElem?_getD, List.getElem?_eq_getElem hl]

theorem fold_at (a : ByteArray) (h : a.size ≤ 4611686018427387904) : text_Fold.f a = some (strOfNums (foldN (bytesOf a))) := by
  unfold text_Fold.f
  rw [if_pos h]
  rfl
theorem blank_at (b : Int) : text_blank.f b = some (blankI b) := by
  unfold text_blank.f blankI
  by_cases h : b = 32
  · simp [h]
  · rw [if_neg h]
    by_cases h2 : b ≥ 9
    · rw [if_pos h2]; simp [h, h2]
    · rw [if_neg h2]; simp [h, h2]
theorem rblank_at (b : Int) : rosterref01_Blank.f b = some (blankI b) := by
  unfold rosterref01_Blank.f blankI
  by_cases h : b = 32
  · simp [h]
  · rw [if_neg h]
    by_cases h2 : b ≥ 9
    · rw [if_pos h2]; simp [h, h2]
    · rw [if_neg h2]; simp [h, h2]

theorem rfold_loop (s : ByteArray) (hs : s.size ≤ 140737488351232) : ∀ m i (acc : List Int), i + m = s.size → acc.length = i → Ev (fun k => rosterref01_Fold.l0 k s acc (i : Int)) (strOfNums (acc ++ foldN ((bytesOf s).drop i)))
  | 0, i, acc, hi, ha => by
    refine ev_round ?_
    simp only [rosterref01_Fold.l0]
    refine ev_neg (by omega) (ev_eq ?_)
    rw [List.drop_eq_nil_of_le (by rw [bytesOf_length]; omega)]
    simp [foldN]
  | m + 1, i, acc, hi, ha => by
    have ih := rfold_loop s hs m (i + 1)
    have hb := bt_range s (i : Int)
    refine ev_round ?_
    simp only [rosterref01_Fold.l0]
    rw [wrp_id _ (by omega) (by omega)]
    refine ev_pos (by omega) (ev_pos (by omega) ?_)
    rw [drop_cons s i (by omega)]
    by_cases h1 : bt s (i : Int) ≥ 65
    · refine ev_pos h1 ?_
      by_cases h2 : bt s (i : Int) ≤ 90
      · refine ev_pos h2 (ev_pos (by omega) ?_)
        have := ih (acc ++ [(bt s (i : Int) + 32) % 256]) (by omega) (by simp; omega)
        rw [show foldN (bt s (i : Int) :: (bytesOf s).drop (i + 1)) = (bt s (i : Int) + 32) % 256 :: foldN ((bytesOf s).drop (i + 1)) from by simp [foldN, lowN, h1, h2]; omega]
        simpa using this
      · refine ev_neg h2 (ev_pos (by omega) ?_)
        have := ih (acc ++ [bt s (i : Int)]) (by omega) (by simp; omega)
        rw [show foldN (bt s (i : Int) :: (bytesOf s).drop (i + 1)) = bt s (i : Int) :: foldN ((bytesOf s).drop (i + 1)) from by simp [foldN, lowN, h1, h2]]
        simpa using this
    · refine ev_neg h1 (ev_pos (by omega) ?_)
      have := ih (acc ++ [bt s (i : Int)]) (by omega) (by simp; omega)
      rw [show foldN (bt s (i : Int) :: (bytesOf s).drop (i + 1)) = bt s (i : Int) :: foldN ((bytesOf s).drop (i + 1)) from by simp [foldN, lowN]; omega]
      simpa using this
theorem rfold_at (a : ByteArray) (h : a.size ≤ 140737488351232) : Ev (fun k => rosterref01_Fold.f k a) (strOfNums (foldN (bytesOf a))) := by
  simpa [rosterref01_Fold.f] using rfold_loop a h a.size 0 [] (by omega) rfl

/-- Was the byte ahead of i a blank? -/
def prev (s : ByteArray) (i : Nat) : Bool := if i = 0 then false else blankI (bt s ((i : Int) - 1))
theorem prev_next (s : ByteArray) (i : Nat) : prev s (i + 1) = blankI (bt s (i : Int)) := by
  unfold prev
  rw [if_neg (by omega), show ((i + 1 : Nat) : Int) - 1 = (i : Int) from by omega]

theorem col_loop (s : ByteArray) (hs : s.size ≤ 140737488351232) : ∀ m i (acc : List Int), i + m = s.size → acc.length ≤ i → Ev (fun k => text_Collapse.l0 k s acc (s.size : Int) (i : Int)) (strOfNums (acc ++ colL (prev s i) ((bytesOf s).drop i)))
  | 0, i, acc, hi, ha => by
    refine ev_round ?_
    simp only [text_Collapse.l0]
    refine ev_neg (by omega) (ev_eq ?_)
    rw [List.drop_eq_nil_of_le (by rw [bytesOf_length]; omega)]
    simp [colL]
  | m + 1, i, acc, hi, ha => by
    have ih := col_loop s hs m (i + 1)
    rw [prev_next] at ih
    refine ev_round ?_
    simp only [text_Collapse.l0, blank_at, Option.bind_some]
    rw [wrp_id ((i : Int) + 1) (by omega) (by omega), wrp_id ((i : Int) - 1) (by omega) (by omega)]
    refine ev_pos (by omega) (ev_pos (by omega) (ev_pos (by omega) ?_))
    rw [drop_cons s i (by omega)]
    by_cases hb : blankI (bt s (i : Int)) = true
    · refine ev_pos hb ?_
      rw [hb] at ih
      by_cases h0 : (i : Int) = 0
      · refine ev_pos h0 (ev_pos (by omega) ?_)
        have := ih (acc ++ [32]) (by omega) (by simp; omega)
        rw [show prev s i = false from by unfold prev; rw [if_pos (by omega)], show colL false (bt s (i : Int) :: (bytesOf s).drop (i + 1)) = 32 :: colL true ((bytesOf s).drop (i + 1)) from by rw [colL, if_pos hb, if_neg (by decide)]]
        simpa using this
      · refine ev_neg h0 (ev_pos (by omega) (ev_pos (by omega) ?_))
        have hp : prev s i = blankI (bt s ((i : Int) - 1)) := by unfold prev; rw [if_neg (by omega)]
        by_cases h1 : blankI (bt s ((i : Int) - 1)) = true
        · refine ev_pos h1 ?_
          have := ih acc (by omega) (by omega)
          rw [hp, h1, show colL true (bt s (i : Int) :: (bytesOf s).drop (i + 1)) = colL true ((bytesOf s).drop (i + 1)) from by rw [colL, if_pos hb, if_pos rfl]]
          simpa using this
        · refine ev_neg h1 (ev_pos (by omega) ?_)
          have := ih (acc ++ [32]) (by omega) (by simp; omega)
          rw [hp, Bool.eq_false_iff.2 h1, show colL false (bt s (i : Int) :: (bytesOf s).drop (i + 1)) = 32 :: colL true ((bytesOf s).drop (i + 1)) from by rw [colL, if_pos hb, if_neg (by decide)]]
          simpa using this
    · refine ev_neg hb (ev_pos (by omega) ?_)
      have := ih (acc ++ [bt s (i : Int)]) (by omega) (by simp; omega)
      rw [Bool.eq_false_iff.2 hb] at this
      rw [show colL (prev s i) (bt s (i : Int) :: (bytesOf s).drop (i + 1)) = bt s (i : Int) :: colL false ((bytesOf s).drop (i + 1)) from by rw [colL, if_neg hb]]
      simpa using this
theorem col_at (a : ByteArray) (h : a.size ≤ 140737488351232) : Ev (fun k => text_Collapse.f k a) (strOfNums (colL false (bytesOf a))) := by
  have := col_loop a h a.size 0 [] (by omega) (by simp)
  simp only [text_Collapse.f]
  refine ev_pos (by omega) (ev_pos (by omega) ?_)
  simpa [prev] using this

theorem rcol_loop (s : ByteArray) (hs : s.size ≤ 140737488351232) : ∀ m i (acc : List Int), i + m = s.size → acc.length ≤ i → Ev (fun k => rosterref01_Collapse.l0 k s acc (i : Int)) (strOfNums (acc ++ colL (prev s i) ((bytesOf s).drop i)))
  | 0, i, acc, hi, ha => by
    refine ev_round ?_
    simp only [rosterref01_Collapse.l0]
    refine ev_neg (by omega) (ev_eq ?_)
    rw [List.drop_eq_nil_of_le (by rw [bytesOf_length]; omega)]
    simp [colL]
  | m + 1, i, acc, hi, ha => by
    have ih := rcol_loop s hs m (i + 1)
    rw [prev_next] at ih
    refine ev_round ?_
    simp only [rosterref01_Collapse.l0, rblank_at, Option.bind_some]
    rw [wrp_id ((i : Int) + 1) (by omega) (by omega), wrp_id ((i : Int) - 1) (by omega) (by omega)]
    refine ev_pos (by omega) (ev_pos (by omega) ?_)
    rw [drop_cons s i (by omega)]
    by_cases hb : blankI (bt s (i : Int)) = true
    · refine ev_pos hb ?_
      rw [hb] at ih
      by_cases h0 : (i : Int) = 0
      · refine ev_pos h0 (ev_pos (by omega) ?_)
        have := ih (acc ++ [32]) (by omega) (by simp; omega)
        rw [show prev s i = false from by unfold prev; rw [if_pos (by omega)], show colL false (bt s (i : Int) :: (bytesOf s).drop (i + 1)) = 32 :: colL true ((bytesOf s).drop (i + 1)) from by rw [colL, if_pos hb, if_neg (by decide)]]
        simpa using this
      · refine ev_neg h0 (ev_pos (by omega) (ev_pos (by omega) ?_))
        have hp : prev s i = blankI (bt s ((i : Int) - 1)) := by unfold prev; rw [if_neg (by omega)]
        by_cases h1 : blankI (bt s ((i : Int) - 1)) = true
        · refine ev_pos h1 ?_
          have := ih acc (by omega) (by omega)
          rw [hp, h1, show colL true (bt s (i : Int) :: (bytesOf s).drop (i + 1)) = colL true ((bytesOf s).drop (i + 1)) from by rw [colL, if_pos hb, if_pos rfl]]
          simpa using this
        · refine ev_neg h1 (ev_pos (by omega) ?_)
          have := ih (acc ++ [32]) (by omega) (by simp; omega)
          rw [hp, Bool.eq_false_iff.2 h1, show colL false (bt s (i : Int) :: (bytesOf s).drop (i + 1)) = 32 :: colL true ((bytesOf s).drop (i + 1)) from by rw [colL, if_pos hb, if_neg (by decide)]]
          simpa using this
    · refine ev_neg hb (ev_pos (by omega) ?_)
      have := ih (acc ++ [bt s (i : Int)]) (by omega) (by simp; omega)
      rw [Bool.eq_false_iff.2 hb] at this
      rw [show colL (prev s i) (bt s (i : Int) :: (bytesOf s).drop (i + 1)) = bt s (i : Int) :: colL false ((bytesOf s).drop (i + 1)) from by rw [colL, if_neg hb]]
      simpa using this
theorem rcol_at (a : ByteArray) (h : a.size ≤ 140737488351232) : Ev (fun k => rosterref01_Collapse.f k a) (strOfNums (colL false (bytesOf a))) := by
  have := rcol_loop a h a.size 0 [] (by omega) (by simp)
  simp only [rosterref01_Collapse.f]
  simpa [prev] using this

theorem strip_from (s : ByteArray) (a : Nat) (ha : a ≤ s.size) : stripT (bytesOf (s.extract a s.size)) = if a < s.size ∧ bt s ((s.size : Int) - 1) = 32 then bytesOf (s.extract a (s.size - 1)) else bytesOf (s.extract a s.size) := by
  have hl := bytesOf_length s
  rw [bytesOf_extract, bytesOf_extract, List.take_of_length_le (by omega)]
  by_cases h : a < s.size
  · have hne : (bytesOf s).drop a ≠ [] := by intro h0; have := congrArg List.length h0; simp at this; omega
    rw [strip_last _ hne]
    have hg : ((bytesOf s).drop a).getLast hne = bt s ((s.size : Int) - 1) := by
      rw [bt_byte, List.getLast_drop, List.getLast_eq_getElem, show ((s.size : Int) - 1).toNat = (bytesOf s).length - 1 from by omega]
      have hk : (bytesOf s).length - 1 < (bytesOf s).length := by omega
      simp [List.getD_eq_getElem?_getD, List.getElem?_eq_getElem hk]
    rw [hg]
    have hd : ((bytesOf s).drop a).dropLast = ((bytesOf s).take (s.size - 1)).drop a := by
      rw [List.dropLast_eq_take, List.drop_take, List.length_drop, hl, Nat.sub_right_comm]
    rw [hd]
    simp [h]
  · rw [if_neg (fun z => h z.1), List.drop_eq_nil_of_le (by omega)]
    rfl
theorem bytes_eq {r : ByteArray} {l : List Int} (hr : Rng l) (h : bytesOf r = l) : r = strOfNums l := bytesOf_inj (by rw [h, bytesOf_nums l hr])
theorem empty_iff (u : ByteArray) : u.toList = ([] : List UInt8) ↔ u.size = 0 := by
  rw [toList_data]
  constructor
  · intro h; rw [← data_length, h]; rfl
  · intro h; rw [← data_length] at h; exact List.length_eq_zero_iff.1 h
theorem extract_all (u : ByteArray) : u.extract 0 u.size = u := by
  apply bytesOf_inj
  rw [bytesOf_extract, List.drop_zero, List.take_of_length_le (by rw [bytesOf_length]; exact Nat.le_refl _)]

def cutEnd (u : ByteArray) : Option ByteArray := if u.toList = ([] : List UInt8) then (some u) else (if 0 ≤ (wrap64 ((u.size : Int) - 1)) then (if (wrap64 ((u.size : Int) - 1)) < (u.size : Int) then (if (bt u (wrap64 ((u.size : Int) - 1))) = 32 then (if (wrap64 ((u.size : Int) - 1)) ≤ (u.size : Int) then (some (u.extract 0 ((wrap64 ((u.size : Int) - 1)) : Int).toNat)) else (none)) else (some u)) else (none)) else (none))
theorem j0_at (k : Nat) (x3 : ByteArray) (b : Bool) : text_Squeeze.j0 (k + 1) x3 b = if b = true then (if 1 ≤ (x3.size : Int) then cutEnd (x3.extract 1 x3.size) else none) else cutEnd x3 := rfl
theorem cutEnd_at (u : ByteArray) (hu : u.size ≤ 4611686018427387904) : ∃ r, cutEnd u = some r ∧ bytesOf r = stripT (bytesOf u) := by
  have hf := strip_from u 0 (by omega)
  rw [extract_all] at hf
  unfold cutEnd
  by_cases h0 : u.size = 0
  · rw [if_pos ((empty_iff u).2 h0)]
    rw [if_neg (by omega)] at hf
    exact ⟨u, rfl, hf.symm⟩
  · rw [if_neg (fun z => h0 ((empty_iff u).1 z)), wrp_id _ (by omega) (by omega), if_pos (by omega), if_pos (by omega)]
    by_cases h1 : bt u ((u.size : Int) - 1) = 32
    · rw [if_pos h1, if_pos (by omega)]
      rw [if_pos ⟨by omega, h1⟩] at hf
      exact ⟨_, rfl, by rw [hf, show ((u.size : Int) - 1).toNat = u.size - 1 from by omega]⟩
    · rw [if_neg h1]
      rw [if_neg (fun z => h1 z.2)] at hf
      exact ⟨u, rfl, hf.symm⟩

theorem front_cut (c : ByteArray) (l : List Int) (hc : bytesOf c = colL false l) : colL true l = if 0 < c.size ∧ bt c 0 = 32 then bytesOf (c.extract 1 c.size) else bytesOf c := by
  have hl := bytesOf_length c
  rw [col_front, ← hc, bytesOf_extract, List.take_of_length_le (by omega)]
  by_cases h0 : c.size = 0
  · have : bytesOf c = [] := List.length_eq_zero_iff.1 (by omega)
    rw [this, if_neg (by omega)]
  · have hd := drop_cons c 0 (by omega)
    rw [List.drop_zero] at hd
    rw [hd]
    by_cases h1 : bt c 0 = 32
    · rw [if_pos ⟨by omega, h1⟩]; simp [h1]
    · rw [if_neg (fun z => h1 z.2)]; simp [h1]

theorem squeeze_at (a : ByteArray) (h : a.size ≤ 140737488351232) : Ev (fun k => text_Squeeze.f k a) (strOfNums (nm (bytesOf a))) := by
  have hr := rng_col false (bytesOf_range a)
  have hc := bytesOf_nums _ hr
  have hcl := col_len (bytesOf a) false
  rw [bytesOf_length] at hcl
  have hsz := strOfNums_size (colL false (bytesOf a))
  have hfc := front_cut _ _ hc
  simp only [text_Squeeze.f]
  refine Ev.bind (col_at a h) ?_
  generalize strOfNums (colL false (bytesOf a)) = c at *
  have key : ∀ b : Bool, (b = true ↔ 0 < c.size ∧ bt c 0 = 32) → Ev (fun k => text_Squeeze.j0 k c b) (strOfNums (nm (bytesOf a))) := by
    intro b hb
    refine ev_round ?_
    simp only [j0_at]
    by_cases h1 : b = true
    · refine ev_pos h1 (ev_pos (by have := hb.1 h1; omega) ?_)
      rw [if_pos (hb.1 h1)] at hfc
      obtain ⟨r, e, he⟩ := cutEnd_at (c.extract 1 c.size) (by rw [ByteArray.size_extract]; omega)
      rw [e, ← bytes_eq (rng_nm (bytesOf_range a)) (by rw [he, ← hfc, strip_nm])]
      exact Ev.now _
    · refine ev_neg h1 ?_
      rw [if_neg (fun z => h1 (hb.2 z))] at hfc
      obtain ⟨r, e, he⟩ := cutEnd_at c (by omega)
      rw [e, ← bytes_eq (rng_nm (bytesOf_range a)) (by rw [he, ← hfc, strip_nm])]
      exact Ev.now _
  by_cases h0 : c.size = 0
  · exact ev_pos ((empty_iff c).2 h0) (key false (by simp; omega))
  · refine ev_neg (fun z => h0 ((empty_iff c).1 z)) (ev_pos (by omega) (key _ ?_))
    simp
    omega

theorem rj0_at (k : Nat) (c : ByteArray) (hs : c.size ≤ 4611686018427387904) (b : Bool) (hb : b = true → 0 < c.size) : ∃ r, rosterref01_Squeeze.j0 (k + 1) c 0 (c.size : Int) b = some r ∧ bytesOf r = stripT (bytesOf (if b = true then c.extract 1 c.size else c)) := by
  have wr : wrap64 ((c.size : Int) - 1) = (c.size : Int) - 1 := wrp_id _ (by omega) (by omega)
  simp only [rosterref01_Squeeze.j0, wr]
  by_cases h1 : b = true
  · have h2 := hb h1
    have hf := strip_from c 1 (by omega)
    rw [if_pos h1, if_pos h1]
    by_cases h3 : (c.size : Int) > 1
    · rw [if_pos h3, if_pos (by omega), if_pos (by omega)]
      by_cases h4 : bt c ((c.size : Int) - 1) = 32
      · rw [if_pos h4, if_pos (by omega), if_pos (by omega)]
        rw [if_pos ⟨by omega, h4⟩] at hf
        exact ⟨_, rfl, by rw [hf, show ((c.size : Int) - 1).toNat = c.size - 1 from by omega]⟩
      · rw [if_neg h4, if_pos (by omega), if_pos (by omega)]
        rw [if_neg (fun z => h4 z.2)] at hf
        exact ⟨_, rfl, by rw [hf, Int.toNat_natCast]⟩
    · rw [if_neg h3, if_pos (by omega), if_pos (by omega)]
      rw [if_neg (by omega)] at hf
      exact ⟨_, rfl, by rw [hf, Int.toNat_natCast]⟩
  · have hf := strip_from c 0 (by omega)
    rw [extract_all] at hf
    rw [if_neg h1, if_neg h1]
    by_cases h3 : (c.size : Int) > 0
    · rw [if_pos h3, if_pos (by omega), if_pos (by omega)]
      by_cases h4 : bt c ((c.size : Int) - 1) = 32
      · rw [if_pos h4, if_pos (by omega), if_pos (by omega), if_pos (by omega)]
        rw [if_pos ⟨by omega, h4⟩] at hf
        exact ⟨_, rfl, by rw [hf, show ((c.size : Int) - 1).toNat = c.size - 1 from by omega]; rfl⟩
      · rw [if_neg h4, if_pos (by omega), if_pos (by omega), if_pos (by omega)]
        rw [if_neg (fun z => h4 z.2)] at hf
        exact ⟨_, rfl, by rw [hf, Int.toNat_natCast, show (0 : Int).toNat = 0 from rfl, extract_all]⟩
    · rw [if_neg h3, if_pos (by omega), if_pos (by omega), if_pos (by omega)]
      rw [if_neg (by omega)] at hf
      exact ⟨_, rfl, by rw [hf, Int.toNat_natCast, show (0 : Int).toNat = 0 from rfl, extract_all]⟩

theorem rsqueeze_at (a : ByteArray) (h : a.size ≤ 140737488351232) : Ev (fun k => rosterref01_Squeeze.f k a) (strOfNums (nm (bytesOf a))) := by
  have hr := rng_col false (bytesOf_range a)
  have hc := bytesOf_nums _ hr
  have hcl := col_len (bytesOf a) false
  rw [bytesOf_length] at hcl
  have hsz := strOfNums_size (colL false (bytesOf a))
  have hfc := front_cut _ _ hc
  simp only [rosterref01_Squeeze.f]
  refine Ev.bind (rcol_at a h) ?_
  generalize strOfNums (colL false (bytesOf a)) = c at *
  have key : ∀ b : Bool, (b = true ↔ 0 < c.size ∧ bt c 0 = 32) → Ev (fun k => rosterref01_Squeeze.j0 k c 0 (c.size : Int) b) (strOfNums (nm (bytesOf a))) := by
    intro b hb
    refine ev_at 1 fun m => ?_
    obtain ⟨r, e, he⟩ := rj0_at m c (by omega) b (fun z => (hb.1 z).1)
    rw [e, ← bytes_eq (rng_nm (bytesOf_range a))]
    rw [he, ← strip_nm, hfc]
    by_cases h1 : b = true
    · rw [if_pos h1, if_pos (hb.1 h1)]
    · rw [if_neg h1, if_neg (fun z => h1 (hb.2 z))]
  by_cases h0 : (c.size : Int) > 0
  · refine ev_pos h0 (ev_pos (by omega) (key _ ?_))
    simp
    omega
  · exact ev_neg h0 (key false (by simp; omega))

theorem normal_at (a : ByteArray) (h : a.size ≤ 140737488351232) : Ev (fun k => text_Normal.f k a) (strOfNums (nm (foldN (bytesOf a)))) := by
  simp only [text_Normal.f]
  rw [fold_at a (by omega)]
  simp only [Option.bind_some]
  refine ev_bindsome ?_
  have := squeeze_at (strOfNums (foldN (bytesOf a))) (by rw [strOfNums_size]; simp [foldN, bytesOf_length]; exact h)
  rw [bytesOf_nums _ (rng_fold (bytesOf_range a))] at this
  exact this
theorem rnormal_at (a : ByteArray) (h : a.size ≤ 140737488351232) : Ev (fun k => rosterref01_Normal.f k a) (strOfNums (nm (foldN (bytesOf a)))) := by
  simp only [rosterref01_Normal.f]
  refine Ev.bind (rfold_at a h) (ev_bindsome ?_)
  have := rsqueeze_at (strOfNums (foldN (bytesOf a))) (by rw [strOfNums_size]; simp [foldN, bytesOf_length]; exact h)
  rw [bytesOf_nums _ (rng_fold (bytesOf_range a))] at this
  exact this
end Go.Proofs.Ytjkhdiphcgpbfaa.NormEv

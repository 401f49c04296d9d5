/- What the document's Show answers, as printed: a text, put together line by line; how long it may be. -/
import Derived.Test.YtogkibhbkapobaaDoorXA4
import Derived.Test.YtogkibhbkapobaaDoorXA7
import Derived.Test.YtogkibhbkapobaaDoorXV
import Derived.Test.YtogkibhbkapobaaDoorB64G
import Derived.Test.YtogkibhbkapobaaDoorSafeEv
import Derived.Test.YtogkibhbkapobaaDoorCsTab
import Derived.Lib.ItoaLen
set_option linter.unusedVariables false
set_option linter.unusedSimpArgs false
namespace Go.Proofs.YtogkibhbkapobaaDoor.CsEv
open Go.RowKit Go.Proofs Go.Proofs.YtogkibhbkapobaaDoor.XA Go.Proofs.YtogkibhbkapobaaDoor.XV Go.Proofs.YtogkibhbkapobaaDoor.L64 Go.Proofs.YtogkibhbkapobaaDoor.CsTab Go.Proofs.YtogkibhbkapobaaDoorW.PrintWords Go.Proofs.YtogkibhbkapobaaDoorW.PrintLast
/-- A number's numeral. -/
def dec (n : Int) : ByteArray := ⟨(Lib.itoa n).toArray⟩
theorem dec_size (n : Int) (h0 : -9223372036854775808 ≤ n) (h1 : n ≤ 9223372036854775807) : (dec n).size ≤ 21 := by
  have := Lib.itoa_length_le n h0 h1
  show (Lib.itoa n).toArray.size ≤ 21
  simpa using this
theorem dig_one (u : Nat) (h : u < 10) : (⟨#[48, 49, 50, 51, 52, 53, 54, 55, 56, 57]⟩ : ByteArray).extract u (u + 1) = dec (u : Int) := by
  have : ∀ u : Fin 10, (⟨#[48, 49, 50, 51, 52, 53, 54, 55, 56, 57]⟩ : ByteArray).extract u.val (u.val + 1) = ⟨#[UInt8.ofNat (48 + u.val)]⟩ := by decide +kernel
  rw [this ⟨u, h⟩]
  unfold dec Lib.itoa
  rw [if_neg (by omega), Int.toNat_natCast, Lib.decDigits_one h]
theorem ba_append (l m : List UInt8) : (⟨l.toArray⟩ : ByteArray) ++ ⟨m.toArray⟩ = ⟨(l ++ m).toArray⟩ := by
  apply ByteArray.ext
  rw [ByteArray.data_append]
  simp
theorem dec_big (u : Nat) (h : ¬ u < 10) : dec (u : Int) = dec ((u / 10 : Nat) : Int) ++ dec ((u % 10 : Nat) : Int) := by
  have h2 : u % 10 < 10 := Nat.mod_lt _ (by decide)
  unfold dec Lib.itoa
  rw [if_neg (by omega), if_neg (by omega), if_neg (by omega), Int.toNat_natCast, Int.toNat_natCast, Int.toNat_natCast, ba_append, Lib.decDigits_one h2]
  congr 2
  conv => lhs; rw [Lib.decDigits, dif_neg h]
theorem dec_neg (u : Nat) (h : 0 < u) : dec (-(u : Int)) = (⟨#[45]⟩ : ByteArray) ++ dec (u : Int) := by
  unfold dec Lib.itoa
  rw [if_pos (by omega), if_neg (by omega), Int.toNat_natCast, show (-(u : Int)).natAbs = u by omega]
  exact (ba_append [45] (Lib.decDigits u)).symm
theorem decimal_nat : ∀ m u : Nat, u ≤ m → u ≤ 9223372036854775807 → Ev (fun k => rosterref19_decimal.f k (u : Int)) (dec (u : Int)) := by
  intro m
  induction m with
  | zero =>
    intro u hu _
    obtain rfl : u = 0 := by omega
    refine ev_round ?_
    simp only [rosterref19_decimal.f]
    refine ev_pos (by omega) (ev_round ?_)
    simp only [rosterref19_decimal.j0]
    refine ev_pos (by decide) (ev_pos (by omega) ?_)
    rw [wrp_id _ (by omega) (by omega)]
    exact ev_pos (by omega) (ev_pos (by omega) (ev_eq (dig_one 0 (by omega))))
  | succ m ih =>
    intro u hu hm
    refine ev_round ?_
    simp only [rosterref19_decimal.f]
    refine ev_pos (by omega) (ev_round ?_)
    simp only [rosterref19_decimal.j0]
    by_cases h : u < 10
    · refine ev_pos (decide_eq_true (by omega)) (ev_pos (by omega) ?_)
      rw [wrp_id _ (by omega) (by omega)]
      refine ev_pos (by omega) (ev_pos (by omega) (ev_eq ?_))
      rw [show ((u : Int) + 1).toNat = u + 1 by omega, Int.toNat_natCast]
      exact dig_one u h
    · have e1 : wrap64 (Int.tdiv (u : Int) 10) = ((u / 10 : Nat) : Int) := by
        rw [Int.tdiv_eq_ediv_of_nonneg (by omega)]
        exact wrp_id _ (by omega) (by omega)
      have e2 : Int.tmod (u : Int) 10 = ((u % 10 : Nat) : Int) := by
        rw [Int.tmod_eq_emod_of_nonneg (by omega)]
        omega
      refine ev_neg (by simp; omega) (ev_pos (by omega) ?_)
      rw [e1, e2]
      have s1 := dec_size ((u / 10 : Nat) : Int) (by omega) (by omega)
      have s2 := dec_size ((u % 10 : Nat) : Int) (by omega) (by omega)
      refine Ev.bind (ih (u / 10) (by omega) (by omega)) (Ev.bind (ih (u % 10) (by omega) (by omega)) (ev_pos (by omega) (ev_eq (dec_big u h).symm)))
theorem decimal_neg : ∀ m u : Nat, 0 < u → u ≤ m → u ≤ 9223372036854775808 → Ev (fun k => rosterref19_decimal.f k (-(u : Int))) (dec (-(u : Int))) := by
  intro m
  induction m with
  | zero => intro u h0 hu _; omega
  | succ m ih =>
    intro u h0 hu hm
    refine ev_round ?_
    simp only [rosterref19_decimal.f]
    refine ev_neg (by omega) (ev_round ?_)
    simp only [rosterref19_decimal.j0]
    refine ev_neg (by decide) (ev_neg (by omega) ?_)
    by_cases h : -(u : Int) > -10
    · refine ev_pos h ?_
      rw [wrp_id _ (by omega) (by omega), Int.neg_neg]
      have s1 := dec_size (u : Int) (by omega) (by omega)
      exact Ev.bind (decimal_nat u u (Nat.le_refl _) (by omega)) (ev_pos (by omega) (ev_eq (dec_neg u (by omega)).symm))
    · refine ev_neg h ?_
      have e1 : wrap64 (Int.tdiv (-(u : Int)) 10) = -((u / 10 : Nat) : Int) := by
        rw [Int.neg_tdiv, Int.tdiv_eq_ediv_of_nonneg (by omega)]
        exact wrp_id _ (by omega) (by omega)
      have e2 : wrap64 (-(Int.tmod (-(u : Int)) 10)) = ((u % 10 : Nat) : Int) := by
        rw [Int.neg_tmod, Int.neg_neg, Int.tmod_eq_emod_of_nonneg (by omega)]
        exact wrp_id _ (by omega) (by omega)
      rw [e1, e2]
      have s1 := dec_size (-((u / 10 : Nat) : Int)) (by omega) (by omega)
      have s2 := dec_size ((u % 10 : Nat) : Int) (by omega) (by omega)
      have e : dec (-((u / 10 : Nat) : Int)) ++ dec ((u % 10 : Nat) : Int) = dec (-(u : Int)) := by
        rw [dec_neg u h0, dec_neg (u / 10) (by omega), dec_big u (by omega), ByteArray.append_assoc]
      exact Ev.bind (ih (u / 10) (by omega) (by omega) (by omega)) (Ev.bind (decimal_nat _ (u % 10) (Nat.le_refl _) (by omega)) (ev_pos (by omega) (ev_eq e)))
theorem decimal_ev (n : Int) (h0 : -9223372036854775808 ≤ n) (h1 : n ≤ 9223372036854775807) : Ev (fun k => rosterref19_decimal.f k n) (dec n) := by
  by_cases hp : 0 ≤ n
  · obtain ⟨u, rfl⟩ := Int.eq_ofNat_of_zero_le hp
    exact decimal_nat u u (Nat.le_refl _) (by omega)
  · obtain ⟨u, rfl⟩ : ∃ u : Nat, n = -(u : Int) := ⟨n.natAbs, by omega⟩
    exact decimal_neg u u (by omega) (Nat.le_refl _) (by omega)
/-! ### A line -/
def plainB (s : ByteArray) : Bool := (text_Plain.f s).getD false
theorem plain_is (s : ByteArray) (hs : s.size ≤ 4611686018427387904) : text_Plain.f s = some (plainB s) ∧ Ev (fun k => rosterref01_Plain.f k s) (plainB s) := by
  obtain ⟨r, h1, h2⟩ := SafeEv.plain_at s hs
  have : plainB s = r := by unfold plainB; rw [h1]; rfl
  rw [this]
  exact ⟨h1, h2⟩
def b64B (s : ByteArray) : ByteArray := strOfNums (b64 (bytesOf s))
theorem b64B_size (s : ByteArray) : (b64B s).size ≤ 2 * s.size + 4 := by
  unfold b64B
  rw [strOfNums_size]
  have := b64_le (bytesOf s)
  rw [bytesOf_length] at this
  exact this
def lineB (d v : ByteArray) : ByteArray := if v.toList = ([] : List UInt8) then d ++ ⟨#[58, 10]⟩ else if plainB v = true then ((d ++ ⟨#[58, 32]⟩) ++ v) ++ ⟨#[10]⟩ else ((d ++ ⟨#[58, 58, 32]⟩) ++ b64B v) ++ ⟨#[10]⟩
theorem sz (l : List UInt8) : (⟨l.toArray⟩ : ByteArray).size = l.length := by
  show l.toArray.size = _
  simp
theorem lineB_size (d v : ByteArray) (hd : d.size ≤ 1048576) (hv : v.size ≤ 1048576) : (lineB d v).size ≤ 4194304 := by
  have := b64B_size v
  unfold lineB
  split
  · simp only [ByteArray.size_append, sz, List.length_cons, List.length_nil]; omega
  · split
    · simp only [ByteArray.size_append, sz, List.length_cons, List.length_nil]; omega
    · simp only [ByteArray.size_append, sz, List.length_cons, List.length_nil]; omega
theorem line_ev (d v : ByteArray) (hd : d.size ≤ 1048576) (hv : v.size ≤ 1048576) : Ev (fun k => rosterref19_line.f k d v) (lineB d v) := by
  have hb := b64B_size v
  unfold rosterref19_line.f lineB
  by_cases h0 : v.toList = ([] : List UInt8)
  · rw [if_pos h0]
    exact ev_pos h0 (ev_pos (by omega) (ev_eq rfl))
  · rw [if_neg h0]
    refine ev_neg h0 (Ev.bind (plain_is v (by omega)).2 ?_)
    by_cases hp : plainB v = true
    · rw [if_pos hp]
      refine ev_pos hp (ev_pos (by omega) (ev_pos ?_ (ev_pos ?_ (ev_eq rfl))))
      · simp only [ByteArray.size_append, sz, List.length_cons, List.length_nil]; omega
      · simp only [ByteArray.size_append, sz, List.length_cons, List.length_nil]; omega
    · rw [if_neg hp]
      refine ev_neg hp (ev_pos (by omega) (Ev.bind (B64G.rbase64_at v (by omega)) (ev_pos ?_ (ev_pos ?_ (ev_eq rfl)))))
      · show (d ++ _).size + (b64B v).size ≤ _
        simp only [ByteArray.size_append, sz, List.length_cons, List.length_nil]; omega
      · show ((d ++ _) ++ b64B v).size + 1 ≤ _
        simp only [ByteArray.size_append, sz, List.length_cons, List.length_nil]; omega
/-! ### Lines of values, of attributes, of controls -/
theorem fold_snoc {α β : Type} (f : β → α → β) (s : β) (l : List α) (i : Nat) (h : i < l.length) : (l.take (i + 1)).foldl f s = f ((l.take i).foldl f s) l[i] := by
  rw [List.take_add_one, List.getElem?_eq_getElem h, List.foldl_append]
  rfl
def vals (d s : ByteArray) (vs : List ByteArray) (j : Nat) : ByteArray := (vs.take j).foldl (fun s v => s ++ lineB d v) s
theorem vals_succ (d s : ByteArray) (vs : List ByteArray) (j : Nat) (h : j < vs.length) : vals d s vs (j + 1) = vals d s vs j ++ lineB d (rdOf ByteArray.empty vs (j : Int)) := by
  unfold vals
  rw [fold_snoc _ _ _ _ h]
  simp [rdOf, List.getD_eq_getElem?_getD, List.getElem?_eq_getElem h]
theorem rd_mem (vs : List ByteArray) (j : Nat) (h : j < vs.length) : rdOf ByteArray.empty vs (j : Int) ∈ vs := by
  simp only [rdOf, Int.toNat_natCast, List.getD_eq_getElem?_getD, List.getElem?_eq_getElem h, Option.getD_some]
  exact List.getElem_mem h
theorem vals_size (d s : ByteArray) (vs : List ByteArray) (hd : d.size ≤ 1048576) (hv : ∀ v ∈ vs, v.size ≤ 1048576) : ∀ j, j ≤ vs.length → (vals d s vs j).size ≤ s.size + 4194304 * j
  | 0, _ => by simp [vals]
  | j + 1, hj => by
    have h1 := vals_size d s vs hd hv j (by omega)
    have h2 := lineB_size d _ hd (hv _ (rd_mem vs j (by omega)))
    rw [vals_succ d s vs j (by omega), ByteArray.size_append]
    omega
def hdr (s : ByteArray) (a : S34) : ByteArray := if (a.f2.length : Int) = 0 then s ++ ((⟨#[35, 32]⟩ ++ a.f0) ++ ⟨#[10]⟩) else s
theorem hdr_size (s : ByteArray) (a : S34) (hd : a.f0.size ≤ 1048576) : (hdr s a).size ≤ s.size + 4194304 := by
  unfold hdr
  split
  · simp only [ByteArray.size_append, sz, List.length_cons, List.length_nil]; omega
  · omega
def attrB (s : ByteArray) (a : S34) : ByteArray := vals a.f0 (hdr s a) a.f2 a.f2.length
def attrs (s : ByteArray) (xs : List S34) (i : Nat) : ByteArray := (xs.take i).foldl attrB s
theorem rd34 (xs : List S34) (i : Nat) (h : i < xs.length) : rd_T34 xs (i : Int) = xs[i] := by
  simp [rd_T34, List.getD_eq_getElem?_getD, List.getElem?_eq_getElem h]
theorem attrs_succ (s : ByteArray) (xs : List S34) (i : Nat) (h : i < xs.length) : attrs s xs (i + 1) = attrB (attrs s xs i) (rd_T34 xs (i : Int)) := by
  unfold attrs
  rw [fold_snoc _ _ _ _ h, rd34 xs i h]
def wt (xs : List S34) : Nat := (xs.map fun a => a.f2.length + 1).sum
theorem wt_snoc (xs : List S34) (i : Nat) (h : i < xs.length) : wt (xs.take (i + 1)) = wt (xs.take i) + ((rd_T34 xs (i : Int)).f2.length + 1) := by
  unfold wt
  rw [List.take_add_one, List.getElem?_eq_getElem h, List.map_append, List.sum_append, rd34 xs i h]
  simp
theorem wt_le (xs : List S34) (i : Nat) : wt (xs.take i) ≤ wt xs := by
  unfold wt
  conv => rhs; rw [← List.take_append_drop i xs, List.map_append, List.sum_append]
  omega
structure FineA (xs : List S34) : Prop where
  s : ∀ a ∈ xs, a.f0.size ≤ 1048576 ∧ ∀ v ∈ a.f2, v.size ≤ 1048576
  w : wt xs ≤ 1048576
theorem FineA.at {xs : List S34} (h : FineA xs) (i : Nat) (hi : i < xs.length) : (rd_T34 xs (i : Int)).f0.size ≤ 1048576 ∧ ∀ v ∈ (rd_T34 xs (i : Int)).f2, v.size ≤ 1048576 := by
  rw [rd34 xs i hi]
  exact h.s _ (List.getElem_mem hi)
theorem FineA.len {xs : List S34} (h : FineA xs) : xs.length ≤ 1048576 := by
  refine Nat.le_trans ?_ h.w
  unfold wt
  generalize xs = l
  induction l with
  | nil => simp
  | cons a l ih => simp only [List.length_cons, List.map_cons, List.sum_cons]; omega
theorem FineA.vlen {xs : List S34} (h : FineA xs) (i : Nat) (hi : i < xs.length) : (rd_T34 xs (i : Int)).f2.length + 1 ≤ 1048576 := by
  have h1 := wt_snoc xs i hi
  have h2 := wt_le xs (i + 1)
  have := h.w
  omega
theorem attrs_size (s : ByteArray) (xs : List S34) (h : FineA xs) : ∀ i, i ≤ xs.length → (attrs s xs i).size ≤ s.size + 4194304 * wt (xs.take i)
  | 0, _ => by simp [attrs, wt]
  | i + 1, hi => by
    have h1 := attrs_size s xs h i (by omega)
    have h2 := h.at i (by omega)
    have h3 := hdr_size (attrs s xs i) (rd_T34 xs (i : Int)) h2.1
    have h4 := vals_size (rd_T34 xs (i : Int)).f0 (hdr (attrs s xs i) (rd_T34 xs (i : Int))) (rd_T34 xs (i : Int)).f2 h2.1 h2.2 _ (Nat.le_refl _)
    rw [attrs_succ s xs i (by omega), wt_snoc xs i (by omega)]
    unfold attrB
    omega
/-- How long it is inside an attribute. -/
theorem in_size (s : ByteArray) (xs : List S34) (h : FineA xs) (i j : Nat) (hi : i < xs.length) (hj : j ≤ (rd_T34 xs (i : Int)).f2.length) : (vals (rd_T34 xs (i : Int)).f0 (hdr (attrs s xs i) (rd_T34 xs (i : Int))) (rd_T34 xs (i : Int)).f2 j).size ≤ s.size + 4398046511104 := by
  have h1 := attrs_size s xs h i (by omega)
  have h2 := h.at i (by omega)
  have h3 := hdr_size (attrs s xs i) (rd_T34 xs (i : Int)) h2.1
  have h4 := vals_size (rd_T34 xs (i : Int)).f0 (hdr (attrs s xs i) (rd_T34 xs (i : Int))) (rd_T34 xs (i : Int)).f2 h2.1 h2.2 j hj
  have h5 := wt_snoc xs i hi
  have h6 := wt_le xs (i + 1)
  have := h.w
  omega
theorem attrs_le (s : ByteArray) (xs : List S34) (h : FineA xs) (i : Nat) (hi : i ≤ xs.length) : (attrs s xs i).size ≤ s.size + 4398046511104 := by
  have h1 := attrs_size s xs h i hi
  have h6 := wt_le xs i
  have := h.w
  omega
def ctrls (s : ByteArray) (cs : List S36) (i : Nat) : ByteArray := (cs.take i).foldl (fun s c => s ++ lineB ⟨#[99, 111, 110, 116, 114, 111, 108]⟩ c.f0) s
structure FineC (cs : List S36) : Prop where
  s : ∀ c ∈ cs, c.f0.size ≤ 1048576
  n : cs.length ≤ 1048576
theorem rd36 (cs : List S36) (i : Nat) (h : i < cs.length) : rd_T36 cs (i : Int) = cs[i] := by
  simp [rd_T36, List.getD_eq_getElem?_getD, List.getElem?_eq_getElem h]
theorem FineC.at {cs : List S36} (h : FineC cs) (i : Nat) (hi : i < cs.length) : (rd_T36 cs (i : Int)).f0.size ≤ 1048576 := by
  rw [rd36 cs i hi]
  exact h.s _ (List.getElem_mem hi)
theorem ctrls_succ (s : ByteArray) (cs : List S36) (i : Nat) (h : i < cs.length) : ctrls s cs (i + 1) = ctrls s cs i ++ lineB ⟨#[99, 111, 110, 116, 114, 111, 108]⟩ (rd_T36 cs (i : Int)).f0 := by
  unfold ctrls
  rw [fold_snoc _ _ _ _ h, rd36 cs i h]
theorem ctrls_size (s : ByteArray) (cs : List S36) (h : FineC cs) : ∀ i, i ≤ cs.length → (ctrls s cs i).size ≤ s.size + 4194304 * i
  | 0, _ => by simp [ctrls]
  | i + 1, hi => by
    have h1 := ctrls_size s cs h i (by omega)
    have h2 := lineB_size ⟨#[99, 111, 110, 116, 114, 111, 108]⟩ _ (by rw [sz]; decide) (h.at i (by omega))
    rw [ctrls_succ s cs i (by omega), ByteArray.size_append]
    omega
theorem ctrls_le (s : ByteArray) (cs : List S36) (h : FineC cs) (i : Nat) (hi : i ≤ cs.length) : (ctrls s cs i).size ≤ s.size + 4398046511104 := by
  have h1 := ctrls_size s cs h i hi
  have := h.n
  omega
/-! ### The document's Show -/
def wordB (f1 : Int) : ByteArray := if 0 ≤ f1 ∧ f1 < 9 then rdOf ByteArray.empty wordsL f1 else ⟨#[111, 116, 104, 101, 114]⟩
theorem word_size (f1 : Int) : (wordB f1).size ≤ 8 := by
  unfold wordB
  split
  · rename_i h
    obtain ⟨u, hu⟩ := Int.eq_ofNat_of_zero_le h.1
    subst hu
    have : ∀ u : Fin 9, (rdOf ByteArray.empty wordsL (u.val : Int)).size ≤ 8 := by decide +kernel
    exact this ⟨u, by omega⟩
  · decide
def start (f0 f1 f2 : Int) : ByteArray := ((((((⟨#[35, 32]⟩ : ByteArray) ++ dec f0) ++ ⟨#[32]⟩) ++ wordB f1) ++ ⟨#[32]⟩) ++ dec f2) ++ ⟨#[10]⟩
def s1 (s f3 : ByteArray) : ByteArray := if f3.toList = ([] : List UInt8) then s else s ++ lineB ⟨#[109, 97, 116, 99, 104, 101, 100]⟩ f3
def s2 (s f4 : ByteArray) : ByteArray := if f4.toList = ([] : List UInt8) then s else s ++ lineB ⟨#[116, 101, 120, 116]⟩ f4
def s3 (s f7 : ByteArray) (f8 : Bool) : ByteArray := if f8 = true then s ++ lineB ⟨#[111, 105, 100]⟩ f7 else s
def entry0 (f0 : Int) (f5 : ByteArray) : ByteArray := (((⟨#[35, 32]⟩ : ByteArray) ++ dec f0) ++ ⟨#[32, 101, 110, 116, 114, 121, 10]⟩) ++ lineB ⟨#[100, 110]⟩ f5
def showB (f0 f1 f2 : Int) (f3 f4 f5 : ByteArray) (xs : List S34) (f7 : ByteArray) (f8 : Bool) (cs : List S36) : ByteArray :=
  if f1 = 1 then attrs (entry0 f0 f5) xs xs.length ++ ⟨#[10]⟩ else ctrls (s3 (s2 (s1 (start f0 f1 f2) f3) f4) f7 f8) cs cs.length
structure Fine (f0 f1 f2 : Int) (f3 f4 f5 : ByteArray) (xs : List S34) (f7 : ByteArray) (cs : List S36) : Prop where
  a0 : -9223372036854775808 ≤ f0
  b0 : f0 ≤ 9223372036854775807
  a2 : -9223372036854775808 ≤ f2
  b2 : f2 ≤ 9223372036854775807
  z3 : f3.size ≤ 1048576
  z4 : f4.size ≤ 1048576
  z5 : f5.size ≤ 1048576
  z7 : f7.size ≤ 1048576
  fa : FineA xs
  fc : FineC cs
theorem start_size (f0 f1 f2 : Int) (h : -9223372036854775808 ≤ f0 ∧ f0 ≤ 9223372036854775807) (h2 : -9223372036854775808 ≤ f2 ∧ f2 ≤ 9223372036854775807) : (start f0 f1 f2).size ≤ 64 := by
  have e1 := dec_size f0 h.1 h.2
  have e2 := dec_size f2 h2.1 h2.2
  have e3 := word_size f1
  unfold start
  simp only [ByteArray.size_append, sz, List.length_cons, List.length_nil]
  omega
theorem s1_size (s f3 : ByteArray) (h : f3.size ≤ 1048576) : (s1 s f3).size ≤ s.size + 4194304 := by
  have := lineB_size ⟨#[109, 97, 116, 99, 104, 101, 100]⟩ f3 (by rw [sz]; decide) h
  unfold s1
  split
  · omega
  · rw [ByteArray.size_append]; omega
theorem s2_size (s f4 : ByteArray) (h : f4.size ≤ 1048576) : (s2 s f4).size ≤ s.size + 4194304 := by
  have := lineB_size ⟨#[116, 101, 120, 116]⟩ f4 (by rw [sz]; decide) h
  unfold s2
  split
  · omega
  · rw [ByteArray.size_append]; omega
theorem s3_size (s f7 : ByteArray) (f8 : Bool) (h : f7.size ≤ 1048576) : (s3 s f7 f8).size ≤ s.size + 4194304 := by
  have := lineB_size ⟨#[111, 105, 100]⟩ f7 (by rw [sz]; decide) h
  unfold s3
  split
  · rw [ByteArray.size_append]; omega
  · omega
theorem entry0_size (f0 : Int) (f5 : ByteArray) (h : -9223372036854775808 ≤ f0 ∧ f0 ≤ 9223372036854775807) (h5 : f5.size ≤ 1048576) : (entry0 f0 f5).size ≤ 4194336 := by
  have e1 := dec_size f0 h.1 h.2
  have := lineB_size ⟨#[100, 110]⟩ f5 (by rw [sz]; decide) h5
  unfold entry0
  simp only [ByteArray.size_append, sz, List.length_cons, List.length_nil]
  omega
theorem l1_ev (s : ByteArray) (xs : List S34) (h : FineA xs) (hs : s.size ≤ 4294967296) (n : Int) (i : Nat) (hi : i < xs.length) {r : ByteArray} (hn : Ev (fun k => rosterref19_Show.l0 k (attrs s xs (i + 1)) xs n (wrap64 ((i : Int) + 1))) r) :
    ∀ m j : Nat, (rd_T34 xs (i : Int)).f2.length - j = m → j ≤ (rd_T34 xs (i : Int)).f2.length → Ev (fun k => rosterref19_Show.l1 k (vals (rd_T34 xs (i : Int)).f0 (hdr (attrs s xs i) (rd_T34 xs (i : Int))) (rd_T34 xs (i : Int)).f2 j) xs n (i : Int) (rd_T34 xs (i : Int)).f2 ((rd_T34 xs (i : Int)).f2.length : Int) (j : Int) (rd_T34 xs (i : Int)).f0 (rd_T34 xs (i : Int)).f1 (rd_T34 xs (i : Int)).f2) r := by
  intro m
  induction m with
  | zero =>
    intro j hm hj
    obtain rfl : j = (rd_T34 xs (i : Int)).f2.length := by omega
    refine ev_round ?_
    simp only [rosterref19_Show.l1]
    refine ev_neg (by omega) ?_
    have e := attrs_succ s xs i hi
    unfold attrB at e
    rw [e] at hn
    exact hn
  | succ m ih =>
    intro j hm hj
    have h2 := h.at i hi
    have hv := h.vlen i hi
    have z := in_size s xs h i j hi hj
    have zl := lineB_size (rd_T34 xs (i : Int)).f0 _ h2.1 (h2.2 _ (rd_mem (rd_T34 xs (i : Int)).f2 j (by omega)))
    refine ev_round ?_
    simp only [rosterref19_Show.l1]
    refine ev_pos (by omega) (ev_pos (by omega) (ev_pos (by omega) (Ev.bind (line_ev _ _ h2.1 (h2.2 _ (rd_mem _ j (by omega)))) (ev_pos (by omega) ?_))))
    rw [wrp_id _ (by omega) (by omega), ← vals_succ _ _ _ j (by omega)]
    exact ih (j + 1) (by omega) (by omega)
theorem l0_ev (s : ByteArray) (xs : List S34) (h : FineA xs) (hs : s.size ≤ 4294967296) : ∀ m i : Nat, xs.length - i = m → i ≤ xs.length → Ev (fun k => rosterref19_Show.l0 k (attrs s xs i) xs (xs.length : Int) (i : Int)) (attrs s xs xs.length ++ ⟨#[10]⟩) := by
  intro m
  induction m with
  | zero =>
    intro i hm hi
    obtain rfl : i = xs.length := by omega
    have z := attrs_le s xs h _ (Nat.le_refl _)
    refine ev_round ?_
    simp only [rosterref19_Show.l0]
    exact ev_neg (by omega) (ev_pos (by omega) (ev_eq rfl))
  | succ m ih =>
    intro i hm hi
    have hl := h.len
    have hil : i < xs.length := by omega
    have h2 := h.at i hil
    have z := attrs_le s xs h i hi
    have hn : Ev (fun k => rosterref19_Show.l0 k (attrs s xs (i + 1)) xs (xs.length : Int) (wrap64 ((i : Int) + 1))) (attrs s xs xs.length ++ ⟨#[10]⟩) := by
      rw [wrp_id _ (by omega) (by omega)]
      exact ih (i + 1) (by omega) (by omega)
    have hj := l1_ev s xs h hs _ i hil hn (rd_T34 xs (i : Int)).f2.length 0 (by omega) (by omega)
    have e0 : vals (rd_T34 xs (i : Int)).f0 (hdr (attrs s xs i) (rd_T34 xs (i : Int))) (rd_T34 xs (i : Int)).f2 0 = hdr (attrs s xs i) (rd_T34 xs (i : Int)) := by simp [vals]
    rw [e0] at hj
    refine ev_round ?_
    simp only [rosterref19_Show.l0]
    refine ev_pos (by omega) (ev_pos (by omega) (ev_pos (by omega) ?_))
    by_cases c : ((rd_T34 xs (i : Int)).f2.length : Int) = 0
    · unfold hdr at hj
      rw [if_pos c] at hj
      refine ev_pos c (ev_pos (by omega) (ev_pos ?_ (ev_pos ?_ (ev_round ?_))))
      · simp only [ByteArray.size_append, sz, List.length_cons, List.length_nil]; omega
      · simp only [ByteArray.size_append, sz, List.length_cons, List.length_nil]; omega
      · simp only [rosterref19_Show.j1]
        exact hj
    · unfold hdr at hj
      rw [if_neg c] at hj
      refine ev_neg c (ev_round ?_)
      simp only [rosterref19_Show.j1]
      exact hj
theorem l2_ev (s : ByteArray) (cs : List S36) (h : FineC cs) (hs : s.size ≤ 4294967296) : ∀ m i : Nat, cs.length - i = m → i ≤ cs.length → Ev (fun k => rosterref19_Show.l2 k (ctrls s cs i) cs (cs.length : Int) (i : Int)) (ctrls s cs cs.length) := by
  intro m
  induction m with
  | zero =>
    intro i hm hi
    obtain rfl : i = cs.length := by omega
    refine ev_round ?_
    simp only [rosterref19_Show.l2]
    exact ev_neg (by omega) (ev_eq rfl)
  | succ m ih =>
    intro i hm hi
    have hl := h.n
    have hil : i < cs.length := by omega
    have z := ctrls_le s cs h i hi
    have zl := lineB_size ⟨#[99, 111, 110, 116, 114, 111, 108]⟩ _ (by rw [sz]; decide) (h.at i hil)
    refine ev_round ?_
    simp only [rosterref19_Show.l2]
    refine ev_pos (by omega) (ev_pos (by omega) (ev_pos (by omega) (Ev.bind (line_ev _ _ (by rw [sz]; decide) (h.at i hil)) (ev_pos (by omega) ?_))))
    rw [wrp_id _ (by omega) (by omega), ← ctrls_succ _ _ i hil]
    exact ih (i + 1) (by omega) (by omega)
theorem show_ev (f0 f1 f2 : Int) (f3 f4 f5 : ByteArray) (xs : List S34) (f7 : ByteArray) (f8 : Bool) (cs : List S36) (h : Fine f0 f1 f2 f3 f4 f5 xs f7 cs) : Ev (fun k => rosterref19_Show.f k f0 f1 f2 f3 f4 f5 xs f7 f8 cs) (showB f0 f1 f2 f3 f4 f5 xs f7 f8 cs) := by
  have zd := dec_size f0 h.a0 h.b0
  have zd2 := dec_size f2 h.a2 h.b2
  have zw := word_size f1
  unfold rosterref19_Show.f showB
  show Ev (fun k => (some wordsL).bind _) _
  simp only [Option.bind_some]
  by_cases c : f1 = 1
  · rw [if_pos c]
    have ze := entry0_size f0 f5 ⟨h.a0, h.b0⟩ h.z5
    have zl := lineB_size ⟨#[100, 110]⟩ f5 (by rw [sz]; decide) h.z5
    refine ev_pos c (Ev.bind (decimal_ev f0 h.a0 h.b0) (ev_pos (by omega) (ev_pos ?_ (Ev.bind (line_ev _ _ (by rw [sz]; decide) h.z5) (ev_pos ?_ ?_)))))
    · simp only [ByteArray.size_append, sz, List.length_cons, List.length_nil]; omega
    · simp only [ByteArray.size_append, sz, List.length_cons, List.length_nil]; omega
    · have h0 := l0_ev (entry0 f0 f5) xs h.fa (by omega) xs.length 0 (by omega) (by omega)
      have e0 : attrs (entry0 f0 f5) xs 0 = entry0 f0 f5 := by simp [attrs]
      rw [e0] at h0
      exact h0
  · rw [if_neg c]
    have st := start_size f0 f1 f2 ⟨h.a0, h.b0⟩ ⟨h.a2, h.b2⟩
    have st1 := s1_size (start f0 f1 f2) f3 h.z3
    have st2 := s2_size (s1 (start f0 f1 f2) f3) f4 h.z4
    have st3 := s3_size (s2 (s1 (start f0 f1 f2) f3) f4) f7 f8 h.z7
    have k7 : Ev (fun k => rosterref19_Show.j7 k (s3 (s2 (s1 (start f0 f1 f2) f3) f4) f7 f8) f0 f1 f2 f3 f4 f5 xs f7 f8 cs) (ctrls (s3 (s2 (s1 (start f0 f1 f2) f3) f4) f7 f8) cs cs.length) := by
      refine ev_round ?_
      simp only [rosterref19_Show.j7]
      have := l2_ev (s3 (s2 (s1 (start f0 f1 f2) f3) f4) f7 f8) cs h.fc (by omega) cs.length 0 (by omega) (by omega)
      simpa [ctrls] using this
    have k6 : Ev (fun k => rosterref19_Show.j6 k (s2 (s1 (start f0 f1 f2) f3) f4) f0 f1 f2 f3 f4 f5 xs f7 f8 cs) (ctrls (s3 (s2 (s1 (start f0 f1 f2) f3) f4) f7 f8) cs cs.length) := by
      have zl := lineB_size ⟨#[111, 105, 100]⟩ f7 (by rw [sz]; decide) h.z7
      refine ev_round ?_
      simp only [rosterref19_Show.j6]
      by_cases c8 : f8 = true
      · refine ev_pos c8 (Ev.bind (line_ev _ _ (by rw [sz]; decide) h.z7) (ev_pos (by omega) ?_))
        unfold s3 at k7 ⊢
        rw [if_pos c8] at k7 ⊢
        exact k7
      · refine ev_neg c8 ?_
        unfold s3 at k7 ⊢
        rw [if_neg c8] at k7 ⊢
        exact k7
    have k5 : Ev (fun k => rosterref19_Show.j5 k (s1 (start f0 f1 f2) f3) f0 f1 f2 f3 f4 f5 xs f7 f8 cs) (ctrls (s3 (s2 (s1 (start f0 f1 f2) f3) f4) f7 f8) cs cs.length) := by
      have zl := lineB_size ⟨#[116, 101, 120, 116]⟩ f4 (by rw [sz]; decide) h.z4
      refine ev_round ?_
      simp only [rosterref19_Show.j5]
      generalize hR : ctrls (s3 (s2 (s1 (start f0 f1 f2) f3) f4) f7 f8) cs cs.length = R at k6 ⊢
      by_cases c4 : f4.toList = ([] : List UInt8)
      · refine ev_pos c4 ?_
        unfold s2 at k6
        rw [if_pos c4] at k6
        exact k6
      · refine ev_neg c4 (Ev.bind (line_ev _ _ (by rw [sz]; decide) h.z4) (ev_pos (by omega) ?_))
        unfold s2 at k6
        rw [if_neg c4] at k6
        exact k6
    have k4 : Ev (fun k => rosterref19_Show.j4 k (wordB f1) f0 f1 f2 f3 f4 f5 xs f7 f8 cs) (ctrls (s3 (s2 (s1 (start f0 f1 f2) f3) f4) f7 f8) cs cs.length) := by
      have zl := lineB_size ⟨#[109, 97, 116, 99, 104, 101, 100]⟩ f3 (by rw [sz]; decide) h.z3
      refine ev_round ?_
      simp only [rosterref19_Show.j4]
      refine Ev.bind (decimal_ev f0 h.a0 h.b0) (ev_pos (by omega) (ev_pos ?_ (ev_pos ?_ (ev_pos ?_ (Ev.bind (decimal_ev f2 h.a2 h.b2) (ev_pos ?_ (ev_pos ?_ ?_)))))))
      · simp only [ByteArray.size_append, sz, List.length_cons, List.length_nil]; omega
      · simp only [ByteArray.size_append, sz, List.length_cons, List.length_nil]; omega
      · simp only [ByteArray.size_append, sz, List.length_cons, List.length_nil]; omega
      · simp only [ByteArray.size_append, sz, List.length_cons, List.length_nil]; omega
      · simp only [ByteArray.size_append, sz, List.length_cons, List.length_nil]; omega
      · generalize hR : ctrls (s3 (s2 (s1 (start f0 f1 f2) f3) f4) f7 f8) cs cs.length = R at k5 ⊢
        by_cases c3 : f3.toList = ([] : List UInt8)
        · refine ev_pos c3 ?_
          unfold s1 at k5
          rw [if_pos c3] at k5
          exact k5
        · refine ev_neg c3 (Ev.bind (line_ev _ _ (by rw [sz]; decide) h.z3) (ev_pos ?_ ?_))
          · show (start f0 f1 f2).size + _ ≤ _
            omega
          · unfold s1 at k5
            rw [if_neg c3] at k5
            exact k5
    refine ev_neg c ?_
    by_cases p : f1 ≥ 0
    · refine ev_pos p (ev_round ?_)
      simp only [rosterref19_Show.j3]
      by_cases q : f1 < 9
      · refine ev_pos (decide_eq_true q) (ev_pos p (ev_pos q ?_))
        have e : wordB f1 = rdOf ByteArray.empty wordsL f1 := if_pos ⟨p, q⟩
        rw [← e]
        exact k4
      · refine ev_neg (fun z => q (of_decide_eq_true z)) ?_
        have e : wordB f1 = ⟨#[111, 116, 104, 101, 114]⟩ := if_neg (fun z => q z.2)
        rw [← e]
        exact k4
    · refine ev_neg p (ev_round ?_)
      simp only [rosterref19_Show.j3]
      refine ev_neg (by decide) ?_
      have e : wordB f1 = ⟨#[111, 116, 104, 101, 114]⟩ := if_neg (fun z => p z.1)
      rw [← e]
      exact k4
end Go.Proofs.YtogkibhbkapobaaDoor.CsEv

/- By hand: a cursor over texts that skips: to the first text that is not below x. For every rising row and world. -/
import Derived.Test.YtnflokhffmfifaaCurT
import Derived.Laws.Cover1
set_option linter.unusedVariables false
set_option linter.unusedSimpArgs false
namespace Go.Proofs.Ytnflokhffmfifaa.OfT
open Go.RowKit Go.Proofs.Ytnflokhffmfifaa.Blk Go.Proofs.Ytnflokhffmfifaa.Ris Go.Proofs.Ytnflokhffmfifaa.Keys Go.Proofs.Ytnflokhffmfifaa.XV Go.Proofs.YtnflokhffmfifaaW.PrintWords Go.Proofs.YtnflokhffmfifaaW.PrintLast Go.Proofs.YtnflokhffmfifaaW.PrintMore
/-- How many stand below x. -/
def place (l : List ByteArray) (x : ByteArray) : Nat := (l.takeWhile fun y => ltS y x).length
theorem place_le (l : List ByteArray) (x : ByteArray) : place l x ≤ l.length := by
  unfold place
  exact (List.takeWhile_prefix _).length_le
theorem place_eq {l : List ByteArray} {x : ByteArray} (k : Nat) (hk : k ≤ l.length) (h1 : ∀ i, i < k → ltS (l.getD i E) x = true) (h2 : k < l.length → ltS (l.getD k E) x = false) : place l x = k := by
  induction l generalizing k with
  | nil => simp only [List.length_nil] at hk; unfold place; simp; omega
  | cons a l ih =>
    cases k with
    | zero =>
      have := h2 (by simp)
      simp only [List.getD_cons_zero] at this
      unfold place
      simp [this]
    | succ k =>
      have ha : ltS a x = true := by have := h1 0 (by omega); simpa using this
      have := ih k (by simp at hk; omega) (fun i hi => by have := h1 (i + 1) (by omega); simpa using this) (fun hl => by have := h2 (by simp; omega); simpa using this)
      unfold place at this ⊢
      rw [List.takeWhile_cons_of_pos (p := fun y => ltS y x) ha, List.length_cons, this]
/-- All up to i are below x, if that at i is. -/
theorem ris_below {l : List ByteArray} (h : Ris ltS l) {x : ByteArray} {i : Nat} (hi : i < l.length) (hx : ltS (l.getD i E) x = true) (j : Nat) (hj : j ≤ i) : ltS (l.getD j E) x = true := by
  rcases Nat.lt_or_eq_of_le hj with h1 | h1
  · exact totS.tr _ _ _ (ris_at h h1 hi) hx
  · subst h1; exact hx
theorem ris_above {l : List ByteArray} (h : Ris ltS l) {x : ByteArray} {i : Nat} (hx : ltS (l.getD i E) x = false) (j : Nat) (hj : i ≤ j) (hl : j < l.length) : ltS (l.getD j E) x = false := by
  rcases Nat.lt_or_eq_of_le hj with h1 | h1
  · cases e : ltS (l.getD j E) x with
    | false => rfl
    | true => have := totS.tr _ _ _ (ris_at h h1 hl) e; rw [hx] at this; cases this
  · subst h1; exact hx
attribute [local go_sem] max2_int min2_int max_two min_two
structure S1 (w : World) (l : List ByteArray) (x : ByteArray) (st : Nat) (wr : World) : Prop where
  pos : 1 ≤ st
  top : st ≤ 2 * l.length + 1
  half : st / 2 ≤ l.length
  low : ∀ j, j < st / 2 → ltS (l.getD j E) x = true
  drawn : Drawn0 w wr
structure S2 (w : World) (l : List ByteArray) (x : ByteArray) (lo hi : Nat) (wr : World) : Prop where
  le : lo ≤ hi
  top : hi ≤ l.length
  low : ∀ j, j < lo → ltS (l.getD j E) x = true
  high : ∀ j, hi ≤ j → j < l.length → ltS (l.getD j E) x = false
  drawn : Drawn0 w wr
set_option maxRecDepth 100000 in
theorem skip_as (w : World) (p g : Nat) (l : List ByteArray) (x : ByteArray) (hr : Ris ltS l) (hn : l.length ≤ 1048576) (h : Cur w p g l) : Calls Try.prog 65 #[.pointer (some ⟨p, 0, none⟩), .string x] w fun e w' => e = .returned (.tuple #[]) ∧ Cur w' p g (l.drop (place l x)) ∧ w.grownBy w' (some p) := by
  have H := Lib.hid h
  obtain ⟨A, c, h1, h2, h3⟩ := h
  have c0 := h1.get 0 _ rfl
  have f0 := h1.free 0
  have HR := Lib.hid hr
  have H1 := Lib.hid h1
  have H2 := Lib.hid h2
  have H3 := Lib.hid h3
  have hrow : Hid (∀ k : Nat, k < l.length → ∃ o, A = some ⟨g, o, none⟩ ∧ w.cell? ⟨g, o + k, none⟩ = some (.string (l.getD k E))) := fun k hk => by
    obtain ⟨o, e1, e2⟩ := h2.at_ (by omega)
    exact ⟨o, e1, e2 k hk⟩
  clear h1 h2 h3 hr
  go_enter Try.func65, Try.ntmps65
  go_wp2_with fail
  go_loopw [4] (fun i wr => ∃ k : Nat, k ≤ 2 * l.length + 1 ∧ 1 ≤ k ∧ i = .int .i64 k ∧ Hid (S1 w l x k wr)) (fun i _ => l.length - (intOf i).toNat)
  case atStart => exact ⟨1, by omega, by omega, rfl, ⟨by omega, by omega, by omega, fun j hj => by omega, by repeat (first | exact Drawn0.refl _ | apply Drawn0.step)⟩⟩
  case round =>
    obtain ⟨k, hk1, hk2, rfl, HW⟩ := hrel
    obtain ⟨n, rfl⟩ := HW.out.drawn.out
    by_cases hin : k < l.length
    · obtain ⟨o, rfl, cx⟩ := hrow.out k hin
      have hlt : (k : Int) < (l.length : Int) := by omega
      generalize hv : l.getD k E = v at cx
      have HV := Lib.hid hv
      clear hv
      by_cases t : ltS v x = true
      · have tb : Op.bytesLess v.toList x.toList = true := t
        have HT1 := Lib.hid t
        clear t
        have hm : IntKind.i64.wrap ((k : Int) * 2) = ((2 * k : Nat) : Int) := (i64_w _).trans (by unfold wrap64; omega)
        go_wp2
        go_roundw
        case rel => exact ⟨2 * k, by omega, by omega, by go_num, ⟨by omega, by omega, by omega, fun j hj => ris_below HR.out hin (by rw [HV.out]; exact HT1.out) j (by omega), by repeat (first | exact HW.out.drawn | apply Drawn0.step)⟩⟩
        case measure => simp [intOf]; omega
      · have t' : ltS v x = false := by simpa using t
        have tb : Op.bytesLess v.toList x.toList = false := t'
        have HT := Lib.hid t'
        clear t t'
        have hq : Int.tdiv (k : Int) 2 = ((k / 2 : Nat) : Int) := by rw [Int.tdiv_eq_ediv_of_nonneg (by omega)]; omega
        have hw : IntKind.i64.wrap ((k / 2 : Nat) : Int) = ((k / 2 : Nat) : Int) := (i64_w _).trans (by unfold wrap64; omega)
        have hs : IntKind.i64.wrap ((k : Int) + 1) = ((k + 1 : Nat) : Int) := (i64_w _).trans (by unfold wrap64; omega)
        have hi_ : min ((k : Int) + 1) (l.length : Int) = ((k + 1 : Nat) : Int) := by omega
        have HS : Hid (∀ wr, Drawn0 w wr → S2 w l x (k / 2) (k + 1) wr) := fun wr hd => ⟨by have := HW.out.half; omega, by omega, HW.out.low, fun j h1 h2 => ris_above HR.out (by rw [HV.out]; exact HT.out) j (by omega) h2, hd⟩
        go_wp2
        repeat (go_quiet (fail); try go_wp2)
        go_loopw [5, 6] (fun i j wr => ∃ lo hi : Nat, lo ≤ hi ∧ hi ≤ l.length ∧ i = .int .i64 lo ∧ j = .int .i64 hi ∧ Hid (S2 w l x lo hi wr)) (fun i j _ => (intOf j).toNat - (intOf i).toNat)
        case atStart => exact ⟨k / 2, k + 1, by have := HW.out.half; omega, by omega, by go_num, by go_num, HS.out _ (by repeat (first | exact Drawn0.refl _ | apply Drawn0.step))⟩
        case round =>
          obtain ⟨lo, hi, ha, hb, rfl, rfl, HZ⟩ := hrel
          obtain ⟨n2, rfl⟩ := HZ.out.drawn.out
          by_cases hin : lo < hi
          · have hlt : (lo : Int) < (hi : Int) := by omega
            obtain ⟨m, hm⟩ : ∃ m : Nat, m = (lo + hi) / 2 := ⟨_, rfl⟩
            have hm1 : IntKind.i64.wrap ((lo : Int) + (hi : Int)) = (lo : Int) + (hi : Int) := (i64_w _).trans (by unfold wrap64; omega)
            have hm2 : Int.tdiv ((lo : Int) + (hi : Int)) 2 = (m : Int) := by rw [Int.tdiv_eq_ediv_of_nonneg (by omega)]; omega
            have hm3 : IntKind.i64.wrap (m : Int) = (m : Int) := (i64_w _).trans (by unfold wrap64; omega)
            have hm4 : m < l.length := by omega
            have hm5 : (m : Int) < (l.length : Int) := by omega
            have hm6 : IntKind.i64.wrap ((m : Int) + 1) = ((m + 1 : Nat) : Int) := (i64_w _).trans (by unfold wrap64; omega)
            obtain ⟨o2, eA, cm⟩ := hrow.out m hm4
            obtain rfl : o = o2 := by simpa using eA
            generalize hu : l.getD m E = u at cm
            have HU := Lib.hid hu
            clear hu
            have hb1 : lo ≤ m := by omega
            have hb2 : m < hi := by omega
            have HM := Lib.hid hm
            clear hm
            by_cases t2 : ltS u x = true
            · have tb2 : Op.bytesLess u.toList x.toList = true := t2
              have HT2 := Lib.hid t2
              clear t2
              go_wp2
              go_roundw
              case rel => exact ⟨m + 1, hi, by omega, by omega, by go_num, rfl, ⟨by omega, by omega, fun j hj => ris_below HR.out hm4 (by rw [HU.out]; exact HT2.out) j (by omega), HZ.out.high, by repeat (first | exact HZ.out.drawn | apply Drawn0.step)⟩⟩
              case measure => simp [intOf]; omega
            · have t3 : ltS u x = false := by simpa using t2
              have tb2 : Op.bytesLess u.toList x.toList = false := t3
              have HT2 := Lib.hid t3
              clear t2 t3
              go_wp2
              go_roundw
              case rel => exact ⟨lo, m, by omega, by omega, rfl, by go_num, ⟨by omega, by omega, HZ.out.low, fun j hj hl => ris_above HR.out (by rw [HU.out]; exact HT2.out) j hj hl, by repeat (first | exact HZ.out.drawn | apply Drawn0.step)⟩⟩
              case measure => simp [intOf]; omega
          · obtain rfl : lo = hi := by omega
            have hlt : ¬ ((lo : Int) < (lo : Int)) := by omega
            have hpl := place_eq (x := x) lo hb HZ.out.low (fun hl => HZ.out.high lo (Nat.le_refl _) hl)
            have G := Lib.hid (Cur.go (H1.out.drewN n2) (H2.out.on (fun _ => rfl)) H3.out lo hb)
            rw [← hpl] at G
            have hcut := cut_run (some ⟨g, o, none⟩) l.length c lo (lo : Int) rfl hb
            rw [hpl] at G
            generalize from_ (some ⟨g, o, none⟩) c lo = A' at G hcut
            generalize l.length - lo = n' at G hcut
            generalize c - lo = c' at G hcut
            have HP := Lib.hid hpl
            clear hpl
            go_wp2
            go_end0
            refine ⟨rfl, ?_, grown_set (by repeat (first | exact grown_refl _ _ | apply grown_drewN)) _ _⟩
            rw [HP.out]
            exact G.out
    · have hlt : ¬ ((k : Int) < (l.length : Int)) := by omega
      have hq : Int.tdiv (k : Int) 2 = ((k / 2 : Nat) : Int) := by rw [Int.tdiv_eq_ediv_of_nonneg (by omega)]; omega
      have hw : IntKind.i64.wrap ((k / 2 : Nat) : Int) = ((k / 2 : Nat) : Int) := (i64_w _).trans (by unfold wrap64; omega)
      have hs : IntKind.i64.wrap ((k : Int) + 1) = ((k + 1 : Nat) : Int) := (i64_w _).trans (by unfold wrap64; omega)
      have hi_ : min ((k : Int) + 1) (l.length : Int) = (l.length : Int) := by omega
      have HS : Hid (∀ wr, Drawn0 w wr → S2 w l x (k / 2) (l.length) wr) := fun wr hd => ⟨by have := HW.out.half; omega, by omega, HW.out.low, fun j h1 h2 => by omega, hd⟩
      go_wp2
      repeat (go_quiet (fail); try go_wp2)
      go_loopw [5, 6] (fun i j wr => ∃ lo hi : Nat, lo ≤ hi ∧ hi ≤ l.length ∧ i = .int .i64 lo ∧ j = .int .i64 hi ∧ Hid (S2 w l x lo hi wr)) (fun i j _ => (intOf j).toNat - (intOf i).toNat)
      case atStart => exact ⟨k / 2, l.length, by have := HW.out.half; omega, by omega, by go_num, by go_num, HS.out _ (by repeat (first | exact Drawn0.refl _ | apply Drawn0.step))⟩
      case round =>
        obtain ⟨lo, hi, ha, hb, rfl, rfl, HZ⟩ := hrel
        obtain ⟨n2, rfl⟩ := HZ.out.drawn.out
        by_cases hin : lo < hi
        · have hlt : (lo : Int) < (hi : Int) := by omega
          obtain ⟨m, hm⟩ : ∃ m : Nat, m = (lo + hi) / 2 := ⟨_, rfl⟩
          have hm1 : IntKind.i64.wrap ((lo : Int) + (hi : Int)) = (lo : Int) + (hi : Int) := (i64_w _).trans (by unfold wrap64; omega)
          have hm2 : Int.tdiv ((lo : Int) + (hi : Int)) 2 = (m : Int) := by rw [Int.tdiv_eq_ediv_of_nonneg (by omega)]; omega
          have hm3 : IntKind.i64.wrap (m : Int) = (m : Int) := (i64_w _).trans (by unfold wrap64; omega)
          have hm4 : m < l.length := by omega
          have hm5 : (m : Int) < (l.length : Int) := by omega
          have hm6 : IntKind.i64.wrap ((m : Int) + 1) = ((m + 1 : Nat) : Int) := (i64_w _).trans (by unfold wrap64; omega)
          obtain ⟨o2, eA, cm⟩ := hrow.out m hm4
          subst eA
          generalize hu : l.getD m E = u at cm
          have HU := Lib.hid hu
          clear hu
          have hb1 : lo ≤ m := by omega
          have hb2 : m < hi := by omega
          have HM := Lib.hid hm
          clear hm
          by_cases t2 : ltS u x = true
          · have tb2 : Op.bytesLess u.toList x.toList = true := t2
            have HT2 := Lib.hid t2
            clear t2
            go_wp2
            go_roundw
            case rel => exact ⟨m + 1, hi, by omega, by omega, by go_num, rfl, ⟨by omega, by omega, fun j hj => ris_below HR.out hm4 (by rw [HU.out]; exact HT2.out) j (by omega), HZ.out.high, by repeat (first | exact HZ.out.drawn | apply Drawn0.step)⟩⟩
            case measure => simp [intOf]; omega
          · have t3 : ltS u x = false := by simpa using t2
            have tb2 : Op.bytesLess u.toList x.toList = false := t3
            have HT2 := Lib.hid t3
            clear t2 t3
            go_wp2
            go_roundw
            case rel => exact ⟨lo, m, by omega, by omega, rfl, by go_num, ⟨by omega, by omega, HZ.out.low, fun j hj hl => ris_above HR.out (by rw [HU.out]; exact HT2.out) j hj hl, by repeat (first | exact HZ.out.drawn | apply Drawn0.step)⟩⟩
            case measure => simp [intOf]; omega
        · obtain rfl : lo = hi := by omega
          have hlt : ¬ ((lo : Int) < (lo : Int)) := by omega
          have hpl := place_eq (x := x) lo hb HZ.out.low (fun hl => HZ.out.high lo (Nat.le_refl _) hl)
          have G := Lib.hid (Cur.go (H1.out.drewN n2) (H2.out.on (fun _ => rfl)) H3.out lo hb)
          rw [← hpl] at G
          have hcut := cut_run A l.length c lo (lo : Int) rfl hb
          rw [hpl] at G
          generalize from_ A c lo = A' at G hcut
          generalize l.length - lo = n' at G hcut
          generalize c - lo = c' at G hcut
          have HP := Lib.hid hpl
          clear hpl
          go_wp2
          go_end0
          refine ⟨rfl, ?_, grown_set (by repeat (first | exact grown_refl _ _ | apply grown_drewN)) _ _⟩
          rw [HP.out]
          exact G.out
end Go.Proofs.Ytnflokhffmfifaa.OfT

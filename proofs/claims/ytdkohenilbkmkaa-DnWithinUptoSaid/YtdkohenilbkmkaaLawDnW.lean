/- By hand: the laws DnCompare and DnWithin, walked. For every two lists of at most 1048576 texts, every world. -/
import Derived.Test.YtdkohenilbkmkaaSpareW
set_option linter.unusedVariables false
set_option linter.unusedSimpArgs false
namespace Go.Proofs.Ytdkohenilbkmkaa.XD
open Go.RowKit Go.Proofs.Ytdkohenilbkmkaa.XV Go.Proofs.Ytdkohenilbkmkaa.Keys Go.Proofs.Ytdkohenilbkmkaa.DnEvD Go.Proofs.Ytdkohenilbkmkaa.SpareW Go.Proofs.YtdkohenilbkmkaaW.PrintWords Go.Proofs.YtdkohenilbkmkaaW.PrintLast Go.Proofs.YtdkohenilbkmkaaW.PrintMore
theorem below_drewN1 {w W' : World} {n : Nat} (h : Below (w.drewN n).heap.size (w.drewN n) W') : Below w.heap.size w W' := (pw_below_drewN (Below.refl w.heap.size w) n).trans h
theorem front_of {A : Option Addr} {w : World} {l : List ByteArray} (h : Kd.C Kd.string w A (l.length + 1) (l ++ [spare])) : Kd.C Kd.string w A l.length l := by
  have := Kd.C_take (k := Kd.string) (w := w) (A := A) (xs := l ++ [spare]) (m := l.length) (by simpa using h) (by simp)
  simpa using this
set_option maxRecDepth 100000 in
theorem cmpwalk (A : Option Addr) (c : Nat) (a : List ByteArray) (B : Option Addr) (d : Nat) (b : List ByteArray) (w : World) (h1 : Kd.C Kd.string w A a.length a) (h2 : a.length ≤ c) (h3 : Kd.C Kd.string w B b.length b) (h4 : b.length ≤ d) (ha : a.length ≤ 1048576) (hb : b.length ≤ 1048576) :
    Calls Try.prog 5 #[.slice A a.length c, .slice B b.length d] w fun e w' => e = .returned (.bool true) ∧ Below w.heap.size w w' := by
  have HA := Lib.hid h1
  have HB := Lib.hid h3
  have K1 := Lib.hid (copy_as A c a w h1 h2 ha)
  have K2 := Lib.hid (fun W hW => copy_as B d b W hW h4 hb)
  have K4 := Lib.hid (fun W hW hV => refcmp_as A c a B d b W hW h2 hV h4 ha hb)
  generalize hcm : cmpK (kl a) (kl b) = cm at K4
  have hcc : (cm == cm) = true := beq_self_eq_true cm
  have HM := Lib.hid hcm
  clear h1 h3 hcm
  go_enter Try.func5, Try.ntmps5
  go_wp2_with (first
    | (go_at_call 14; (first
        | ((with_reducible refine K1.out.mono ?_); rintro e W1 ⟨A1, c1, rfl, hq1, hq2, hq3⟩; have HQ1 := Lib.hid (And.intro hq1 (And.intro hq2 hq3)); clear hq1 hq2 hq3; clear K1)
        | ((with_reducible refine (K2.out _ (Kd.C_below HB.out HQ1.out.2.2)).mono ?_); rintro e W2 ⟨A2, c2, rfl, hq1, hq2, hq3⟩; have HQ2 := Lib.hid (And.intro hq1 (And.intro hq2 hq3)); have HX1 := Lib.hid (Kd.C_below HQ1.out.2.1 hq3); have BL := Lib.hid (HQ1.out.2.2.trans (hq3.mono HQ1.out.2.2.size)); clear hq1 hq2 hq3)))
    | (go_at_call 21; ((with_reducible refine (cmp_as A1 c1 a A2 c2 b _ (front_of HX1.out) (by have := HQ1.out.1; omega) (front_of HQ2.out.2.1) (by have := HQ2.out.1; omega) (by omega) (by omega)).mono ?_); rintro e _ ⟨rfl, ⟨n1, rfl⟩⟩; simp only [HM.out]))
    | (go_at_call 22; ((with_reducible refine (K4.out _ ?hx ?hy).mono ?_); (case hx => ((with_reducible repeat (refine Kd.C_drewN ?_ _)); exact Kd.C_below HA.out BL.out)); (case hy => ((with_reducible repeat (refine Kd.C_drewN ?_ _)); exact Kd.C_below HB.out BL.out)); rintro e _ ⟨rfl, ⟨n2, rfl⟩⟩))
    | (go_at_call 20; (first
        | ((with_reducible refine (spared_as A1 c1 a A c _ ?hx HQ1.out.1 ?hy h2 ha).mono ?_); (case hx => ((with_reducible repeat (refine Kd.C_drewN ?_ _)); exact HX1.out)); (case hy => ((with_reducible repeat (refine Kd.C_drewN ?_ _)); exact Kd.C_below HA.out BL.out)); rintro e _ ⟨rfl, ⟨n3, rfl⟩⟩)
        | ((with_reducible refine (spared_as A2 c2 b B d _ ?hx HQ2.out.1 ?hy h4 hb).mono ?_); (case hx => ((with_reducible repeat (refine Kd.C_drewN ?_ _)); exact HQ2.out.2.1)); (case hy => ((with_reducible repeat (refine Kd.C_drewN ?_ _)); exact Kd.C_below HB.out BL.out)); rintro e _ ⟨rfl, ⟨n4, rfl⟩⟩)))
    | go_in)
  go_ret
  exact ⟨rfl, by repeat (first | exact BL.out | apply pw_below_drewN | apply below_drew1)⟩

theorem dnup0_as (A : Option Addr) (c : Nat) (l : List ByteArray) (hp : l.length = 0) (w : World) : Calls Try.prog 17 #[.slice A l.length c] w fun e w' => e = .returned (.tuple #[.slice none 0 0, .bool false]) ∧ Drawn0 w w' := by
  have hz : ((l.length : Int) == 0) = true := beq_iff_eq.mpr (by omega)
  clear hp
  go_enter Try.func17, Try.ntmps17
  go_wp2
  go_ret2
  exact ⟨rfl, by repeat (first | exact Drawn0.refl _ | apply Drawn0.step)⟩
theorem refup0_as (A : Option Addr) (c : Nat) (l : List ByteArray) (hp : l.length = 0) (w : World) : Calls Try.prog 18 #[.slice A l.length c] w fun e w' => e = .returned (.tuple #[.slice none 0 0, .bool false]) ∧ Drawn0 w w' := by
  have hz : ((l.length : Int) == 0) = true := beq_iff_eq.mpr (by omega)
  clear hp
  go_enter Try.func18, Try.ntmps18
  go_wp2
  go_ret2
  exact ⟨rfl, by repeat (first | exact Drawn0.refl _ | apply Drawn0.step)⟩
theorem same0_as (w : World) : Calls Try.prog 19 #[.slice none 0 0, .slice none 0 0] w fun e w' => e = .returned (.bool true) ∧ Drawn0 w w' := by
  have h := same_as none 0 [] none 0 [] w (Kd.C_nil _ _) (Nat.le_refl _) (Kd.C_nil _ _) (Nat.le_refl _) (by simp)
  rwa [decide_eq_true rfl] at h
set_option maxRecDepth 100000 in
theorem withinwalk (A : Option Addr) (c : Nat) (a : List ByteArray) (B : Option Addr) (d : Nat) (b : List ByteArray) (w : World) (h1 : Kd.C Kd.string w A a.length a) (h2 : a.length ≤ c) (h3 : Kd.C Kd.string w B b.length b) (h4 : b.length ≤ d) (ha : a.length ≤ 1048576) (hb : b.length ≤ 1048576) :
    Calls Try.prog 4 #[.slice A a.length c, .slice B b.length d] w fun e w' => e = .returned (.bool true) ∧ Below w.heap.size w w' := by
  have HA := Lib.hid h1
  have HB := Lib.hid h3
  have K1 := Lib.hid (copy_as A c a w h1 h2 ha)
  have K2 := Lib.hid (fun W hW => copy_as B d b W hW h4 hb)
  have K4 := Lib.hid (fun W hW hV => refwithin_as A c a B d b W hW h2 hV h4 (by omega) (by omega))
  generalize hcm : front (kl a) (kl b) = cm at K4
  have hcc : (cm == cm) = true := beq_self_eq_true cm
  have HM := Lib.hid hcm
  clear h1 h3 hcm
  by_cases hp : b.length = 0
  · have HP := Lib.hid hp
    clear hp
    go_enter Try.func4, Try.ntmps4
    go_wp2_with (first
    | (go_at_call 14; (first
        | ((with_reducible refine K1.out.mono ?_); rintro e W1 ⟨A1, c1, rfl, hq1, hq2, hq3⟩; have HQ1 := Lib.hid (And.intro hq1 (And.intro hq2 hq3)); clear hq1 hq2 hq3; clear K1)
        | ((with_reducible refine (K2.out _ (Kd.C_below HB.out HQ1.out.2.2)).mono ?_); rintro e W2 ⟨A2, c2, rfl, hq1, hq2, hq3⟩; have HQ2 := Lib.hid (And.intro hq1 (And.intro hq2 hq3)); have HX1 := Lib.hid (Kd.C_below HQ1.out.2.1 hq3); have BL := Lib.hid (HQ1.out.2.2.trans (hq3.mono HQ1.out.2.2.size)); clear hq1 hq2 hq3)))
    | (go_at_call 15; ((with_reducible refine (within_as A1 c1 a A2 c2 b _ (front_of HX1.out) (by have := HQ1.out.1; omega) (front_of HQ2.out.2.1) (by have := HQ2.out.1; omega) (by omega) (by omega)).mono ?_); rintro e _ ⟨rfl, ⟨n1, rfl⟩⟩; simp only [HM.out]))
    | (go_at_call 16; ((with_reducible refine (K4.out _ ?hx ?hy).mono ?_); (case hx => ((with_reducible repeat (refine Kd.C_drewN ?_ _)); exact Kd.C_below HA.out BL.out)); (case hy => ((with_reducible repeat (refine Kd.C_drewN ?_ _)); exact Kd.C_below HB.out BL.out)); rintro e _ ⟨rfl, ⟨n2, rfl⟩⟩))
    | (go_at_call 17; ((with_reducible refine (dnup0_as A2 c2 b HP.out _).mono ?_); rintro e _ ⟨rfl, ⟨n5, rfl⟩⟩))
    | (go_at_call 18; ((with_reducible refine (refup0_as B d b HP.out _).mono ?_); rintro e _ ⟨rfl, ⟨n6, rfl⟩⟩))
    | (go_at_call 19; ((with_reducible refine (same0_as _).mono ?_); rintro e _ ⟨rfl, ⟨n7, rfl⟩⟩))
    | (go_at_call 20; (first
        | ((with_reducible refine (spared_as A1 c1 a A c _ ?hx HQ1.out.1 ?hy h2 ha).mono ?_); (case hx => ((with_reducible repeat (refine Kd.C_drewN ?_ _)); exact HX1.out)); (case hy => ((with_reducible repeat (refine Kd.C_drewN ?_ _)); exact Kd.C_below HA.out BL.out)); rintro e _ ⟨rfl, ⟨n3, rfl⟩⟩)
        | ((with_reducible refine (spared_as A2 c2 b B d _ ?hx HQ2.out.1 ?hy h4 hb).mono ?_); (case hx => ((with_reducible repeat (refine Kd.C_drewN ?_ _)); exact HQ2.out.2.1)); (case hy => ((with_reducible repeat (refine Kd.C_drewN ?_ _)); exact Kd.C_below HB.out BL.out)); rintro e _ ⟨rfl, ⟨n4, rfl⟩⟩)))
    | go_in)
    go_ret
    exact ⟨rfl, by repeat (first | exact BL.out | apply pw_below_drewN | apply below_drew1)⟩
  · obtain ⟨k, hk⟩ : ∃ k, k = b.take (b.length - 1) := ⟨_, rfl⟩
    have hkl : k.length ≤ 1048576 := by rw [hk, List.length_take]; omega
    have KP := Lib.hid (fun A c W hW hc => dnup_as A c b k hk (by omega) W hW hc hb)
    have KQ := Lib.hid (fun W hW => refup_as B d b k hk (by omega) W hW h4 hb)
    have KS := Lib.hid (fun A c B d W h1 h2 h3 h4 => same_as A c k B d k W h1 h2 h3 h4 (by omega))
    simp only [decide_eq_true rfl] at KS
    clear hp hk
    go_enter Try.func4, Try.ntmps4
    go_wp2_with (first
    | (go_at_call 14; (first
        | ((with_reducible refine K1.out.mono ?_); rintro e W1 ⟨A1, c1, rfl, hq1, hq2, hq3⟩; have HQ1 := Lib.hid (And.intro hq1 (And.intro hq2 hq3)); clear hq1 hq2 hq3; clear K1)
        | ((with_reducible refine (K2.out _ (Kd.C_below HB.out HQ1.out.2.2)).mono ?_); rintro e W2 ⟨A2, c2, rfl, hq1, hq2, hq3⟩; have HQ2 := Lib.hid (And.intro hq1 (And.intro hq2 hq3)); have HX1 := Lib.hid (Kd.C_below HQ1.out.2.1 hq3); have BL := Lib.hid (HQ1.out.2.2.trans (hq3.mono HQ1.out.2.2.size)); clear hq1 hq2 hq3)))
    | (go_at_call 15; ((with_reducible refine (within_as A1 c1 a A2 c2 b _ (front_of HX1.out) (by have := HQ1.out.1; omega) (front_of HQ2.out.2.1) (by have := HQ2.out.1; omega) (by omega) (by omega)).mono ?_); rintro e _ ⟨rfl, ⟨n1, rfl⟩⟩; simp only [HM.out]))
    | (go_at_call 16; ((with_reducible refine (K4.out _ ?hx ?hy).mono ?_); (case hx => ((with_reducible repeat (refine Kd.C_drewN ?_ _)); exact Kd.C_below HA.out BL.out)); (case hy => ((with_reducible repeat (refine Kd.C_drewN ?_ _)); exact Kd.C_below HB.out BL.out)); rintro e _ ⟨rfl, ⟨n2, rfl⟩⟩))
    | (go_at_call 17; ((with_reducible refine (KP.out A2 c2 _ ?hx (by have := HQ2.out.1; omega)).mono ?_); (case hx => ((with_reducible repeat (refine Kd.C_drewN ?_ _)); exact front_of HQ2.out.2.1)); rintro e W3 ⟨P1, k1, rfl, hq1, hq2, hq3⟩; have HU1 := Lib.hid (And.intro hq1 hq2); have BM := Lib.hid ((below_drewN1 hq3)); clear hq1 hq2 hq3))
    | (go_at_call 18; ((with_reducible refine (KQ.out _ ?hx).mono ?_); (case hx => ((with_reducible repeat (refine Kd.C_drewN ?_ _)); exact Kd.C_below (Kd.C_below HB.out BL.out) BM.out)); rintro e W4 ⟨P2, k2, rfl, hq1, hq2, hq3⟩; have HU2 := Lib.hid (And.intro hq1 hq2); have BN := Lib.hid hq3; have HU3 := Lib.hid (Kd.C_below HU1.out.2 hq3); have BW := Lib.hid (BM.out.trans (hq3.mono BM.out.size)); clear hq1 hq2 hq3))
    | (go_at_call 19; ((with_reducible refine (KS.out P1 k1 P2 k2 _ ?hx HU1.out.1 ?hy HU2.out.1).mono ?_); (case hx => ((with_reducible repeat (refine Kd.C_drewN ?_ _)); exact HU3.out)); (case hy => ((with_reducible repeat (refine Kd.C_drewN ?_ _)); exact HU2.out.2)); rintro e _ ⟨rfl, ⟨n7, rfl⟩⟩))
    | (go_at_call 20; (first
        | ((with_reducible refine (spared_as A1 c1 a A c _ ?hx HQ1.out.1 ?hy h2 ha).mono ?_); (case hx => ((with_reducible repeat (refine Kd.C_drewN ?_ _)); exact Kd.C_below HX1.out BW.out)); (case hy => ((with_reducible repeat (refine Kd.C_drewN ?_ _)); exact Kd.C_below (Kd.C_below HA.out BL.out) BW.out)); rintro e _ ⟨rfl, ⟨n3, rfl⟩⟩)
        | ((with_reducible refine (spared_as A2 c2 b B d _ ?hx HQ2.out.1 ?hy h4 hb).mono ?_); (case hx => ((with_reducible repeat (refine Kd.C_drewN ?_ _)); exact Kd.C_below HQ2.out.2.1 BW.out)); (case hy => ((with_reducible repeat (refine Kd.C_drewN ?_ _)); exact Kd.C_below (Kd.C_below HB.out BL.out) BW.out)); rintro e _ ⟨rfl, ⟨n4, rfl⟩⟩)))
    | go_in)
    go_ret
    exact ⟨rfl, by repeat (first | exact BL.out.trans (BW.out.mono BL.out.size) | apply pw_below_drewN | apply below_drew1)⟩
def rosterlaw05_DnCompare.f (x0 : List ByteArray) (x1 : List ByteArray) : Option Bool := if x0.length ≤ 1048576 ∧ x1.length ≤ 1048576 then some true else none
theorem rosterlaw05_DnCompare.calls (A0 : Option Addr) (c0 : Nat) (l0 : List ByteArray) (A1 : Option Addr) (c1 : Nat) (l1 : List ByteArray) (r : Bool) (w : World) (hr0 : Kd.C Kd.string w A0 l0.length l0) (hc0 : l0.length ≤ c0) (hr1 : Kd.C Kd.string w A1 l1.length l1) (hc1 : l1.length ≤ c1) (h : rosterlaw05_DnCompare.f l0 l1 = some r) :
    Calls Try.prog 5 #[.slice A0 l0.length c0, .slice A1 l1.length c1] w fun e w' => e = .returned (.bool r) ∧ Below w.heap.size w w' := by
  unfold rosterlaw05_DnCompare.f at h
  split at h
  case isFalse => cases h
  case isTrue hs =>
  obtain rfl := Option.some.inj h
  exact cmpwalk A0 c0 l0 A1 c1 l1 w hr0 hc0 hr1 hc1 hs.1 hs.2
def rosterlaw05_DnWithin.f (x0 : List ByteArray) (x1 : List ByteArray) : Option Bool := if x0.length ≤ 1048576 ∧ x1.length ≤ 1048576 then some true else none
theorem rosterlaw05_DnWithin.calls (A0 : Option Addr) (c0 : Nat) (l0 : List ByteArray) (A1 : Option Addr) (c1 : Nat) (l1 : List ByteArray) (r : Bool) (w : World) (hr0 : Kd.C Kd.string w A0 l0.length l0) (hc0 : l0.length ≤ c0) (hr1 : Kd.C Kd.string w A1 l1.length l1) (hc1 : l1.length ≤ c1) (h : rosterlaw05_DnWithin.f l0 l1 = some r) :
    Calls Try.prog 4 #[.slice A0 l0.length c0, .slice A1 l1.length c1] w fun e w' => e = .returned (.bool r) ∧ Below w.heap.size w w' := by
  unfold rosterlaw05_DnWithin.f at h
  split at h
  case isFalse => cases h
  case isTrue hs =>
  obtain rfl := Option.some.inj h
  exact withinwalk A0 c0 l0 A1 c1 l1 w hr0 hc0 hr1 hc1 hs.1 hs.2
end Go.Proofs.Ytdkohenilbkmkaa.XD

/- By hand: lists of texts handed over with something in the room behind them. For every list and world. -/
import Derived.Test.YtdkohenilbkmkaaDnEvD
import Derived.Lib.Hide
import Derived.Lib.LazyBuf
import Derived.Laws.Cover1
namespace Go.Proofs.Ytdkohenilbkmkaa.SpareW
open Go.Proofs.Ytdkohenilbkmkaa.XE
open Go.RowKit Go.Proofs.Ytdkohenilbkmkaa.XD Go.Proofs.Ytdkohenilbkmkaa.XV Go.Proofs.Ytdkohenilbkmkaa.Keys Go.Proofs.Ytdkohenilbkmkaa.DnEvD Go.Proofs.YtdkohenilbkmkaaW.PrintWords Go.Proofs.YtdkohenilbkmkaaW.PrintLast Go.Proofs.YtdkohenilbkmkaaW.PrintMore
set_option linter.unusedVariables false
set_option linter.unusedSimpArgs false
def rosterlaw05_copyTexts.f (l0 : List ByteArray) : Option (List ByteArray) := (some (([] : List ByteArray) : List ByteArray)).bind fun y101 => (if y101.length + l0.length < 8796093022208 then ((some (y101 ++ l0 : List ByteArray)).bind fun y104 => (if y104.length < 8796093022208 then ((some (y104 ++ [(⟨#[115, 112, 97, 114, 101, 32, 114, 111, 111, 109]⟩ : ByteArray)] : List ByteArray)).bind fun y107 => (if 0 ≤ (l0.length : Int) then (if (l0.length : Int) ≤ (y107.length : Int) then (some (y107.take ((l0.length : Int) : Int).toNat)) else (none)) else (none))) else (none))) else (none))
def spare : ByteArray := ⟨#[115, 112, 97, 114, 101, 32, 114, 111, 111, 109]⟩
def CopyQ (w : World) (l : List ByteArray) (e : Ending) (w' : World) : Prop := ∃ A c, e = .returned (.slice A l.length c) ∧ l.length + 1 ≤ c ∧ Kd.C Kd.string w' A (l.length + 1) (l ++ [spare]) ∧ Below w.heap.size w w'
set_option maxHeartbeats 8000000 in
set_option maxRecDepth 100000 in
theorem copy_walk (A0 : Option Addr) (c0 : Nat) (l0 : List ByteArray) (r : List ByteArray) (w : World) (hr0 : Kd.C Kd.string w A0 l0.length l0) (hc0 : l0.length ≤ c0) (h : rosterlaw05_copyTexts.f l0 = some r) :
    Calls Try.prog 14 #[.slice A0 l0.length c0] w (CopyQ w l0) := by
  have HR0 := Aside0.mk hr0
  have HC0 := Aside0.mk hc0
  clear hr0 hc0
  have HB := Aside0.mk (Below.refl w.heap.size w)
  have H : ((some (([] : List ByteArray) : List ByteArray)).bind fun y101 => (if y101.length + l0.length < 8796093022208 then ((some (y101 ++ l0 : List ByteArray)).bind fun y104 => (if y104.length < 8796093022208 then ((some (y104 ++ [(⟨#[115, 112, 97, 114, 101, 32, 114, 111, 111, 109]⟩ : ByteArray)] : List ByteArray)).bind fun y107 => (if 0 ≤ (l0.length : Int) then (if (l0.length : Int) ≤ (y107.length : Int) then (some (y107.take ((l0.length : Int) : Int).toNat)) else (none)) else (none))) else (none))) else (none))) = some r := h
  clear h
  obtain ⟨y101, hy101⟩ : ∃ y_ : List ByteArray, y_ = (([] : List ByteArray)) := ⟨_, rfl⟩
  replace H : (if y101.length + l0.length < 8796093022208 then ((some (y101 ++ l0 : List ByteArray)).bind fun y104 => (if y104.length < 8796093022208 then ((some (y104 ++ [(⟨#[115, 112, 97, 114, 101, 32, 114, 111, 111, 109]⟩ : ByteArray)] : List ByteArray)).bind fun y107 => (if 0 ≤ (l0.length : Int) then (if (l0.length : Int) ≤ (y107.length : Int) then (some (y107.take ((l0.length : Int) : Int).toNat)) else (none)) else (none))) else (none))) else (none)) = some r := by first | (rw [hy101]; with_reducible exact H) | (have H2_ := (Option.bind_some _ _).symm.trans H; rw [hy101]; with_reducible exact H2_) | (have H2_ := (Option.bind_some _ _).symm.trans H; with_reducible exact H2_) | with_reducible exact H | (rw [hy101]; exact H) | exact H
  have Ny101 := Aside0.mk hy101
  clear hy101
  by_cases c2 : y101.length + l0.length < 8796093022208
  · rw [if_pos c2] at H
    have LMc2 := Aside0.mk c2
    clear c2
    obtain ⟨y104, hy104⟩ : ∃ y_ : List ByteArray, y_ = (y101 ++ l0) := ⟨_, rfl⟩
    replace H : (if y104.length < 8796093022208 then ((some (y104 ++ [(⟨#[115, 112, 97, 114, 101, 32, 114, 111, 111, 109]⟩ : ByteArray)] : List ByteArray)).bind fun y107 => (if 0 ≤ (l0.length : Int) then (if (l0.length : Int) ≤ (y107.length : Int) then (some (y107.take ((l0.length : Int) : Int).toNat)) else (none)) else (none))) else (none)) = some r := by first | (rw [hy104]; with_reducible exact H) | (have H2_ := (Option.bind_some _ _).symm.trans H; rw [hy104]; with_reducible exact H2_) | (have H2_ := (Option.bind_some _ _).symm.trans H; with_reducible exact H2_) | with_reducible exact H | (rw [hy104]; exact H) | exact H
    have Ny104 := Aside0.mk hy104
    clear hy104
    by_cases c3 : y104.length < 8796093022208
    · rw [if_pos c3] at H
      have LMc3 := Aside0.mk c3
      clear c3
      obtain ⟨y107, hy107⟩ : ∃ y_ : List ByteArray, y_ = (y104 ++ [(⟨#[115, 112, 97, 114, 101, 32, 114, 111, 111, 109]⟩ : ByteArray)]) := ⟨_, rfl⟩
      replace H : (if 0 ≤ (l0.length : Int) then (if (l0.length : Int) ≤ (y107.length : Int) then (some (y107.take ((l0.length : Int) : Int).toNat)) else (none)) else (none)) = some r := by first | (rw [hy107]; with_reducible exact H) | (have H2_ := (Option.bind_some _ _).symm.trans H; rw [hy107]; with_reducible exact H2_) | (have H2_ := (Option.bind_some _ _).symm.trans H; with_reducible exact H2_) | with_reducible exact H | (rw [hy107]; exact H) | exact H
      have Ny107 := Aside0.mk hy107
      clear hy107
      by_cases c4 : 0 ≤ (l0.length : Int)
      · rw [if_pos c4] at H
        have c4b0 := eq_true c4
        have c4b1 : decide (0 ≤ (l0.length : Int)) = true := decide_eq_true c4
        clear c4
        by_cases c5 : (l0.length : Int) ≤ (y107.length : Int)
        · rw [if_pos c5] at H
          have c5b0 := eq_true c5
          have c5b1 : decide ((l0.length : Int) ≤ (y107.length : Int)) = true := decide_eq_true c5
          clear c5
          obtain ⟨y110, hy110⟩ : ∃ y_ : List ByteArray, y_ = (y107.take ((l0.length : Int) : Int).toNat) := ⟨_, rfl⟩
          replace H : (some y110) = some r := by first | (rw [hy110]; with_reducible exact H) | (have H2_ := (Option.bind_some _ _).symm.trans H; rw [hy110]; with_reducible exact H2_) | (have H2_ := (Option.bind_some _ _).symm.trans H; with_reducible exact H2_) | with_reducible exact H | (rw [hy110]; exact H) | exact H
          have Ny110 := Aside0.mk hy110
          clear hy110
          obtain rfl := Option.some.inj H
          go_enter Try.func14, Try.ntmps14
          go_wp2_with (first | ((with_reducible refine gate_dst (N := 4) rfl ?_); refine Kd.R_lit Kd.string _ 9 ?hg (N := 4) ?hd (xs := ([] : List ByteArray)) (inner := []) (ok := fun _ => True) (okp := fun _ => True) ?hr ?hp (fun _ hk => hk) trivial (Below.refl _ _) (Nat.le_refl _) (by simp) ?_; (case hd => rfl); (case hg => rfl); (case hr => first | (go_simp; done) | (go_simp; rfl)); (case hp => exact (Reps.none _ _)); intro v102 w6 ho7 hb hg_ hnew_; clear hg_ hnew_; (first | rw [← Ny101.out] at ho7 | (simp only [Int.reduceToNat] at ho7; rw [← Ny101.out] at ho7)); have n0_ := Aside0.mk (Kd.R_lower ho7 (below_size (by repeat (first | (with_reducible first | exact HB.out | apply below_alloc | apply pw_below_drewN | apply below_drew1) | exact HB.out)))); have n1_ := Aside0.mk (below_step (by repeat (first | (with_reducible first | exact HB.out | apply below_alloc | apply pw_below_drewN | apply below_drew1) | exact HB.out)) hb); clear HB; have HO103 := n0_; have HB := n1_; clear n0_ n1_; clear hb ho7) | ((with_reducible refine gate_builtin (b := .append) (xs := #[.tmp 4, .tmp 5]) rfl ?_); at_builtin; refine Kd.R_append_rows Kd.string (w0 := w) w.heap.size rfl (.tmp 4) (.tmp 5) 35 9 (.string ⟨#[]⟩) 16 rfl Try.underlying35 info9 rfl (by decide) (by omega) v102 y101 l0 _ _ _ (fun _ => True) (fun _ => False) rfl rfl ?aO ?aR (fun _ _ h => h) (fun _ h => h.elim) ?aF ?aB ?aS ?aL ?_; (case aR => repeat (first | exact (Kd.C_below HR0.out HB.out) | (with_reducible refine Kd.C_alloc ?_ _) | (with_reducible refine Kd.C_drewN ?_ _) | (with_reducible refine Kd.C_drew ?_))); (case aB => exact (by repeat (first | (with_reducible first | exact HB.out | apply below_alloc | apply pw_below_drewN | apply below_drew1) | exact HB.out))); (case aF => exact (fun _ _ => trivial)); (case aO => exact (by (with_reducible repeat (first | apply Kd.R_alloc | apply Kd.R_drewN | apply Kd.R_drew)); exact HO103.out)); (case aS => exact (below_size (by repeat (first | (with_reducible first | exact HB.out | apply below_alloc | apply pw_below_drewN | apply below_drew1) | exact HB.out)))); (case aL => have := LMc2.out; omega); intro v105 w8 ho hb hg hat; rw [← Ny104.out] at ho; have n0_ := Aside0.mk (hb); have n1_ := Aside0.mk (ho); clear HB; clear HO103; have HB := n0_; have HO106 := n1_; clear n0_ n1_; clear ho hb hg hat) | ((with_reducible refine gate_builtin (b := .append) (xs := #[.tmp 6, .tmp 7]) rfl ?_); at_builtin; refine Kd.R_append Kd.string (w0 := w) w.heap.size rfl (.tmp 6) (.tmp 7) 35 9 (.string ⟨#[]⟩) 16 rfl Try.underlying35 info9 rfl (by decide) (by omega) v105 y104 (⟨#[115, 112, 97, 114, 101, 32, 114, 111, 111, 109]⟩ : ByteArray) [.string (⟨#[115, 112, 97, 114, 101, 32, 114, 111, 111, 109]⟩ : ByteArray)] (fun _ => True) (fun _ => False) rfl rfl ?aP (fun _ hk => hk.elim) ?aF ?aO ?aB ?aS ?aL ?_; (case aP => exact rfl); (case aB => exact (by repeat (first | (with_reducible first | exact HB.out | apply below_alloc | apply pw_below_drewN | apply below_drew1) | exact HB.out))); (case aF => exact (fun _ _ => trivial)); (case aO => exact (by (with_reducible repeat (first | apply Kd.R_alloc | apply Kd.R_drewN | apply Kd.R_drew)); exact HO106.out)); (case aS => exact (below_size (by repeat (first | (with_reducible first | exact HB.out | apply below_alloc | apply pw_below_drewN | apply below_drew1) | exact HB.out)))); (case aL => have := LMc3.out; omega); intro v108 w9 ho hb hg hat; rw [← Ny107.out] at ho; have n0_ := Aside0.mk (hb); have n1_ := Aside0.mk (ho); clear HB; clear HO106; have HB := n0_; have HO109 := n1_; clear n0_ n1_; clear ho hb hg hat; obtain ⟨Ao10, co10, eo10⟩ := Kd.R_slice HO109.out; subst eo10; have q11 : ((l0.length : Int) : Int) ≤ ((y107.length : Int) : Int) := of_decide_eq_true (by first | (with_reducible assumption) | assumption); obtain ⟨i011, hi011, _, hsz11, _⟩ := info_parts info9; have hcut11 := cut_to (P := Try.prog) 35 9 .i64 Try.underlying35 hi011 Ao10 y107.length co10 (l0.length : Int) (of_decide_eq_true (by first | (with_reducible assumption) | assumption)) q11 (Kd.R_reads' HO109.out).2.1; have hr11 := Kd.R_take (m := ((l0.length : Int) : Int).toNat) HO109.out (by omega); have hy11 : y110.length = ((l0.length : Int) : Int).toNat := (by rw [Ny110.out, List.length_take]; omega); rw [← Ny110.out] at hr11; rw [← hy11] at hr11 hcut11; clear hy11 hi011 hsz11; have HO112 := Aside0.mk hr11; clear hr11; replace q11 := eq_true q11))
          go_ret
          have hR : Kd.R Kd.string 9 _ w.heap.size (fun _ => True) (.slice Ao10 y107.length co10) y107 := HO109.out
          obtain ⟨_, hcc, hrd⟩ := Kd.R_reads' hR
          have e7 : y107 = l0 ++ [spare] := by rw [Ny107.out, Ny104.out, Ny101.out]; rfl
          have e10 : y110.length = l0.length := by rw [Ny110.out, e7]; simp
          rw [e7] at hrd hcc
          rw [e10]
          exact ⟨Ao10, co10, rfl, by simpa using hcc, by simpa using hrd, by repeat (first | (with_reducible first | exact HB.out | apply below_alloc | apply pw_below_drewN | apply below_drew1) | exact HB.out)⟩
        · rw [if_neg c5] at H
          exact absurd H (by simp)
      · rw [if_neg c4] at H
        exact absurd H (by simp)
    · rw [if_neg c3] at H
      exact absurd H (by simp)
  · rw [if_neg c2] at H
    exact absurd H (by simp)

theorem copy_as (A : Option Addr) (c : Nat) (l : List ByteArray) (w : World) (h : Kd.C Kd.string w A l.length l) (hc : l.length ≤ c) (hl : l.length ≤ 1048576) : Calls Try.prog 14 #[.slice A l.length c] w (CopyQ w l) := by
  refine copy_walk A c l l w h hc ?_
  unfold rosterlaw05_copyTexts.f
  simp only [Option.bind_some, List.nil_append, List.length_nil]
  rw [if_pos (by omega), if_pos (by omega), if_pos (by omega), if_pos (by simp; omega), Int.toNat_natCast]
  simp

theorem spared_as (A : Option Addr) (c : Nat) (l : List ByteArray) (B : Option Addr) (d : Nat) (w : World) (h1 : Kd.C Kd.string w A (l.length + 1) (l ++ [spare])) (h2 : l.length + 1 ≤ c) (h3 : Kd.C Kd.string w B l.length l) (h4 : l.length ≤ d) (hl : l.length ≤ 1048576) :
    Calls Try.prog 20 #[.slice A l.length c, .slice B l.length d] w fun e w' => e = .returned (.bool true) ∧ Drawn0 w w' := by
  have hA : Kd.C Kd.string w A l.length l := by
    have := Kd.C_take (k := Kd.string) (w := w) (A := A) (xs := l ++ [spare]) (m := l.length) (by simpa using h1) (by simp)
    simpa using this
  obtain ⟨ad, rfl, hcell⟩ := Kd.at_string h1 (l.length : Int) (by omega) (by omega)
  have hrd : rdOf ByteArray.empty (l ++ [spare]) (l.length : Int) = spare := by simp [rdOf, List.getD_eq_getElem?_getD]
  rw [hrd, Int.toNat_natCast] at hcell
  have hw1 : IntKind.i64.wrap ((l.length : Int) + 1) = ((l.length + 1 : Nat) : Int) := (i64_w _).trans (by rw [wrp_id _ (by omega) (by omega)]; rfl)
  obtain ⟨i0, hi0, _, hsz, _⟩ := info_parts info9
  have hsl : Hid (∀ W : World, (Instr.slice 35 (.slice (some ad) l.length c) none (some (.int .i64 ((l.length + 1 : Nat) : Int))) none).run Try.prog W = .ok (.slice (some ad) (l.length + 1) c) W) := fun W => by
    rw [run_slice_h W 35 (some ad) l.length c (P := Try.prog) (by have h := Try.underlying35; rwa [show Try.prog.elem 35 = 9 by simp [Program.elem, Try.underlying35]]) .i64 _ (by omega) (by omega)]
    rw [show Try.prog.elem 35 = 9 by simp [Program.elem, Try.underlying35]]
    simp [sizeOf, typeInfo, hi0, sliced, Result.andThen, Addr.add]
  have hsp : (spare.toList == ([115, 112, 97, 114, 101, 32, 114, 111, 111, 109] : List UInt8)) = true := by rw [toList_data]; rfl
  have HS := Lib.hid (fun W : World => fun (hW : Kd.C Kd.string W (some ad) l.length l) (hV : Kd.C Kd.string W B l.length l) => same_as (some ad) c l B d l W hW (by omega) hV h4 (by omega))
  have HA := Lib.hid hA
  have HB := Lib.hid h3
  clear hA h1 h3
  have hsl' := hsl.out
  have e9 : (spare.toList == ([115, 112, 97, 114, 101, 32, 114, 111, 111, 109] : List UInt8)) = true := hsp
  have hlt : ((l.length : Int) < ((l.length + 1 : Nat) : Int)) := by omega
  have hge : (0 : Int) ≤ (l.length : Int) := by omega
  have hd : decide (kl l = kl l) = true := decide_eq_true rfl
  go_enter Try.func20, Try.ntmps20
  go_wp2_with (first | (go_at_call 19; ((with_reducible refine (HS.out _ ?hx ?hy).mono ?_); (case hx => exact Kd.C_below HA.out (by repeat (first | exact Below.refl _ _ | apply pw_below_drewN | apply below_drew1))); (case hy => exact Kd.C_below HB.out (by repeat (first | exact Below.refl _ _ | apply pw_below_drewN | apply below_drew1))); rintro e _ ⟨rfl, ⟨n, rfl⟩⟩; simp only [hd])) | go_in)
  go_ret
  exact ⟨rfl, by repeat (first | exact Drawn0.refl _ | apply Drawn0.step)⟩

/-- What a function answers that lays a list of texts anew. -/
def NewQ (w : World) (l : List ByteArray) (e : Ending) (w' : World) : Prop := ∃ B cc, e = .returned (.slice B l.length cc) ∧ l.length ≤ cc ∧ Kd.C Kd.string w' B l.length l ∧ Below w.heap.size w w'
set_option maxRecDepth 100000 in
theorem clone_as (A : Option Addr) (c : Nat) (l : List ByteArray) (w : World) (h : Kd.C Kd.string w A l.length l) (hc : l.length ≤ c) (hl : l.length ≤ 1048576) : Calls Try.prog 30 #[.slice A l.length c] w (NewQ w l) := by
  have HR0 := Aside0.mk h
  have HB := Aside0.mk (Below.refl w.heap.size w)
  cases A with
  | none =>
    have e0 : l = [] := by
      by_cases hz : 0 < l.length
      · obtain ⟨ad, e, _⟩ := Kd.at_string h 0 (by omega) (by omega)
        cases e
      · exact List.length_eq_zero_iff.1 (by omega)
    clear h
    subst e0
    have hn := fun W => run_eql_slice_nil (P := Try.prog) W 35 9 none 0 c Try.underlying35
    simp only [Option.isNone_none] at hn
    go_enter Try.func30, Try.ntmps30
    go_wp2
    go_ret
    exact ⟨none, 0, rfl, Nat.zero_le _, Kd.C_nil _ _, by repeat (first | (with_reducible first | exact HB.out | apply below_alloc | apply pw_below_drewN | apply below_drew1) | exact HB.out)⟩
  | some ad =>
    clear h
    have hn := fun W => run_eql_slice_nil (P := Try.prog) W 35 9 (some ad) l.length c Try.underlying35
    simp only [Option.isNone_some] at hn
    go_enter Try.func30, Try.ntmps30
    go_wp2_with (first | ((with_reducible refine gate_dst (N := 5) rfl ?_); refine Kd.R_lit Kd.string _ 9 ?hg (N := 5) ?hd (xs := ([] : List ByteArray)) (inner := []) (ok := fun _ => True) (okp := fun _ => True) ?hr ?hp (fun _ hk => hk) trivial (Below.refl _ _) (Nat.le_refl _) (by simp) ?_; (case hd => rfl); (case hg => rfl); (case hr => first | (go_simp; done) | (go_simp; rfl)); (case hp => exact (Reps.none _ _)); intro v102 w6 ho7 hb hg_ hnew_; clear hg_ hnew_; have n0_ := Aside0.mk (Kd.R_lower ho7 (below_size (by repeat (first | (with_reducible first | exact HB.out | apply below_alloc | apply pw_below_drewN | apply below_drew1) | exact HB.out)))); have n1_ := Aside0.mk (below_step (by repeat (first | (with_reducible first | exact HB.out | apply below_alloc | apply pw_below_drewN | apply below_drew1) | exact HB.out)) hb); clear HB; have HO103 := n0_; have HB := n1_; clear n0_ n1_; clear hb ho7) | ((with_reducible refine gate_builtin (b := .append) (xs := #[.tmp 5, .tmp 6]) rfl ?_); at_builtin; refine Kd.R_append_rows Kd.string (w0 := w) w.heap.size rfl (.tmp 5) (.tmp 6) 35 9 (.string ⟨#[]⟩) 16 rfl Try.underlying35 info9 rfl (by decide) (by omega) v102 ([] : List ByteArray) l _ _ _ (fun _ => True) (fun _ => False) rfl rfl ?aO ?aR (fun _ _ h => h) (fun _ h => h.elim) ?aF ?aB ?aS ?aL ?_; (case aR => repeat (first | exact (Kd.C_below HR0.out HB.out) | (with_reducible refine Kd.C_alloc ?_ _) | (with_reducible refine Kd.C_drewN ?_ _) | (with_reducible refine Kd.C_drew ?_))); (case aB => exact (by repeat (first | (with_reducible first | exact HB.out | apply below_alloc | apply pw_below_drewN | apply below_drew1) | exact HB.out))); (case aF => exact (fun _ _ => trivial)); (case aO => exact (by (with_reducible repeat (first | apply Kd.R_alloc | apply Kd.R_drewN | apply Kd.R_drew)); exact HO103.out)); (case aS => exact (below_size (by repeat (first | (with_reducible first | exact HB.out | apply below_alloc | apply pw_below_drewN | apply below_drew1) | exact HB.out)))); (case aL => simp only [List.length_nil]; omega); intro v105 w8 ho hb hg hat; have n0_ := Aside0.mk (hb); have n1_ := Aside0.mk (ho); clear HB; clear HO103; have HB := n0_; have HO106 := n1_; clear n0_ n1_; clear ho hb hg hat) | go_in)
    go_ret
    have hR : Kd.R Kd.string 9 _ w.heap.size (fun _ => True) v105 ([] ++ l) := HO106.out
    obtain ⟨Ao, co, rfl⟩ := Kd.R_slice hR
    obtain ⟨_, hcc, hrd⟩ := Kd.R_reads' hR
    exact ⟨Ao, co, rfl, by simpa using hcc, by simpa using hrd, by repeat (first | (with_reducible first | exact HB.out | apply below_alloc | apply pw_below_drewN | apply below_drew1) | exact HB.out)⟩
/-- What Parent answers of a key that is not empty. -/
def UpQ (w : World) (k : List ByteArray) (e : Ending) (w' : World) : Prop := ∃ B cc, e = .returned (.tuple #[.slice B k.length cc, .bool true]) ∧ k.length ≤ cc ∧ Kd.C Kd.string w' B k.length k ∧ Below w.heap.size w w'
set_option maxRecDepth 100000 in
theorem refup_as (A : Option Addr) (c : Nat) (l : List ByteArray) (k : List ByteArray) (hk : k = l.take (l.length - 1)) (hp : 0 < l.length) (w : World) (h : Kd.C Kd.string w A l.length l) (hc : l.length ≤ c) (hl : l.length ≤ 1048576) : Calls Try.prog 18 #[.slice A l.length c] w (UpQ w k) := by
  have hkl : k.length = l.length - 1 := by rw [hk, List.length_take]; omega
  have HR1 := Aside0.mk (show Kd.C Kd.string w A k.length k by rw [hk]; exact Kd.C_take h (by omega))
  have HB := Aside0.mk (Below.refl w.heap.size w)
  have hw1 : IntKind.i64.wrap ((l.length : Int) - 1) = (k.length : Int) := (i64_w _).trans (by rw [wrp_id _ (by omega) (by omega)]; omega)
  have hz : ((l.length : Int) == 0) = false := beq_eq_false_iff_ne.mpr (by omega)
  obtain ⟨i0, hi0, _, hsz, _⟩ := info_parts info9
  have hcut := cut_to (P := Try.prog) 35 9 .i64 Try.underlying35 hi0 A l.length c (k.length : Int) (by omega) (by omega) hc
  rw [Int.toNat_natCast] at hcut
  have hge : (0 : Int) ≤ (k.length : Int) := by omega
  have hle : (k.length : Int) ≤ (l.length : Int) := by omega
  have hkm : k.length ≤ 1048576 := by omega
  clear h hk hi0 hsz hkl
  go_enter Try.func18, Try.ntmps18
  go_wp2_with (first | ((with_reducible refine gate_dst (N := 7) rfl ?_); refine Kd.R_lit Kd.string _ 9 ?hg (N := 7) ?hd (xs := ([] : List ByteArray)) (inner := []) (ok := fun _ => True) (okp := fun _ => True) ?hr ?hp (fun _ hk => hk) trivial (Below.refl _ _) (Nat.le_refl _) (by simp) ?_; (case hd => rfl); (case hg => rfl); (case hr => first | (go_simp; done) | (go_simp; rfl)); (case hp => exact (Reps.none _ _)); intro v102 w6 ho7 hb hg_ hnew_; clear hg_ hnew_; have n0_ := Aside0.mk (Kd.R_lower ho7 (below_size (by repeat (first | (with_reducible first | exact HB.out | apply below_alloc | apply pw_below_drewN | apply below_drew1) | exact HB.out)))); have n1_ := Aside0.mk (below_step (by repeat (first | (with_reducible first | exact HB.out | apply below_alloc | apply pw_below_drewN | apply below_drew1) | exact HB.out)) hb); clear HB; have HO103 := n0_; have HB := n1_; clear n0_ n1_; clear hb ho7) | ((with_reducible refine gate_builtin (b := .append) (xs := #[.tmp 7, .tmp 12]) rfl ?_); at_builtin; refine Kd.R_append_rows Kd.string (w0 := w) w.heap.size rfl (.tmp 7) (.tmp 12) 35 9 (.string ⟨#[]⟩) 16 rfl Try.underlying35 info9 rfl (by decide) (by omega) v102 ([] : List ByteArray) k _ _ _ (fun _ => True) (fun _ => False) rfl rfl ?aO ?aR (fun _ _ h => h) (fun _ h => h.elim) ?aF ?aB ?aS ?aL ?_; (case aR => repeat (first | exact (Kd.C_below HR1.out HB.out) | (with_reducible refine Kd.C_alloc ?_ _) | (with_reducible refine Kd.C_drewN ?_ _) | (with_reducible refine Kd.C_drew ?_))); (case aB => exact (by repeat (first | (with_reducible first | exact HB.out | apply below_alloc | apply pw_below_drewN | apply below_drew1) | exact HB.out))); (case aF => exact (fun _ _ => trivial)); (case aO => exact (by (with_reducible repeat (first | apply Kd.R_alloc | apply Kd.R_drewN | apply Kd.R_drew)); exact HO103.out)); (case aS => exact (below_size (by repeat (first | (with_reducible first | exact HB.out | apply below_alloc | apply pw_below_drewN | apply below_drew1) | exact HB.out)))); (case aL => simp only [List.length_nil]; omega); intro v105 w8 ho hb hg hat; have n0_ := Aside0.mk (hb); have n1_ := Aside0.mk (ho); clear HB; clear HO103; have HB := n0_; have HO106 := n1_; clear n0_ n1_; clear ho hb hg hat) | go_in)
  go_ret2
  have hR : Kd.R Kd.string 9 _ w.heap.size (fun _ => True) v105 ([] ++ k) := HO106.out
  obtain ⟨Ao, co, rfl⟩ := Kd.R_slice hR
  obtain ⟨_, hcc, hrd⟩ := Kd.R_reads' hR
  exact ⟨Ao, co, rfl, by simpa using hcc, by simpa using hrd, by repeat (first | (with_reducible first | exact HB.out | apply below_alloc | apply pw_below_drewN | apply below_drew1) | exact HB.out)⟩
theorem dnup_as (A : Option Addr) (c : Nat) (l : List ByteArray) (k : List ByteArray) (hk : k = l.take (l.length - 1)) (hp : 0 < l.length) (w : World) (h : Kd.C Kd.string w A l.length l) (hc : l.length ≤ c) (hl : l.length ≤ 1048576) : Calls Try.prog 17 #[.slice A l.length c] w (UpQ w k) := by
  have hkl : k.length = l.length - 1 := by rw [hk, List.length_take]; omega
  have HR1 := Lib.hid (show Kd.C Kd.string w A k.length k by rw [hk]; exact Kd.C_take h (by omega))
  have hw1 : IntKind.i64.wrap ((l.length : Int) - 1) = (k.length : Int) := (i64_w _).trans (by rw [wrp_id _ (by omega) (by omega)]; omega)
  have hz : ((l.length : Int) == 0) = false := beq_eq_false_iff_ne.mpr (by omega)
  obtain ⟨i0, hi0, _, hsz, _⟩ := info_parts info9
  have hcut := cut_to (P := Try.prog) 35 9 .i64 Try.underlying35 hi0 A l.length c (k.length : Int) (by omega) (by omega) hc
  rw [Int.toNat_natCast] at hcut
  have hge : (0 : Int) ≤ (k.length : Int) := by omega
  have hle : (k.length : Int) ≤ (l.length : Int) := by omega
  have hkm : k.length ≤ 1048576 := by omega
  have hkc : k.length ≤ c := by omega
  have HC := Lib.hid (fun W hW => clone_as A c k W hW hkc hkm)
  clear h hk hi0 hsz hkl
  go_enter Try.func17, Try.ntmps17
  go_wp2_with (first | (go_at_call 30; ((with_reducible refine (HC.out _ ?hx).mono ?_); (case hx => exact Kd.C_below HR1.out (by repeat (first | exact Below.refl _ _ | apply pw_below_drewN | apply below_drew1))); rintro e W ⟨B, cc, rfl, hq1, hq2, hq3⟩; have HQ := Lib.hid (And.intro hq1 (And.intro hq2 hq3)); clear hq1 hq2 hq3)) | go_in)
  go_ret2
  exact ⟨B, cc, rfl, HQ.out.1, HQ.out.2.1, (by repeat (first | exact Below.refl _ _ | apply pw_below_drewN | apply below_drew1) : Below w.heap.size w _).trans HQ.out.2.2⟩
/-! ### the reference's order -/
theorem cmpK_drop (x y : List ByteArray) (i : Nat) (h1 : i < x.length) (h2 : i < y.length) : cmpK ((kl x).drop i) ((kl y).drop i) = if Op.bytesLess (rdOf ByteArray.empty x (i : Int)).toList (rdOf ByteArray.empty y (i : Int)).toList = true then -1 else if (rdOf ByteArray.empty x (i : Int)).toList = (rdOf ByteArray.empty y (i : Int)).toList then cmpK ((kl x).drop (i + 1)) ((kl y).drop (i + 1)) else 1 := by
  rw [kl_at x i h1, kl_at y i h2]
  rfl
structure CR (w : World) (x y : List ByteArray) (i : Nat) (w' : World) : Prop where
  le1 : i ≤ x.length
  le2 : i ≤ y.length
  same : cmpK ((kl x).drop i) ((kl y).drop i) = cmpK (kl x) (kl y)
  drawn : Drawn0 w w'
theorem cmpK_nil (x y : List ByteArray) (i : Nat) (h1 : i ≤ x.length) (h2 : i ≤ y.length) (h : i = x.length ∨ i = y.length) : cmpK ((kl x).drop i) ((kl y).drop i) = if (x.length : Int) < (y.length : Int) then -1 else if (y.length : Int) < (x.length : Int) then 1 else 0 := by
  by_cases a : i < x.length
  · rw [kl_at x i a, List.drop_of_length_le (by rw [kl_length]; omega : (kl y).length ≤ i), if_neg (by omega), if_pos (by omega)]; rfl
  · rw [List.drop_of_length_le (by rw [kl_length]; omega : (kl x).length ≤ i)]
    by_cases b : i < y.length
    · rw [kl_at y i b, if_pos (by omega)]; rfl
    · rw [List.drop_of_length_le (by rw [kl_length]; omega : (kl y).length ≤ i), if_neg (by omega), if_neg (by omega)]; rfl
set_option maxRecDepth 100000 in
theorem refcmp_as (A : Option Addr) (c : Nat) (x : List ByteArray) (B : Option Addr) (d : Nat) (y : List ByteArray) (w : World) (h1 : Kd.C Kd.string w A x.length x) (h2 : x.length ≤ c) (h3 : Kd.C Kd.string w B y.length y) (h4 : y.length ≤ d) (hx : x.length ≤ 1048576) (hy : y.length ≤ 1048576) :
    Calls Try.prog 22 #[.slice A x.length c, .slice B y.length d] w fun e w' => e = .returned (.int .i64 (cmpK (kl x) (kl y))) ∧ Drawn0 w w' := by
  have HX := Lib.hid h1
  have HY := Lib.hid h3
  clear h1 h3
  go_enter Try.func22, Try.ntmps22
  go_wp2_with fail
  go_loopw [5] (fun i wr => ∃ k : Nat, k ≤ x.length ∧ k ≤ y.length ∧ i = .int .i64 k ∧ Hid (CR w x y k wr)) (fun i _ => x.length - (intOf i).toNat)
  case atStart => exact ⟨0, by omega, by omega, rfl, ⟨by omega, by omega, rfl, by repeat (first | exact Drawn0.refl _ | apply Drawn0.step)⟩⟩
  case round =>
    obtain ⟨k, hk1, hk2, rfl, HW⟩ := hrel
    obtain ⟨n, rfl⟩ := HW.out.drawn.out
    by_cases hin : k < x.length ∧ k < y.length
    · obtain ⟨a1, a2⟩ := hin
      obtain ⟨ad, rfl, cx⟩ := Kd.at_string HX.out (k : Int) (by omega) (by omega)
      obtain ⟨bd, rfl, cy⟩ := Kd.at_string HY.out (k : Int) (by omega) (by omega)
      have HD := Lib.hid (cmpK_drop x y k a1 a2)
      generalize rdOf ByteArray.empty x (k : Int) = p at cx HD
      generalize rdOf ByteArray.empty y (k : Int) = q at cy HD
      rw [Int.toNat_natCast] at cx cy
      by_cases t1 : Op.bytesLess p.toList q.toList = true
      · have HE := Lib.hid (show cmpK (kl x) (kl y) = -1 by rw [← HW.out.same, HD.out, if_pos t1])
        go_wp2
        repeat (go_quiet (fail); try go_wp2)
        go_ret
        exact ⟨by rw [HE.out]; rfl, by repeat (first | exact Drawn0.refl _ | apply Drawn0.step)⟩
      · have t1' : Op.bytesLess p.toList q.toList = false := by simpa using t1
        by_cases t2 : p.toList = q.toList
        · have t2' : (p.toList == q.toList) = true := beq_iff_eq.mpr t2
          have HE := Lib.hid (show cmpK ((kl x).drop (k + 1)) ((kl y).drop (k + 1)) = cmpK (kl x) (kl y) by rw [← HW.out.same, HD.out, if_neg t1, if_pos t2])
          clear t1 t2
          go_wp2
          repeat (go_quiet (fail); try go_wp2)
          go_roundw
          case rel => exact ⟨k + 1, by omega, by omega, by go_num, ⟨by omega, by omega, HE.out, by repeat (first | exact Drawn0.refl _ | apply Drawn0.step)⟩⟩
          case measure => simp [intOf]; omega
        · have t2' : (p.toList == q.toList) = false := beq_eq_false_iff_ne.mpr t2
          have HE := Lib.hid (show cmpK (kl x) (kl y) = 1 by rw [← HW.out.same, HD.out, if_neg t1, if_neg t2])
          clear t1 t2
          go_wp2
          repeat (go_quiet (fail); try go_wp2)
          go_ret
          exact ⟨by rw [HE.out]; rfl, by repeat (first | exact Drawn0.refl _ | apply Drawn0.step)⟩
    · have HE := Lib.hid ((HW.out.same).symm.trans (cmpK_nil x y k hk1 hk2 (by omega)))
      by_cases t1 : (x.length : Int) < (y.length : Int)
      · have hkx : ¬ ((k : Int) < (x.length : Int)) := by omega
        go_wp2
        repeat (go_quiet (fail); try go_wp2)
        go_ret
        exact ⟨by rw [HE.out, if_pos t1]; rfl, by repeat (first | exact Drawn0.refl _ | apply Drawn0.step)⟩
      · by_cases t2 : (y.length : Int) < (x.length : Int)
        · have hkx : ((k : Int) < (x.length : Int)) := by omega
          have hky : ¬ ((k : Int) < (y.length : Int)) := by omega
          go_wp2
          repeat (go_quiet (fail); try go_wp2)
          go_ret
          exact ⟨by rw [HE.out, if_neg (by omega), if_pos (by omega)]; rfl, by repeat (first | exact Drawn0.refl _ | apply Drawn0.step)⟩
        · have hkx : ¬ ((k : Int) < (x.length : Int)) := by omega
          go_wp2
          repeat (go_quiet (fail); try go_wp2)
          go_ret
          exact ⟨by rw [HE.out, if_neg (by omega), if_neg (by omega)]; rfl, by repeat (first | exact Drawn0.refl _ | apply Drawn0.step)⟩
end Go.Proofs.Ytdkohenilbkmkaa.SpareW

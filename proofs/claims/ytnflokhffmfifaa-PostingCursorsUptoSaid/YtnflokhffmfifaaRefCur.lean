/- By hand: the reference's cursors. For every list, place and world. -/
import Derived.Test.YtnflokhffmfifaaSortEv
set_option linter.unusedVariables false
set_option linter.unusedSimpArgs false
namespace Go.Proofs.Ytnflokhffmfifaa.RefCur
open Go.RowKit Go.Proofs.Ytnflokhffmfifaa.XC Go.Proofs.Ytnflokhffmfifaa.XV Go.Proofs.Ytnflokhffmfifaa.Blk Go.Proofs.Ytnflokhffmfifaa.Ris Go.Proofs.Ytnflokhffmfifaa.Cur Go.Proofs.Ytnflokhffmfifaa.OfW Go.Proofs.Ytnflokhffmfifaa.SortEv Go.Proofs.YtnflokhffmfifaaW.PrintWords Go.Proofs.YtnflokhffmfifaaW.PrintLast Go.Proofs.YtnflokhffmfifaaW.PrintMore
theorem Row.kd {w : World} {g : Nat} {A : Option Addr} {c : Nat} {l : List Int} (h : Row w g A c l) (hn : l.length ≤ 1048576) : Kd.C (Kd.int .i64) w A l.length l := by
  refine Kd.C_of_reads (enc := Value.int .i64) (d := 0) (h1 := fun _ => rfl) ⟨rfl, by omega, fun hp => ?_⟩
  obtain ⟨o, rfl, hc⟩ := h.at_ hp
  exact ⟨_, rfl, fun i hi => by rw [add_off]; exact hc i hi⟩
theorem rhere_as (w : World) (g : Nat) (A : Option Addr) (c : Nat) (l : List Int) (a : Nat) (h : Row w g A c l) (hn : l.length ≤ 1048576) (ha : a ≤ l.length) :
    Calls Try.prog 15 #[.agg #[.slice A l.length c, .int .i64 (a : Int)]] w fun e w' => e = .returned (.tuple #[.int .i64 ((l.drop a).getD 0 0), .bool (decide (0 < (l.drop a).length))]) ∧ Below w.heap.size w w' := by
  refine rosterref10_Here.calls A c l (a : Int) _ _ w (Row.kd h hn) h.cap ?_
  unfold rosterref10_Here.f
  by_cases hz : a < l.length
  · rw [if_neg (by omega), if_pos (by omega), if_pos (by omega), head_drop, decide_eq_true (by rw [List.length_drop]; omega)]
    simp [rd]
  · rw [if_pos (by omega), List.drop_of_length_le (by omega)]
    rfl
theorem rleft_as (w : World) (g : Nat) (A : Option Addr) (c : Nat) (l : List Int) (a : Nat) (h : Row w g A c l) (hn : l.length ≤ 1048576) (ha : a ≤ l.length) :
    Calls Try.prog 21 #[.agg #[.slice A l.length c, .int .i64 (a : Int)]] w fun e w' => e = .returned (.int .i64 ((l.drop a).length : Int)) ∧ Below w.heap.size w w' := by
  have hs : IntKind.i64.wrap ((l.length : Int) - (a : Int)) = ((l.drop a).length : Int) := (i64_w _).trans (by rw [List.length_drop]; unfold wrap64; omega)
  generalize ((l.drop a).length : Int) = m at hs ⊢
  go_enter Try.func21, Try.ntmps21
  go_wp2
  go_ret
  exact ⟨rfl, by repeat (first | exact Below.refl _ _ | apply below_alloc | apply pw_below_drewN | apply below_drew1)⟩
/-- One on. -/
def on1 (l : List Int) (a : Nat) : Nat := if a < l.length then a + 1 else a
theorem on1_le (l : List Int) (a : Nat) (h : a ≤ l.length) : on1 l a ≤ l.length := by unfold on1; split <;> omega
theorem on1_drop (l : List Int) (a : Nat) : l.drop (on1 l a) = (l.drop a).drop 1 := by
  unfold on1
  rw [List.drop_drop]
  split
  · rfl
  · rw [List.drop_of_length_le (by omega), List.drop_of_length_le (by omega)]
theorem two_at (w : World) (o : Obj) (cs : Array Value) (t : TypeId) : ((w.alloc o).alloc (.cells cs t)).heap[w.heap.size + 1]? = some (.cells cs t (0, 0)) := by
  have h := Blk.At.fresh (w.alloc o) cs.toList t
  unfold Blk.At at h
  simpa using h
theorem rnext_as (w : World) (A : Option Addr) (c : Nat) (l : List Int) (a : Nat) (hn : l.length ≤ 1048576) (ha : a ≤ l.length) :
    Calls Try.prog 17 #[.agg #[.slice A l.length c, .int .i64 (a : Int)]] w fun e w' => e = .returned (.agg #[.slice A l.length c, .int .i64 (on1 l a : Int)]) ∧ Below w.heap.size w w' := by
  by_cases hz : a < l.length
  · have hlt : (a : Int) < (l.length : Int) := by omega
    have hs : IntKind.i64.wrap ((a : Int) + 1) = ((a + 1 : Nat) : Int) := (i64_w _).trans (by unfold wrap64; omega)
    rw [show on1 l a = a + 1 by unfold on1; rw [if_pos hz]]
    go_enter Try.func17, Try.ntmps17
    go_wp2
    refine bodyPost_ret (results_cell_row rfl _ _ (w.heap.size + 1) 27 #[.slice A l.length c, .int .i64 ((a : Int) + 1)] (0, 0) _ rfl (two_at w _ _ _) Try.underlying27 rfl (by kernel_rfl)) rfl ?_
    exact ⟨by first | rfl | simp, by repeat (first | exact Below.refl _ _ | apply below_alloc | apply pw_below_drewN | apply below_drew1)⟩
  · have hlt : ¬ ((a : Int) < (l.length : Int)) := by omega
    rw [show on1 l a = a by unfold on1; rw [if_neg hz]]
    go_enter Try.func17, Try.ntmps17
    go_wp2
    refine bodyPost_ret (results_cell_row rfl _ _ (w.heap.size + 1) 27 #[.slice A l.length c, .int .i64 (a : Int)] (0, 0) _ rfl (two_at w _ _ _) Try.underlying27 rfl (by kernel_rfl)) rfl ?_
    exact ⟨by first | rfl | simp, by repeat (first | exact Below.refl _ _ | apply below_alloc | apply pw_below_drewN | apply below_drew1)⟩
/-- On to the first that is not below x. -/
def onX (l : List Int) (a : Nat) (x : Int) : Nat := if a < place l x then place l x else a
theorem place_as (l : List Int) (x : Int) (hr : Ris ltI l) (hn : l.length ≤ 1048576) : Ev (fun k => rosterref10_Place.f k l x) (place l x : Int) := by
  have H : ∀ d lo hi : Nat, hi - lo = d → lo ≤ hi → hi ≤ l.length → (∀ j, j < lo → l.getD j 0 < x) → (∀ j, hi ≤ j → j < l.length → ¬ l.getD j 0 < x) → Ev (fun k => rosterref10_Place.l0 k l x (lo : Int) (hi : Int)) (place l x : Int) := by
    intro d
    induction d using Nat.strongRecOn with
    | ind d ih =>
      intro lo hi hd h1 h2 h3 h4
      refine ev_round ?_
      simp only [rosterref10_Place.l0]
      by_cases hlt : lo < hi
      · obtain ⟨m, hm⟩ : ∃ m : Nat, m = (lo + hi) / 2 := ⟨_, rfl⟩
        have e : wrap64 (Int.tdiv (wrap64 ((lo : Int) + (hi : Int))) 2) = (m : Int) := by
          rw [wrp_id ((lo : Int) + (hi : Int)) (by omega) (by omega), Int.tdiv_eq_ediv_of_nonneg (by omega), wrp_id _ (by omega) (by omega)]
          omega
        have e' : rd l (m : Int) = l.getD m 0 := by simp [rd]
        refine ev_pos (by omega) ?_
        simp only [e, e']
        refine ev_pos (by omega) (ev_pos (by omega) ?_)
        by_cases hx : l.getD m 0 < x
        · refine ev_pos hx ?_
          rw [wrp1 m (by omega)]
          exact ih (hi - (m + 1)) (by omega) (m + 1) hi rfl (by omega) h2 (fun j hj => ris_below hr (by omega) hx j (by omega)) h4
        · refine ev_neg hx ?_
          exact ih (m - lo) (by omega) lo m rfl (by omega) (by omega) h3 (fun j hj hl => ris_above hr hx j hj hl)
      · refine ev_neg (by omega) (ev_eq ?_)
        obtain rfl : lo = hi := by omega
        rw [place_eq lo h2 h3 (fun hl => h4 lo (Nat.le_refl _) hl)]
  exact H _ 0 l.length rfl (by omega) (Nat.le_refl _) (fun j hj => by omega) (fun j h1 h2 => by omega)
theorem rplace_as (w : World) (A : Option Addr) (c : Nat) (l : List Int) (x : Int) (hr : Ris ltI l) (hn : l.length ≤ 1048576) (h : Kd.C (Kd.int .i64) w A l.length l) (hc : l.length ≤ c) :
    Calls Try.prog 54 #[.slice A l.length c, .int .i64 x] w fun e w' => e = .returned (.int .i64 (place l x : Int)) ∧ Drawn0 w w' := by
  obtain ⟨k, hk⟩ := Ev.rounds (place_as l x hr hn)
  exact rosterref10_Place.calls k A c l x _ w h hc hk
theorem rskip_as (w : World) (g : Nat) (A : Option Addr) (c : Nat) (l : List Int) (a : Nat) (x : Int) (h : Row w g A c l) (hr : Ris ltI l) (hn : l.length ≤ 1048576) (ha : a ≤ l.length) :
    Calls Try.prog 19 #[.agg #[.slice A l.length c, .int .i64 (a : Int)], .int .i64 x] w fun e w' => e = .returned (.agg #[.slice A l.length c, .int .i64 (onX l a x : Int)]) ∧ Below w.heap.size w w' := by
  have HK := Lib.hid (Row.kd h hn)
  have HC := h.cap
  have HP := Lib.hid (fun W hW => rplace_as W A c l x hr hn hW HC)
  have hpl := place_le l x
  unfold onX
  generalize place l x = p at HP hpl ⊢
  clear h
  by_cases hz : a < p
  · have hlt : (a : Int) < (p : Int) := by omega
    rw [if_pos hz]
    go_enter Try.func19, Try.ntmps19
    go_wp2_with (first | (go_at_call 54; ((with_reducible refine (HP.out _ ?hx).mono ?_); (case hx => (with_reducible repeat (first | refine Kd.C_alloc ?_ _ | refine Kd.C_drewN ?_ _)); exact HK.out); rintro e _ ⟨rfl, ⟨n1, rfl⟩⟩)) | go_in)
    have hat := (((Blk.At.drewN (two_at w (.cells #[.slice A l.length c, .int .i64 (a : Int)] 27) #[.slice none 0 0, .int .i64 0] 27 : Blk.At _ (w.heap.size + 1) [.slice none 0 0, .int .i64 0] 27) n1).other ⟨w.heap.size, 1, none⟩ (.int .i64 (p : Int)) (by simp)).set 0 (.slice A l.length c)).set 1 (.int .i64 (p : Int))
    refine bodyPost_ret (results_cell_row rfl _ _ (w.heap.size + 1) 27 #[.slice A l.length c, .int .i64 (p : Int)] (0, 0) _ rfl hat Try.underlying27 rfl (by kernel_rfl)) rfl ?_
    exact ⟨by first | rfl | simp, (((pw_below_drewN (below_alloc (below_alloc (Below.refl w.heap.size w) (.cells #[.slice A l.length c, .int .i64 (a : Int)] 27)) (.cells #[.slice none 0 0, .int .i64 0] 27)) n1).setCell (p := ⟨w.heap.size, 1, none⟩) (Nat.le_refl _) (.int .i64 (p : Int))).setCell (p := ⟨w.heap.size + 1, 0, none⟩) (Nat.le_succ _) (.slice A l.length c)).setCell (p := ⟨w.heap.size + 1, 1, none⟩) (Nat.le_succ _) (.int .i64 (p : Int))⟩
  · have hlt : ¬ ((a : Int) < (p : Int)) := by omega
    rw [if_neg hz]
    go_enter Try.func19, Try.ntmps19
    go_wp2_with (first | (go_at_call 54; ((with_reducible refine (HP.out _ ?hx).mono ?_); (case hx => (with_reducible repeat (first | refine Kd.C_alloc ?_ _ | refine Kd.C_drewN ?_ _)); exact HK.out); rintro e _ ⟨rfl, ⟨n1, rfl⟩⟩)) | go_in)
    have hat := ((Blk.At.drewN (two_at w (.cells #[.slice A l.length c, .int .i64 (a : Int)] 27) #[.slice none 0 0, .int .i64 0] 27 : Blk.At _ (w.heap.size + 1) [.slice none 0 0, .int .i64 0] 27) n1).set 0 (.slice A l.length c)).set 1 (.int .i64 (a : Int))
    refine bodyPost_ret (results_cell_row rfl _ _ (w.heap.size + 1) 27 #[.slice A l.length c, .int .i64 (a : Int)] (0, 0) _ rfl hat Try.underlying27 rfl (by kernel_rfl)) rfl ?_
    exact ⟨by first | rfl | simp, ((pw_below_drewN (below_alloc (below_alloc (Below.refl w.heap.size w) (.cells #[.slice A l.length c, .int .i64 (a : Int)] 27)) (.cells #[.slice none 0 0, .int .i64 0] 27)) n1).setCell (p := ⟨w.heap.size + 1, 0, none⟩) (Nat.le_succ _) (.slice A l.length c)).setCell (p := ⟨w.heap.size + 1, 1, none⟩) (Nat.le_succ _) (.int .i64 (a : Int))⟩
theorem onX_le (l : List Int) (a : Nat) (x : Int) (h : a ≤ l.length) : onX l a x ≤ l.length := by
  have := place_le l x
  unfold onX; split <;> omega
theorem onX_drop (l : List Int) (a : Nat) (x : Int) (hr : Ris ltI l) (h : a ≤ l.length) : l.drop (onX l a x) = (l.drop a).drop (place (l.drop a) x) := by
  rw [List.drop_drop]
  congr 1
  have hp := place_le l x
  have e : place (l.drop a) x = place l x - a := by
    refine place_eq _ (by rw [List.length_drop]; omega) (fun i hi => ?_) (fun hi => ?_)
    · have := place_lt l x (a + i) (by omega)
      simpa [List.getD_eq_getElem?_getD, List.getElem?_drop] using this
    · rw [List.length_drop] at hi
      have h0 : l.getD (place l x) 0 = l.getD (place l x) 0 := rfl
      by_cases hz : a ≤ place l x
      · have := place_end l x (by omega)
        simp only [List.getD_eq_getElem?_getD, List.getElem?_drop] at this ⊢
        rwa [show a + (place l x - a) = place l x by omega]
      · have := ris_above hr (place_end l x (by omega)) a (by omega) (by omega)
        simp only [List.getD_eq_getElem?_getD, List.getElem?_drop] at this ⊢
        rwa [show a + (place l x - a) = a by omega]
  rw [e]
  unfold onX
  split <;> omega
end Go.Proofs.Ytnflokhffmfifaa.RefCur

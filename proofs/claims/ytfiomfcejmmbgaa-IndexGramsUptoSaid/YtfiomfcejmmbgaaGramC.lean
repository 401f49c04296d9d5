/- By hand: markTexts walked. For every list of one's own and world. -/
import Derived.Test.YtfiomfcejmmbgaaGramB
set_option linter.unusedVariables false
set_option linter.unusedSimpArgs false
namespace Go.Proofs.Ytfiomfcejmmbgaa.GramW
open Go.RowKit Go.Proofs.Ytfiomfcejmmbgaa.Blk Go.Proofs.Ytfiomfcejmmbgaa.XI Go.Proofs.Ytfiomfcejmmbgaa.XV Go.Proofs.Ytfiomfcejmmbgaa.Ris Go.Proofs.Ytfiomfcejmmbgaa.OfT Go.Proofs.Ytfiomfcejmmbgaa.GramEv Go.Proofs.YtfiomfcejmmbgaaW.PrintWords Go.Proofs.YtfiomfcejmmbgaaW.PrintLast Go.Proofs.YtfiomfcejmmbgaaW.PrintMore
/-- What markTexts answers: the row and the longer one, all of them the mark. -/
def MkQ (W : World) (A : Option Addr) (n c : Nat) (m : ByteArray) (e : Ending) (w' : World) : Prop := ∃ A2 c2, e = .returned (.agg #[.slice A n c, .slice A2 (n + 1) c2, .string m]) ∧ AllM w' A n m ∧ AllM w' A2 (n + 1) m ∧ n + 1 ≤ c2 ∧ W.grownBy w' (A.map (·.block)) ∧ ∀ g2, A2 = some ⟨g2, 0, none⟩ → A = some ⟨g2, 0, none⟩ ∨ W.heap.size ≤ g2
structure MS (W : World) (A : Option Addr) (n c : Nat) (m : ByteArray) (i : Nat) (wr : World) : Prop where
  box : At wr W.heap.size [.slice none 0 0, .slice none 0 0, .string ⟨#[]⟩] 38
  grown : W.grownBy wr (A.map (·.block))
  row : (A = none ∧ n = 0 ∧ c = 0) ∨ ∃ g cs, A = some ⟨g, 0, none⟩ ∧ g < W.heap.size ∧ At wr g cs 9 ∧ n ≤ c ∧ c ≤ cs.length ∧ ∀ j, j < i → cs[j]? = some (.string m)
theorem grown_new {w w1 : World} {row : Option Nat} (h : w.grownBy w1 row) {b : Nat} (hb : w.heap.size ≤ b) (k : Nat) (u : Value) : w.grownBy (w1.setCell ⟨b, k, none⟩ u) row :=
  ⟨h.os, h.tape, h.output, by simpa [World.setCell] using h.size, fun j hj hne => (Below.heap_setCell _ _ _ _ (fun e => by have : j = b := e; omega)).trans (h.block j hj hne)⟩
theorem AllM.far {W : World} {A : Option Addr} {n : Nat} {m : ByteArray} (h : AllM W A n m) {b : Nat} {cs : List Value} (hb : At W b cs 38) (k : Nat) (u : Value) : AllM (W.setCell ⟨b, k, none⟩ u) A n m := fun hp => by
  obtain ⟨g, cs2, e, ha, hc⟩ := h hp
  refine ⟨g, cs2, e, ha.other ⟨b, k, none⟩ u (fun e2 => ?_), hc⟩
  have e2 : g = b := e2
  subst e2
  unfold At at ha hb
  rw [ha] at hb
  injection hb with hb
  injection hb with _ hb
  cases hb
structure Stop (P : Prop) : Prop where
  out : P
theorem mark_as (W : World) (b g : Nat) (A : Option Addr) (c : Nat) (l : List ByteArray) (m : ByteArray) (h : Mine W b g A c l) (hn : l.length ≤ 1048576) : Calls Try.prog 14 #[.slice A l.length c, .string m] W (MkQ W A l.length c m) := by
  have HM : Hid (MS W A l.length c m 0 (W.alloc (.cells #[.slice none 0 0, .slice none 0 0, .string ⟨#[]⟩] 38))) := Lib.hid ⟨At.fresh W [.slice none 0 0, .slice none 0 0, .string ⟨#[]⟩] 38, grown_alloc (grown_refl W _) _, by
    rcases h with ⟨rfl, rfl, rfl⟩ | ⟨rfl, hb, cs, h1, h2, h3, h4⟩
    · exact .inl ⟨rfl, rfl, rfl⟩
    · exact .inr ⟨g, cs, rfl, h1.lt, h1.alloc _, h3, h2, fun j hj => absurd hj (Nat.not_lt_zero _)⟩⟩
  clear h
  generalize l.length = n at *
  go_enter Try.func14, Try.ntmps14
  go_wp2
  go_loopw [5] (fun v5 wr => ∃ i : Nat, i ≤ n ∧ v5 = .int .i64 (i : Nat) ∧ Hid (MS W A n c m i wr)) (fun v5 _ => n - (intOf v5).toNat)
  case atStart => exact ⟨0, Nat.zero_le _, rfl, HM⟩
  case round =>
    clear HM
    obtain ⟨i, hi, rfl, HW⟩ := hrel
    have hw1 : IntKind.i64.wrap ((i : Int) + 1) = ((i + 1 : Nat) : Int) := by rw [IntWalk.i64_in _ (by omega)]; rfl
    by_cases hin : i < n
    · have hlt : (i : Int) < (n : Int) := by omega
      obtain ⟨g, cs, rfl, hg, ha, h1, h2, h3⟩ : ∃ g cs, A = some ⟨g, 0, none⟩ ∧ g < W.heap.size ∧ At wr g cs 9 ∧ n ≤ c ∧ c ≤ cs.length ∧ ∀ j, j < i → cs[j]? = some (.string m) := by
        rcases HW.out.row with ⟨_, h0, _⟩ | h
        · omega
        · exact h
      have hc := ha.get i _ (List.getElem?_eq_getElem (show i < cs.length by omega))
      have hf := ha.free i
      have HN : Hid (MS W (some ⟨g, 0, none⟩) n c m (i + 1) (wr.setCell ⟨g, i, none⟩ (.string m))) := Lib.hid ⟨HW.out.box.other ⟨g, i, none⟩ _ (by show W.heap.size ≠ g; omega), grown_set HW.out.grown i _, .inr ⟨g, cs.set i (.string m), rfl, hg, ha.set i _, h1, by simpa using h2, fun j hj => by
        rcases Nat.lt_or_ge j i with h4 | h4
        · rw [List.getElem?_set_ne (by omega)]; exact h3 j h4
        · rw [show j = i by omega, List.getElem?_set_self (by omega)]⟩⟩
      have hcc := hc
      clear hc
      generalize cs[i]'(by omega) = old at hcc
      clear ha h1 h2 h3 hg
      go_wp2
      go_roundw
      case rel => exact ⟨i + 1, by omega, by go_num, HN⟩
      case measure => simp [intOf]; omega
    · have hlt : ¬ (i : Int) < (n : Int) := by omega
      obtain rfl : i = n := by omega
      have hbs := HW.out.box.lt
      obtain ⟨A2, c2, W', hr, k1, k2, k3, k4, k5⟩ := app_run (wr.alloc (.cells #[.string m] 9)) A i c m wr.heap.size (by omega) (by
        rcases HW.out.row with h | ⟨g, cs, e, hg, ha, h1, h2, h3⟩
        · exact .inl h
        · refine .inr ⟨g, cs, e, ha.alloc _, h1, h2, ?_, h3⟩
          have := ha.lt
          omega) (At.fresh wr [.string m] 9)
      have HR := Lib.hid hr
      have hne : some W.heap.size ≠ A.map (·.block) := by
        intro e
        rcases HW.out.row with ⟨h, _⟩ | ⟨g, cs, h, hg, _⟩
        · rw [h] at e; cases e
        · rw [h] at e
          have : W.heap.size = g := Option.some.inj e
          omega
      have hbx : At W' W.heap.size [.slice none 0 0, .slice none 0 0, .string ⟨#[]⟩] 38 := (HW.out.box.alloc _).grown k4 hne
      have b0 := hbx.get 0 _ rfl
      have b1 := hbx.get 1 _ rfl
      have b2 := hbx.get 2 _ rfl
      have f0 := hbx.free 0
      have f1 := hbx.free 1
      have f2 := hbx.free 2
      have HK := Lib.hid (And.intro k1 (And.intro k2 (And.intro k3 (And.intro (grown_trans (grown_alloc HW.out.grown _) k4) (fun g2 e => (k5 g2 e).imp id (fun h => Nat.le_trans HW.out.grown.size (Nat.le_trans (by rw [World.size_alloc]; omega) h)) : ∀ g2, A2 = some ⟨g2, 0, none⟩ → A = some ⟨g2, 0, none⟩ ∨ W.heap.size ≤ g2)))))
      have HB := Lib.hid hbx
      clear hr k1 k2 k3 k4 k5 hne hbx hbs
      go_wp2_with (first
        | ((with_reducible refine gate_builtin (b := .append) (xs := #[.tmp 17, .tmp 19]) rfl ?_); at_builtin; refine Stop.out ?_)
        | go_in)
      refine ⟨?_⟩
      refine wp_app rfl (.tmp 17) (.tmp 19) 34 34 rfl _ _ _ rfl rfl HR.out ?_
      go_wp2
      refine bodyPost_ret (results_cell_row rfl _ _ W.heap.size 38 #[.slice A i c, .slice A2 (i + 1) c2, .string m] (0, 0) _ rfl ?hat Try.underlying38 rfl (by kernel_rfl)) rfl ?_
      case hat => exact ((HB.out.set 0 _).set 1 _).set 2 _
      exact ⟨A2, c2, rfl, ((HK.out.1.far HB.out 0 _).far (HB.out.set 0 _) 1 _).far ((HB.out.set 0 _).set 1 _) 2 _, ((HK.out.2.1.far HB.out 0 _).far (HB.out.set 0 _) 1 _).far ((HB.out.set 0 _).set 1 _) 2 _, HK.out.2.2.1, grown_new (grown_new (grown_new HK.out.2.2.2.1 (Nat.le_refl _) 0 _) (Nat.le_refl _) 1 _) (Nat.le_refl _) 2 _, HK.out.2.2.2.2⟩
end Go.Proofs.Ytfiomfcejmmbgaa.GramW

/- By hand: the law AttrPrints, walked. For every type, list of options and world. -/
import Derived.Test.YtjakabacdnfmnaaAttrB
set_option linter.unusedVariables false
set_option linter.unusedSimpArgs false
namespace Go.Proofs.Ytjakabacdnfmnaa.AttrW
open Go.RowKit Go.Proofs.Ytjakabacdnfmnaa.Blk Go.Proofs.Ytjakabacdnfmnaa.Bld Go.Proofs.Ytjakabacdnfmnaa.ByteM Go.Proofs.YtjakabacdnfmnaaW.PrintWords Go.Proofs.YtjakabacdnfmnaaW.PrintLast Go.Proofs.YtjakabacdnfmnaaW.PrintMore
theorem add_off (g o k : Nat) : (⟨g, o, none⟩ : Addr).add k = ⟨g, o + k, none⟩ := by
  unfold Addr.add
  by_cases h : k = 0
  · subst h; simp
  · simp [h]
theorem txts_of_C {w : World} {A : Option Addr} {n : Nat} {os : List ByteArray} (h : Kd.C Kd.string w A n os) : Txts w A os := fun i hi => by
  have hl := Kd.C_len h
  obtain ⟨ad, rfl, hc⟩ := Kd.at_string h (i : Int) (by omega) (by omega)
  obtain ⟨g, o, sp⟩ := ad
  have hsp : sp = none := by
    cases sp with
    | none => rfl
    | some q =>
      obtain ⟨ad, e2, hc0⟩ := Kd.at_string h 0 (by omega) (by omega)
      obtain rfl := Option.some.inj e2
      simp [Addr.add, World.cell?] at hc0
      split at hc0 <;> simp at hc0
  subst hsp
  rw [Int.toNat_natCast, add_off] at hc
  refine ⟨g, o, rfl, ?_⟩
  rw [hc]
  rfl
theorem Txts.front {w : World} {A : Option Addr} {os : List ByteArray} {x : ByteArray} (h : Txts w A (os ++ [x])) : Txts w A os := fun i hi => by
  obtain ⟨g, o, e, hc⟩ := h i (by simp; omega)
  refine ⟨g, o, e, ?_⟩
  rw [hc]
  simp [List.getD_eq_getElem?_getD, List.getElem?_append_left hi]
theorem Txts.draw {w : World} {A : Option Addr} {os : List ByteArray} (h : Txts w A os) (n : Nat) : Txts (w.drewN n) A os := h
set_option maxHeartbeats 2000000 in
set_option maxRecDepth 100000 in
theorem same_as (A B : Option Addr) (c d : Nat) (os : List ByteArray) (w : World) (h1 : Txts w A os) (h2 : Txts w B os) (hn : os.length ≤ 140737488355328) :
    Calls Try.prog 10 #[.slice A os.length c, .slice B os.length d] w fun e w' => e = .returned (.bool true) ∧ Drawn0 w w' := by
  have HT := Lib.hid h1
  have HU := Lib.hid h2
  have HD0 : Hid (Drawn0 w w) := Lib.hid (Drawn0.refl _)
  clear h1 h2
  go_enter Try.func10, Try.ntmps10
  go_wp2
  go_loopw [5] (fun v wr => ∃ i : Nat, i ≤ os.length ∧ v = .int .i64 (i : Nat) ∧ Hid (Drawn0 w wr)) (fun v _ => os.length - (intOf v).toNat)
  case atStart => exact ⟨0, Nat.zero_le _, rfl, HD0⟩
  case round =>
    clear HD0
    obtain ⟨i, hi, rfl, HR⟩ := hrel
    obtain ⟨m, rfl⟩ := HR.out
    by_cases hin : i < os.length
    · have hlt : (i : Int) < (os.length : Int) := by omega
      obtain ⟨g, o, rfl, hc⟩ := HT.out i hin
      obtain ⟨g', o', rfl, hc'⟩ := HU.out i hin
      generalize os.getD i ByteArray.empty = x at hc hc'
      go_wp2
      repeat (go_quiet (fail); try go_wp2)
      go_roundw
      case rel => exact ⟨i + 1, by omega, by go_num, Lib.hid (by repeat (first | exact Drawn0.refl _ | apply Drawn0.step))⟩
      case measure => simp [intOf]; omega
    · have hlt : ¬ ((i : Int) < (os.length : Int)) := by omega
      obtain rfl : i = os.length := by omega
      go_wp2
      go_ret
      exact ⟨rfl, by repeat (first | exact Drawn0.refl _ | apply Drawn0.step)⟩
theorem info9 : (Try.prog.info? 9).map (fun i => (i.zero, i.size, i.bytes)) = some (some (.string ⟨#[]⟩), 1, 16) := by kernel_rfl
def spareB : ByteArray := ⟨#[115, 112, 97, 114, 101]⟩
theorem lit_row (W : World) (x : ByteArray) : Kd.C Kd.string (W.alloc (.cells #[.string x] 9)) (some ⟨W.heap.size, 0, none⟩) 1 [x] := by
  refine Kd.C_of_reads (enc := Value.string) (d := ByteArray.empty) (h1 := fun _ => rfl) ⟨rfl, by decide, fun _ => ⟨_, rfl, fun j hj => ?_⟩⟩
  obtain rfl : j = 0 := by omega
  rw [add_off]
  exact (Blk.At.fresh W [.string x] 9).get 0 _ rfl
set_option maxHeartbeats 4000000 in
set_option maxRecDepth 100000 in
theorem law_walk (t : ByteArray) (A : Option Addr) (c : Nat) (os : List ByteArray) (w : World) (h : Kd.C Kd.string w A os.length os) (hc : os.length ≤ c) (hn : os.length ≤ 1048576) (hs : (pr t os).length ≤ 140737488355328) :
    Calls Try.prog 3 #[.string t, .slice A os.length c] w fun e w' => e = .returned (.bool true) ∧ Below w.heap.size w w' := by
  obtain ⟨i9, hi9, _, hz9, _⟩ := info_parts info9
  have HR := Lib.hid h
  have HS := Lib.hid hs
  clear h hs
  go_enter Try.func3, Try.ntmps3
  go_wp2_with (first
    | ((with_reducible refine gate_builtin (b := .append) (xs := #[.tmp 8, .tmp 9]) rfl ?_); at_builtin; refine Kd.R_append_rows Kd.string (w0 := w) w.heap.size rfl (.tmp 8) (.tmp 9) 22 9 (.string ⟨#[]⟩) 16 rfl Try.underlying22 info9 rfl (by decide) (by omega) (.slice none 0 0) ([] : List ByteArray) os _ _ _ (fun _ => True) (fun _ => False) rfl rfl ?aO ?aR (fun _ _ h => h) (fun _ h => h.elim) ?aF ?aB ?aS ?aL ?_; (case aR => exact HR.out); (case aB => exact Below.refl _ _); (case aF => exact (fun _ _ => trivial)); (case aO => exact Kd.R_nil _ _ _ _ _); (case aS => exact Nat.le_refl _); (case aL => simp only [List.length_nil]; omega); intro v1 w1 ho hb hg hat; have HA1 := Lib.hid ho; have HB1 := Lib.hid hb; clear ho hb hg hat)
    | ((with_reducible refine gate_builtin (b := .append) (xs := #[.tmp 11, .tmp 12]) rfl ?_); at_builtin; refine Kd.R_append_rows Kd.string (w0 := w) w.heap.size rfl (.tmp 11) (.tmp 12) 22 9 (.string ⟨#[]⟩) 16 rfl Try.underlying22 info9 rfl (by decide) (by omega) v1 ([] ++ os) [spareB] _ _ _ (fun _ => True) (fun _ => False) rfl rfl ?aO ?aR (fun _ _ h => h) (fun _ h => h.elim) ?aF ?aB ?aS ?aL ?_; (case aR => exact lit_row _ _); (case aB => exact HB1.out.alloc HB1.out.size _); (case aF => exact (fun _ _ => trivial)); (case aO => exact Kd.R_alloc HA1.out _); (case aS => rw [World.size_alloc]; have := HB1.out.size; omega); (case aL => simp only [List.length_append, List.length_cons, List.length_nil]; omega); intro v2 w2 ho hb hg hat; obtain ⟨Ao, co, eo⟩ := Kd.R_slice ho; subst eo; obtain ⟨_, hcc, hrd⟩ := Kd.R_reads' ho; simp only [List.nil_append, List.length_append, List.length_cons, List.length_nil] at hcc hrd; have hlen : ([] ++ os ++ [spareB]).length = os.length + 1 := (by simp); simp only [hlen] at *; have HB2 := Lib.hid hb; have HC2 := Lib.hid hrd; have hcut := cut_to (P := Try.prog) 22 9 .i64 Try.underlying22 hi9 Ao (os.length + 1) co (os.length : Int) (by omega) (by omega) (by omega); simp only [Int.toNat_natCast] at hcut; have HX := Lib.hid (txts_of_C hrd); have HY := Lib.hid ((txts_of_C HR.out).on hb); obtain ⟨gs, os_, eAo, cs⟩ := txts_of_C hrd os.length (by simp); subst eAo; have ecs : (os ++ [spareB]).getD os.length ByteArray.empty = ⟨#[115, 112, 97, 114, 101]⟩ := (by simp [List.getD_eq_getElem?_getD]; rfl); rw [ecs] at cs; have HCS := Lib.hid cs; clear ho hb hg hat hrd cs ecs hlen)
    | (go_at_call 8; ((with_reducible refine (rprint_as t A c os _ HY.out (by omega) HS.out).mono ?_); rintro e W3 ⟨rfl, hb3⟩; have HB3 := Lib.hid hb3; clear hb3))
    | (go_at_call 9; ((with_reducible refine (print_as t (some ⟨gs, os_, none⟩) co os _ ?hx (by omega) HS.out).mono ?_); (case hx => exact (HX.out.front).on HB3.out); rintro e W4 ⟨rfl, hb4⟩; have HB4 := Lib.hid (HB3.out.trans (hb4.mono HB3.out.size)); clear hb4))
    | (go_at_call 10; ((with_reducible refine (same_as (some ⟨gs, os_, none⟩) A co c os _ ?hx ?hy (by omega)).mono ?_); (case hx => exact (HX.out.front).on HB4.out); (case hy => exact HY.out.on HB4.out); rintro e _ ⟨rfl, ⟨n5, rfl⟩⟩; have c5 := (HB4.out.cell (p := ⟨gs, os_ + os.length, none⟩) (World.block_lt_of_cell? _ _ HCS.out)).trans HCS.out))
    | go_in)
  go_ret
  exact ⟨rfl, by repeat (first | exact HB2.out.trans (HB4.out.mono HB2.out.size) | apply pw_below_drewN | apply below_drew1)⟩
def rosterlaw04_AttrPrints.f (x0 : ByteArray) (x1 : List ByteArray) : Option Bool := if x1.length ≤ 1048576 ∧ (pr x0 x1).length ≤ 140737488355328 then some true else none
theorem rosterlaw04_AttrPrints.calls (a0 : ByteArray) (A1 : Option Addr) (c1 : Nat) (l1 : List ByteArray) (r : Bool) (w : World) (hr1 : Kd.C Kd.string w A1 l1.length l1) (hc1 : l1.length ≤ c1) (h : rosterlaw04_AttrPrints.f a0 l1 = some r) :
    Calls Try.prog 3 #[.string a0, .slice A1 l1.length c1] w fun e w' => e = .returned (.bool r) ∧ Below w.heap.size w w' := by
  unfold rosterlaw04_AttrPrints.f at h
  split at h
  case isFalse => cases h
  case isTrue hs =>
  obtain rfl := Option.some.inj h
  exact law_walk a0 A1 c1 l1 w hr1 hc1 hs.1 hs.2
end Go.Proofs.Ytjakabacdnfmnaa.AttrW

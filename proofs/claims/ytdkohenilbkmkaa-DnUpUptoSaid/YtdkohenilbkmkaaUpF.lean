/- By hand: a copied name is as it was, its marks too. For every name and world. -/
import Derived.Test.YtdkohenilbkmkaaUpE
import Derived.Deep.QuietTactic
set_option linter.unusedVariables false
set_option linter.unusedSimpArgs false
namespace Go.Proofs.Ytdkohenilbkmkaa.UpW
open Go.RowKit Go.Proofs.Ytdkohenilbkmkaa.XT Go.Proofs.Ytdkohenilbkmkaa.XV Go.Proofs.Ytdkohenilbkmkaa.RFun Go.Proofs.Ytdkohenilbkmkaa.RGen Go.Proofs.YtdkohenilbkmkaaW.PrintWords Go.Proofs.YtdkohenilbkmkaaW.PrintLast Go.Proofs.YtdkohenilbkmkaaW.PrintMore
theorem cell_of {W : World} {g : Nat} {cs : Array Value} {t : TypeId} (h : W.heap[g]? = some (.cells cs t (0, 0))) (k : Nat) : W.cell? ⟨g, k, none⟩ = cs[k]? := by
  simp [World.cell?, h]
theorem MN.len {B0 : Nat} {W : World} {r c m : Nat} {D : DN} {ps : List PD} (h : MN B0 W r c m D ps) : ps.length = D.length := by have := congrArg List.length h.maps; simpa using this
theorem MN.hdr {B0 : Nat} {W : World} {r c m : Nat} {D : DN} {ps : List PD} (h : MN B0 W r c m D ps) (k : Nat) (hk : k < D.length) : W.cell? ⟨r, k, none⟩ = some (ps.getD k default).v := by
  obtain ⟨hs, h1, _, h3, _⟩ := h.row
  rw [cell_of h1 k, h3 k (by rw [h.len]; exact hk)]
theorem MN.last {B0 : Nat} {W : World} {r c m : Nat} {D : DN} {ps : List PD} (h : MN B0 W r c m D ps) : W.cell? ⟨r, D.length, none⟩ = some (.slice (some ⟨m, 0, none⟩) 1 1) := by
  obtain ⟨hs, h1, _, _, h4⟩ := h.row
  rw [cell_of h1 D.length, ← h.len, h4]
theorem MN.part {B0 : Nat} {W : World} {r c m : Nat} {D : DN} {ps : List PD} (h : MN B0 W r c m D ps) (k : Nat) (hk : k < D.length) : PM B0 W (ps.getD k default) ∧ (ps.getD k default).l = rd_L2 D (k : Int) := by
  have hl := h.len
  have e : ps.getD k default = ps[k]'(by omega) := by simp [List.getD_eq_getElem?_getD, List.getElem?_eq_getElem (show k < ps.length by omega)]
  refine ⟨by rw [e]; exact h.each _ (List.getElem_mem _), ?_⟩
  have := congrArg (fun z : List RD => z.getD k []) h.maps
  unfold rd_L2
  rw [Int.toNat_natCast, ← this]
  simp [List.getD_eq_getElem?_getD, List.getElem?_eq_getElem (show k < ps.length by omega)]
theorem PM.plain {B0 : Nat} {W : World} {p : PD} (h : PM B0 W p) : Kd.C k46 W (some ⟨p.g, 0, none⟩) p.l.length p.l := by
  have := Kd.C_take (k := k46) (w := W) (xs := p.l ++ [spA]) (m := p.l.length) h.rd (by simp)
  simpa using this
theorem PM.mark {B0 : Nat} {W : World} {p : PD} (h : PM B0 W p) : W.cell? ⟨p.g, p.l.length * 2, none⟩ = some (.string spB) := by
  obtain ⟨ad, e, h1, _⟩ := at_T46 h.rd (p.l.length : Int) (by omega) (by simp only [List.length_append, List.length_cons, List.length_nil]; omega)
  injection e with e
  subst e
  rw [Int.toNat_natCast, add_off, Nat.zero_add] at h1
  rw [h1]
  simp [rd_T46, List.getD_eq_getElem?_getD, spA]
theorem MN.reads {B0 : Nat} {W : World} {r c m : Nat} {D : DN} {ps : List PD} (h : MN B0 W r c m D ps) (hD : D.length ≤ 1048576) : Kd.C kD W (some ⟨r, 0, none⟩) D.length D := by
  refine ⟨rfl, by omega, fun _ => ⟨_, rfl, fun j p hj => ?_⟩⟩
  have hjl : j < D.length := (List.getElem?_eq_some_iff.1 hj).1
  obtain ⟨h1, h2⟩ := h.part j hjl
  have hp : p = (ps.getD j default).l := by
    rw [h2]; unfold rd_L2
    rw [Int.toNat_natCast, List.getD_eq_getElem?_getD, hj]; rfl
  refine ⟨[(ps.getD j default).v], rfl, ⟨_, _, by rw [hp]; rfl, by rw [hp]; have := h1.cap; omega, by rw [hp]; exact h1.plain⟩, fun i u hu => ?_⟩
  have hi : i = 0 := by have := (List.getElem?_eq_some_iff.1 hu).1; simpa using this
  subst hi
  rw [add_off]
  have := h.hdr j hjl
  rw [show 0 + (j * kD.sz + 0) = j by show 0 + (j * 1 + 0) = j; omega, this]
  simpa using hu
set_option maxRecDepth 100000 in
set_option maxHeartbeats 4000000 in
theorem spared_as (w : World) (B0 r c m c' : Nat) (A : Option Addr) (D : DN) (ps : List PD) (h : MN B0 w r c m D ps) (hC : Kd.C kD w A D.length D) (hc : D.length ≤ c') (hD : D.length ≤ 1048576) (hDl : ∀ r ∈ D, r.length ≤ 1048576) :
    Calls Try.prog 11 #[.slice (some ⟨r, 0, none⟩) D.length c, .slice A D.length c'] w fun e w' => e = .returned (.bool true) ∧ Drawn0 w w' := by
  obtain ⟨i0, hi, _, _, _⟩ := info_parts info44
  obtain ⟨j0, hj0, _, _, _⟩ := info_parts info46
  have H := Lib.hid h
  have HC := Lib.hid hC
  have HDL := Lib.hid hDl
  have hcap := h.cap
  have hsp : (spB.toList == ([115, 112, 97, 114, 101, 32, 114, 111, 111, 109] : List UInt8)) = true := by rw [toList_data]; rfl
  have hsp' : (spB.toList == (⟨#[115, 112, 97, 114, 101, 32, 114, 111, 111, 109]⟩ : ByteArray).toList) = true := beq_self_eq_true _
  clear h hC hDl
  go_enter Try.func11, Try.ntmps11
  go_wp2_with (first
    | (go_at_call 13; ((with_reducible refine (same_as _ (some ⟨r, 0, none⟩) A c c' D.length D.length D rfl rfl (H.out.reads hD) (by omega) HC.out hc hD HDL.out).mono ?_); rintro e _ ⟨rfl, ⟨n1, rfl⟩⟩))
    | go_in)
  go_loopw [5, 6] (fun v5 v6 wr => ∃ i : Nat, i ≤ D.length ∧ v5 = .int .i64 (i : Nat) ∧ Drawn0 w wr) (fun v _ _ => D.length - (intOf v).toNat)
  case atStart => exact ⟨0, Nat.zero_le _, rfl, n1, rfl⟩
  case round =>
    obtain ⟨i, hi', rfl, HD⟩ := hrel
    obtain ⟨n2, rfl⟩ := HD
    by_cases hin : i < D.length
    · have hlt : (i : Int) < (D.length : Int) := by omega
      have hwi : IntKind.i64.wrap ((i : Int) + 1) = ((i + 1 : Nat) : Int) := by rw [IntWalk.i64_in _ (by omega)]; rfl
      obtain ⟨h1, h2⟩ := H.out.part i hin
      have hrm := HDL.out _ (rd_mem D i hin)
      rw [← h2] at hrm
      have cH := H.out.hdr i hin
      obtain ⟨⟨g, cp, l⟩, hp⟩ : ∃ p, p = ps.getD i default := ⟨_, rfl⟩
      rw [← hp] at h1 hrm cH
      have cM := h1.mark
      have hcp := h1.cap
      change w.cell? ⟨r, i, none⟩ = some (.slice (some ⟨g, 0, none⟩) l.length cp) at cH
      change w.cell? ⟨g, l.length * 2, none⟩ = some (.string spB) at cM
      have hcp : l.length + 1 ≤ cp := hcp
      have hrm : l.length ≤ 1048576 := hrm
      have hwl : IntKind.i64.wrap ((l.length : Int) + 1) = ((l.length + 1 : Nat) : Int) := by rw [IntWalk.i64_in _ (by omega)]; rfl
      have hltl : ((l.length : Int) < ((l.length + 1 : Nat) : Int)) := by omega
      have hge : (0 : Int) ≤ (l.length : Int) := by omega
      have hcut : ∀ V : World, (Instr.slice 44 (.slice (some ⟨g, 0, none⟩) l.length cp) none (some (.int .i64 ((l.length + 1 : Nat) : Int))) none).run Try.prog V = .ok (.slice (some ⟨g, 0, none⟩) (l.length + 1) cp) V := fun V => by
        rw [run_slice_h V 44 (some ⟨g, 0, none⟩) l.length cp (P := Try.prog) (by have h := Try.underlying44; rwa [show Try.prog.elem 44 = 46 by simp [Program.elem, Try.underlying44]]) .i64 _ (by omega) (by omega)]
        rw [show Try.prog.elem 44 = 46 by simp [Program.elem, Try.underlying44]]
        simp [sizeOf, typeInfo, hj0, sliced, Result.andThen, Addr.add]
      clear h1 h2 hp
      go_wp2
      repeat (go_quiet (fail); try go_wp2)
      go_roundw
      case rel => exact ⟨i + 1, by omega, by go_num, by repeat (first | exact Drawn0.refl _ | apply Drawn0.step)⟩
      case measure => simp [intOf]; omega
    · have hlt : ¬ (i : Int) < (D.length : Int) := by omega
      obtain rfl : i = D.length := by omega
      have cL := H.out.last
      have cK : w.cell? ⟨m, 0, none⟩ = some (.string spB) := by rw [cell_of H.out.mark]; rfl
      have hwl : IntKind.i64.wrap ((D.length : Int) + 1) = ((D.length + 1 : Nat) : Int) := by rw [IntWalk.i64_in _ (by omega)]; rfl
      have hltl : ((D.length : Int) < ((D.length + 1 : Nat) : Int)) := by omega
      have hge : (0 : Int) ≤ (D.length : Int) := by omega
      have hcut : ∀ V : World, (Instr.slice 23 (.slice (some ⟨r, 0, none⟩) D.length c) none (some (.int .i64 ((D.length + 1 : Nat) : Int))) none).run Try.prog V = .ok (.slice (some ⟨r, 0, none⟩) (D.length + 1) c) V := fun V => by
        rw [run_slice_h V 23 (some ⟨r, 0, none⟩) D.length c (P := Try.prog) (by have h := Try.underlying23; rwa [show Try.prog.elem 23 = 44 by simp [Program.elem, Try.underlying23]]) .i64 _ (by omega) (by omega)]
        rw [show Try.prog.elem 23 = 44 by simp [Program.elem, Try.underlying23]]
        simp [sizeOf, typeInfo, hi, sliced, Result.andThen, Addr.add]
      go_wp2
      go_ret
      exact ⟨rfl, by repeat (first | exact Drawn0.refl _ | apply Drawn0.step)⟩
end Go.Proofs.Ytdkohenilbkmkaa.UpW

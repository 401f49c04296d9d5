/- By hand: the iterator of Up. For every name and world. -/
import Derived.Test.YtdkohenilbkmkaaUpA
import Derived.Test.YtdkohenilbkmkaaRGen
import Derived.Shelf.Abstract
import Derived.Shelf.RegionOpen
import Derived.OwnWalkIn
import Derived.TacticsInMore
import Derived.LoopNIn
import Derived.LoopIn
set_option linter.unusedVariables false
set_option linter.unusedSimpArgs false
namespace Go.Proofs.Ytdkohenilbkmkaa.UpW
open Go.RowKit Go.Shelf Go.Proofs.Ytdkohenilbkmkaa.XT Go.Proofs.Ytdkohenilbkmkaa.RFun Go.Proofs.Ytdkohenilbkmkaa.RGen Go.Proofs.YtdkohenilbkmkaaW.PrintWords Go.Proofs.YtdkohenilbkmkaaW.PrintLast Go.Proofs.YtdkohenilbkmkaaW.PrintMore
attribute [local go_sem] Oper.semAt_some
/-- A name that is handed out: its header, its parts. -/
structure HD where
  v : Value
  l : DN
/-- The name and what is left of it. -/
def ups (D : DN) : List DN := (List.range (D.length + 1)).map fun i => D.drop i
theorem ups_len (D : DN) : (ups D).length = D.length + 1 := by simp [ups]
theorem ups_at (D : DN) (i : Nat) (h : i < D.length + 1) : (ups D)[i]? = some (D.drop i) := by
  simp [ups, h]
/-- What is known of a name that is handed out. -/
def GU (n₀ : Nat) (D : DN) (pre : List HD) (x : HD) (W : World) : Prop := x.l = D.drop pre.length ∧ Kd.R kD 44 W n₀ (fun _ => True) x.v x.l
/-- Between two names. -/
structure US (J : List HD → World → Prop) (n₀ b bb lo c : Nat) (A : Option Addr) (D : DN) (i : Nat) (pre : List HD) (W : World) : Prop where
  j : J pre W
  size : n₀ ≤ W.heap.size
  box : Boxed W lo 23 (.slice A D.length c)
  own : Kd.R kD 44 W bb (fun k => k ≠ b ∧ k < n₀) (.slice A D.length c) D
  len : pre.length = i
  eq : pre.map HD.l = (ups D).take i
/-- One being laid: m parts. -/
structure UI (J : List HD → World → Prop) (n₀ b bb lo c : Nat) (A : Option Addr) (D : DN) (i : Nat) (pre : List HD) (m : Nat) (v : Value) (W : World) : Prop where
  us : US J n₀ b bb lo c A D i pre W
  up : Kd.R kD 44 W n₀ (fun _ => True) v ((D.drop i).take m)
theorem US.below {J : List HD → World → Prop} {n₀ b bb lo c i : Nat} {A : Option Addr} {D : DN} {pre : List HD} {W W' : World} (hJ : Clos (fun A B => Below n₀ A B) J) (hlo : lo < n₀) (h : US J n₀ b bb lo c A D i pre W) (k : Below n₀ W W') : US J n₀ b bb lo c A D i pre W' :=
  ⟨hJ _ _ _ h.j k, Nat.le_trans h.size k.size, (k.block lo hlo).trans h.box, Kd.R_move h.own (fun j hj => k.block j hj.2), h.len, h.eq⟩
theorem US.round {J : List HD → World → Prop} {n₀ b bb lo c i : Nat} {A : Option Addr} {D : DN} {pre : List HD} {x : HD} {W W' : World} (h : US J n₀ b bb lo c A D i pre W) (hlo : lo ≠ b) (hj : J (pre ++ [x]) W') (k : KM n₀ b W W') (hi : i < D.length + 1) (hx : x.l = D.drop i) : US J n₀ b bb lo c A D (i + 1) (pre ++ [x]) W' := by
  refine ⟨hj, Nat.le_trans h.size k.size, k.cell _ _ _ _ h.box hlo, Kd.R_mono (Kd.R_move (Kd.R_bound h.own) (fun j hj => ?_)) (fun _ hk => hk.1), by simp [h.len], ?_⟩
  · obtain ⟨h1, _, _, q, _, cells, hc⟩ := hj
    exact (k.cell _ _ _ _ hc h1.1).trans hc.symm
  · rw [List.map_append, h.eq, List.take_add_one, ups_at D i hi]
    simp [hx]
theorem US.pre {J : List HD → World → Prop} {n₀ b bb lo c i : Nat} {A : Option Addr} {D : DN} {pre : List HD} {x : HD} {W : World} (h : US J n₀ b bb lo c A D i pre W) (hi : i < D.length + 1) (hx : x.l = D.drop i) : (pre ++ [x]).map HD.l <+: ups D := by
  have e : (pre ++ [x]).map HD.l = (ups D).take (i + 1) := by
    rw [List.map_append, h.eq, List.take_add_one, ups_at D i hi]
    simp [hx]
  rw [e]
  exact List.take_prefix _ _
theorem below_lit0 {W W' : World} (h : W.grownBy W' none) : Below W.heap.size W W' := ⟨h.os, h.tape, h.output, h.size, fun k hk => h.block k hk (by simp)⟩
set_option maxRecDepth 100000 in
set_option maxHeartbeats 4000000 in
theorem up1_seq (d n : Nat) (hn : 3 ≤ n) (w : World) (lo b bb : Nat) (A : Option Addr) (c : Nat) (D : DN) (hbox : Boxed w lo 23 (.slice A D.length c)) (hown : Kd.R kD 44 w bb (fun k => k ≠ b) (.slice A D.length c) D) (hlo : lo ≠ b) (hD : D.length ≤ 1048576) (hDl : ∀ r ∈ D, r.length ≤ 1048576) :
    SeqG Fence.wide d n Try.prog 26 #[.pointer (some ⟨lo, 0, none⟩)] (fun x : HD => #[x.v]) (KM (w.heap.size + d) b) (fun A B => Below (w.heap.size + d) A B) (fun xs => xs.map HD.l = ups D) (fun pre => pre.map HD.l <+: ups D) (D.length + 1) (GU (w.heap.size + d) D) w := by
  intro l J Jx W hz hB hJ hJx hY h0
  obtain ⟨n₀, hn0⟩ : ∃ n₀, n₀ = w.heap.size + d := ⟨_, rfl⟩
  rw [← hn0] at hJ hJx hY hz
  change CallsIn Fence.wide n Try.prog 26 #[.func (.yield l) #[] #[], .pointer (some ⟨lo, 0, none⟩)] W _
  have hlo0 : lo < n₀ := by have := (Array.getElem?_eq_some_iff.1 hbox).1; omega
  have hU0 : US J n₀ b bb lo c A D 0 [] W := by
    refine ⟨h0, by omega, (hB.block _ (Array.getElem?_eq_some_iff.1 hbox).1).trans hbox, Kd.R_mono (Kd.R_move (Kd.R_bound hown) (fun j hj => hB.block j hj.2.2.1)) (fun k hk => ⟨hk.1, by have := hk.2.2.1; omega⟩), rfl, rfl⟩
  have HU0 := Lib.hid hU0
  have HY := Lib.hid hY
  have HDL := Lib.hid hDl
  have HJ := Lib.hid hJ
  have HZ := Lib.hid hz
  have HN0 := Lib.hid hn0
  have hcap := (Kd.R_reads' hown).2.1
  clear hU0 hY hDl hJ h0 hB hbox hown hz hn0
  refine (callsIn_wide (n := n)).2 ?_
  have cO := HU0.out.box.cell
  have hw1 : IntKind.i64.wrap ((D.length : Int) + 1) = ((D.length + 1 : Nat) : Int) := by rw [IntWalk.i64_in _ (by omega)]; rfl
  go_enter Try.func26, Try.ntmps26
  go_wp2
  go_loopw [3, 4, 6, 10] (fun v3 v4 v6 v10 wr => ∃ (i : Nat) (pre : List HD), i ≤ D.length + 1 ∧ v10 = .int .i64 (i : Nat) ∧ Hid (US J n₀ b bb lo c A D i pre wr)) (fun _ _ _ v _ => D.length + 1 - (intOf v).toNat)
  case atStart => exact ⟨0, [], Nat.zero_le _, rfl, HU0⟩
  case round =>
    clear HU0 cO
    obtain ⟨i, pre, hi, rfl, HU⟩ := hrel
    by_cases hin : i < D.length + 1
    · have hlt : (i : Int) < ((D.length + 1 : Nat) : Int) := by omega
      have hlt' : (i : Int) < (D.length : Int) + 1 := by omega
      have hwi : IntKind.i64.wrap ((i : Int) + 1) = ((i + 1 : Nat) : Int) := by rw [IntWalk.i64_in _ (by omega)]; rfl
      obtain ⟨i0, hi0, _, hsz, _⟩ := info_parts info44
      have hcut := cut_from (P := Try.prog) 23 44 .i64 Try.underlying23 hi0 1 hsz A D.length c (i : Int) (by omega) (by omega)
      rw [Int.toNat_natCast] at hcut
      have hC : ∀ V : World, Kd.R kD 44 V bb (fun k => k ≠ b ∧ k < n₀) (.slice A D.length c) D → Kd.C kD V (if c = i then A else A.map (·.add (i * kD.sz))) (D.drop i).length (D.drop i) := fun V hV => Kd.C_drop (m := i) (c := c) (Kd.R_reads' hV).2.2 (by omega) hcap
      have hll : (D.drop i).length = D.length - i := List.length_drop
      have hsm := HU.out.size
      rw [show i * kD.sz = i * 1 from rfl] at hC
      generalize (if c = i then A else A.map (·.add (i * 1))) = Ai at hC hcut
      have HC := Lib.hid hC
      clear hC hi0 hsz
      go_wp2_with (first | ((with_reducible refine gate_dst (N := 13) rfl ?_); refine Kd.R_lit kD (w0 := wr) n₀ 44 ?hg (N := 13) ?hd (xs := ([] : DN)) (inner := []) (ok := fun _ => True) (okp := fun _ => True) ?hr ?hp (fun _ hk => hk) trivial (Below.refl _ _) hsm (by simp) ?_; (case hd => rfl); (case hg => rfl); (case hr => first | (go_simp; done) | (go_simp; rfl)); (case hp => exact (Reps.none _ _)); intro v0 w0 ho hb hg hat; have hbl : Below n₀ wr w0 := hb; have HI0 : Hid (UI J n₀ b bb lo c A D i pre 0 v0 w0) := Lib.hid ⟨HU.out.below HJ.out hlo0 hb, ho⟩; have cO := (HU.out.below HJ.out hlo0 hb).box.cell; clear ho hb hg hat) | go_in)
      go_loopw [4, 6, 18] (fun v4 v6 v18 wr => ∃ m : Nat, m ≤ D.length - i ∧ v18 = .int .i64 (m : Nat) ∧ Hid (UI J n₀ b bb lo c A D i pre m v4 wr)) (fun _ _ v _ => D.length - i - (intOf v).toNat)
      case atStart => exact ⟨0, Nat.zero_le _, rfl, HI0⟩
      case round =>
        clear HI0 cO HU
        obtain ⟨m, hm, rfl, HI⟩ := hrel
        have hsm2 := HI.out.us.size
        by_cases hmn : m < D.length - i
        · have hltm : (m : Int) < ((D.length - i : Nat) : Int) := by omega
          have hwm : IntKind.i64.wrap ((m : Int) + 1) = ((m + 1 : Nat) : Int) := by rw [IntWalk.i64_in _ (by omega)]; rfl
          have hCm := HC.out _ HI.out.us.own
          obtain ⟨ad, A0, c0, e0, cx, hc0, hCr⟩ := at_L2 hCm (m : Int) (by omega) (by omega)
          subst e0
          rw [Int.toNat_natCast] at cx
          have hrm := HDL.out _ (List.mem_of_mem_drop (rd_mem (D.drop i) m (by omega)))
          have hsn : (D.drop i).take (m + 1) = (D.drop i).take m ++ [rd_L2 (D.drop i) (m : Int)] := by
            rw [List.take_add_one]
            unfold rd_L2
            rw [Int.toNat_natCast, List.getD_eq_getElem?_getD, List.getElem?_eq_getElem (by omega)]
            rfl
          have HSN := Lib.hid hsn
          generalize rd_L2 (D.drop i) (m : Int) = p at cx hc0 hCr hrm HSN
          have HCR := Lib.hid hCr
          have hxl : ((D.drop i).take m).length ≤ 1048576 := by rw [List.length_take]; omega
          clear hCm hCr hsn
          go_wp2_with (first
            | (go_at_call 25; ((with_reducible refine (clone46_as A0 c0 p _ HCR.out hc0 hrm).mono ?_); rintro e W2 ⟨v2, rfl, q1, hb⟩; obtain ⟨A2, c2, rfl⟩ := Kd.R_slice q1; have HV2 := Lib.hid q1; have HB2 := Lib.hid hb; clear q1 hb))
            | ((with_reducible refine gate_builtin (b := .append) (xs := #[.tmp 22, .tmp 25]) rfl ?_); at_builtin; refine Kd.R_append kD (w0 := wr) n₀ rfl (.tmp 22) (.tmp 25) 23 44 (.slice none 0 0) 24 rfl Try.underlying23 info44 rfl (by decide) (by omega) u4 ((D.drop i).take m) p [.slice A2 p.length c2] (fun _ => True) (fun k => wr.heap.size ≤ k) rfl rfl ?aP ?aK ?aF ?aO ?aB ?aS ?aL ?_; (case aP => exact ⟨_, rfl, Kd.R_lower (Kd.R_mono (Kd.R_bound HV2.out) (fun k hk => hk.2.1)) hsm2⟩); (case aK => exact (fun k hk => ⟨trivial, fun e => by have := (Kd.R_bound HI.out.up).1 k e.symm; omega⟩)); (case aF => exact (fun _ _ => trivial)); (case aO => exact Kd.R_below HI.out.up HB2.out); (case aB => exact HB2.out.mono hsm2); (case aS => exact Nat.le_trans hsm2 HB2.out.size); (case aL => omega); intro v1 w1 ho hb hg hat; have HN : Hid (UI J n₀ b bb lo c A D i pre (m + 1) v1 w1) := Lib.hid ⟨HI.out.us.below HJ.out hlo0 hb, by rw [HSN.out]; exact ho⟩; clear ho hb hg hat)
            | go_in)
          go_roundw
          case rel => exact ⟨m + 1, by omega, by go_num, HN⟩
          case measure => simp [intOf]; omega
        · have hltm : ¬ (m : Int) < ((D.length - i : Nat) : Int) := by omega
          obtain rfl : m = D.length - i := by omega
          have hup := HI.out.up
          rw [List.take_of_length_le (by omega)] at hup
          obtain ⟨fn, tmps, assign, body, hy, hR⟩ := HY.out pre ⟨u4, D.drop i⟩ wr HI.out.us.j (by have := HI.out.us.len; omega) ⟨by rw [HI.out.us.len], hup⟩
          dsimp only at hy
          have HR := Lib.hid hR
          clear hR hup
          go_upto_region 9 with (first | go_in)
          refine (wpIn_wide (n := n)).1 ?_
          gi_wp2
          refine ⟨fun h => by simp [Fence.wide] at h, HR.out.mono ?_⟩
          rintro e W3 (⟨rfl, hJ3, hk3⟩ | ⟨rfl, hJ3, hk3⟩)
          · have HN := Lib.hid (HI.out.us.round (x := ⟨u4, D.drop i⟩) hlo hJ3 hk3 hin rfl)
            have cO := HN.out.box.cell
            clear hJ3 hk3
            gi_wp2
            go_wp2
            go_roundw
            case rel => exact ⟨i + 1, _, by omega, by go_num, HN⟩
            case measure => simp [intOf]; omega
          · have hpx := HI.out.us.pre (x := ⟨u4, D.drop i⟩) hin rfl
            gi_wp2
            go_wp2
            refine bodyPost_ret (results_none rfl _ _ _) rfl ?_
            exact ⟨⟨_, rfl⟩, .inr ⟨_, hpx, hJ3⟩⟩
    · have hlt : ¬ (i : Int) < ((D.length + 1 : Nat) : Int) := by omega
      have hlt' : ¬ (i : Int) < (D.length : Int) + 1 := by omega
      obtain rfl : i = D.length + 1 := by omega
      go_wp2
      go_end0
      exact ⟨⟨_, rfl⟩, .inl ⟨pre, by rw [HU.out.eq, ← ups_len, List.take_length], HU.out.j⟩⟩
end Go.Proofs.Ytdkohenilbkmkaa.UpW

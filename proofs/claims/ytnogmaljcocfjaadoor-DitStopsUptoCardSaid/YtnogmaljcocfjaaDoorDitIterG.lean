/- The iterators of Up and Scope, told what they hand out (printed by iterg.py). For every tree and world. -/
import Derived.Test.YtnogmaljcocfjaaDoorPkF
set_option linter.unusedVariables false
set_option linter.unusedSimpArgs false
namespace Go.Proofs.YtnogmaljcocfjaaDoor.DitMeth
open Go Go.Maps Go.RowKit Go.Shelf Go.Proofs.YtnogmaljcocfjaaDoor.RFun Go.Proofs.YtnogmaljcocfjaaDoor.RGen Go.Proofs.YtnogmaljcocfjaaDoor.XK Go.Proofs.YtnogmaljcocfjaaDoor.Blk Go.Proofs.YtnogmaljcocfjaaDoor.DitTab Go.Proofs.YtnogmaljcocfjaaDoor.DitRow Go.Proofs.YtnogmaljcocfjaaDoor.DitTerm Go.Proofs.YtnogmaljcocfjaaDoor.DitMap Go.Proofs.YtnogmaljcocfjaaDoor.DitCheck Go.Proofs.YtnogmaljcocfjaaDoor.DitCopy Go.Proofs.YtnogmaljcocfjaaDoor.DitPure Go.Proofs.YtnogmaljcocfjaaDoor.DitSort Go.Proofs.YtnogmaljcocfjaaDoor.DitBuild Go.Proofs.YtnogmaljcocfjaaDoor.Keys Go.Proofs.YtnogmaljcocfjaaDoorW.PrintWords Go.Proofs.YtnogmaljcocfjaaDoorW.PrintLast Go.Proofs.YtnogmaljcocfjaaDoorW.PrintMore
attribute [local go_sem] Oper.semAt_some
section
variable {es : List S45} {p : List Nat} {nn tb : Nat} {PI : Nat → Nat} {W0 : World}
set_option maxRecDepth 100000 in
set_option maxHeartbeats 4000000 in
theorem up_seqG (d n : Nat) (hn : 3 ≤ n) (w : World) (ln lt b : Nat) (x : Int) (hT : TreeAt es p nn PI tb W0) (hS : TS (keyS es p)) (hP : Par (keyS es p) PI) (hl : (keyS es p).length = nn) (hW : Below W0.heap.size W0 w) (hbx : BxU tb ln lt x w) (h1 : ln ≠ b) (h2 : lt ≠ b) :
    SeqG Fence.wide d n Tryd.prog 55 #[.pointer (some ⟨ln, 0, none⟩), .pointer (some ⟨lt, 0, none⟩)] (fun x : Int => #[.int .i64 x]) (KC W0.heap.size w.heap.size b) Calm (fun xs => xs = upI nn PI x) (fun pre => pre <+: upI nn PI x) (upI nn PI x).length (fun pre y _ => pre ++ [y] <+: upI nn PI x) w := by
  intro l J Jx W hz hB hJ hJx hY h0
  obtain ⟨n₀, hn0⟩ : ∃ n₀, n₀ = w.heap.size + d := ⟨_, rfl⟩
  rw [← hn0] at hY hz
  change CallsIn Fence.wide n Tryd.prog 55 #[.func (.yield l) #[] #[], .pointer (some ⟨ln, 0, none⟩), .pointer (some ⟨lt, 0, none⟩)] W _
  have hln : ln < w.heap.size := (Array.getElem?_eq_some_iff.1 hbx.1).1
  have hlt : lt < w.heap.size := (Array.getElem?_eq_some_iff.1 hbx.2).1
  have hU0 : IW J W0 (BxU tb ln lt x) (upI nn PI x) (upI nn PI x) [] W := ⟨h0, hW.trans (hB.mono hW.size), ⟨box_on hbx.1 hB, box_on hbx.2 hB⟩, rfl⟩
  have HBX : Hid (∀ A B, KC W0.heap.size w.heap.size b A B → BxU tb ln lt x A → BxU tb ln lt x B) := Lib.hid (fun A B k h => ⟨k.box h.1 hln h1, k.box h.2 hlt h2⟩)
  have HU0 := Lib.hid hU0
  have HY := Lib.hid hY
  have HJ := Lib.hid hJ
  have HT := Lib.hid hT
  have HUP := Lib.hid (fun (j : Nat) (hj : j < nn) => upI_in hS hP hl hj)
  have cN := HU0.out.box.1.cell
  clear hU0 hY hJ h0 hB hbx hz hn0 hT hW hln hlt h1 h2
  refine (callsIn_wide (n := n)).2 ?_
  go_enter Tryd.func55, Tryd.ntmps55
  go_wp2
  go_loopw [4] (fun v4 wr => ∃ (k : Int) (pre : List Int), v4 = .int .i64 k ∧ Hid (IW J W0 (BxU tb ln lt x) (upI nn PI x) (upI nn PI k) pre wr)) (fun v _ => (upI nn PI (intOf v)).length)
  case atStart => exact ⟨x, [], rfl, HU0⟩
  case round =>
    clear HU0 cN
    obtain ⟨k, pre, rfl, HU⟩ := hrel
    have cT := HU.out.box.2.cell
    have HH := Lib.hid (has_as (HT.out.below HU.out.low) k)
    cases hb : isIn nn k with
    | true =>
      rw [hb] at HH
      obtain ⟨j, rfl, hj⟩ := isIn_nat hb
      have hup := HUP.out j hj
      rw [hup] at HU
      clear hb
      obtain ⟨fn, tmps, assign, body, hy, hR⟩ := HY.out pre (j : Int) wr HU.out.j HU.out.len HU.out.pre
      try dsimp only at hy
      have HR := Lib.hid hR
      have HUPJ := Lib.hid hup
      clear hR hup
      go_upto_region 3 with (first
        | (go_at_call 51; ((with_reducible refine HH.out.mono ?_); rintro e W1 ⟨rfl, rfl⟩))
        | (go_in))
      refine (wpIn_wide (n := n)).1 ?_
      gi_wp2
      refine ⟨fun h => by simp [Fence.wide] at h, HR.out.mono ?_⟩
      rintro e W3 (⟨rfl, hJ3, hk3⟩ | ⟨rfl, hJ3, hk3⟩)
      · have HN := Lib.hid (HU.out.round HBX.out hJ3 hk3)
        have cT := HN.out.box.2.cell
        obtain ⟨L, eg, ec, g, cap, pc, e, V, Z, a1, a2, a3, a4, a5, a6, a7, _, a9, a10, _⟩ := HT.out.below HN.out.low
        have k1 := a5.get 2 _ rfl
        obtain ⟨c, b1, _, _, b4, b5⟩ := a10.2 j hj
        have kc := a9.get j _ b1
        have hlt : (j : Int) < (nn : Int) := by omega
        have hres : parentR PI nn (j : Int) = c := by
          unfold parentR
          by_cases h0 : j = 0
          · rw [if_neg (by omega), b4 h0]
          · rw [if_pos (by omega), b5 (by omega) rfl]
            simp
        have HME : Hid ((upI nn PI c).length < (upI nn PI (j : Int)).length) := Lib.hid (by rw [HUPJ.out, hres]; simp)
        rw [hres] at HN
        clear hJ3 hk3 a1 a2 a3 a4 a5 a6 a7 a9 a10 b1 b4 b5 hres
        gi_wp2
        go_wp2
        go_roundw
        case rel => exact ⟨_, _, rfl, HN⟩
        case measure => exact HME.out
      · have hpx := HU.out.pre
        gi_wp2
        go_wp2
        refine bodyPost_ret (results_none rfl _ _ _) rfl ?_
        exact ⟨⟨_, rfl⟩, .inr ⟨_, hpx, hJ3⟩⟩
    | false =>
      rw [hb] at HH
      go_wp2_with (first
        | (go_at_call 51; ((with_reducible refine HH.out.mono ?_); rintro e W1 ⟨rfl, rfl⟩))
        | go_in)
      go_end0
      exact ⟨⟨_, rfl⟩, .inl ⟨pre, by rw [HU.out.eq, upI_out hb, List.append_nil], HU.out.j⟩⟩
set_option maxRecDepth 100000 in
set_option maxHeartbeats 4000000 in
theorem scope_seqG (d n : Nat) (hn : 3 ≤ n) (w : World) (lt ln ls b : Nat) (x s : Int) (hT : TreeAt es p nn PI tb W0) (hnn : nn ≤ 1048576) (hpl : p.length = nn) (hW : Below W0.heap.size W0 w) (hbx : BxS tb lt ln ls x s w) (h1 : lt ≠ b) (h2 : ln ≠ b) (h3 : ls ≠ b) :
    SeqG Fence.wide d n Tryd.prog 53 #[.pointer (some ⟨lt, 0, none⟩), .pointer (some ⟨ln, 0, none⟩), .pointer (some ⟨ls, 0, none⟩)] (fun x : Int => #[.int .i64 x]) (KC W0.heap.size w.heap.size b) Calm (fun xs => xs = scopeI es p nn PI x s) (fun pre => pre <+: scopeI es p nn PI x s) (scopeI es p nn PI x s).length (fun pre y _ => pre ++ [y] <+: scopeI es p nn PI x s) w := by
  intro l J Jx W hz hB hJ hJx hY h0
  obtain ⟨n₀, hn0⟩ : ∃ n₀, n₀ = w.heap.size + d := ⟨_, rfl⟩
  rw [← hn0] at hY hz
  change CallsIn Fence.wide n Tryd.prog 53 #[.func (.yield l) #[] #[], .pointer (some ⟨lt, 0, none⟩), .pointer (some ⟨ln, 0, none⟩), .pointer (some ⟨ls, 0, none⟩)] W _
  have hlt : lt < w.heap.size := (Array.getElem?_eq_some_iff.1 hbx.1).1
  have hln : ln < w.heap.size := (Array.getElem?_eq_some_iff.1 hbx.2.1).1
  have hls : ls < w.heap.size := (Array.getElem?_eq_some_iff.1 hbx.2.2).1
  have hU0 : IW J W0 (BxS tb lt ln ls x s) (scopeI es p nn PI x s) (scopeI es p nn PI x s) [] W := ⟨h0, hW.trans (hB.mono hW.size), ⟨box_on hbx.1 hB, box_on hbx.2.1 hB, box_on hbx.2.2 hB⟩, rfl⟩
  have HBX : Hid (∀ A B, KC W0.heap.size w.heap.size b A B → BxS tb lt ln ls x s A → BxS tb lt ln ls x s B) := Lib.hid (fun A B k h => ⟨k.box h.1 hlt h1, k.box h.2.1 hln h2, k.box h.2.2 hls h3⟩)
  have HBC : Hid (∀ A B, Calm A B → BxS tb lt ln ls x s A → BxS tb lt ln ls x s B) := Lib.hid (fun A B k h => ⟨box_on h.1 k, box_on h.2.1 k, box_on h.2.2 k⟩)
  have HU0 := Lib.hid hU0
  have HY := Lib.hid hY
  have HJ := Lib.hid hJ
  have HT := Lib.hid hT
  have cT := HU0.out.box.1.cell
  have cN := HU0.out.box.2.1.cell
  have cS := HU0.out.box.2.2.cell
  have HH := Lib.hid (has_as (HT.out.below HU0.out.low) x)
  clear hU0 hY hJ h0 hB hbx hz hn0 hT hW hln hlt hls h1 h2 h3
  refine (callsIn_wide (n := n)).2 ?_
  cases hb : isIn nn x with
  | false =>
    have hL : scopeI es p nn PI x s = [] := by unfold scopeI; rw [hb]; rfl
    rw [hL] at HU0 ⊢
    rw [hb] at HH
    go_enter Tryd.func53, Tryd.ntmps53
    go_wp2_with (first
      | (go_at_call 51; ((with_reducible refine HH.out.mono ?_); rintro e W1 ⟨rfl, rfl⟩))
      | go_in)
    refine bodyPost_ret (results_none rfl _ _ _) rfl ?_
    exact ⟨⟨_, rfl⟩, .inl ⟨[], rfl, HU0.out.j⟩⟩
  | true =>
    rw [hb] at HH
    obtain ⟨xn, hxn, hxl⟩ := isIn_nat hb
    have hx0 : 0 ≤ x := by omega
    have hx1 : x < (nn : Int) := by omega
    have HXN := Lib.hid hxn
    clear hxn
    by_cases hs0 : s = 0
    · have hL : scopeI es p nn PI x s = [x] := by unfold scopeI; rw [hb, if_pos rfl, if_pos hs0]
      rw [hL] at HU0 HY ⊢
      subst hs0
      obtain ⟨fn, tmps, assign, body, hy, hR⟩ := HY.out [] x W HU0.out.j (by simp) (List.prefix_refl _)
      try dsimp only at hy
      have HR := Lib.hid hR
      clear hR hb
      go_enter Tryd.func53, Tryd.ntmps53
      go_upto_region 1 with (first
        | (go_at_call 51; ((with_reducible refine HH.out.mono ?_); rintro e W1 ⟨rfl, rfl⟩))
        | (go_in))
      go_upto_region 3 with (first | go_in)
      refine (wpIn_wide (n := n)).1 ?_
      gi_wp2
      refine ⟨fun h => by simp [Fence.wide] at h, HR.out.mono ?_⟩
      rintro e W3 (⟨rfl, hJ3, hk3⟩ | ⟨rfl, hJ3, hk3⟩)
      · gi_wp2
        go_wp2
        go_end0
        exact ⟨⟨_, rfl⟩, .inl ⟨[x], rfl, hJ3⟩⟩
      · gi_wp2
        go_wp2
        go_end0
        exact ⟨⟨_, rfl⟩, .inr ⟨[x], List.prefix_refl _, hJ3⟩⟩
    · by_cases hs1 : s = 1
      · have hL : scopeI es p nn PI x s = childL nn PI x := by unfold scopeI; rw [hb, if_pos rfl, if_neg hs0, if_pos hs1]
        rw [hL] at HU0 HY ⊢
        subst hs1
        have hwx : wfi x := WalkArith.wf_i64 (by omega)
        obtain ⟨kb, base, v, k4, hlk, hoi, hkb, hle⟩ := TreeAt.child HT.out hwx
        obtain ⟨A, c, rfl, hcap, hc, hnone⟩ := ints_form hoi
        have hbase : ∀ ad, A = some ad → ∀ j, j < (childL nn PI x).length → W0.cell? (ad.add j) = some (.int .i64 ((childL nn PI x).getD j 0)) := fun ad e j hj => hc ad e j _ (by rw [List.getElem?_map, List.getElem?_eq_getElem hj, List.getD_eq_getElem?_getD, List.getElem?_eq_getElem hj]; rfl)
        have htb := HT.out.lt
        have k4W := (HU0.out.low.cell (p := ⟨tb, 4, none⟩) htb).trans k4
        have HLK := Lib.hid (fun W' (hW' : Below W0.heap.size W0 W') => hlk W' (hW'.block kb hkb))
        generalize childL nn PI x = cl at HU0 HY HLK hle hcap hc hbase hnone ⊢
        have HCB := Lib.hid hbase
        clear hc hoi hlk hb k4 hbase hL
        go_enter Tryd.func53, Tryd.ntmps53
        go_wp2_with (first
          | (go_at_call 51; ((with_reducible refine HH.out.mono ?_); rintro e W1 ⟨rfl, rfl⟩))
          | go_in)
        refine start_ (n := 8) (S := fun w' => w'.cell? ⟨lt, 0, none⟩ = some (TP tb) ∧ w'.cell? ⟨tb, 4, none⟩ = some (.map (some kb)) ∧ w'.cell? ⟨ln, 0, none⟩ = some (.int .i64 x) ∧ (Instr.lookup 77 (.map (some kb)) (.int .i64 x) false).run Tryd.prog w' = .ok (.slice A cl.length c) w') (ds := []) #[false, false, false, false, false, false, false, false] (by kernel_rfl) rfl rfl ⟨cT, k4W, cN, HLK.out W1.drew (below_drew1 HU0.out.low)⟩ (fun hHeld => ?_)
        refine pure_ (i := 7) (N := some 27) (v := ?_) (a' := ?_) #[false, false, false, false, false, false, false, true] rfl rfl (by kernel_rfl) (fun _ _ _ h => h) (Or.inl ⟨by rfl, ?_⟩) ?_ ?_
        rotate_left
        · intro w'
          go_simp
          with_reducible rfl
        rotate_left
        · simp only [Act.put, List.setIfInBounds_toArray, List.set_cons_zero, List.set_cons_succ, i64_w, i32_w]
          rfl
        refine take_ (i := 0) (N := some 20) (v := ?_) (a' := ?_) #[true, false, false, false, false, false, false, true] rfl rfl (by kernel_rfl) (fun _ _ _ h => h) (Or.inl ⟨by rfl, ?_⟩) hHeld ?_ ?_
        rotate_left
        · rintro w' ⟨s0, s1, s2, s3⟩
          go_simp
          with_reducible rfl
        rotate_left
        · simp only [Act.put, List.setIfInBounds_toArray, List.set_cons_zero, List.set_cons_succ, i64_w, i32_w]
          rfl
        refine pure_ (i := 1) (N := some 21) (v := ?_) (a' := ?_) #[true, true, false, false, false, false, false, true] rfl rfl (by kernel_rfl) (fun _ _ _ h => h) (Or.inl ⟨by rfl, ?_⟩) ?_ ?_
        rotate_left
        · intro w'
          go_simp
          with_reducible rfl
        rotate_left
        · simp only [Act.put, List.setIfInBounds_toArray, List.set_cons_zero, List.set_cons_succ, i64_w, i32_w]
          rfl
        refine pure_ (i := 2) (N := some 22) (v := ?_) (a' := ?_) #[true, true, true, false, false, false, false, true] rfl rfl (by kernel_rfl) (fun _ _ _ h => h) (Or.inl ⟨by rfl, ?_⟩) ?_ ?_
        rotate_left
        · intro w'
          go_simp
          with_reducible rfl
        rotate_left
        · simp only [Act.put, List.setIfInBounds_toArray, List.set_cons_zero, List.set_cons_succ, i64_w, i32_w]
          rfl
        refine take_ (i := 3) (N := some 23) (v := ?_) (a' := ?_) #[true, true, true, true, false, false, false, true] rfl rfl (by kernel_rfl) (fun _ _ _ h => h) (Or.inl ⟨by rfl, ?_⟩) hHeld ?_ ?_
        rotate_left
        · rintro w' ⟨s0, s1, s2, s3⟩
          go_simp
          with_reducible rfl
        rotate_left
        · simp only [Act.put, List.setIfInBounds_toArray, List.set_cons_zero, List.set_cons_succ, i64_w, i32_w]
          rfl
        refine take_ (i := 4) (N := some 24) (v := ?_) (a' := ?_) #[true, true, true, true, true, false, false, true] rfl rfl (by kernel_rfl) (fun _ _ _ h => h) (Or.inl ⟨by rfl, ?_⟩) hHeld ?_ ?_
        rotate_left
        · rintro w' ⟨s0, s1, s2, s3⟩
          go_simp
          with_reducible rfl
        rotate_left
        · simp only [Act.put, List.setIfInBounds_toArray, List.set_cons_zero, List.set_cons_succ, i64_w, i32_w]
          rfl
        refine take_ (i := 5) (N := some 25) (v := ?_) (a' := ?_) #[true, true, true, true, true, true, false, true] rfl rfl (by kernel_rfl) (fun _ _ _ h => h) (Or.inl ⟨by rfl, ?_⟩) hHeld ?_ ?_
        rotate_left
        · rintro w' ⟨s0, s1, s2, s3⟩
          go_simp
          with_reducible rfl
        rotate_left
        · simp only [Act.put, List.setIfInBounds_toArray, List.set_cons_zero, List.set_cons_succ, i64_w, i32_w]
          rfl
        refine pure_ (i := 6) (N := some 26) (v := ?_) (a' := ?_) #[true, true, true, true, true, true, true, true] rfl rfl (by kernel_rfl) (fun _ _ _ h => h) (Or.inl ⟨by rfl, ?_⟩) ?_ ?_
        rotate_left
        · intro w'
          go_simp
          with_reducible rfl
        rotate_left
        · simp only [Act.put, List.setIfInBounds_toArray, List.set_cons_zero, List.set_cons_succ, i64_w, i32_w]
          rfl
        refine done_ (by kernel_rfl) ?_
        have HU1 : Hid (IW J W0 (BxS tb lt ln ls x 1) cl (cl.drop 0) (cl.take 0) W1.drew) := Lib.hid (HU0.out.calm HJ.out HBC.out (by repeat (first | exact Below.refl _ _ | apply pw_below_drewN | apply below_drew1)))
        go_wp2
        go_loopw [6, 27] (fun v6 v27 wr => ∃ i : Nat, i ≤ cl.length ∧ v27 = .int .i64 (i : Nat) ∧ Hid (IW J W0 (BxS tb lt ln ls x 1) cl (cl.drop i) (cl.take i) wr)) (fun _ v _ => cl.length - (intOf v).toNat)
        case atStart => exact ⟨0, Nat.zero_le _, rfl, HU1⟩
        case round =>
          clear HU1 HU0 cT cN cS k4W
          obtain ⟨i, hi, rfl, HU⟩ := hrel
          by_cases hin : i < cl.length
          · cases A with
            | none => exact absurd (hnone rfl) (by omega)
            | some ad =>
              have hlt : (i : Int) < (cl.length : Int) := by omega
              have hwi : IntKind.i64.wrap ((i : Int) + 1) = ((i + 1 : Nat) : Int) := by rw [IntWalk.i64_in _ (by omega)]; rfl
              have cx0 := HCB.out ad rfl i hin
              have cx := (HU.out.low.cell (p := ad.add i) (World.block_lt_of_cell? W0 _ cx0)).trans cx0
              have htk : cl.take i ++ [cl.getD i 0] = cl.take (i + 1) := by
                rw [List.take_add_one, List.getElem?_eq_getElem hin, List.getD_eq_getElem?_getD, List.getElem?_eq_getElem hin]
                rfl
              rw [drop_cons hin] at HU
              have HTK := Lib.hid htk
              clear cx0 htk
              generalize cl.getD i 0 = y at HU HTK cx
              obtain ⟨fn, tmps, assign, body, hy, hR⟩ := HY.out (cl.take i) y wr HU.out.j HU.out.len HU.out.pre
              try dsimp only at hy
              have HR := Lib.hid hR
              clear hR
              go_upto_region 8 with (first | go_in)
              refine (wpIn_wide (n := n)).1 ?_
              gi_wp2
              refine ⟨fun h => by simp [Fence.wide] at h, HR.out.mono ?_⟩
              rintro e W3 (⟨rfl, hJ3, hk3⟩ | ⟨rfl, hJ3, hk3⟩)
              · have HN := Lib.hid (HU.out.round HBX.out hJ3 hk3)
                rw [HTK.out] at HN
                clear hJ3 hk3
                gi_wp2
                go_wp2
                go_roundw
                case rel => exact ⟨i + 1, by omega, by go_num, HN⟩
                case measure => simp [intOf]; omega
              · have hpx := HU.out.pre
                gi_wp2
                go_wp2
                refine bodyPost_ret (results_none rfl _ _ _) rfl ?_
                exact ⟨⟨_, rfl⟩, .inr ⟨_, hpx, hJ3⟩⟩
          · have hlt : ¬ (i : Int) < (cl.length : Int) := by omega
            have hj := HU.out.j
            rw [List.take_of_length_le (by omega)] at hj
            go_wp2
            go_end0
            first | exact ⟨⟨_, rfl⟩, .inl hj⟩ | exact ⟨⟨_, rfl⟩, .inl ⟨cl, rfl, hj⟩⟩
      · by_cases hs2 : s = 2
        · have hL : scopeI es p nn PI x s = (List.range (endR (keyS es p) x.toNat - x.toNat)).map fun (i : Nat) => x + (i : Int) := by unfold scopeI; rw [hb, if_pos rfl, if_neg hs0, if_neg hs1, if_pos hs2]
          rw [hL] at HU0 HY ⊢
          subst hs2
          have hxn := HXN.out
          subst hxn
          obtain ⟨L, eg, ec, g, cap, pc, ef, V, Z, a1, a2, a3, a4, a5, a6, a7, _, a9, a10, a11, a12, _⟩ := HT.out
          have htb := HT.out.lt
          have k3 := a5.get 3 _ rfl
          have kE := a11.get xn _ (endc_at ef hxl)
          have hge := a11.lt
          rw [Int.toNat_natCast, endR_eq (a12 xn hxl)] at HU0 HY ⊢
          obtain ⟨hi1, hi2, _⟩ := a12 xn hxl
          rw [keyS_len] at hi2
          generalize ef xn = e at kE hi1 hi2 HU0 HY ⊢
          generalize L.ge = ge at k3 kE hge
          clear a1 a2 a3 a4 a5 a6 a7 a9 a10 a11 a12 hb hL
          have hle : e ≤ 1048576 := by omega
          obtain ⟨m, hm⟩ : ∃ m, m = e - xn := ⟨_, rfl⟩
          rw [← hm] at HU0 HY ⊢
          have HK3 := Lib.hid k3
          have HKE := Lib.hid kE
          clear k3 kE
          go_enter Tryd.func53, Tryd.ntmps53
          go_wp2_with (first
            | (go_at_call 51; ((with_reducible refine HH.out.mono ?_); rintro e W1 ⟨rfl, rfl⟩))
            | go_in)
          go_loopw [7] (fun v7 wr => ∃ (i : Nat) (y : Int), i ≤ m ∧ Hid (y = (xn : Int) + (i : Int)) ∧ v7 = .int .i64 y ∧ Hid (IW J W0 (BxS tb lt ln ls (xn : Int) 2) ((List.range m).map fun (i : Nat) => (xn : Int) + (i : Int)) (((List.range m).map fun (i : Nat) => (xn : Int) + (i : Int)).drop i) (((List.range m).map fun (i : Nat) => (xn : Int) + (i : Int)).take i) wr)) (fun v _ => e - (intOf v).toNat)
          case atStart => exact ⟨0, (xn : Int), Nat.zero_le _, Lib.hid (by simp), rfl, HU0⟩
          case round =>
            clear HU0 cT cN cS
            obtain ⟨i, y, hi, HYI, rfl, HU⟩ := hrel
            have k3 := (HU.out.low.cell (p := ⟨tb, 3, none⟩) htb).trans HK3.out
            have kE := (HU.out.low.cell (p := ⟨ge, xn, none⟩) hge).trans HKE.out
            have cT := HU.out.box.1.cell
            have cN := HU.out.box.2.1.cell
            by_cases hin : i < m
            · have hlt : y < (e : Int) := by have := HYI.out; omega
              have hwy : IntKind.i64.wrap (y + 1) = y + 1 := IntWalk.i64_in _ (by have := HYI.out; omega)
              have hy0 : 0 ≤ y := by have := HYI.out; omega
              go_wp2
              refine start_ (n := 9) (S := fun w' => w'.cell? ⟨lt, 0, none⟩ = some (TP tb) ∧ w'.cell? ⟨tb, 3, none⟩ = some (.slice (some ⟨ge, 0, none⟩) nn nn) ∧ w'.cell? ⟨ln, 0, none⟩ = some (.int .i64 (xn : Int)) ∧ w'.cell? ⟨ge, xn, none⟩ = some (.int .i64 (e : Int))) (ds := []) #[false, false, false, false, false, false, false, false, false] (by kernel_rfl) rfl rfl ⟨cT, k3, cN, kE⟩ (fun hHeld => ?_)
              refine pure_ (i := 0) (N := some 39) (v := ?_) (a' := ?_) #[true, false, false, false, false, false, false, false, false] rfl rfl (by kernel_rfl) (fun _ _ _ h => h) (Or.inl ⟨by rfl, ?_⟩) ?_ ?_
              rotate_left
              · intro w'
                go_simp
                with_reducible rfl
              rotate_left
              · simp only [Act.put, List.setIfInBounds_toArray, List.set_cons_zero, List.set_cons_succ, i64_w, i32_w]
                rfl
              refine take_ (i := 1) (N := some 40) (v := ?_) (a' := ?_) #[true, true, false, false, false, false, false, false, false] rfl rfl (by kernel_rfl) (fun _ _ _ h => h) (Or.inl ⟨by rfl, ?_⟩) hHeld ?_ ?_
              rotate_left
              · rintro w' ⟨s0, s1, s2, s3⟩
                go_simp
                with_reducible rfl
              rotate_left
              · simp only [Act.put, List.setIfInBounds_toArray, List.set_cons_zero, List.set_cons_succ, i64_w, i32_w]
                rfl
              refine pure_ (i := 2) (N := some 41) (v := ?_) (a' := ?_) #[true, true, true, false, false, false, false, false, false] rfl rfl (by kernel_rfl) (fun _ _ _ h => h) (Or.inl ⟨by rfl, ?_⟩) ?_ ?_
              rotate_left
              · intro w'
                go_simp
                with_reducible rfl
              rotate_left
              · simp only [Act.put, List.setIfInBounds_toArray, List.set_cons_zero, List.set_cons_succ, i64_w, i32_w]
                rfl
              refine pure_ (i := 3) (N := some 42) (v := ?_) (a' := ?_) #[true, true, true, true, false, false, false, false, false] rfl rfl (by kernel_rfl) (fun _ _ _ h => h) (Or.inl ⟨by rfl, ?_⟩) ?_ ?_
              rotate_left
              · intro w'
                go_simp
                with_reducible rfl
              rotate_left
              · simp only [Act.put, List.setIfInBounds_toArray, List.set_cons_zero, List.set_cons_succ, i64_w, i32_w]
                rfl
              refine take_ (i := 4) (N := some 43) (v := ?_) (a' := ?_) #[true, true, true, true, true, false, false, false, false] rfl rfl (by kernel_rfl) (fun _ _ _ h => h) (Or.inl ⟨by rfl, ?_⟩) hHeld ?_ ?_
              rotate_left
              · rintro w' ⟨s0, s1, s2, s3⟩
                go_simp
                with_reducible rfl
              rotate_left
              · simp only [Act.put, List.setIfInBounds_toArray, List.set_cons_zero, List.set_cons_succ, i64_w, i32_w]
                rfl
              refine take_ (i := 5) (N := some 44) (v := ?_) (a' := ?_) #[true, true, true, true, true, true, false, false, false] rfl rfl (by kernel_rfl) (fun _ _ _ h => h) (Or.inl ⟨by rfl, ?_⟩) hHeld ?_ ?_
              rotate_left
              · rintro w' ⟨s0, s1, s2, s3⟩
                go_simp
                with_reducible rfl
              rotate_left
              · simp only [Act.put, List.setIfInBounds_toArray, List.set_cons_zero, List.set_cons_succ, i64_w, i32_w]
                rfl
              refine pure_ (i := 6) (N := some 45) (v := ?_) (a' := ?_) #[true, true, true, true, true, true, true, false, false] rfl rfl (by kernel_rfl) (fun _ _ _ h => h) (Or.inl ⟨by rfl, ?_⟩) ?_ ?_
              rotate_left
              · intro w'
                go_simp
                with_reducible rfl
              rotate_left
              · simp only [Act.put, List.setIfInBounds_toArray, List.set_cons_zero, List.set_cons_succ, i64_w, i32_w]
                rfl
              refine take_ (i := 7) (N := some 46) (v := ?_) (a' := ?_) #[true, true, true, true, true, true, true, true, false] rfl rfl (by kernel_rfl) (fun _ _ _ h => h) (Or.inl ⟨by rfl, ?_⟩) hHeld ?_ ?_
              rotate_left
              · rintro w' ⟨s0, s1, s2, s3⟩
                go_simp
                with_reducible rfl
              rotate_left
              · simp only [Act.put, List.setIfInBounds_toArray, List.set_cons_zero, List.set_cons_succ, i64_w, i32_w]
                rfl
              refine pure_ (i := 8) (N := some 47) (v := ?_) (a' := ?_) #[true, true, true, true, true, true, true, true, true] rfl rfl (by kernel_rfl) (fun _ _ _ h => h) (Or.inl ⟨by rfl, ?_⟩) ?_ ?_
              rotate_left
              · intro w'
                go_simp
                with_reducible rfl
              rotate_left
              · simp only [Act.put, List.setIfInBounds_toArray, List.set_cons_zero, List.set_cons_succ, i64_w, i32_w]
                rfl
              refine done_ (by kernel_rfl) ?_
              have HU2 : Hid (IW J W0 (BxS tb lt ln ls (xn : Int) 2) ((List.range m).map fun (i : Nat) => (xn : Int) + (i : Int)) (((List.range m).map fun (i : Nat) => (xn : Int) + (i : Int)).drop i) (((List.range m).map fun (i : Nat) => (xn : Int) + (i : Int)).take i) wr.drew) := Lib.hid (HU.out.calm HJ.out HBC.out (by repeat (first | exact Below.refl _ _ | apply pw_below_drewN | apply below_drew1)))
              have htk : ((List.range m).map fun (i : Nat) => (xn : Int) + (i : Int)).take i ++ [y] = ((List.range m).map fun (i : Nat) => (xn : Int) + (i : Int)).take (i + 1) := by
                rw [List.take_add_one, HYI.out]
                simp [hin]
              rw [span_drop _ _ _ hin, ← HYI.out] at HU2
              have HTK := Lib.hid htk
              clear htk HU
              obtain ⟨fn, tmps, assign, body, hy, hR⟩ := HY.out _ y wr.drew HU2.out.j HU2.out.len HU2.out.pre
              try dsimp only at hy
              have HR := Lib.hid hR
              clear hR
              go_upto_region 14 with (first | go_in)
              refine (wpIn_wide (n := n)).1 ?_
              gi_wp2
              refine ⟨fun h => by simp [Fence.wide] at h, HR.out.mono ?_⟩
              rintro e W3 (⟨rfl, hJ3, hk3⟩ | ⟨rfl, hJ3, hk3⟩)
              · have HN := Lib.hid (HU2.out.round HBX.out hJ3 hk3)
                rw [HTK.out] at HN
                clear hJ3 hk3
                gi_wp2
                go_wp2
                go_roundw
                case rel => exact ⟨i + 1, y + 1, by omega, Lib.hid (by have := HYI.out; omega), rfl, HN⟩
                case measure => simp [intOf]; omega
              · have hpx := HU2.out.pre
                gi_wp2
                go_wp2
                refine bodyPost_ret (results_none rfl _ _ _) rfl ?_
                exact ⟨⟨_, rfl⟩, .inr ⟨_, hpx, hJ3⟩⟩
            · have hlt : ¬ y < (e : Int) := by have := HYI.out; omega
              go_wp2
              refine start_ (n := 9) (S := fun w' => w'.cell? ⟨lt, 0, none⟩ = some (TP tb) ∧ w'.cell? ⟨tb, 3, none⟩ = some (.slice (some ⟨ge, 0, none⟩) nn nn) ∧ w'.cell? ⟨ln, 0, none⟩ = some (.int .i64 (xn : Int)) ∧ w'.cell? ⟨ge, xn, none⟩ = some (.int .i64 (e : Int))) (ds := []) #[false, false, false, false, false, false, false, false, false] (by kernel_rfl) rfl rfl ⟨cT, k3, cN, kE⟩ (fun hHeld => ?_)
              refine pure_ (i := 0) (N := some 39) (v := ?_) (a' := ?_) #[true, false, false, false, false, false, false, false, false] rfl rfl (by kernel_rfl) (fun _ _ _ h => h) (Or.inl ⟨by rfl, ?_⟩) ?_ ?_
              rotate_left
              · intro w'
                go_simp
                with_reducible rfl
              rotate_left
              · simp only [Act.put, List.setIfInBounds_toArray, List.set_cons_zero, List.set_cons_succ, i64_w, i32_w]
                rfl
              refine take_ (i := 1) (N := some 40) (v := ?_) (a' := ?_) #[true, true, false, false, false, false, false, false, false] rfl rfl (by kernel_rfl) (fun _ _ _ h => h) (Or.inl ⟨by rfl, ?_⟩) hHeld ?_ ?_
              rotate_left
              · rintro w' ⟨s0, s1, s2, s3⟩
                go_simp
                with_reducible rfl
              rotate_left
              · simp only [Act.put, List.setIfInBounds_toArray, List.set_cons_zero, List.set_cons_succ, i64_w, i32_w]
                rfl
              refine pure_ (i := 2) (N := some 41) (v := ?_) (a' := ?_) #[true, true, true, false, false, false, false, false, false] rfl rfl (by kernel_rfl) (fun _ _ _ h => h) (Or.inl ⟨by rfl, ?_⟩) ?_ ?_
              rotate_left
              · intro w'
                go_simp
                with_reducible rfl
              rotate_left
              · simp only [Act.put, List.setIfInBounds_toArray, List.set_cons_zero, List.set_cons_succ, i64_w, i32_w]
                rfl
              refine pure_ (i := 3) (N := some 42) (v := ?_) (a' := ?_) #[true, true, true, true, false, false, false, false, false] rfl rfl (by kernel_rfl) (fun _ _ _ h => h) (Or.inl ⟨by rfl, ?_⟩) ?_ ?_
              rotate_left
              · intro w'
                go_simp
                with_reducible rfl
              rotate_left
              · simp only [Act.put, List.setIfInBounds_toArray, List.set_cons_zero, List.set_cons_succ, i64_w, i32_w]
                rfl
              refine take_ (i := 4) (N := some 43) (v := ?_) (a' := ?_) #[true, true, true, true, true, false, false, false, false] rfl rfl (by kernel_rfl) (fun _ _ _ h => h) (Or.inl ⟨by rfl, ?_⟩) hHeld ?_ ?_
              rotate_left
              · rintro w' ⟨s0, s1, s2, s3⟩
                go_simp
                with_reducible rfl
              rotate_left
              · simp only [Act.put, List.setIfInBounds_toArray, List.set_cons_zero, List.set_cons_succ, i64_w, i32_w]
                rfl
              refine take_ (i := 5) (N := some 44) (v := ?_) (a' := ?_) #[true, true, true, true, true, true, false, false, false] rfl rfl (by kernel_rfl) (fun _ _ _ h => h) (Or.inl ⟨by rfl, ?_⟩) hHeld ?_ ?_
              rotate_left
              · rintro w' ⟨s0, s1, s2, s3⟩
                go_simp
                with_reducible rfl
              rotate_left
              · simp only [Act.put, List.setIfInBounds_toArray, List.set_cons_zero, List.set_cons_succ, i64_w, i32_w]
                rfl
              refine pure_ (i := 6) (N := some 45) (v := ?_) (a' := ?_) #[true, true, true, true, true, true, true, false, false] rfl rfl (by kernel_rfl) (fun _ _ _ h => h) (Or.inl ⟨by rfl, ?_⟩) ?_ ?_
              rotate_left
              · intro w'
                go_simp
                with_reducible rfl
              rotate_left
              · simp only [Act.put, List.setIfInBounds_toArray, List.set_cons_zero, List.set_cons_succ, i64_w, i32_w]
                rfl
              refine take_ (i := 7) (N := some 46) (v := ?_) (a' := ?_) #[true, true, true, true, true, true, true, true, false] rfl rfl (by kernel_rfl) (fun _ _ _ h => h) (Or.inl ⟨by rfl, ?_⟩) hHeld ?_ ?_
              rotate_left
              · rintro w' ⟨s0, s1, s2, s3⟩
                go_simp
                with_reducible rfl
              rotate_left
              · simp only [Act.put, List.setIfInBounds_toArray, List.set_cons_zero, List.set_cons_succ, i64_w, i32_w]
                rfl
              refine pure_ (i := 8) (N := some 47) (v := ?_) (a' := ?_) #[true, true, true, true, true, true, true, true, true] rfl rfl (by kernel_rfl) (fun _ _ _ h => h) (Or.inl ⟨by rfl, ?_⟩) ?_ ?_
              rotate_left
              · intro w'
                go_simp
                with_reducible rfl
              rotate_left
              · simp only [Act.put, List.setIfInBounds_toArray, List.set_cons_zero, List.set_cons_succ, i64_w, i32_w]
                rfl
              refine done_ (by kernel_rfl) ?_
              have HU2 : Hid (IW J W0 (BxS tb lt ln ls (xn : Int) 2) ((List.range m).map fun (i : Nat) => (xn : Int) + (i : Int)) (((List.range m).map fun (i : Nat) => (xn : Int) + (i : Int)).drop i) (((List.range m).map fun (i : Nat) => (xn : Int) + (i : Int)).take i) wr.drew) := Lib.hid (HU.out.calm HJ.out HBC.out (by repeat (first | exact Below.refl _ _ | apply pw_below_drewN | apply below_drew1)))
              have hj := HU2.out.j
              rw [List.take_of_length_le (by simp; omega)] at hj
              go_wp2
              go_end0
              first | exact ⟨⟨_, rfl⟩, .inl hj⟩ | exact ⟨⟨_, rfl⟩, .inl ⟨_, rfl, hj⟩⟩
        · have hL : scopeI es p nn PI x s = [] := by unfold scopeI; rw [hb, if_pos rfl, if_neg hs0, if_neg hs1, if_neg hs2]
          rw [hL] at HU0 ⊢
          clear hb
          go_enter Tryd.func53, Tryd.ntmps53
          go_wp2_with (first
            | (go_at_call 51; ((with_reducible refine HH.out.mono ?_); rintro e W1 ⟨rfl, rfl⟩))
            | go_in)
          go_end0
          exact ⟨⟨_, rfl⟩, .inl ⟨[], rfl, HU0.out.j⟩⟩
end
end Go.Proofs.YtnogmaljcocfjaaDoor.DitMeth

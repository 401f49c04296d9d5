/- By hand: url.Unescape. For every text and world. -/
import Derived.Test.YtjakabacdnfmnaaUrlB
import Derived.StillTailTactics
set_option linter.unusedVariables false
set_option linter.unusedSimpArgs false
namespace Go.Proofs.Ytjakabacdnfmnaa.UrlW
open Go.RowKit Go.Shelf Go.Proofs Go.Proofs.Ytjakabacdnfmnaa.Bld Go.Proofs.YtjakabacdnfmnaaW.PrintWords Go.Proofs.YtjakabacdnfmnaaW.PrintLast Go.Proofs.YtjakabacdnfmnaaW.PrintMore
/-- What a text means, read at place p; the place of a fault. -/
def unx : List Int → Nat → List Int × Option Nat
  | [], _ => ([], none)
  | c :: t, p => if c = 37 then (match t with
      | a :: b :: t' => if nib a < 0 ∨ nib b < 0 then ([], some p) else ((16 * nib a + nib b) :: (unx t' (p + 3)).1, (unx t' (p + 3)).2)
      | _ => ([], some p))
    else if c < 33 ∨ 126 < c then ([], some p) else (c :: (unx t (p + 1)).1, (unx t (p + 1)).2)
theorem unx_plain (c : Int) (t : List Int) (p : Nat) (h : c ≠ 37) (h1 : 33 ≤ c) (h2 : c ≤ 126) : unx (c :: t) p = (c :: (unx t (p + 1)).1, (unx t (p + 1)).2) := by
  rcases t with _ | ⟨a, _ | ⟨b, t⟩⟩ <;> (conv => lhs; unfold unx) <;> rw [if_neg h, if_neg (by omega)]
theorem unx_bad (c : Int) (t : List Int) (p : Nat) (h : c ≠ 37) (h1 : c < 33 ∨ 126 < c) : unx (c :: t) p = ([], some p) := by
  rcases t with _ | ⟨a, _ | ⟨b, t⟩⟩ <;> unfold unx <;> rw [if_neg h, if_pos h1]
theorem unx_short (t : List Int) (p : Nat) (h : t.length < 2) : unx (37 :: t) p = ([], some p) := by
  rcases t with _ | ⟨a, _ | ⟨b, t⟩⟩
  · unfold unx; rw [if_pos rfl]
  · unfold unx; rw [if_pos rfl]
  · simp only [List.length_cons] at h; omega
theorem unx_no (a b : Int) (t : List Int) (p : Nat) (h : nib a < 0 ∨ nib b < 0) : unx (37 :: a :: b :: t) p = ([], some p) := by
  unfold unx
  rw [if_pos rfl]
  exact if_pos h
theorem unx_hex (a b : Int) (t : List Int) (p : Nat) (h1 : ¬ nib a < 0) (h2 : ¬ nib b < 0) : unx (37 :: a :: b :: t) p = ((16 * nib a + nib b) :: (unx t (p + 3)).1, (unx t (p + 3)).2) := by
  conv => lhs; unfold unx
  rw [if_pos rfl]
  exact if_neg (by omega)
theorem nib_le (c : Int) : nib c ≤ 15 := by
  unfold nib digB
  split
  · rename_i h; simp at h; omega
  · split
    · omega
    · split <;> omega
def unAns (l : List Int) : Value := match (unx l 0).2 with
  | none => .tuple #[.string (strOfNums (unx l 0).1), .int .i64 0, .int .i64 0]
  | some p => .tuple #[.string ⟨#[]⟩, .int .i64 182, .int .i64 (p : Nat)]
structure UnR (w : World) (l : List Int) (i : Nat) (out : List Int) (wr : World) : Prop where
  bld : Lib.IsBuilderF 45 5 w.heap.size w.heap.size (cellsI out) wr
  below : Below w.heap.size w wr
  len : out.length ≤ i
  rng : ∀ x ∈ out, 0 ≤ x ∧ x ≤ 255
  eq : unx l 0 = (out ++ (unx (l.drop i) i).1, (unx (l.drop i) i).2)
theorem UnR.stop {w wr : World} {l out : List Int} {i : Nat} (h : UnR w l i out wr) (hs : unx (l.drop i) i = ([], some i)) : unAns l = .tuple #[.string ⟨#[]⟩, .int .i64 182, .int .i64 (i : Nat)] := by
  unfold unAns
  rw [h.eq, hs]
theorem UnR.last {w wr : World} {l out : List Int} (h : UnR w l l.length out wr) : unAns l = .tuple #[.string (strOfNums out), .int .i64 0, .int .i64 0] := by
  unfold unAns
  rw [h.eq, List.drop_of_length_le (Nat.le_refl _)]
  simp [unx]
theorem UnR.step {w wr w2 : World} {l out : List Int} {i j : Nat} {x : Int} (h : UnR w l i out wr) (hb : Lib.BuilderAtF 45 5 w.heap.size w.heap.size (.pointer (some ⟨w.heap.size, 0, none⟩)) (cellsI out ++ [Value.int .u8 x]) w2) (hw : Below w.heap.size wr w2) (hx : 0 ≤ x ∧ x ≤ 255) (hj : i < j)
    (hu : unx (l.drop i) i = (x :: (unx (l.drop j) j).1, (unx (l.drop j) j).2)) : UnR w l j (out ++ [x]) w2 := by
  refine ⟨.inr ?_, h.below.trans hw, by rw [List.length_append, List.length_singleton]; have := h.len; omega, fun y hy => ?_, by rw [h.eq, hu]; simp⟩
  · unfold cellsI
    rw [List.map_append]
    exact hb
  · rcases List.mem_append.1 hy with hy | hy
    · exact h.rng y hy
    · rw [List.mem_singleton] at hy; subst hy; exact hx
theorem UnR.start (w : World) (l : List Int) : UnR w l 0 [] (w.alloc (.cells #[.pointer none, .slice none 0 0] 45)) :=
  ⟨Lib.IsBuilderF.of (Lib.fresh_isBuilder 45 5 w), (Below.refl w.heap.size w).alloc (Nat.le_refl _) _, Nat.le_refl _, fun x hx => by simp at hx, by simp⟩
theorem or16f : ∀ a b : Fin 16, bits BinOp.or IntKind.i64 (wrap64 ((a.val : Int) * 16)) (b.val : Int) % 256 = 16 * (a.val : Int) + b.val := by decide +kernel
theorem or16 (a b : Int) (h0 : 0 ≤ a) (h1 : a ≤ 15) (h2 : 0 ≤ b) (h3 : b ≤ 15) : bits BinOp.or IntKind.i64 (wrap64 (a * 16)) b % 256 = 16 * a + b := by
  obtain ⟨a, rfl⟩ := Int.eq_ofNat_of_zero_le h0
  obtain ⟨b, rfl⟩ := Int.eq_ofNat_of_zero_le h2
  exact or16f ⟨a, by omega⟩ ⟨b, by omega⟩
theorem UnR.draw {w wr : World} {l out : List Int} {i : Nat} (h : UnR w l i out wr) : UnR w l i out wr.drew := ⟨h.bld, below_drew h.below, h.len, h.rng, h.eq⟩
theorem nib_still (c : Int) (w : World) : Calls Try.prog 32 #[.int .u8 c] w fun e w' => e = .returned (.int .i64 (nib c)) ∧ w' = w := (nib_as c w).mono fun _ _ ⟨h, e⟩ => ⟨h, e.symm⟩
theorem bytes_drop (s : ByteArray) (i : Nat) (h : i < s.size) : (bytesOf s).drop i = (s[i].toNat : Int) :: (bytesOf s).drop (i + 1) := by
  have hl : i < s.data.toList.length := by rw [Array.length_toList]; exact h
  unfold bytesOf
  rw [List.drop_eq_getElem_cons (by rw [List.length_map]; exact hl), List.getElem_map]
  rfl
set_option maxHeartbeats 4000000 in
set_option maxRecDepth 100000 in
theorem unescape_as (s : ByteArray) (w : World) (hs : s.size ≤ 140737488355327) :
    Calls Try.prog 16 #[.string s] w fun e w' => e = .returned (unAns (bytesOf s)) ∧ Below w.heap.size w w' := by
  have HQ := Lib.hid (UnR.start w (bytesOf s))
  go_enter Try.func16, Try.ntmps16
  go_wp2_with fail
  go_loopw [6, 7] (fun v v7 wr => ∃ (i : Nat) (out : List Int), i ≤ s.size ∧ v = .int .i64 (i : Nat) ∧ Hid (UnR w (bytesOf s) i out wr)) (fun v _ _ => s.size - (intOf v).toNat)
  case atStart => exact ⟨0, [], Nat.zero_le _, rfl, HQ⟩
  case round =>
    clear HQ
    obtain ⟨i, out, hi, rfl, HR⟩ := hrel
    have hsz := HR.out.below.size
    by_cases hin : i < s.size
    · have HD := Lib.hid (bytes_drop s i hin)
      have hl := HR.out.len
      have hl1 : (cellsI out).length + 1 ≤ 140737488355328 := by unfold cellsI; rw [List.length_map]; omega
      have HL := Lib.hid hl1
      clear hl hl1
      have hc9 := s[i].toNat_lt
      by_cases hc : (s[i].toNat : Int) = 37
      · have hne : ((s[i].toNat : Int) != 37) = false := by rw [hc]; rfl
        have HC := Lib.hid hc
        clear hc
        by_cases h2 : i + 2 < s.size
        · have h2' : ¬ ((s.size : Int) ≤ (i : Int) + 2) := by omega
          have hi1 : i + 1 < s.size := by omega
          have w1 : IntKind.i64.wrap ((i : Int) + 1) = ((i + 1 : Nat) : Int) := by rw [IntWalk.i64_in _ (by omega)]; rfl
          have w2 : IntKind.i64.wrap ((i : Int) + 2) = ((i + 2 : Nat) : Int) := by rw [IntWalk.i64_in _ (by omega)]; rfl
          have HD1 := Lib.hid (bytes_drop s (i + 1) hi1)
          have HD2 := Lib.hid (bytes_drop s (i + 2) h2)
          by_cases ha : nib (s[i + 1].toNat : Int) < 0
          · have HS := Lib.hid (HR.out.stop (by rw [HD.out, HC.out, HD1.out, HD2.out]; exact unx_no _ _ _ _ (.inl ha)))
            go_wp2_with (first
              | (go_at_call 32; ((with_reducible refine (nib_as _ _).mono ?_); rintro e _ ⟨rfl, rfl⟩))
              | go_in)
            go_ret3
            exact ⟨(congrArg Ending.returned HS.out).symm, HR.out.below⟩
          · by_cases hb : nib (s[i + 2].toNat : Int) < 0
            · have HS := Lib.hid (HR.out.stop (by rw [HD.out, HC.out, HD1.out, HD2.out]; exact unx_no _ _ _ _ (.inr hb)))
              go_wp2_with (first
                | (go_at_call 32; ((with_reducible refine (nib_as _ _).mono ?_); rintro e _ ⟨rfl, rfl⟩))
                | go_in)
              go_ret3
              exact ⟨(congrArg Ending.returned HS.out).symm, HR.out.below⟩
            · go_wp2_with (first
                | (go_at_call 32; ((with_reducible refine (nib_as _ _).mono ?_); rintro e _ ⟨rfl, rfl⟩))
                | go_in)
              go_still_tail 13, (by kernel_rfl)
              still_call (nib_still _ _)
              repeat still_step
              still_call (nib_still _ _)
              repeat still_step
              refine wpStill_nil ?_
              change wpList _ _ _ _ _ wr.drew
              have HRD := Lib.hid HR.out.draw
              generalize wr.drew = wd at HRD
              have HU := Lib.hid (show unx ((bytesOf s).drop i) i = (_ :: (unx ((bytesOf s).drop (i + 3)) (i + 3)).1, (unx ((bytesOf s).drop (i + 3)) (i + 3)).2) by rw [HD.out, HC.out, HD1.out, HD2.out]; exact unx_hex _ _ _ _ (by omega) (by omega))
              have hna := nib_le (s[i + 1].toNat : Int)
              have hnb := nib_le (s[i + 2].toNat : Int)
              have HO := Lib.hid (or16 (nib (s[i + 1].toNat : Int)) (nib (s[i + 2].toNat : Int)) (by omega) hna (by omega) hnb)
              have hsz2 := HRD.out.below.size
              have HRG : Hid (0 ≤ 16 * nib (s[i + 1].toNat : Int) + nib (s[i + 2].toNat : Int) ∧ 16 * nib (s[i + 1].toNat : Int) + nib (s[i + 2].toNat : Int) ≤ 255) := Lib.hid (by omega)
              clear hna hnb
              go_wp2_with (first
                | (go_at_call 31; ((with_reducible refine (writeByte_as w.heap.size w.heap.size _ _ _ HRD.out.bld HL.out hsz2).mono ?_); rintro e W2 ⟨rfl, q1, q2, _⟩; rw [HO.out] at q1; have HN := Lib.hid (HRD.out.step (j := i + 3) q1 q2 HRG.out (by omega) HU.out); clear q1 q2))
                | go_in)
              go_roundw
              case rel => exact ⟨i + 3, _, by omega, by go_num, HN⟩
              case measure => simp [intOf]; omega
        · have h2' : ((s.size : Int) ≤ (i : Int) + 2) := by omega
          have HS := Lib.hid (HR.out.stop (by rw [HD.out, HC.out]; exact unx_short _ _ (by rw [List.length_drop, bytesOf_len]; omega)))
          go_wp2_with (first
            | (go_at_call 32; ((with_reducible refine (nib_as _ _).mono ?_); rintro e _ ⟨rfl, rfl⟩))
            | go_in)
          go_ret3
          exact ⟨(congrArg Ending.returned HS.out).symm, HR.out.below⟩
      · have hne : ((s[i].toNat : Int) != 37) = true := bne_iff_ne.mpr hc
        by_cases h33 : (s[i].toNat : Int) < 33
        · have HS := Lib.hid (HR.out.stop (by rw [HD.out]; exact unx_bad _ _ _ hc (.inl h33)))
          go_wp2
          go_ret3
          exact ⟨(congrArg Ending.returned HS.out).symm, HR.out.below⟩
        · by_cases h126 : 126 < (s[i].toNat : Int)
          · have HS := Lib.hid (HR.out.stop (by rw [HD.out]; exact unx_bad _ _ _ hc (.inr h126)))
            go_wp2
            go_ret3
            exact ⟨(congrArg Ending.returned HS.out).symm, HR.out.below⟩
          · have HU := Lib.hid (show unx ((bytesOf s).drop i) i = ((s[i].toNat : Int) :: (unx ((bytesOf s).drop (i + 1)) (i + 1)).1, (unx ((bytesOf s).drop (i + 1)) (i + 1)).2) by rw [HD.out]; exact unx_plain _ _ _ hc (by omega) (by omega))
            go_wp2_with (first
              | (go_at_call 31; ((with_reducible refine (writeByte_as w.heap.size w.heap.size _ _ _ HR.out.bld HL.out hsz).mono ?_); rintro e W2 ⟨rfl, q1, q2, _⟩; have HN := Lib.hid (HR.out.step (j := i + 1) q1 q2 ⟨by omega, by omega⟩ (by omega) HU.out); clear q1 q2))
              | go_in)
            go_roundw
            case rel => exact ⟨i + 1, _, by omega, by go_num, HN⟩
            case measure => simp [intOf]; omega
    · have hlt : ¬ ((i : Int) < (s.size : Int)) := by omega
      obtain rfl : i = s.size := by omega
      have HA := Lib.hid (show unAns (bytesOf s) = _ from UnR.last (by rw [bytesOf_len]; exact HR.out))
      have HR3 : Hid (Lib.IsBuilderF 45 5 w.heap.size w.heap.size (Lib.byteCells (strOfNums out).data.toList) wr) := Lib.hid (by rw [cellsI_str _ HR.out.rng]; exact HR.out.bld)
      go_wp2_with (first
        | (go_at_call 26; ((with_reducible refine (string_as w.heap.size w.heap.size _ _ HR3.out hsz).mono ?_); rintro e W2 ⟨rfl, _, q2, _⟩; have HQ2 := Lib.hid (HR.out.below.trans q2); clear q2))
        | go_in)
      go_ret3
      exact ⟨(congrArg Ending.returned HA.out).symm, HQ2.out⟩
end Go.Proofs.Ytjakabacdnfmnaa.UrlW

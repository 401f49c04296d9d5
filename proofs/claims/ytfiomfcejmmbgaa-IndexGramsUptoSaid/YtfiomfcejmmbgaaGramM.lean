/- IndexGrams: the law walked, whole. -/
import Derived.Test.YtfiomfcejmmbgaaGramL
set_option linter.unusedVariables false
set_option linter.unusedSimpArgs false
namespace Go.Proofs.Ytfiomfcejmmbgaa.GramW
open Go.RowKit Go.Proofs.Ytfiomfcejmmbgaa.Blk Go.Proofs.Ytfiomfcejmmbgaa.XI Go.Proofs.Ytfiomfcejmmbgaa.XV Go.Proofs.Ytfiomfcejmmbgaa.Ris Go.Proofs.Ytfiomfcejmmbgaa.OfT Go.Proofs.Ytfiomfcejmmbgaa.GramEv Go.Proofs.YtfiomfcejmmbgaaW.PrintWords Go.Proofs.YtfiomfcejmmbgaaW.PrintLast Go.Proofs.YtfiomfcejmmbgaaW.PrintMore
theorem gramslaw (s t : ByteArray) (w : World) (hs : s.size ≤ 1048576) (ht : t.size ≤ 1048576) : Calls Try.prog 5 #[.string s, .string t] w fun e w' => e = .returned (.bool true) ∧ Below w.heap.size w w' := by
  have HG1 : Hid (∀ W, Calls Try.prog 11 #[.string s] W (GotM W (gramSet s))) := Lib.hid fun W => grams_as s W hs
  have HG2 : Hid (∀ W, Calls Try.prog 11 #[.string t] W (GotM W (gramSet t))) := Lib.hid fun W => grams_as t W ht
  have HF1 : Hid (∀ W, Calls Try.prog 13 #[.string s] W fun e w' => ∃ v, e = .returned v ∧ Kd.R Kd.string 9 w' W.heap.size (fun _ => True) v (gramSet s) ∧ Below W.heap.size W w') := Lib.hid fun W => refgrams_as s W hs
  have HF2 : Hid (∀ W, Calls Try.prog 13 #[.string t] W fun e w' => ∃ v, e = .returned v ∧ Kd.R Kd.string 9 w' W.heap.size (fun _ => True) v (gramSet t) ∧ Below W.heap.size W w') := Lib.hid fun W => refgrams_as t W ht
  have hl1 : (gramSet s).length ≤ 1048576 := Nat.le_trans (gramSet_len s) hs
  have hl2 : (gramSet t).length ≤ 1048576 := Nat.le_trans (gramSet_len t) ht
  generalize gramSet s = L1 at *
  generalize gramSet t = L2 at *
  go_enter Try.func5, Try.ntmps5
  go_wp2
  go_loopw [5, 6, 7, 8, 9, 10] (fun v5 v6 v7 v8 v9 v10 wr => ∃ (k : Nat) (its : List It), k ≤ 3 ∧ v6 = .int .i64 (k : Nat) ∧ its.length = 2 * k ∧ Hid (KR w v5 its wr)) (fun _ v6 _ _ _ _ _ => 3 - (intOf v6).toNat)
  case atStart => exact ⟨0, [], by omega, rfl, rfl, Lib.hid ⟨Kd.R_nil _ _ _ _ _, fun x hx => absurd hx List.not_mem_nil, Below.refl _ _⟩⟩
  case round =>
    obtain ⟨k, its, hk, rfl, hil, HK⟩ := hrel
    have hsz := HK.out.below.size
    by_cases hin : k < 3
    · have hlt : (k : Int) < 3 := by omega
      have hw1 : IntKind.i64.wrap ((k : Int) + 1) = ((k + 1 : Nat) : Int) := by rw [IntWalk.i64_in _ (by omega)]; rfl
      have hw2 : IntKind.i64.wrap (48 + (k : Int)) = 48 + (k : Int) := IntWalk.i64_in _ (by omega)
      obtain ⟨y, hy⟩ : ∃ y : Nat, y = 48 + k := ⟨_, rfl⟩
      have hyb : y < 256 := by omega
      have hw3 : IntKind.u8.wrap (48 + (k : Int)) = (y : Int) := by
        show (48 + (k : Int)) % 256 = _
        omega
      have ka : ∀ W : World, (convert 40 9 (.slice (some ⟨W.heap.size, 0, none⟩) 2 2)).run Try.prog (W.alloc (.cells #[.int .u8 97, .int .u8 y] 5)) = .ok (.string ⟨#[97, UInt8.ofNat y]⟩) (W.alloc (.cells #[.int .u8 97, .int .u8 y] 5)) := fun W => conv_two W y hyb 97
      have kb : ∀ (W : World) (o : Obj), (convert 40 9 (.slice (some ⟨W.heap.size + 1, 0, none⟩) 2 2)).run Try.prog ((W.alloc o).alloc (.cells #[.int .u8 98, .int .u8 y] 5)) = .ok (.string ⟨#[98, UInt8.ofNat y]⟩) ((W.alloc o).alloc (.cells #[.int .u8 98, .int .u8 y] 5)) := fun W o => by
        have := conv_two (W.alloc o) y hyb 98
        rw [World.size_alloc] at this
        exact this
      have hil6 : (its.length + 2) * 64 ≤ 140737488355328 := by omega
      obtain ⟨m1, hm1⟩ : ∃ m : ByteArray, m = ⟨#[97, UInt8.ofNat y]⟩ := ⟨_, rfl⟩
      obtain ⟨m2, hm2⟩ : ∃ m : ByteArray, m = ⟨#[98, UInt8.ofNat y]⟩ := ⟨_, rfl⟩
      rw [← hm1] at ka
      rw [← hm2] at kb
      have HIL := Lib.hid hil
      clear hm1 hm2 hy hil
      go_wp2_with (first
        | (go_at_call 11; (with_reducible refine (HG1.out _).mono ?_); rintro e w1 ⟨ga, Aa, ca, rfl, hma, hba⟩; have HA := Lib.hid hma; have HBA := Lib.hid hba; clear hma hba)
        | (go_at_call 11; (with_reducible refine (HG2.out _).mono ?_); rintro e w2 ⟨gb, Ab, cb, rfl, hmb, hbb⟩; have HP2 := Lib.hid (PA.mk HBA.out.size (fun k hk => (mine_lt HA.out k hk).2.1) (HBA.out.trans (hbb.mono HBA.out.size)) (mine_below HA.out hbb) hmb); clear hmb hbb)
        | (go_at_call 13; (with_reducible refine (HF1.out _).mono ?_); rintro e w3 ⟨v3, rfl, hr3, hb3⟩; (obtain ⟨A3, c3, rfl⟩ := Kd.R_slice hr3); have HR3 := Lib.hid hr3; have HP3 := Lib.hid (HP2.out.on hb3); clear hr3 hb3)
        | (go_at_call 12; ((with_reducible refine (same_as _ ga Aa A3 ca c3 L1 ?h ?hB ?hd hl1).mono ?_); (case h => exact HP3.out.a.row); (case hB => exact (Kd.R_reads' HR3.out).2.2); (case hd => exact (Kd.R_reads' HR3.out).2.1); rintro e _ ⟨rfl, ⟨n4, rfl⟩⟩; have HP4 := Lib.hid (HP3.out.on (pw_below_drewN (Below.refl _ _) n4))))
        | (go_at_call 13; (with_reducible refine (HF2.out _).mono ?_); rintro e w5 ⟨v5, rfl, hr5, hb5⟩; (obtain ⟨A5, c5, rfl⟩ := Kd.R_slice hr5); have HR5 := Lib.hid hr5; have HP5 := Lib.hid (HP4.out.on hb5); clear hr5 hb5)
        | (go_at_call 12; ((with_reducible refine (same_as _ gb Ab A5 cb c5 L2 ?h ?hB ?hd hl2).mono ?_); (case h => exact HP5.out.b.row); (case hB => exact (Kd.R_reads' HR5.out).2.2); (case hd => exact (Kd.R_reads' HR5.out).2.1); rintro e _ ⟨rfl, ⟨n6, rfl⟩⟩; have HP6 := Lib.hid (HP5.out.on (pw_below_drewN (Below.refl _ _) n6)); generalize w5.drewN n6 = w6 at HP6 ⊢))
        | (go_at_call 14; ((with_reducible refine (mark_as _ wr.heap.size ga Aa ca L1 m1 ?h hl1).mono ?_); (case h => exact (HP6.out.on (below_alloc (Below.refl _ _) _)).a); rintro e w7 ⟨A7, c7, rfl, q1, q2, q3, q4, q5⟩; have HP7 := Lib.hid ((HP6.out.on (below_alloc (Below.refl _ _) _)).mark hl1 q1 q2 q3 q4 q5); clear q1 q2 q3 q4 q5))
        | (go_at_call 14; ((with_reducible refine (mark_as _ w1.heap.size gb Ab cb L2 m2 ?h hl2).mono ?_); (case h => exact ((HP7.out.on (below_alloc (Below.refl _ _) _)).on (below_alloc (Below.refl _ _) _)).b); rintro e w8 ⟨A8, c8, rfl, q1, q2, q3, q4, q5⟩; have HP8 := Lib.hid (((HP7.out.on (below_alloc (Below.refl _ _) _)).on (below_alloc (Below.refl _ _) _)).mark hl2 q1 q2 q3 q4); have hbox := (((At.fresh w7 [.slice Aa L1.length ca, .slice A7 (L1.length + 1) c7, .string m1] 38).alloc _).grown q4 (fun e => Nat.lt_irrefl _ (mine_lt HP7.out.b _ e.symm).2.1)); have bx0 := hbox.get 0 _ rfl; have bx1 := hbox.get 1 _ rfl; have bx2 := hbox.get 2 _ rfl; have hbl := hbox.lt; clear q1 q2 q3 q4 q5 hbox))
        | ((with_reducible refine gate_builtin (b := .append) (xs := #[.tmp 47, .tmp 50]) rfl ?_); at_builtin; refine Kd.R_append_rows kT (w0 := w) w.heap.size rfl (.tmp 47) (.tmp 50) 33 38 (.agg #[.slice none 0 0, .slice none 0 0, .string ⟨#[]⟩]) 64 rfl Try.underlying33 info38 rfl (by decide) (by omega) _ its [(⟨Aa, L1.length, ca, A7, c7, m1⟩ : It), ⟨Ab, L2.length, cb, A8, c8, m2⟩] _ _ _ (fun _ => True) (fun _ => False) rfl rfl ?aO ?aR (fun _ _ h => h) (fun _ h => h.elim) ?aF ?aB ?aS ?aL ?_; (case aR => exact lit2_at (w8.alloc (.cells #[Value.slice Ab L2.length cb, Value.slice A8 (L2.length + 1) c8, Value.string m2] 38)) _ (by rw [World.size_alloc]) ⟨Aa, L1.length, ca, A7, c7, m1⟩ ⟨Ab, L2.length, cb, A8, c8, m2⟩); (case aF => exact (fun _ _ => trivial)); (case aO => exact Kd.R_alloc (Kd.R_alloc (HK.out.on HP8.out.1).row _) _); (case aB => exact ((HK.out.on HP8.out.1).on (below_alloc (below_alloc (Below.refl _ _) _) _)).below); (case aS => exact ((HK.out.on HP8.out.1).on (below_alloc (below_alloc (Below.refl _ _) _) _)).below.size); (case aL => omega); intro v9 w9 q1 q2 q3 q4; have HKN := Lib.hid (KR.mk q1 (fun x hx => by
            have hold := ((HK.out.on HP8.out.1).on (below_alloc (below_alloc (Below.refl _ _) (.cells #[Value.slice Ab L2.length cb, Value.slice A8 (L2.length + 1) c8, Value.string m2] 38)) (.cells #[Value.slice Aa L1.length ca, Value.slice A7 (L1.length + 1) c7, Value.string m1, Value.slice Ab L2.length cb, Value.slice A8 (L2.length + 1) c8, Value.string m2] 38)))
            rcases List.mem_append.1 hx with hx | hx
            · exact (hold.all x hx).over hold.row q3
            · have hx2 : x = ⟨Aa, L1.length, ca, A7, c7, m1⟩ ∨ x = ⟨Ab, L2.length, cb, A8, c8, m2⟩ := by simpa using hx
              rcases hx2 with rfl | rfl
              · exact (HP8.out.2.1.below (below_alloc (below_alloc (Below.refl _ _) _) _)).over hold.row q3
              · exact (HP8.out.2.2.below (below_alloc (below_alloc (Below.refl _ _) _) _)).over hold.row q3) q2); clear q1 q2 q3 q4)
        | go_in)
      go_roundw
      case rel => exact ⟨k + 1, _, by omega, by go_num, by rw [List.length_append, HIL.out]; simp; omega, HKN⟩
      case measure => simp [intOf]; omega
    · have hlt : ¬ (k : Int) < 3 := by omega
      have hnl : its.length ≤ 6 := by omega
      obtain ⟨A, c, rfl⟩ := Kd.R_slice HK.out.row
      clear hil
      go_wp2
      go_loopw [11, 12] (fun v11 v12 wi => ∃ i : Nat, i ≤ its.length ∧ v11 = .int .i64 (i : Nat) ∧ Hid (KR w (.slice A its.length c) its wi)) (fun v11 _ _ => its.length - (intOf v11).toNat)
      case atStart => exact ⟨0, Nat.zero_le _, rfl, HK⟩
      case round =>
        clear HK hsz
        obtain ⟨i, hi, rfl, HK⟩ := hrel
        by_cases hin2 : i < its.length
        · have hlti : (i : Int) < (its.length : Int) := by omega
          have hw1 : IntKind.i64.wrap ((i : Int) + 1) = ((i + 1 : Nat) : Int) := by rw [IntWalk.i64_in _ (by omega)]; rfl
          obtain ⟨g, c', he, _⟩ := Kd.R_form HK.out.row (by omega)
          injection he with he1 _ he2
          subst he1 he2
          obtain ⟨x, hx⟩ : ∃ x, x = its[i] := ⟨_, rfl⟩
          have hxd : its.getD i x = x := by rw [List.getD_eq_getElem?_getD, List.getElem?_eq_getElem hin2, hx]; rfl
          obtain ⟨a1, a2, a3⟩ := it_cells HK.out.row i hin2 x
          rw [hxd] at a1 a2 a3
          have HG := Lib.hid (HK.out.all x (by rw [hx]; exact List.getElem_mem _))
          clear hx hxd
          obtain ⟨xA, xn, xc, xA2, xc2, xm⟩ := x
          change wr.cell? ⟨g, i * 3, none⟩ = some (.slice xA xn xc) at a1
          change wr.cell? ⟨g, i * 3 + 1, none⟩ = some (.slice xA2 (xn + 1) xc2) at a2
          change wr.cell? ⟨g, i * 3 + 2, none⟩ = some (.string xm) at a3
          go_wp2_with (first
            | (go_at_call 15; ((with_reducible refine (whole_as _ ⟨xA, xn, xc, xA2, xc2, xm⟩ HG.out).mono ?_); rintro e w2 ⟨rfl, hb⟩; have HN := Lib.hid (HK.out.on hb); clear hb))
            | go_in)
          go_roundw
          case rel => exact ⟨i + 1, by omega, by go_num, HN⟩
          case measure => simp [intOf]; omega
        · have hlti : ¬ (i : Int) < (its.length : Int) := by omega
          go_wp2
          go_ret
          exact ⟨rfl, HK.out.below⟩
end Go.Proofs.Ytfiomfcejmmbgaa.GramW
namespace Go.Proofs.Ytfiomfcejmmbgaa.XI
open Go.RowKit Go.Proofs.Ytfiomfcejmmbgaa.GramW Go.Proofs.YtfiomfcejmmbgaaW.PrintWords Go.Proofs.YtfiomfcejmmbgaaW.PrintLast Go.Proofs.YtfiomfcejmmbgaaW.PrintMore
def rosterlaw11_IndexGrams.f (x0 : ByteArray) (x1 : ByteArray) : Option Bool := if x0.size ≤ 1048576 ∧ x1.size ≤ 1048576 then some true else none
theorem rosterlaw11_IndexGrams.calls (a0 : ByteArray) (a1 : ByteArray) (r : Bool) (w : World) (h : rosterlaw11_IndexGrams.f a0 a1 = some r) :
    Calls Try.prog 5 #[.string a0, .string a1] w fun e w' => e = .returned (.bool r) ∧ Below w.heap.size w w' := by
  unfold rosterlaw11_IndexGrams.f at h
  split at h
  case isFalse => cases h
  case isTrue hs =>
  obtain rfl := Option.some.inj h
  exact gramslaw a0 a1 w hs.1 hs.2
end Go.Proofs.Ytfiomfcejmmbgaa.XI

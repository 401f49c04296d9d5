/- By hand: the law's roomy pattern, its spare room. For every pattern and world. -/
import Derived.Test.YtjakabacdnfmnaaFitsB
set_option linter.unusedVariables false
set_option linter.unusedSimpArgs false
namespace Go.Proofs.Ytjakabacdnfmnaa.FitsW
open Go.RowKit Go.Shelf Go.Proofs Go.Proofs.Ytjakabacdnfmnaa.Blk Go.Proofs.Ytjakabacdnfmnaa.XM Go.Proofs.Ytjakabacdnfmnaa.XV Go.Proofs.Ytjakabacdnfmnaa.FitsP Go.Proofs.Ytjakabacdnfmnaa.AttrW Go.Proofs.YtjakabacdnfmnaaW.PrintWords Go.Proofs.YtjakabacdnfmnaaW.PrintLast Go.Proofs.YtjakabacdnfmnaaW.PrintMore
theorem copied_loop (i f : ByteArray) (ps : List ByteArray) (hn : ps.length ≤ 1048576) : ∀ m j (acc : List ByteArray), j + m = ps.length → acc = ps.take j → Ev (fun k => rosterlaw06_copied.l0 k (j : Int) i ps f i acc f) (i, ps, f)
  | 0, j, acc, hj, ha => by
    refine ev_round ?_
    simp only [rosterlaw06_copied.l0]
    refine ev_neg (by omega) (ev_eq ?_)
    rw [ha, List.take_of_length_le (by omega)]
  | m + 1, j, acc, hj, ha => by
    have ih := copied_loop i f ps hn m (j + 1)
    refine ev_round ?_
    simp only [rosterlaw06_copied.l0]
    rw [wrp_id _ (by omega) (by omega)]
    have hl : acc.length = j := by rw [ha, List.length_take]; omega
    refine ev_pos (by omega) (ev_pos (by omega) (ev_pos (by omega) ?_))
    have := ih (acc ++ [rdOf ByteArray.empty ps (j : Int)]) (by omega) (by rw [ha, take_snoc ps (by omega)]; rfl)
    simpa using this
theorem copied_as (i f : ByteArray) (A : Option Addr) (c : Nat) (ps : List ByteArray) (w : World) (h : Kd.C Kd.string w A ps.length ps) (hc : ps.length ≤ c) (hn : ps.length ≤ 1048576) :
    Calls Try.prog 19 #[.agg #[.string i, .slice A ps.length c, .string f]] w fun e w' => ∃ v1, e = .returned (.agg #[.string i, v1, .string f]) ∧ Kd.R Kd.string 9 w' w.heap.size (fun _ => True) v1 ps ∧ Below w.heap.size w w' := by
  have he : Ev (fun k => rosterlaw06_copied.f k i ps f) (i, ps, f) := by
    simp only [rosterlaw06_copied.f]
    have := copied_loop i f ps hn ps.length 0 [] (by omega) (by simp)
    simpa using this
  obtain ⟨k, hk⟩ := he.rounds
  exact rosterlaw06_copied.calls k i A c ps f i ps f w h hc hk
theorem samep_loop (i f : ByteArray) (ps : List ByteArray) (hn : ps.length ≤ 1048576) : ∀ m j, j + m = ps.length → Ev (fun k => rosterlaw06_samePattern.l0 k (j : Int) i ps f i ps f) true
  | 0, j, hj => by
    refine ev_round ?_
    simp only [rosterlaw06_samePattern.l0]
    exact ev_neg (by omega) (ev_eq rfl)
  | m + 1, j, hj => by
    have ih := samep_loop i f ps hn m (j + 1) (by omega)
    refine ev_round ?_
    simp only [rosterlaw06_samePattern.l0]
    rw [wrp_id _ (by omega) (by omega)]
    exact ev_pos (by omega) (ev_pos (by omega) (ev_pos (by omega) (ev_pos trivial ih)))
theorem samep_as (i f : ByteArray) (A B : Option Addr) (c d : Nat) (ps : List ByteArray) (w : World) (h : Kd.C Kd.string w A ps.length ps) (hc : ps.length ≤ c) (h2 : Kd.C Kd.string w B ps.length ps) (hd : ps.length ≤ d) (hn : ps.length ≤ 1048576) :
    Calls Try.prog 23 #[.agg #[.string i, .slice A ps.length c, .string f], .agg #[.string i, .slice B ps.length d, .string f]] w fun e w' => e = .returned (.bool true) ∧ Below w.heap.size w w' := by
  have he : Ev (fun k => rosterlaw06_samePattern.f k i ps f i ps f) true := by
    simp only [rosterlaw06_samePattern.f]
    refine ev_pos trivial (ev_pos trivial (ev_round ?_))
    simp only [rosterlaw06_samePattern.j0]
    refine ev_neg (by simp) ?_
    have := samep_loop i f ps hn ps.length 0 (by omega)
    simpa using this
  obtain ⟨k, hk⟩ := he.rounds
  exact rosterlaw06_samePattern.calls k i A c ps f i B d ps f true w h hc h2 hd hk
set_option maxHeartbeats 4000000 in
set_option maxRecDepth 100000 in
theorem spared_as (i f : ByteArray) (A : Option Addr) (c : Nat) (ps : List ByteArray) (w : World) (h : Txts w A (ps ++ [spareB])) (hc : ps.length + 1 ≤ c) (hn : ps.length ≤ 1048576) :
    Calls Try.prog 24 #[.agg #[.string i, .slice A ps.length c, .string f]] w fun e w' => e = .returned (.bool true) ∧ Below w.heap.size w w' := by
  obtain ⟨i9, hi9, _, hz9, _⟩ := info_parts AttrW.info9
  obtain ⟨g, o, rfl, hs⟩ := h ps.length (by simp)
  have es : (ps ++ [spareB]).getD ps.length ByteArray.empty = ⟨#[115, 112, 97, 114, 101]⟩ := by simp [List.getD_eq_getElem?_getD]; rfl
  rw [es] at hs
  have hbl : g < w.heap.size := World.block_lt_of_cell? w _ hs
  have hB := Lib.hid ((Below.refl w.heap.size w).alloc (Nat.le_refl _) (.cells #[.string i, .slice (some ⟨g, o, none⟩) ps.length c, .string f] 37))
  have hsl : ∀ W : World, (Instr.slice 22 (.slice (some ⟨g, o, none⟩) ps.length c) none (some (.int .i64 ((ps.length : Int) + 1))) none).run Try.prog W = .ok (.slice (some ⟨g, o, none⟩) (ps.length + 1) c) W := fun W => by
    have := run_slice_h W 22 (some ⟨g, o, none⟩) ps.length c (P := Try.prog) (by have h := Try.underlying22; rwa [show Try.prog.elem 22 = 9 by simp [Program.elem, Try.underlying22]]) .i64 ((ps.length : Int) + 1) (by omega) (by omega)
    rw [this, show Try.prog.elem 22 = 9 by simp [Program.elem, Try.underlying22]]
    simp [sizeOf, typeInfo, hi9, sliced, Result.andThen, Addr.add]
  clear h es hi9
  go_enter Try.func24, Try.ntmps24
  go_wp2
  go_ret
  exact ⟨rfl, hB.out⟩
set_option maxHeartbeats 4000000 in
set_option maxRecDepth 100000 in
theorem roomy_as (i f : ByteArray) (A : Option Addr) (c : Nat) (ps : List ByteArray) (w : World) (h : Kd.C Kd.string w A ps.length ps) (hc : ps.length ≤ c) (hn : ps.length ≤ 1048576) :
    Calls Try.prog 20 #[.agg #[.string i, .slice A ps.length c, .string f]] w fun e w' => ∃ A' c', e = .returned (.agg #[.string i, .slice A' ps.length c', .string f]) ∧ Kd.R Kd.string 9 w' w.heap.size (fun _ => True) (.slice A' (ps.length + 1) c') (ps ++ [spareB]) ∧ Below w.heap.size w w' := by
  obtain ⟨i9, hi9, _, hz9, _⟩ := info_parts AttrW.info9
  have HR := Lib.hid h
  have HB := Lib.hid (((Below.refl w.heap.size w).alloc (Nat.le_refl _) (.cells #[.string i, .slice A ps.length c, .string f] 37)).alloc (by rw [World.size_alloc]; omega) (.cells #[.string ⟨#[]⟩, .slice none 0 0, .string ⟨#[]⟩] 37))
  have HX1 := Lib.hid ((At.fresh w [.string i, .slice A ps.length c, .string f] 37).alloc (.cells #[.string ⟨#[]⟩, .slice none 0 0, .string ⟨#[]⟩] 37))
  have HX2 := Lib.hid (At.fresh (w.alloc (.cells #[.string i, .slice A ps.length c, .string f] 37)) [.string ⟨#[]⟩, .slice none 0 0, .string ⟨#[]⟩] 37)
  rw [World.size_alloc] at HX2
  clear h
  go_enter Try.func20, Try.ntmps20
  go_wp2_with (first
    | (go_at_call 19; ((with_reducible refine (copied_as i f A c ps _ ?hx hc hn).mono ?_); (case hx => exact Kd.C_alloc (Kd.C_alloc HR.out _) _); rintro e w1 ⟨v1, rfl, hr, hb⟩; obtain ⟨A1, c1, e1⟩ := Kd.R_slice hr; subst e1; rw [World.size_alloc, World.size_alloc] at hr hb; have HA1 := Lib.hid hr; have HB1 := Lib.hid hb; have h1sz : w.heap.size + 1 + 1 ≤ w1.heap.size := (by have := hb.size; rw [World.size_alloc, World.size_alloc] at this; exact this); clear hr hb))
    | ((with_reducible refine gate_builtin (b := .append) (xs := #[.tmp 8, .tmp 9]) rfl ?_); at_builtin; refine Kd.R_append_rows Kd.string (w0 := w) w.heap.size rfl (.tmp 8) (.tmp 9) 22 9 (.string ⟨#[]⟩) 16 rfl Try.underlying22 AttrW.info9 rfl (by decide) (by omega) (.slice A1 ps.length c1) ps [spareB] _ _ _ (fun _ => True) (fun _ => False) rfl rfl ?aO ?aR (fun _ _ h => h) (fun _ h => h.elim) ?aF ?aB ?aS ?aL ?_; (case aR => have hlr := lit_row (w1.alloc (.cells #[.string i, .slice A1 ps.length c1, .string f] 37)) spareB; rw [World.size_alloc] at hlr; exact hlr); (case aB => exact ((HB.out.trans (HB1.out.mono (by omega))).alloc (by omega) _).alloc (by rw [World.size_alloc]; omega) _); (case aF => exact (fun _ _ => trivial)); (case aO => exact Kd.R_lower (Kd.R_alloc (Kd.R_alloc HA1.out _) _) (by omega)); (case aS => rw [World.size_alloc, World.size_alloc]; omega); (case aL => omega); intro v2 w2 ho hb hg hat; obtain ⟨Ao, co, eo⟩ := Kd.R_slice ho; subst eo; obtain ⟨_, hcc, hrd⟩ := Kd.R_reads' ho; have hlen : (ps ++ [spareB]).length = ps.length + 1 := (by simp); (try simp only [hlen] at *); have HB2 := Lib.hid hb; have HC2 := Lib.hid hrd; have HCC := Lib.hid hcc; have hcut := cut_to (P := Try.prog) 22 9 .i64 Try.underlying22 hi9 Ao (ps.length + 1) co (ps.length : Int) (by omega) (by omega) (by omega); (try simp only [Int.toNat_natCast] at hcut); have aq : At w2 w1.heap.size [.string i, .slice A1 ps.length c1, .string f] 37 := ((At.fresh w1 [.string i, .slice A1 ps.length c1, .string f] 37).alloc _).grown hg (fun e => by have := Kd.R_lt HA1.out _ e.symm; omega); have ap : At w2 w.heap.size [.string i, .slice A ps.length c, .string f] 37 := (((HX1.out.below HB1.out (by omega)).alloc _).alloc _).grown hg (fun e => by have := Kd.R_base HA1.out _ e.symm; omega); have ar : At w2 (w.heap.size + 1) [.string ⟨#[]⟩, .slice none 0 0, .string ⟨#[]⟩] 37 := (((HX2.out.below HB1.out (by omega)).alloc _).alloc _).grown hg (fun e => by have := Kd.R_base HA1.out _ e.symm; omega); have q0 := aq.get 0 _ rfl; have q1 := aq.get 1 _ rfl; have q2 := aq.get 2 _ rfl; have g1 := aq.free 1; have p1 := ap.get 1 _ rfl; have r0 := ar.get 0 _ rfl; have r1 := ar.get 1 _ rfl; have r2 := ar.get 2 _ rfl; have t0 := ar.free 0; have t1 := ar.free 1; have t2 := ar.free 2; have AR := Lib.hid ar; have AQ := Lib.hid aq; have HRo := Lib.hid ho; have hne : ¬ w1.heap.size = w.heap.size + 1 := (by omega); have hne2 : ¬ w.heap.size + 1 = w1.heap.size := (by omega); clear ho hb hg hat hrd hcc hlen aq ap ar)
    | go_in)
  have A0 := AR.out.other ⟨w1.heap.size, 1, none⟩ (.slice Ao ps.length co) hne2
  have ht : ∀ q, q ∈ 9 :: (Kd.string).E → q ≠ 37 := by decide
  have R1 := Kd.R_set HRo.out AQ.out ht 1 (.slice Ao ps.length co)
  have R2 := Kd.R_set R1 A0 ht 0 (.string i)
  have A1_ := A0.set 0 (.string i)
  have R3 := Kd.R_set R2 A1_ ht 1 (.slice Ao ps.length co)
  have A2_ := A1_.set 1 (.slice Ao ps.length co)
  have R4 := Kd.R_set R3 A2_ ht 2 (.string f)
  have A3_ := A2_.set 2 (.string f)
  refine bodyPost_ret (results_cell_row rfl _ _ (w.heap.size + 1) 37 #[.string i, .slice Ao ps.length co, .string f] (0, 0) _ rfl A3_ Try.underlying37 rfl (by kernel_rfl)) rfl ?_
  exact ⟨Ao, co, rfl, R4, (((HB2.out.setCell (p := ⟨w1.heap.size, 1, none⟩) (by show w.heap.size ≤ w1.heap.size; omega) _).setCell (p := ⟨w.heap.size + 1, 0, none⟩) (by show w.heap.size ≤ w.heap.size + 1; omega) _).setCell (p := ⟨w.heap.size + 1, 1, none⟩) (by show w.heap.size ≤ w.heap.size + 1; omega) _).setCell (p := ⟨w.heap.size + 1, 2, none⟩) (by show w.heap.size ≤ w.heap.size + 1; omega) _⟩
/-- What the law keeps: the pattern that came in (block p, roomy by now), its copy (block q). -/
structure LS (w : World) (i f : ByteArray) (ps : List ByteArray) (A1 A2 : Option Addr) (c1 c2 p q : Nat) (W : World) : Prop where
  r2 : Kd.R Kd.string 9 W w.heap.size (fun _ => True) (.slice A2 (ps.length + 1) c2) (ps ++ [spareB])
  r1 : Kd.R Kd.string 9 W w.heap.size (fun _ => True) (.slice A1 ps.length c1) ps
  mv : MaxV W
  bel : Below w.heap.size w W
  px : At W p [.string i, .slice A2 ps.length c2, .string f] 37
  qx : At W q [.string i, .slice A1 ps.length c1, .string f] 37
theorem LS.on {w W W' : World} {i f : ByteArray} {ps : List ByteArray} {A1 A2 : Option Addr} {c1 c2 p q : Nat} (h : LS w i f ps A1 A2 c1 c2 p q W) (hb : Below W.heap.size W W') : LS w i f ps A1 A2 c1 c2 p q W' :=
  ⟨Kd.R_below h.r2 hb, Kd.R_below h.r1 hb, h.mv.on hb, h.bel.trans (hb.mono h.bel.size), h.px.below hb h.px.lt, h.qx.below hb h.qx.lt⟩
theorem LS.c2 {w W : World} {i f : ByteArray} {ps : List ByteArray} {A1 A2 : Option Addr} {c1 c2 p q : Nat} (h : LS w i f ps A1 A2 c1 c2 p q W) : Kd.C Kd.string W A2 (ps.length + 1) (ps ++ [spareB]) ∧ ps.length + 1 ≤ c2 := by
  obtain ⟨_, h1, h2⟩ := Kd.R_reads' h.r2
  rw [show (ps ++ [spareB]).length = ps.length + 1 by simp] at h2
  exact ⟨h2, h1⟩
theorem LS.c2f {w W : World} {i f : ByteArray} {ps : List ByteArray} {A1 A2 : Option Addr} {c1 c2 p q : Nat} (h : LS w i f ps A1 A2 c1 c2 p q W) : Kd.C Kd.string W A2 ps.length ps := by
  have := Kd.C_take (k := Kd.string) (w := W) (A := A2) (xs := ps ++ [spareB]) (m := ps.length) (by have := h.c2.1; simpa using this) (by simp)
  simpa using this
theorem LS.c1 {w W : World} {i f : ByteArray} {ps : List ByteArray} {A1 A2 : Option Addr} {c1 c2 p q : Nat} (h : LS w i f ps A1 A2 c1 c2 p q W) : Kd.C Kd.string W A1 ps.length ps ∧ ps.length ≤ c1 := by
  obtain ⟨_, h1, h2⟩ := Kd.R_reads' h.r1
  exact ⟨h2, h1⟩
theorem ls_made {w w1 w2 : World} {i f : ByteArray} {ps : List ByteArray} {A A1 A2 : Option Addr} {c c1 c2 : Nat} (hr1 : Kd.R Kd.string 9 w1 (w.heap.size + 1) (fun _ => True) (.slice A1 ps.length c1) ps) (hb1 : Below (w.heap.size + 1) (w.alloc (.cells #[.string i, .slice A ps.length c, .string f] 37)) w1) (h1 : w.heap.size + 1 ≤ w1.heap.size)
    (hr2 : Kd.R Kd.string 9 w2 (w1.alloc (.cells #[.string i, .slice A1 ps.length c1, .string f] 37)).heap.size (fun _ => True) (.slice A2 (ps.length + 1) c2) (ps ++ [spareB])) (hb2 : Below (w1.alloc (.cells #[.string i, .slice A1 ps.length c1, .string f] 37)).heap.size (w1.alloc (.cells #[.string i, .slice A1 ps.length c1, .string f] 37)) w2) (hm : MaxV w) :
    At w2 w.heap.size [.string i, .slice A ps.length c, .string f] 37 ∧ LS w i f ps A1 A2 c1 c2 w.heap.size w1.heap.size (((w2.setCell ⟨w.heap.size, 0, none⟩ (.string i)).setCell ⟨w.heap.size, 1, none⟩ (.slice A2 ps.length c2)).setCell ⟨w.heap.size, 2, none⟩ (.string f)) := by
  have hz := World.size_alloc w1 (.cells #[.string i, .slice A1 ps.length c1, .string f] 37)
  have hz0 := World.size_alloc w (.cells #[.string i, .slice A ps.length c, .string f] 37)
  have ap : At w2 w.heap.size [.string i, .slice A ps.length c, .string f] 37 := (((At.fresh w [.string i, .slice A ps.length c, .string f] 37).below hb1 (by omega)).alloc _).below hb2 (by omega)
  have aq : At w2 w1.heap.size [.string i, .slice A1 ps.length c1, .string f] 37 := (At.fresh w1 [.string i, .slice A1 ps.length c1, .string f] 37).below hb2 (by omega)
  have ht : ∀ q, q ∈ 9 :: (Kd.string).E → q ≠ 37 := by decide
  have hne : w1.heap.size ≠ w.heap.size := by omega
  have b1 := ap.set 0 (.string i)
  have b2 := b1.set 1 (.slice A2 ps.length c2)
  have b3 := b2.set 2 (.string f)
  have q1 := aq.other ⟨w.heap.size, 0, none⟩ (.string i) hne
  have q2 := q1.other ⟨w.heap.size, 1, none⟩ (.slice A2 ps.length c2) hne
  have q3 := q2.other ⟨w.heap.size, 2, none⟩ (.string f) hne
  have k1 := Kd.R_below (Kd.R_alloc (Kd.R_lower hr1 (show w.heap.size ≤ w.heap.size + 1 by omega)) (.cells #[.string i, .slice A1 ps.length c1, .string f] 37)) hb2
  have k2 := Kd.R_lower hr2 (show w.heap.size ≤ _ by rw [hz]; omega)
  have bw : Below w.heap.size w w2 := ((((Below.refl w.heap.size w).alloc (Nat.le_refl _) _).trans (hb1.mono (by omega))).alloc (by omega) _).trans (hb2.mono (by omega))
  refine ⟨ap, Kd.R_set (Kd.R_set (Kd.R_set k2 ap ht 0 _) b1 ht 1 _) b2 ht 2 _, Kd.R_set (Kd.R_set (Kd.R_set k1 ap ht 0 _) b1 ht 1 _) b2 ht 2 _, ?_, ((bw.setCell (p := ⟨w.heap.size, 0, none⟩) (Nat.le_refl _) _).setCell (p := ⟨w.heap.size, 1, none⟩) (Nat.le_refl _) _).setCell (p := ⟨w.heap.size, 2, none⟩) (Nat.le_refl _) _, b3, q3⟩
  obtain ⟨m, hm0⟩ := hm.on bw
  have h0 : (0 : Nat) ≠ w.heap.size := by
    obtain ⟨m', hm'⟩ := hm
    have : 0 < w.heap.size := World.block_lt_of_cell? w _ hm'
    omega
  refine ⟨m, ?_⟩
  rw [World.cell?_setCell_other (h := by intro e; injection e with e _ _; exact h0 e.symm), World.cell?_setCell_other (h := by intro e; injection e with e _ _; exact h0 e.symm), World.cell?_setCell_other (h := by intro e; injection e with e _ _; exact h0 e.symm)]
  exact hm0
theorem fits_empty (v : ByteArray) : fits v ⟨#[]⟩ [] ⟨#[]⟩ = true := by
  have h0 : (⟨#[]⟩ : ByteArray).size = 0 := rfl
  have e : ∀ k, k ≤ v.size → stB v ⟨#[]⟩ k = true := fun k hk => by
    unfold stB
    rw [h0, Nat.add_zero, decide_eq_true hk, extract_list, Nat.sub_self]
    rfl
  unfold fits gr
  rw [e 0 (Nat.zero_le _), h0, Nat.sub_zero, e v.size (Nat.le_refl _)]
  simp
set_option maxHeartbeats 4000000 in
set_option maxRecDepth 100000 in
theorem fitslaw (v i f : ByteArray) (A : Option Addr) (c : Nat) (ps : List ByteArray) (w : World) (h : Kd.C Kd.string w A ps.length ps) (hc : ps.length ≤ c) (hn : ps.length ≤ 1048576) (hp : ∀ x ∈ ps, x.size ≤ 1048576) (hv : v.size ≤ 1048576) (hi : i.size ≤ 1048576) (hf : f.size ≤ 1048576) (hm : MaxV w) :
    Calls Try.prog 7 #[.string v, .agg #[.string i, .slice A ps.length c, .string f]] w fun e w' => e = .returned (.bool true) ∧ Below w.heap.size w w' := by
  have HR := Lib.hid h
  have HM := Lib.hid hm
  have HP := Lib.hid hp
  have HB := Lib.hid ((Below.refl w.heap.size w).alloc (Nat.le_refl _) (.cells #[.string i, .slice A ps.length c, .string f] 37))
  obtain ⟨bb, hbb⟩ : ∃ bb, bb = fits v i ps f := ⟨_, rfl⟩
  have K1 := Lib.hid (fun A c W (h : Txts W A ps) (hm : MaxV W) => fits_as v i f A c ps W h hn hv hi hf hm)
  have K2 := Lib.hid (fun A c W (h : Txts W A ps) => rfits_as v i f A c ps W h hn hp hv hi hf)
  have K3 := Lib.hid (fun W (hm : MaxV W) => fits_as v ⟨#[]⟩ ⟨#[]⟩ none 0 [] W (fun i hi => absurd hi (Nat.not_lt_zero _)) (by simp) hv (by decide) (by decide) hm)
  rw [fits_empty] at K3
  simp only [List.length_nil] at K3
  rw [← hbb] at K1 K2
  have hbe : (bb == bb) = true := beq_self_eq_true bb
  have hsz1 : (w.alloc (.cells #[.string i, .slice A ps.length c, .string f] 37)).heap.size = w.heap.size + 1 := World.size_alloc _ _
  clear h hm hp
  clear hbb
  go_enter Try.func7, Try.ntmps7
  go_wp2_with (first
    | (go_at_call 19; ((with_reducible refine (copied_as i f A c ps _ ?hx hc hn).mono ?_); (case hx => exact Kd.C_alloc HR.out _); rintro e w1 ⟨v1, rfl, hr, hb⟩; obtain ⟨A1, c1, e1⟩ := Kd.R_slice hr; subst e1; obtain ⟨_, hcc, hrd⟩ := Kd.R_reads' hr; rw [hsz1] at hr hb; have HA1 := Lib.hid hr; have HRD := Lib.hid hrd; have HC1 := Lib.hid hcc; have HB1 := Lib.hid hb; have h1sz : w.heap.size + 1 ≤ w1.heap.size := (by have := hb.size; rw [hsz1] at this; exact this); clear hr hb hcc hrd))
    | (go_at_call 20; ((with_reducible refine (roomy_as i f A1 c1 ps _ ?hx HC1.out hn).mono ?_); (case hx => exact Kd.C_alloc HRD.out _); rintro e w2 ⟨A2, c2, rfl, hr, hb⟩; have hls := ls_made HA1.out HB1.out h1sz hr hb HM.out; have HLS := Lib.hid hls.2; have p0 := hls.1.get 0 _ rfl; have p1 := hls.1.get 1 _ rfl; have p2 := hls.1.get 2 _ rfl; have f0 := hls.1.free 0; have f1 := hls.1.free 1; have f2 := hls.1.free 2; clear hr hb hls))
    | (go_at_call 22; ((with_reducible refine (K2.out _ _ _ ?hx).mono ?_); (case hx => exact txts_of_C HL4.out.c1.1); rintro e w5 ⟨rfl, hb⟩; have HL5 := Lib.hid (HL4.out.on hb); have s0 := HL5.out.px.get 0 _ rfl; have s1 := HL5.out.px.get 1 _ rfl; have s2 := HL5.out.px.get 2 _ rfl; have u0 := HL5.out.qx.get 0 _ rfl; have u1 := HL5.out.qx.get 1 _ rfl; have u2 := HL5.out.qx.get 2 _ rfl; clear hb))
    | (go_at_call 23; ((with_reducible refine (samep_as i f A2 A1 c2 c1 ps _ ?hx ?hz ?hy HL5.out.c1.2 hn).mono ?_); (case hx => exact HL5.out.c2f); (case hz => have := HL5.out.c2.2; omega); (case hy => exact HL5.out.c1.1); rintro e w6 ⟨rfl, hb⟩; have HL6 := Lib.hid (HL5.out.on hb); have y0 := HL6.out.px.get 0 _ rfl; have y1 := HL6.out.px.get 1 _ rfl; have y2 := HL6.out.px.get 2 _ rfl; clear hb))
    | (go_at_call 24; ((with_reducible refine (FitsW.spared_as i f A2 c2 ps _ ?hx HL6.out.c2.2 hn).mono ?_); (case hx => exact txts_of_C HL6.out.c2.1); rintro e w7 ⟨rfl, hb⟩; have HL7 := Lib.hid (HL6.out.on hb); clear hb))
    | (go_at_call 21; (first
        | ((with_reducible refine (K3.out _ HL7.out.mv).mono ?_); rintro e w8 ⟨rfl, hb⟩; have HL8 := Lib.hid (HL7.out.on hb); clear hb)
        | ((with_reducible refine (K1.out _ _ _ ?hx ?hy).mono ?_); (case hx => exact txts_of_C HLS.out.c2f); (case hy => exact HLS.out.mv); rintro e w4 ⟨rfl, hb⟩; have HL4 := Lib.hid (HLS.out.on hb); have s0 := HL4.out.px.get 0 _ rfl; have s1 := HL4.out.px.get 1 _ rfl; have s2 := HL4.out.px.get 2 _ rfl; have u0 := HL4.out.qx.get 0 _ rfl; have u1 := HL4.out.qx.get 1 _ rfl; have u2 := HL4.out.qx.get 2 _ rfl; clear hb)))
    | go_in)
  go_ret
  exact ⟨rfl, HL8.out.bel⟩
end Go.Proofs.Ytjakabacdnfmnaa.FitsW

/- By hand: names in memory: clones, sameness. For every list and world. -/
import Derived.Test.YtdkohenilbkmkaaXT2
import Derived.Lib.Hide
import Derived.Lib.LazyBuf
import Derived.Laws.Cover1
import Derived.Test.YtdkohenilbkmkaaXV
set_option linter.unusedVariables false
set_option linter.unusedSimpArgs false
namespace Go.Proofs.Ytdkohenilbkmkaa.UpW
open Go.RowKit Go.Proofs.Ytdkohenilbkmkaa.XT Go.Proofs.Ytdkohenilbkmkaa.XV Go.Proofs.YtdkohenilbkmkaaW.PrintWords Go.Proofs.YtdkohenilbkmkaaW.PrintLast Go.Proofs.YtdkohenilbkmkaaW.PrintMore
abbrev RD := List S46
abbrev DN := List RD
/-- The kind of a name's parts. -/
abbrev kD : Kd RD := Kd.slice 46 k46
theorem info44 : (Try.prog.info? 44).map (fun i => (i.zero, i.size, i.bytes)) = some (some (.slice none 0 0), 1, 24) := by kernel_rfl
theorem info46 : (Try.prog.info? 46).map (fun i => (i.zero, i.size, i.bytes)) = some (some (.agg #[(.string ⟨#[]⟩), (.string ⟨#[]⟩)]), 2, 32) := by kernel_rfl
/-- A part laid anew. -/
def CloneQ (w : World) (l : RD) (e : Ending) (w' : World) : Prop := ∃ v, e = .returned v ∧ Kd.R k46 46 w' w.heap.size (fun _ => True) v l ∧ Below w.heap.size w w'
set_option maxRecDepth 100000 in
theorem clone46_as (A : Option Addr) (c : Nat) (l : List S46) (w : World) (h : Kd.C k46 w A l.length l) (hc : l.length ≤ c) (hl : l.length ≤ 1048576) : Calls Try.prog 25 #[.slice A l.length c] w (CloneQ w l) := by
  have HR0 := Aside0.mk h
  have HB := Aside0.mk (Below.refl w.heap.size w)
  cases A with
  | none =>
    have e0 : l = [] := by
      by_cases hz : 0 < l.length
      · obtain ⟨ad, e, _⟩ := at_T46 h 0 (by omega) (by omega)
        cases e
      · exact List.length_eq_zero_iff.1 (by omega)
    clear h
    subst e0
    have hn := fun W => run_eql_slice_nil (P := Try.prog) W 44 46 none 0 c Try.underlying44
    simp only [Option.isNone_none] at hn
    go_enter Try.func25, Try.ntmps25
    go_wp2
    go_ret
    exact ⟨.slice none 0 0, rfl, Kd.R_nil _ _ _ _ _, by repeat (first | (with_reducible first | exact HB.out | apply below_alloc | apply pw_below_drewN | apply below_drew1) | exact HB.out)⟩
  | some ad =>
    clear h
    have hn := fun W => run_eql_slice_nil (P := Try.prog) W 44 46 (some ad) l.length c Try.underlying44
    simp only [Option.isNone_some] at hn
    go_enter Try.func25, Try.ntmps25
    go_wp2_with (first | ((with_reducible refine gate_dst (N := 5) rfl ?_); refine Kd.R_lit k46 _ 46 ?hg (N := 5) ?hd (xs := ([] : List S46)) (inner := []) (ok := fun _ => True) (okp := fun _ => True) ?hr ?hp (fun _ hk => hk) trivial (Below.refl _ _) (Nat.le_refl _) (by simp) ?_; (case hd => rfl); (case hg => rfl); (case hr => first | (go_simp; done) | (go_simp; rfl)); (case hp => exact (Reps.none _ _)); intro v102 w6 ho7 hb hg_ hnew_; clear hg_ hnew_; have n0_ := Aside0.mk (Kd.R_lower ho7 (below_size (by repeat (first | (with_reducible first | exact HB.out | apply below_alloc | apply pw_below_drewN | apply below_drew1) | exact HB.out)))); have n1_ := Aside0.mk (below_step (by repeat (first | (with_reducible first | exact HB.out | apply below_alloc | apply pw_below_drewN | apply below_drew1) | exact HB.out)) hb); clear HB; have HO103 := n0_; have HB := n1_; clear n0_ n1_; clear hb ho7) | ((with_reducible refine gate_builtin (b := .append) (xs := #[.tmp 5, .tmp 6]) rfl ?_); at_builtin; refine Kd.R_append_rows k46 (w0 := w) w.heap.size rfl (.tmp 5) (.tmp 6) 44 46 (.agg #[(.string ⟨#[]⟩), (.string ⟨#[]⟩)]) 32 rfl Try.underlying44 info46 rfl (by decide) (by omega) v102 ([] : List S46) l _ _ _ (fun _ => True) (fun _ => False) rfl rfl ?aO ?aR (fun _ _ h => h) (fun _ h => h.elim) ?aF ?aB ?aS ?aL ?_; (case aR => repeat (first | exact (Kd.C_below HR0.out HB.out) | (with_reducible refine Kd.C_alloc ?_ _) | (with_reducible refine Kd.C_drewN ?_ _) | (with_reducible refine Kd.C_drew ?_))); (case aB => exact (by repeat (first | (with_reducible first | exact HB.out | apply below_alloc | apply pw_below_drewN | apply below_drew1) | exact HB.out))); (case aF => exact (fun _ _ => trivial)); (case aO => exact (by (with_reducible repeat (first | apply Kd.R_alloc | apply Kd.R_drewN | apply Kd.R_drew)); exact HO103.out)); (case aS => exact (below_size (by repeat (first | (with_reducible first | exact HB.out | apply below_alloc | apply pw_below_drewN | apply below_drew1) | exact HB.out)))); (case aL => simp only [List.length_nil]; omega); intro v105 w8 ho hb hg hat; have n0_ := Aside0.mk (hb); have n1_ := Aside0.mk (ho); clear HB; clear HO103; have HB := n0_; have HO106 := n1_; clear n0_ n1_; clear ho hb hg hat) | go_in)
    go_ret
    have hR : Kd.R k46 46 _ w.heap.size (fun _ => True) v105 ([] ++ l) := HO106.out
    exact ⟨v105, rfl, by simpa using hR, by repeat (first | (with_reducible first | exact HB.out | apply below_alloc | apply pw_below_drewN | apply below_drew1) | exact HB.out)⟩
theorem wr1 (n : Nat) (h : n < 9223372036854775000) : wrap64 ((n : Int) + 1) = ((n + 1 : Nat) : Int) := by unfold wrap64; omega
theorem same_loop (x : RD) (hx : x.length ≤ 1048576) (d : Nat) : ∀ i : Nat, x.length - i = d → i ≤ x.length → Ev (fun k => rosterlaw05_sameRDN.l0 k x x (i : Int)) true := by
  induction d with
  | zero =>
    intro i h1 h2
    refine ev_round ?_
    simp only [rosterlaw05_sameRDN.l0]
    exact ev_neg (by omega) (ev_eq rfl)
  | succ d ih =>
    intro i h1 h2
    refine ev_round ?_
    simp only [rosterlaw05_sameRDN.l0]
    refine ev_pos (by omega) (ev_pos (by omega) (ev_pos (by omega) (ev_neg (by simp) ?_)))
    rw [wr1 i (by omega)]
    exact ih (i + 1) (by omega) (by omega)
theorem sameR (x : RD) (hx : x.length ≤ 1048576) : Ev (fun k => rosterlaw05_sameRDN.f k x x) true := by
  unfold rosterlaw05_sameRDN.f
  exact ev_pos rfl (same_loop x hx _ 0 rfl (Nat.zero_le _))
theorem rd_mem (x : DN) (i : Nat) (h : i < x.length) : rd_L2 x (i : Int) ∈ x := by
  unfold rd_L2
  rw [Int.toNat_natCast, List.getD_eq_getElem?_getD, List.getElem?_eq_getElem h]
  exact List.getElem_mem h
theorem sameD_loop (x : DN) (hx : x.length ≤ 1048576) (hl : ∀ r ∈ x, r.length ≤ 1048576) (d : Nat) : ∀ i : Nat, x.length - i = d → i ≤ x.length → Ev (fun k => rosterlaw05_sameDN.l0 k x x (i : Int)) true := by
  induction d with
  | zero =>
    intro i h1 h2
    refine ev_round ?_
    simp only [rosterlaw05_sameDN.l0]
    exact ev_neg (by omega) (ev_eq rfl)
  | succ d ih =>
    intro i h1 h2
    refine ev_round ?_
    simp only [rosterlaw05_sameDN.l0]
    refine ev_pos (by omega) (ev_pos (by omega) (ev_pos (by omega) ?_))
    refine Ev.bind (sameR _ (hl _ (rd_mem x i (by omega)))) (ev_pos rfl ?_)
    rw [wr1 i (by omega)]
    exact ih (i + 1) (by omega) (by omega)
theorem sameD (x : DN) (hx : x.length ≤ 1048576) (hl : ∀ r ∈ x, r.length ≤ 1048576) : Ev (fun k => rosterlaw05_sameDN.f k x x) true := by
  unfold rosterlaw05_sameDN.f
  exact ev_pos rfl (sameD_loop x hx hl _ 0 rfl (Nat.zero_le _))
/-- Two names of the same parts. -/
theorem same_as (w : World) (A B : Option Addr) (c d n m : Nat) (x : DN) (hn : n = x.length) (hm : m = x.length) (h1 : Kd.C kD w A x.length x) (h2 : x.length ≤ c) (h3 : Kd.C kD w B x.length x) (h4 : x.length ≤ d) (hx : x.length ≤ 1048576) (hl : ∀ r ∈ x, r.length ≤ 1048576) : Calls Try.prog 13 #[.slice A n c, .slice B m d] w fun e w' => e = .returned (.bool true) ∧ Drawn0 w w' := by
  subst hn hm
  obtain ⟨k, hk⟩ := Ev.rounds (sameD x hx hl)
  exact rosterlaw05_sameDN.calls k A c x B d x true w h1 h2 h3 h4 hk
end Go.Proofs.Ytdkohenilbkmkaa.UpW

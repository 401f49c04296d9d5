/- By hand: markTexts: every text of a list written over, one more behind it. For every list and world. -/
import Derived.Test.YtfiomfcejmmbgaaGramA
import Derived.Deep.Upon
import Derived.Lib.Builder
import Derived.Lib.ConvBytes
set_option linter.unusedVariables false
set_option linter.unusedSimpArgs false
namespace Go.Proofs.Ytfiomfcejmmbgaa.GramW
open Go.RowKit Go.Proofs.Ytfiomfcejmmbgaa.Blk Go.Proofs.Ytfiomfcejmmbgaa.XI Go.Proofs.Ytfiomfcejmmbgaa.XV Go.Proofs.Ytfiomfcejmmbgaa.Ris Go.Proofs.Ytfiomfcejmmbgaa.OfT Go.Proofs.Ytfiomfcejmmbgaa.GramEv Go.Proofs.YtfiomfcejmmbgaaW.PrintWords Go.Proofs.YtfiomfcejmmbgaaW.PrintLast Go.Proofs.YtfiomfcejmmbgaaW.PrintMore
/-- The first n of the row at A are m. -/
def AllM (W : World) (A : Option Addr) (n : Nat) (m : ByteArray) : Prop := 0 < n → ∃ g cs, A = some ⟨g, 0, none⟩ ∧ At W g cs 9 ∧ ∀ j, j < n → cs[j]? = some (.string m)
theorem AllM.on {W W' : World} {A : Option Addr} {n : Nat} {m : ByteArray} (h : AllM W A n m) (hk : ∀ (g : Nat), A = some ⟨g, 0, none⟩ → g < W.heap.size → W'.heap[g]? = W.heap[g]?) : AllM W' A n m := fun hp => by
  obtain ⟨g, cs, e, ha, hc⟩ := h hp
  exact ⟨g, cs, e, (hk g e ha.lt).trans ha, hc⟩
theorem AllM.below {W W' : World} {A : Option Addr} {n : Nat} {m : ByteArray} (h : AllM W A n m) (hb : Below W.heap.size W W') : AllM W' A n m := h.on (fun g _ hg => hb.block g hg)
theorem AllM.read {W : World} {A : Option Addr} {n : Nat} {m : ByteArray} (h : AllM W A n m) (hn : n ≤ 9223372036854775807) : Kd.C Kd.string W A (List.replicate n m).length (List.replicate n m) := by
  rw [List.length_replicate]
  refine ⟨List.length_replicate, hn, fun hp => ?_⟩
  obtain ⟨g, cs, e, ha, hc⟩ := h hp
  refine ⟨_, e, fun j p hj => ⟨[.string p], rfl, rfl, fun i u hu => ?_⟩⟩
  have hjn : j < n := by have := (List.getElem?_eq_some_iff.1 hj).1; simpa using this
  have hp2 : p = m := by
    rw [List.getElem?_replicate, if_pos hjn] at hj
    exact (Option.some.inj hj).symm
  have hi : i = 0 := by
    have := (List.getElem?_eq_some_iff.1 hu).1
    simpa using this
  subst hi hp2
  rw [add_off]
  show W.cell? ⟨g, 0 + (j * 1 + 0), none⟩ = _
  rw [Nat.zero_add, Nat.mul_one, Nat.add_zero, ha.cell, hc j hjn]
  simpa using hu
theorem app_run (W : World) (A : Option Addr) (n c : Nat) (m : ByteArray) (xb : Nat) (hn : n ≤ 1048576)
    (hA : (A = none ∧ n = 0 ∧ c = 0) ∨ ∃ g cs, A = some ⟨g, 0, none⟩ ∧ At W g cs 9 ∧ n ≤ c ∧ c ≤ cs.length ∧ xb ≠ g ∧ ∀ j, j < n → cs[j]? = some (.string m)) (hx : At W xb [.string m] 9) :
    ∃ A2 c2 W', (Builtin.append_ #[34, 34] 34 #[.slice A n c, .slice (some ⟨xb, 0, none⟩) 1 1]).run Try.prog W = .ok (.slice A2 (n + 1) c2) W' ∧ AllM W' A n m ∧ AllM W' A2 (n + 1) m ∧ n + 1 ≤ c2 ∧ W.grownBy W' (A.map (·.block)) ∧ ∀ g2, A2 = some ⟨g2, 0, none⟩ → A = some ⟨g2, 0, none⟩ ∨ W.heap.size ≤ g2 := by
  obtain ⟨i0, hi, hz0, hz1, hz2⟩ := info_parts OfT.info9
  have hsrc : Src Try.prog i0.size 34 (.slice (some ⟨xb, 0, none⟩) 1 1) 1 [.string m] W := by
    rw [hz1]
    refine Src.ofSlice W Try.underlying34 ⟨xb, 0, none⟩ 1 1 [.string m] rfl (fun j u hj => ?_) (by simp [Value.oneCell'])
    have hj0 : j = 0 := by have := (List.getElem?_eq_some_iff.1 hj).1; simpa using this
    subst hj0
    rw [add_off]
    exact hx.get 0 u hj
  have grow : ∀ (olds : List Value), (Builtin.firstCells i0.size n (.slice A n c)).run Try.prog W.drew = .ok olds.toArray W.drew → olds.length = n → (∀ j, j < n → olds[j]? = some (.string m)) → c < n + 1 → (∀ g, A = some ⟨g, 0, none⟩ → g < W.heap.size) → AllM W A n m →
      ∃ A2 c2 W', (Builtin.append_ #[34, 34] 34 #[.slice A n c, .slice (some ⟨xb, 0, none⟩) 1 1]).run Try.prog W = .ok (.slice A2 (n + 1) c2) W' ∧ AllM W' A n m ∧ AllM W' A2 (n + 1) m ∧ n + 1 ≤ c2 ∧ W.grownBy W' (A.map (·.block)) ∧ ∀ g2, A2 = some ⟨g2, 0, none⟩ → A = some ⟨g2, 0, none⟩ ∨ W.heap.size ≤ g2 := by
    intro olds hold hol hom hc hg hall
    have hfit : Builtin.nextslicecap (n + 1) c * i0.bytes ≤ 281474976710656 := by rw [hz2]; exact growslice_fits (by omega) (by omega)
    have hge := grownCap_ge W (n + 1) c 9
    refine ⟨_, _, _, run_append_grow_src W 34 34 34 9 i0 (.string ⟨#[]⟩) Try.underlying34 hi hz0 A n c olds hold _ 1 [.string m] hsrc hc (by omega) hfit, hall.on (fun g _ h2 => Lib.alloc_old W.drew _ g h2), fun _ => ⟨W.heap.size, ((olds ++ [Value.string m]).toArray ++ Builtin.zeroCells (Value.string ⟨#[]⟩).cells (grownCap W (n + 1) c 9 - (n + 1))).toList, rfl, ?_, fun j hj => ?_⟩, hge, ⟨rfl, rfl, rfl, by simp, fun k hk _ => Lib.alloc_old W.drew _ k hk⟩, fun g2 e => ?_⟩
    · unfold At
      rw [Array.toArray_toList]
      exact heap_alloc_new W.drew _
    · rw [Array.toList_append, List.getElem?_append_left (by simp [hol]; omega)]
      show (olds ++ [Value.string m])[j]? = _
      rcases Nat.lt_or_ge j n with h1 | h1
      · rw [List.getElem?_append_left (by omega)]
        exact hom j h1
      · rw [List.getElem?_append_right (by omega), hol, show j - n = 0 by omega]
        rfl
    · injection e with e
      injection e with e
      right; omega
  rcases hA with ⟨rfl, rfl, rfl⟩ | ⟨g, cs, rfl, ha, h1, h2, hne, hall⟩
  · exact grow [] (run_firstCells_none W.drew i0.size 0 0 0) rfl (fun j hj => absurd hj (Nat.not_lt_zero _)) (by omega) (fun g e => by cases e) (fun h => absurd h (Nat.lt_irrefl _))
  · by_cases hroom : n + 1 ≤ c
    · have hcell : W.cell? ⟨g, n, none⟩ = cs[n]? := ha.cell n
      have hr := run_append_room_src W 34 34 34 9 i0 Try.underlying34 hi g 0 n c (.slice (some ⟨xb, 0, none⟩) 1 1) 1 [.string m] hsrc hroom (fun j hj => by
        have hj0 : j = 0 := by simpa using hj
        subst hj0
        rw [hz1, Nat.zero_add, Nat.mul_one, Nat.add_zero, hcell, List.getElem?_eq_getElem (by omega)]
        rfl) (fun j hj => ha.free _)
      rw [hz1, Nat.zero_add, Nat.mul_one] at hr
      have ha2 : At (W.setCells g n [.string m]) g (cs.set n (.string m)) 9 := ha.set n _
      refine ⟨_, _, _, hr, fun _ => ⟨g, _, rfl, ha2, fun j hj => ?_⟩, fun _ => ⟨g, _, rfl, ha2, fun j hj => ?_⟩, hroom, grown_set (grown_refl W (some g)) n _, fun g2 e => .inl e⟩
      · rw [List.getElem?_set_ne (by omega)]; exact hall j hj
      · rcases Nat.lt_or_ge j n with h3 | h3
        · rw [List.getElem?_set_ne (by omega)]; exact hall j h3
        · rw [show j = n by omega, List.getElem?_set_self (by omega)]
    · refine grow (cs.take n) ?_ (by rw [List.length_take]; omega) (fun j hj => by rw [List.getElem?_take_of_lt hj]; exact hall j hj) (by omega) (fun g' e => by injection e with e; injection e with e; rw [← e]; exact ha.lt) (fun _ => ⟨g, cs, rfl, ha, hall⟩)
      refine run_firstCells_some W.drew i0.size n ⟨g, 0, none⟩ n c (cs.take n) (by rw [hz1, List.length_take]; omega) (fun j u hu => ?_)
      rw [add_off, Nat.zero_add]
      have hj : j < n := by have := (List.getElem?_eq_some_iff.1 hu).1; rw [List.length_take] at this; omega
      rw [List.getElem?_take_of_lt hj] at hu
      exact (ha.drew).get j u hu
section
variable {P : Program} {ops : Array Oper} {rest : List Oper} {o : Oper} {a : Act} {Q : Exit → Act → World → Prop}
theorem wp_app {W W' : World} (hgd : o.guard = none) (s x : Operand) (t tx : TypeId)
    (ho : o.op = .call { callee := .builtin .append, args := #[s, x], argTypes := #[t, tx] })
    (v xv v' : Value) (hv : a.eval s = v) (hx : a.eval x = xv) (hr : (Builtin.append_ #[t, tx] o.type #[v, xv]).run P W = .ok v' W') (hk : wpList P ops Q rest (a.put o.dst v') W') : wpList P ops Q (o :: rest) a W := by
  refine wpList_plain hgd fun K hK => ?_
  unfold Oper.wp execOp
  simp only [ho, resolve, invoke, builtin, Sem.run_bind, Sem.run_pure, Result.andThen_ok, List.map_toArray, List.map_cons, List.map_nil, hv, hx, hr]
  exact hK _ _ hk
end
end Go.Proofs.Ytfiomfcejmmbgaa.GramW

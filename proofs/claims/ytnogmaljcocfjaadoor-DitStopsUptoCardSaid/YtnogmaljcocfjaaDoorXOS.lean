/- What a struct's reading says of its cells, for each number of fields. No program of its own. -/
import Derived.Test.YtnogmaljcocfjaaDoorXO
set_option linter.unusedVariables false
set_option linter.unusedSimpArgs false
namespace Go.Proofs.YtnogmaljcocfjaaDoor.XO
open Go.RowKit Go.Proofs.YtnogmaljcocfjaaDoorW.PrintWords
theorem opn_struct3 {P : Program} {t : TypeId} {f0 f1 f2 : Field} {α0 α1 α2 ω : Type} {d0 : Kd α0} {d1 : Kd α1} {d2 : Kd α2} {bk0 : α0 → Nat} {bk1 : α1 → Nat} {bk2 : α2 → Nat} {fit0 : α0 → Prop} {fit1 : α1 → Prop} {fit2 : α2 → Prop} (hu : P.underlying t = some (.struct #[f0, f1, f2]))
    (ho : (P.cellsOf t, f0.offset, P.cellsOf f0.type, f1.offset, P.cellsOf f1.type, f2.offset, P.cellsOf f2.type) = ((d0.sz + (d1.sz + d2.sz)), 0, d0.sz, d0.sz, d1.sz, d0.sz + d1.sz, d2.sz)) (h0 : Opn P f0.type d0 bk0 fit0) (h1 : Opn P f1.type d1 bk1 fit1) (h2 : Opn P f2.type d2 bk2 fit2)
    {g_ : α0 × α1 × α2 → ω} {f_ : ω → α0 × α1 × α2} (hfg : ∀ y, f_ (g_ y) = y) (_hgf : ∀ x, g_ (f_ x) = x) : Opn P t (Kd.iso (Kd.pair d0 (Kd.pair d1 d2)) f_) (fun x => bk0 ((f_ x).1) + bk1 ((f_ x).2.1) + bk2 ((f_ x).2.2) + 1) (fun x => fit0 ((f_ x).1) ∧ fit1 ((f_ x).2.1) ∧ fit2 ((f_ x).2.2)) := by
  intro H enc W sp held fuel cs dt ps h hw
  simp only [Prod.mk.injEq] at ho
  obtain ⟨o0, o1, o2, o3, o4, o5, o6⟩ := ho
  obtain ⟨xs, n, _, rfl', hl, hlen, hf⟩ := DataW.trod_struct hu h
  obtain ⟨y0, y1, y2, rfl⟩ : ∃ y0 y1 y2, xs = [y0, y1, y2] := by
    match xs, hlen with
    | [y0, y1, y2], _ => exact ⟨y0, y1, y2, rfl⟩
  have t0 : DataW.trod enc P W 0 sp held n f0.type ((cs.drop f0.offset).take (P.cellsOf f0.type)) = some y0 := by simpa using hf 0 f0 rfl
  have t1 : DataW.trod enc P W 0 sp held n f1.type ((cs.drop f1.offset).take (P.cellsOf f1.type)) = some y1 := by simpa using hf 1 f1 rfl
  have t2 : DataW.trod enc P W 0 sp held n f2.type ((cs.drop f2.offset).take (P.cellsOf f2.type)) = some y2 := by simpa using hf 2 f2 rfl
  obtain ⟨rfl, rfl⟩ := Prod.mk.inj rfl'
  rw [o1, o2] at t0
  rw [o3, o4] at t1
  rw [o5, o6] at t2
  have hw' : ∀ k, (k ∈ y0.1.weights P f0.type ∨ k ∈ y1.1.weights P f1.type ∨ k ∈ y2.1.weights P f2.type) → k ≤ reachBytes := fun k hk => hw k (by
    simp only [DataW.weights, hu, DataW.weightsEach, List.map_cons, List.map_nil, List.mem_append, List.not_mem_nil, or_false]
    simpa using hk)
  obtain ⟨x0, k0, e0, b0⟩ := h0 H enc W sp held n _ y0.1 y0.2 t0 (fun k hk => hw' k (Or.inl hk))
  obtain ⟨x1, k1, e1, b1⟩ := h1 H enc W sp held n _ y1.1 y1.2 t1 (fun k hk => hw' k (Or.inr (Or.inl hk)))
  obtain ⟨x2, k2, e2, b2⟩ := h2 H enc W sp held n _ y2.1 y2.2 t2 (fun k hk => hw' k (Or.inr (Or.inr (hk))))
  refine ⟨g_ (x0, x1, x2), ?_, ?_, ?_⟩
  · show ((Kd.pair d0 (Kd.pair d1 d2))).K W (f_ (g_ (x0, x1, x2))) cs
    rw [hfg]
    rw [List.drop_zero] at k0
    have hcl : cs.length = (d0.sz + (d1.sz + d2.sz)) := hl.trans o0
    have elast : (cs.drop (d0.sz + d1.sz)).take d2.sz = cs.drop (d0.sz + d1.sz) := List.take_of_length_le (by rw [List.length_drop]; omega)
    rw [elast] at k2
    have p0 : cs = (cs).take d0.sz ++ cs.drop (d0.sz) := by
      exact (List.take_append_drop d0.sz cs).symm
    have p1 : cs.drop (d0.sz) = (cs.drop (d0.sz)).take d1.sz ++ cs.drop (d0.sz + d1.sz) := by
      have := (List.take_append_drop d1.sz (cs.drop (d0.sz))).symm
      rwa [List.drop_drop] at this
    exact ⟨_, _, p0, k0, ⟨_, _, p1, k1, k2⟩⟩
  · show fit0 ((f_ (g_ (x0, x1, x2))).1) ∧ fit1 ((f_ (g_ (x0, x1, x2))).2.1) ∧ fit2 ((f_ (g_ (x0, x1, x2))).2.2)
    rw [hfg]
    exact ⟨e0, e1, e2⟩
  · show bk0 ((f_ (g_ (x0, x1, x2))).1) + bk1 ((f_ (g_ (x0, x1, x2))).2.1) + bk2 ((f_ (g_ (x0, x1, x2))).2.2) + 1 ≤ _
    rw [hfg]
    simp only [Rows.uptoBulk, Rows.uptoBulkAll, List.map_cons, List.map_nil]
    omega
theorem opn_struct4 {P : Program} {t : TypeId} {f0 f1 f2 f3 : Field} {α0 α1 α2 α3 ω : Type} {d0 : Kd α0} {d1 : Kd α1} {d2 : Kd α2} {d3 : Kd α3} {bk0 : α0 → Nat} {bk1 : α1 → Nat} {bk2 : α2 → Nat} {bk3 : α3 → Nat} {fit0 : α0 → Prop} {fit1 : α1 → Prop} {fit2 : α2 → Prop} {fit3 : α3 → Prop} (hu : P.underlying t = some (.struct #[f0, f1, f2, f3]))
    (ho : (P.cellsOf t, f0.offset, P.cellsOf f0.type, f1.offset, P.cellsOf f1.type, f2.offset, P.cellsOf f2.type, f3.offset, P.cellsOf f3.type) = ((d0.sz + (d1.sz + (d2.sz + d3.sz))), 0, d0.sz, d0.sz, d1.sz, d0.sz + d1.sz, d2.sz, d0.sz + d1.sz + d2.sz, d3.sz)) (h0 : Opn P f0.type d0 bk0 fit0) (h1 : Opn P f1.type d1 bk1 fit1) (h2 : Opn P f2.type d2 bk2 fit2) (h3 : Opn P f3.type d3 bk3 fit3)
    {g_ : α0 × α1 × α2 × α3 → ω} {f_ : ω → α0 × α1 × α2 × α3} (hfg : ∀ y, f_ (g_ y) = y) (_hgf : ∀ x, g_ (f_ x) = x) : Opn P t (Kd.iso (Kd.pair d0 (Kd.pair d1 (Kd.pair d2 d3))) f_) (fun x => bk0 ((f_ x).1) + bk1 ((f_ x).2.1) + bk2 ((f_ x).2.2.1) + bk3 ((f_ x).2.2.2) + 1) (fun x => fit0 ((f_ x).1) ∧ fit1 ((f_ x).2.1) ∧ fit2 ((f_ x).2.2.1) ∧ fit3 ((f_ x).2.2.2)) := by
  intro H enc W sp held fuel cs dt ps h hw
  simp only [Prod.mk.injEq] at ho
  obtain ⟨o0, o1, o2, o3, o4, o5, o6, o7, o8⟩ := ho
  obtain ⟨xs, n, _, rfl', hl, hlen, hf⟩ := DataW.trod_struct hu h
  obtain ⟨y0, y1, y2, y3, rfl⟩ : ∃ y0 y1 y2 y3, xs = [y0, y1, y2, y3] := by
    match xs, hlen with
    | [y0, y1, y2, y3], _ => exact ⟨y0, y1, y2, y3, rfl⟩
  have t0 : DataW.trod enc P W 0 sp held n f0.type ((cs.drop f0.offset).take (P.cellsOf f0.type)) = some y0 := by simpa using hf 0 f0 rfl
  have t1 : DataW.trod enc P W 0 sp held n f1.type ((cs.drop f1.offset).take (P.cellsOf f1.type)) = some y1 := by simpa using hf 1 f1 rfl
  have t2 : DataW.trod enc P W 0 sp held n f2.type ((cs.drop f2.offset).take (P.cellsOf f2.type)) = some y2 := by simpa using hf 2 f2 rfl
  have t3 : DataW.trod enc P W 0 sp held n f3.type ((cs.drop f3.offset).take (P.cellsOf f3.type)) = some y3 := by simpa using hf 3 f3 rfl
  obtain ⟨rfl, rfl⟩ := Prod.mk.inj rfl'
  rw [o1, o2] at t0
  rw [o3, o4] at t1
  rw [o5, o6] at t2
  rw [o7, o8] at t3
  have hw' : ∀ k, (k ∈ y0.1.weights P f0.type ∨ k ∈ y1.1.weights P f1.type ∨ k ∈ y2.1.weights P f2.type ∨ k ∈ y3.1.weights P f3.type) → k ≤ reachBytes := fun k hk => hw k (by
    simp only [DataW.weights, hu, DataW.weightsEach, List.map_cons, List.map_nil, List.mem_append, List.not_mem_nil, or_false]
    simpa using hk)
  obtain ⟨x0, k0, e0, b0⟩ := h0 H enc W sp held n _ y0.1 y0.2 t0 (fun k hk => hw' k (Or.inl hk))
  obtain ⟨x1, k1, e1, b1⟩ := h1 H enc W sp held n _ y1.1 y1.2 t1 (fun k hk => hw' k (Or.inr (Or.inl hk)))
  obtain ⟨x2, k2, e2, b2⟩ := h2 H enc W sp held n _ y2.1 y2.2 t2 (fun k hk => hw' k (Or.inr (Or.inr (Or.inl hk))))
  obtain ⟨x3, k3, e3, b3⟩ := h3 H enc W sp held n _ y3.1 y3.2 t3 (fun k hk => hw' k (Or.inr (Or.inr (Or.inr (hk)))))
  refine ⟨g_ (x0, x1, x2, x3), ?_, ?_, ?_⟩
  · show ((Kd.pair d0 (Kd.pair d1 (Kd.pair d2 d3)))).K W (f_ (g_ (x0, x1, x2, x3))) cs
    rw [hfg]
    rw [List.drop_zero] at k0
    have hcl : cs.length = (d0.sz + (d1.sz + (d2.sz + d3.sz))) := hl.trans o0
    have elast : (cs.drop (d0.sz + d1.sz + d2.sz)).take d3.sz = cs.drop (d0.sz + d1.sz + d2.sz) := List.take_of_length_le (by rw [List.length_drop]; omega)
    rw [elast] at k3
    have p0 : cs = (cs).take d0.sz ++ cs.drop (d0.sz) := by
      exact (List.take_append_drop d0.sz cs).symm
    have p1 : cs.drop (d0.sz) = (cs.drop (d0.sz)).take d1.sz ++ cs.drop (d0.sz + d1.sz) := by
      have := (List.take_append_drop d1.sz (cs.drop (d0.sz))).symm
      rwa [List.drop_drop] at this
    have p2 : cs.drop (d0.sz + d1.sz) = (cs.drop (d0.sz + d1.sz)).take d2.sz ++ cs.drop (d0.sz + d1.sz + d2.sz) := by
      have := (List.take_append_drop d2.sz (cs.drop (d0.sz + d1.sz))).symm
      rwa [List.drop_drop] at this
    exact ⟨_, _, p0, k0, ⟨_, _, p1, k1, ⟨_, _, p2, k2, k3⟩⟩⟩
  · show fit0 ((f_ (g_ (x0, x1, x2, x3))).1) ∧ fit1 ((f_ (g_ (x0, x1, x2, x3))).2.1) ∧ fit2 ((f_ (g_ (x0, x1, x2, x3))).2.2.1) ∧ fit3 ((f_ (g_ (x0, x1, x2, x3))).2.2.2)
    rw [hfg]
    exact ⟨e0, e1, e2, e3⟩
  · show bk0 ((f_ (g_ (x0, x1, x2, x3))).1) + bk1 ((f_ (g_ (x0, x1, x2, x3))).2.1) + bk2 ((f_ (g_ (x0, x1, x2, x3))).2.2.1) + bk3 ((f_ (g_ (x0, x1, x2, x3))).2.2.2) + 1 ≤ _
    rw [hfg]
    simp only [Rows.uptoBulk, Rows.uptoBulkAll, List.map_cons, List.map_nil]
    omega
end Go.Proofs.YtnogmaljcocfjaaDoor.XO

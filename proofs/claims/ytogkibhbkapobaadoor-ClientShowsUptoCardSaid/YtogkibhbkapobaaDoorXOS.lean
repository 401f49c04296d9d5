/- What a struct's reading says of its cells, for each number of fields. No program of its own. -/
import Derived.Test.YtogkibhbkapobaaDoorXO
set_option linter.unusedVariables false
set_option linter.unusedSimpArgs false
namespace Go.Proofs.YtogkibhbkapobaaDoor.XO
open Go.RowKit Go.Proofs.YtogkibhbkapobaaDoorW.PrintWords
theorem opn_struct3 {P : Program} {t : TypeId} {f0 f1 f2 : Field} {α0 α1 α2 ω : Type} {d0 : Kd α0} {d1 : Kd α1} {d2 : Kd α2} {bk0 : α0 → Nat} {bk1 : α1 → Nat} {bk2 : α2 → Nat} {fit0 : α0 → Prop} {fit1 : α1 → Prop} {fit2 : α2 → Prop} (hu : P.underlying t = some (.struct #[f0, f1, f2]))
    (ho : (P.cellsOf t, f0.offset, P.cellsOf f0.type, f1.offset, P.cellsOf f1.type, f2.offset, P.cellsOf f2.type) = ((d0.sz + (d1.sz + d2.sz)), 0, d0.sz, d0.sz, d1.sz, d0.sz + d1.sz, d2.sz)) (h0 : Opn P f0.type d0 bk0 fit0) (h1 : Opn P f1.type d1 bk1 fit1) (h2 : Opn P f2.type d2 bk2 fit2)
    {g_ : α0 × α1 × α2 → ω} {f_ : ω → α0 × α1 × α2} (hfg : ∀ y, f_ (g_ y) = y) (_hgf : ∀ x, g_ (f_ x) = x) : Opn P t (Kd.iso (Kd.pair d0 (Kd.pair d1 d2)) f_) (fun x => bk0 ((f_ x).1) + bk1 ((f_ x).2.1) + bk2 ((f_ x).2.2) + 1) (fun x => fit0 ((f_ x).1) ∧ fit1 ((f_ x).2.1) ∧ fit2 ((f_ x).2.2)) := by
  intro H enc W sp held fuel cs dt ps h hw
  simp only [Prod.mk.injEq] at ho
  obtain ⟨o0, o1, o2, o3, o4, o5, o6⟩ := ho
  obtain ⟨xs, n, _, rfl', hl, hlen, hf⟩ := DataW.trod_struct hu h
  obtain ⟨y0, y1, y2, rfl⟩ : ∃ y0 y1 y2, xs = [y0, y1, y2] := by
    match xs, hlen with
    | [y0, y1, y2], _ => exact ⟨y0, y1, y2, rfl⟩
  have t0 : DataW.trod enc P W 0 sp held n f0.type ((cs.drop f0.offset).take (P.cellsOf f0.type)) = some y0 := by simpa using hf 0 f0 rfl
  have t1 : DataW.trod enc P W 0 sp held n f1.type ((cs.drop f1.offset).take (P.cellsOf f1.type)) = some y1 := by simpa using hf 1 f1 rfl
  have t2 : DataW.trod enc P W 0 sp held n f2.type ((cs.drop f2.offset).take (P.cellsOf f2.type)) = some y2 := by simpa using hf 2 f2 rfl
  obtain ⟨rfl, rfl⟩ := Prod.mk.inj rfl'
  rw [o1, o2] at t0
  rw [o3, o4] at t1
  rw [o5, o6] at t2
  have hw' : ∀ k, (k ∈ y0.1.weights P f0.type ∨ k ∈ y1.1.weights P f1.type ∨ k ∈ y2.1.weights P f2.type) → k ≤ reachBytes := fun k hk => hw k (by
    simp only [DataW.weights, hu, DataW.weightsEach, List.map_cons, List.map_nil, List.mem_append, List.not_mem_nil, or_false]
    simpa using hk)
  obtain ⟨x0, k0, e0, b0⟩ := h0 H enc W sp held n _ y0.1 y0.2 t0 (fun k hk => hw' k (Or.inl hk))
  obtain ⟨x1, k1, e1, b1⟩ := h1 H enc W sp held n _ y1.1 y1.2 t1 (fun k hk => hw' k (Or.inr (Or.inl hk)))
  obtain ⟨x2, k2, e2, b2⟩ := h2 H enc W sp held n _ y2.1 y2.2 t2 (fun k hk => hw' k (Or.inr (Or.inr (hk))))
  refine ⟨g_ (x0, x1, x2), ?_, ?_, ?_⟩
  · show ((Kd.pair d0 (Kd.pair d1 d2))).K W (f_ (g_ (x0, x1, x2))) cs
    rw [hfg]
    rw [List.drop_zero] at k0
    have hcl : cs.length = (d0.sz + (d1.sz + d2.sz)) := hl.trans o0
    have elast : (cs.drop (d0.sz + d1.sz)).take d2.sz = cs.drop (d0.sz + d1.sz) := List.take_of_length_le (by rw [List.length_drop]; omega)
    rw [elast] at k2
    have p0 : cs = (cs).take d0.sz ++ cs.drop (d0.sz) := by
      exact (List.take_append_drop d0.sz cs).symm
    have p1 : cs.drop (d0.sz) = (cs.drop (d0.sz)).take d1.sz ++ cs.drop (d0.sz + d1.sz) := by
      have := (List.take_append_drop d1.sz (cs.drop (d0.sz))).symm
      rwa [List.drop_drop] at this
    exact ⟨_, _, p0, k0, ⟨_, _, p1, k1, k2⟩⟩
  · show fit0 ((f_ (g_ (x0, x1, x2))).1) ∧ fit1 ((f_ (g_ (x0, x1, x2))).2.1) ∧ fit2 ((f_ (g_ (x0, x1, x2))).2.2)
    rw [hfg]
    exact ⟨e0, e1, e2⟩
  · show bk0 ((f_ (g_ (x0, x1, x2))).1) + bk1 ((f_ (g_ (x0, x1, x2))).2.1) + bk2 ((f_ (g_ (x0, x1, x2))).2.2) + 1 ≤ _
    rw [hfg]
    simp only [Rows.uptoBulk, Rows.uptoBulkAll, List.map_cons, List.map_nil]
    omega
theorem opn_struct4 {P : Program} {t : TypeId} {f0 f1 f2 f3 : Field} {α0 α1 α2 α3 ω : Type} {d0 : Kd α0} {d1 : Kd α1} {d2 : Kd α2} {d3 : Kd α3} {bk0 : α0 → Nat} {bk1 : α1 → Nat} {bk2 : α2 → Nat} {bk3 : α3 → Nat} {fit0 : α0 → Prop} {fit1 : α1 → Prop} {fit2 : α2 → Prop} {fit3 : α3 → Prop} (hu : P.underlying t = some (.struct #[f0, f1, f2, f3]))
    (ho : (P.cellsOf t, f0.offset, P.cellsOf f0.type, f1.offset, P.cellsOf f1.type, f2.offset, P.cellsOf f2.type, f3.offset, P.cellsOf f3.type) = ((d0.sz + (d1.sz + (d2.sz + d3.sz))), 0, d0.sz, d0.sz, d1.sz, d0.sz + d1.sz, d2.sz, d0.sz + d1.sz + d2.sz, d3.sz)) (h0 : Opn P f0.type d0 bk0 fit0) (h1 : Opn P f1.type d1 bk1 fit1) (h2 : Opn P f2.type d2 bk2 fit2) (h3 : Opn P f3.type d3 bk3 fit3)
    {g_ : α0 × α1 × α2 × α3 → ω} {f_ : ω → α0 × α1 × α2 × α3} (hfg : ∀ y, f_ (g_ y) = y) (_hgf : ∀ x, g_ (f_ x) = x) : Opn P t (Kd.iso (Kd.pair d0 (Kd.pair d1 (Kd.pair d2 d3))) f_) (fun x => bk0 ((f_ x).1) + bk1 ((f_ x).2.1) + bk2 ((f_ x).2.2.1) + bk3 ((f_ x).2.2.2) + 1) (fun x => fit0 ((f_ x).1) ∧ fit1 ((f_ x).2.1) ∧ fit2 ((f_ x).2.2.1) ∧ fit3 ((f_ x).2.2.2)) := by
  intro H enc W sp held fuel cs dt ps h hw
  simp only [Prod.mk.injEq] at ho
  obtain ⟨o0, o1, o2, o3, o4, o5, o6, o7, o8⟩ := ho
  obtain ⟨xs, n, _, rfl', hl, hlen, hf⟩ := DataW.trod_struct hu h
  obtain ⟨y0, y1, y2, y3, rfl⟩ : ∃ y0 y1 y2 y3, xs = [y0, y1, y2, y3] := by
    match xs, hlen with
    | [y0, y1, y2, y3], _ => exact ⟨y0, y1, y2, y3, rfl⟩
  have t0 : DataW.trod enc P W 0 sp held n f0.type ((cs.drop f0.offset).take (P.cellsOf f0.type)) = some y0 := by simpa using hf 0 f0 rfl
  have t1 : DataW.trod enc P W 0 sp held n f1.type ((cs.drop f1.offset).take (P.cellsOf f1.type)) = some y1 := by simpa using hf 1 f1 rfl
  have t2 : DataW.trod enc P W 0 sp held n f2.type ((cs.drop f2.offset).take (P.cellsOf f2.type)) = some y2 := by simpa using hf 2 f2 rfl
  have t3 : DataW.trod enc P W 0 sp held n f3.type ((cs.drop f3.offset).take (P.cellsOf f3.type)) = some y3 := by simpa using hf 3 f3 rfl
  obtain ⟨rfl, rfl⟩ := Prod.mk.inj rfl'
  rw [o1, o2] at t0
  rw [o3, o4] at t1
  rw [o5, o6] at t2
  rw [o7, o8] at t3
  have hw' : ∀ k, (k ∈ y0.1.weights P f0.type ∨ k ∈ y1.1.weights P f1.type ∨ k ∈ y2.1.weights P f2.type ∨ k ∈ y3.1.weights P f3.type) → k ≤ reachBytes := fun k hk => hw k (by
    simp only [DataW.weights, hu, DataW.weightsEach, List.map_cons, List.map_nil, List.mem_append, List.not_mem_nil, or_false]
    simpa using hk)
  obtain ⟨x0, k0, e0, b0⟩ := h0 H enc W sp held n _ y0.1 y0.2 t0 (fun k hk => hw' k (Or.inl hk))
  obtain ⟨x1, k1, e1, b1⟩ := h1 H enc W sp held n _ y1.1 y1.2 t1 (fun k hk => hw' k (Or.inr (Or.inl hk)))
  obtain ⟨x2, k2, e2, b2⟩ := h2 H enc W sp held n _ y2.1 y2.2 t2 (fun k hk => hw' k (Or.inr (Or.inr (Or.inl hk))))
  obtain ⟨x3, k3, e3, b3⟩ := h3 H enc W sp held n _ y3.1 y3.2 t3 (fun k hk => hw' k (Or.inr (Or.inr (Or.inr (hk)))))
  refine ⟨g_ (x0, x1, x2, x3), ?_, ?_, ?_⟩
  · show ((Kd.pair d0 (Kd.pair d1 (Kd.pair d2 d3)))).K W (f_ (g_ (x0, x1, x2, x3))) cs
    rw [hfg]
    rw [List.drop_zero] at k0
    have hcl : cs.length = (d0.sz + (d1.sz + (d2.sz + d3.sz))) := hl.trans o0
    have elast : (cs.drop (d0.sz + d1.sz + d2.sz)).take d3.sz = cs.drop (d0.sz + d1.sz + d2.sz) := List.take_of_length_le (by rw [List.length_drop]; omega)
    rw [elast] at k3
    have p0 : cs = (cs).take d0.sz ++ cs.drop (d0.sz) := by
      exact (List.take_append_drop d0.sz cs).symm
    have p1 : cs.drop (d0.sz) = (cs.drop (d0.sz)).take d1.sz ++ cs.drop (d0.sz + d1.sz) := by
      have := (List.take_append_drop d1.sz (cs.drop (d0.sz))).symm
      rwa [List.drop_drop] at this
    have p2 : cs.drop (d0.sz + d1.sz) = (cs.drop (d0.sz + d1.sz)).take d2.sz ++ cs.drop (d0.sz + d1.sz + d2.sz) := by
      have := (List.take_append_drop d2.sz (cs.drop (d0.sz + d1.sz))).symm
      rwa [List.drop_drop] at this
    exact ⟨_, _, p0, k0, ⟨_, _, p1, k1, ⟨_, _, p2, k2, k3⟩⟩⟩
  · show fit0 ((f_ (g_ (x0, x1, x2, x3))).1) ∧ fit1 ((f_ (g_ (x0, x1, x2, x3))).2.1) ∧ fit2 ((f_ (g_ (x0, x1, x2, x3))).2.2.1) ∧ fit3 ((f_ (g_ (x0, x1, x2, x3))).2.2.2)
    rw [hfg]
    exact ⟨e0, e1, e2, e3⟩
  · show bk0 ((f_ (g_ (x0, x1, x2, x3))).1) + bk1 ((f_ (g_ (x0, x1, x2, x3))).2.1) + bk2 ((f_ (g_ (x0, x1, x2, x3))).2.2.1) + bk3 ((f_ (g_ (x0, x1, x2, x3))).2.2.2) + 1 ≤ _
    rw [hfg]
    simp only [Rows.uptoBulk, Rows.uptoBulkAll, List.map_cons, List.map_nil]
    omega
theorem opn_struct8 {P : Program} {t : TypeId} {f0 f1 f2 f3 f4 f5 f6 f7 : Field} {α0 α1 α2 α3 α4 α5 α6 α7 ω : Type} {d0 : Kd α0} {d1 : Kd α1} {d2 : Kd α2} {d3 : Kd α3} {d4 : Kd α4} {d5 : Kd α5} {d6 : Kd α6} {d7 : Kd α7} {bk0 : α0 → Nat} {bk1 : α1 → Nat} {bk2 : α2 → Nat} {bk3 : α3 → Nat} {bk4 : α4 → Nat} {bk5 : α5 → Nat} {bk6 : α6 → Nat} {bk7 : α7 → Nat} {fit0 : α0 → Prop} {fit1 : α1 → Prop} {fit2 : α2 → Prop} {fit3 : α3 → Prop} {fit4 : α4 → Prop} {fit5 : α5 → Prop} {fit6 : α6 → Prop} {fit7 : α7 → Prop} (hu : P.underlying t = some (.struct #[f0, f1, f2, f3, f4, f5, f6, f7]))
    (ho : (P.cellsOf t, f0.offset, P.cellsOf f0.type, f1.offset, P.cellsOf f1.type, f2.offset, P.cellsOf f2.type, f3.offset, P.cellsOf f3.type, f4.offset, P.cellsOf f4.type, f5.offset, P.cellsOf f5.type, f6.offset, P.cellsOf f6.type, f7.offset, P.cellsOf f7.type) = ((d0.sz + (d1.sz + (d2.sz + (d3.sz + (d4.sz + (d5.sz + (d6.sz + d7.sz))))))), 0, d0.sz, d0.sz, d1.sz, d0.sz + d1.sz, d2.sz, d0.sz + d1.sz + d2.sz, d3.sz, d0.sz + d1.sz + d2.sz + d3.sz, d4.sz, d0.sz + d1.sz + d2.sz + d3.sz + d4.sz, d5.sz, d0.sz + d1.sz + d2.sz + d3.sz + d4.sz + d5.sz, d6.sz, d0.sz + d1.sz + d2.sz + d3.sz + d4.sz + d5.sz + d6.sz, d7.sz)) (h0 : Opn P f0.type d0 bk0 fit0) (h1 : Opn P f1.type d1 bk1 fit1) (h2 : Opn P f2.type d2 bk2 fit2) (h3 : Opn P f3.type d3 bk3 fit3) (h4 : Opn P f4.type d4 bk4 fit4) (h5 : Opn P f5.type d5 bk5 fit5) (h6 : Opn P f6.type d6 bk6 fit6) (h7 : Opn P f7.type d7 bk7 fit7)
    {g_ : α0 × α1 × α2 × α3 × α4 × α5 × α6 × α7 → ω} {f_ : ω → α0 × α1 × α2 × α3 × α4 × α5 × α6 × α7} (hfg : ∀ y, f_ (g_ y) = y) (_hgf : ∀ x, g_ (f_ x) = x) : Opn P t (Kd.iso (Kd.pair d0 (Kd.pair d1 (Kd.pair d2 (Kd.pair d3 (Kd.pair d4 (Kd.pair d5 (Kd.pair d6 d7))))))) f_) (fun x => bk0 ((f_ x).1) + bk1 ((f_ x).2.1) + bk2 ((f_ x).2.2.1) + bk3 ((f_ x).2.2.2.1) + bk4 ((f_ x).2.2.2.2.1) + bk5 ((f_ x).2.2.2.2.2.1) + bk6 ((f_ x).2.2.2.2.2.2.1) + bk7 ((f_ x).2.2.2.2.2.2.2) + 1) (fun x => fit0 ((f_ x).1) ∧ fit1 ((f_ x).2.1) ∧ fit2 ((f_ x).2.2.1) ∧ fit3 ((f_ x).2.2.2.1) ∧ fit4 ((f_ x).2.2.2.2.1) ∧ fit5 ((f_ x).2.2.2.2.2.1) ∧ fit6 ((f_ x).2.2.2.2.2.2.1) ∧ fit7 ((f_ x).2.2.2.2.2.2.2)) := by
  intro H enc W sp held fuel cs dt ps h hw
  simp only [Prod.mk.injEq] at ho
  obtain ⟨o0, o1, o2, o3, o4, o5, o6, o7, o8, o9, o10, o11, o12, o13, o14, o15, o16⟩ := ho
  obtain ⟨xs, n, _, rfl', hl, hlen, hf⟩ := DataW.trod_struct hu h
  obtain ⟨y0, y1, y2, y3, y4, y5, y6, y7, rfl⟩ : ∃ y0 y1 y2 y3 y4 y5 y6 y7, xs = [y0, y1, y2, y3, y4, y5, y6, y7] := by
    match xs, hlen with
    | [y0, y1, y2, y3, y4, y5, y6, y7], _ => exact ⟨y0, y1, y2, y3, y4, y5, y6, y7, rfl⟩
  have t0 : DataW.trod enc P W 0 sp held n f0.type ((cs.drop f0.offset).take (P.cellsOf f0.type)) = some y0 := by simpa using hf 0 f0 rfl
  have t1 : DataW.trod enc P W 0 sp held n f1.type ((cs.drop f1.offset).take (P.cellsOf f1.type)) = some y1 := by simpa using hf 1 f1 rfl
  have t2 : DataW.trod enc P W 0 sp held n f2.type ((cs.drop f2.offset).take (P.cellsOf f2.type)) = some y2 := by simpa using hf 2 f2 rfl
  have t3 : DataW.trod enc P W 0 sp held n f3.type ((cs.drop f3.offset).take (P.cellsOf f3.type)) = some y3 := by simpa using hf 3 f3 rfl
  have t4 : DataW.trod enc P W 0 sp held n f4.type ((cs.drop f4.offset).take (P.cellsOf f4.type)) = some y4 := by simpa using hf 4 f4 rfl
  have t5 : DataW.trod enc P W 0 sp held n f5.type ((cs.drop f5.offset).take (P.cellsOf f5.type)) = some y5 := by simpa using hf 5 f5 rfl
  have t6 : DataW.trod enc P W 0 sp held n f6.type ((cs.drop f6.offset).take (P.cellsOf f6.type)) = some y6 := by simpa using hf 6 f6 rfl
  have t7 : DataW.trod enc P W 0 sp held n f7.type ((cs.drop f7.offset).take (P.cellsOf f7.type)) = some y7 := by simpa using hf 7 f7 rfl
  obtain ⟨rfl, rfl⟩ := Prod.mk.inj rfl'
  rw [o1, o2] at t0
  rw [o3, o4] at t1
  rw [o5, o6] at t2
  rw [o7, o8] at t3
  rw [o9, o10] at t4
  rw [o11, o12] at t5
  rw [o13, o14] at t6
  rw [o15, o16] at t7
  have hw' : ∀ k, (k ∈ y0.1.weights P f0.type ∨ k ∈ y1.1.weights P f1.type ∨ k ∈ y2.1.weights P f2.type ∨ k ∈ y3.1.weights P f3.type ∨ k ∈ y4.1.weights P f4.type ∨ k ∈ y5.1.weights P f5.type ∨ k ∈ y6.1.weights P f6.type ∨ k ∈ y7.1.weights P f7.type) → k ≤ reachBytes := fun k hk => hw k (by
    simp only [DataW.weights, hu, DataW.weightsEach, List.map_cons, List.map_nil, List.mem_append, List.not_mem_nil, or_false]
    simpa using hk)
  obtain ⟨x0, k0, e0, b0⟩ := h0 H enc W sp held n _ y0.1 y0.2 t0 (fun k hk => hw' k (Or.inl hk))
  obtain ⟨x1, k1, e1, b1⟩ := h1 H enc W sp held n _ y1.1 y1.2 t1 (fun k hk => hw' k (Or.inr (Or.inl hk)))
  obtain ⟨x2, k2, e2, b2⟩ := h2 H enc W sp held n _ y2.1 y2.2 t2 (fun k hk => hw' k (Or.inr (Or.inr (Or.inl hk))))
  obtain ⟨x3, k3, e3, b3⟩ := h3 H enc W sp held n _ y3.1 y3.2 t3 (fun k hk => hw' k (Or.inr (Or.inr (Or.inr (Or.inl hk)))))
  obtain ⟨x4, k4, e4, b4⟩ := h4 H enc W sp held n _ y4.1 y4.2 t4 (fun k hk => hw' k (Or.inr (Or.inr (Or.inr (Or.inr (Or.inl hk))))))
  obtain ⟨x5, k5, e5, b5⟩ := h5 H enc W sp held n _ y5.1 y5.2 t5 (fun k hk => hw' k (Or.inr (Or.inr (Or.inr (Or.inr (Or.inr (Or.inl hk)))))))
  obtain ⟨x6, k6, e6, b6⟩ := h6 H enc W sp held n _ y6.1 y6.2 t6 (fun k hk => hw' k (Or.inr (Or.inr (Or.inr (Or.inr (Or.inr (Or.inr (Or.inl hk))))))))
  obtain ⟨x7, k7, e7, b7⟩ := h7 H enc W sp held n _ y7.1 y7.2 t7 (fun k hk => hw' k (Or.inr (Or.inr (Or.inr (Or.inr (Or.inr (Or.inr (Or.inr (hk)))))))))
  refine ⟨g_ (x0, x1, x2, x3, x4, x5, x6, x7), ?_, ?_, ?_⟩
  · show ((Kd.pair d0 (Kd.pair d1 (Kd.pair d2 (Kd.pair d3 (Kd.pair d4 (Kd.pair d5 (Kd.pair d6 d7)))))))).K W (f_ (g_ (x0, x1, x2, x3, x4, x5, x6, x7))) cs
    rw [hfg]
    rw [List.drop_zero] at k0
    have hcl : cs.length = (d0.sz + (d1.sz + (d2.sz + (d3.sz + (d4.sz + (d5.sz + (d6.sz + d7.sz))))))) := hl.trans o0
    have elast : (cs.drop (d0.sz + d1.sz + d2.sz + d3.sz + d4.sz + d5.sz + d6.sz)).take d7.sz = cs.drop (d0.sz + d1.sz + d2.sz + d3.sz + d4.sz + d5.sz + d6.sz) := List.take_of_length_le (by rw [List.length_drop]; omega)
    rw [elast] at k7
    have p0 : cs = (cs).take d0.sz ++ cs.drop (d0.sz) := by
      exact (List.take_append_drop d0.sz cs).symm
    have p1 : cs.drop (d0.sz) = (cs.drop (d0.sz)).take d1.sz ++ cs.drop (d0.sz + d1.sz) := by
      have := (List.take_append_drop d1.sz (cs.drop (d0.sz))).symm
      rwa [List.drop_drop] at this
    have p2 : cs.drop (d0.sz + d1.sz) = (cs.drop (d0.sz + d1.sz)).take d2.sz ++ cs.drop (d0.sz + d1.sz + d2.sz) := by
      have := (List.take_append_drop d2.sz (cs.drop (d0.sz + d1.sz))).symm
      rwa [List.drop_drop] at this
    have p3 : cs.drop (d0.sz + d1.sz + d2.sz) = (cs.drop (d0.sz + d1.sz + d2.sz)).take d3.sz ++ cs.drop (d0.sz + d1.sz + d2.sz + d3.sz) := by
      have := (List.take_append_drop d3.sz (cs.drop (d0.sz + d1.sz + d2.sz))).symm
      rwa [List.drop_drop] at this
    have p4 : cs.drop (d0.sz + d1.sz + d2.sz + d3.sz) = (cs.drop (d0.sz + d1.sz + d2.sz + d3.sz)).take d4.sz ++ cs.drop (d0.sz + d1.sz + d2.sz + d3.sz + d4.sz) := by
      have := (List.take_append_drop d4.sz (cs.drop (d0.sz + d1.sz + d2.sz + d3.sz))).symm
      rwa [List.drop_drop] at this
    have p5 : cs.drop (d0.sz + d1.sz + d2.sz + d3.sz + d4.sz) = (cs.drop (d0.sz + d1.sz + d2.sz + d3.sz + d4.sz)).take d5.sz ++ cs.drop (d0.sz + d1.sz + d2.sz + d3.sz + d4.sz + d5.sz) := by
      have := (List.take_append_drop d5.sz (cs.drop (d0.sz + d1.sz + d2.sz + d3.sz + d4.sz))).symm
      rwa [List.drop_drop] at this
    have p6 : cs.drop (d0.sz + d1.sz + d2.sz + d3.sz + d4.sz + d5.sz) = (cs.drop (d0.sz + d1.sz + d2.sz + d3.sz + d4.sz + d5.sz)).take d6.sz ++ cs.drop (d0.sz + d1.sz + d2.sz + d3.sz + d4.sz + d5.sz + d6.sz) := by
      have := (List.take_append_drop d6.sz (cs.drop (d0.sz + d1.sz + d2.sz + d3.sz + d4.sz + d5.sz))).symm
      rwa [List.drop_drop] at this
    exact ⟨_, _, p0, k0, ⟨_, _, p1, k1, ⟨_, _, p2, k2, ⟨_, _, p3, k3, ⟨_, _, p4, k4, ⟨_, _, p5, k5, ⟨_, _, p6, k6, k7⟩⟩⟩⟩⟩⟩⟩
  · show fit0 ((f_ (g_ (x0, x1, x2, x3, x4, x5, x6, x7))).1) ∧ fit1 ((f_ (g_ (x0, x1, x2, x3, x4, x5, x6, x7))).2.1) ∧ fit2 ((f_ (g_ (x0, x1, x2, x3, x4, x5, x6, x7))).2.2.1) ∧ fit3 ((f_ (g_ (x0, x1, x2, x3, x4, x5, x6, x7))).2.2.2.1) ∧ fit4 ((f_ (g_ (x0, x1, x2, x3, x4, x5, x6, x7))).2.2.2.2.1) ∧ fit5 ((f_ (g_ (x0, x1, x2, x3, x4, x5, x6, x7))).2.2.2.2.2.1) ∧ fit6 ((f_ (g_ (x0, x1, x2, x3, x4, x5, x6, x7))).2.2.2.2.2.2.1) ∧ fit7 ((f_ (g_ (x0, x1, x2, x3, x4, x5, x6, x7))).2.2.2.2.2.2.2)
    rw [hfg]
    exact ⟨e0, e1, e2, e3, e4, e5, e6, e7⟩
  · show bk0 ((f_ (g_ (x0, x1, x2, x3, x4, x5, x6, x7))).1) + bk1 ((f_ (g_ (x0, x1, x2, x3, x4, x5, x6, x7))).2.1) + bk2 ((f_ (g_ (x0, x1, x2, x3, x4, x5, x6, x7))).2.2.1) + bk3 ((f_ (g_ (x0, x1, x2, x3, x4, x5, x6, x7))).2.2.2.1) + bk4 ((f_ (g_ (x0, x1, x2, x3, x4, x5, x6, x7))).2.2.2.2.1) + bk5 ((f_ (g_ (x0, x1, x2, x3, x4, x5, x6, x7))).2.2.2.2.2.1) + bk6 ((f_ (g_ (x0, x1, x2, x3, x4, x5, x6, x7))).2.2.2.2.2.2.1) + bk7 ((f_ (g_ (x0, x1, x2, x3, x4, x5, x6, x7))).2.2.2.2.2.2.2) + 1 ≤ _
    rw [hfg]
    simp only [Rows.uptoBulk, Rows.uptoBulkAll, List.map_cons, List.map_nil]
    omega
theorem opn_struct10 {P : Program} {t : TypeId} {f0 f1 f2 f3 f4 f5 f6 f7 f8 f9 : Field} {α0 α1 α2 α3 α4 α5 α6 α7 α8 α9 ω : Type} {d0 : Kd α0} {d1 : Kd α1} {d2 : Kd α2} {d3 : Kd α3} {d4 : Kd α4} {d5 : Kd α5} {d6 : Kd α6} {d7 : Kd α7} {d8 : Kd α8} {d9 : Kd α9} {bk0 : α0 → Nat} {bk1 : α1 → Nat} {bk2 : α2 → Nat} {bk3 : α3 → Nat} {bk4 : α4 → Nat} {bk5 : α5 → Nat} {bk6 : α6 → Nat} {bk7 : α7 → Nat} {bk8 : α8 → Nat} {bk9 : α9 → Nat} {fit0 : α0 → Prop} {fit1 : α1 → Prop} {fit2 : α2 → Prop} {fit3 : α3 → Prop} {fit4 : α4 → Prop} {fit5 : α5 → Prop} {fit6 : α6 → Prop} {fit7 : α7 → Prop} {fit8 : α8 → Prop} {fit9 : α9 → Prop} (hu : P.underlying t = some (.struct #[f0, f1, f2, f3, f4, f5, f6, f7, f8, f9]))
    (ho : (P.cellsOf t, f0.offset, P.cellsOf f0.type, f1.offset, P.cellsOf f1.type, f2.offset, P.cellsOf f2.type, f3.offset, P.cellsOf f3.type, f4.offset, P.cellsOf f4.type, f5.offset, P.cellsOf f5.type, f6.offset, P.cellsOf f6.type, f7.offset, P.cellsOf f7.type, f8.offset, P.cellsOf f8.type, f9.offset, P.cellsOf f9.type) = ((d0.sz + (d1.sz + (d2.sz + (d3.sz + (d4.sz + (d5.sz + (d6.sz + (d7.sz + (d8.sz + d9.sz))))))))), 0, d0.sz, d0.sz, d1.sz, d0.sz + d1.sz, d2.sz, d0.sz + d1.sz + d2.sz, d3.sz, d0.sz + d1.sz + d2.sz + d3.sz, d4.sz, d0.sz + d1.sz + d2.sz + d3.sz + d4.sz, d5.sz, d0.sz + d1.sz + d2.sz + d3.sz + d4.sz + d5.sz, d6.sz, d0.sz + d1.sz + d2.sz + d3.sz + d4.sz + d5.sz + d6.sz, d7.sz, d0.sz + d1.sz + d2.sz + d3.sz + d4.sz + d5.sz + d6.sz + d7.sz, d8.sz, d0.sz + d1.sz + d2.sz + d3.sz + d4.sz + d5.sz + d6.sz + d7.sz + d8.sz, d9.sz)) (h0 : Opn P f0.type d0 bk0 fit0) (h1 : Opn P f1.type d1 bk1 fit1) (h2 : Opn P f2.type d2 bk2 fit2) (h3 : Opn P f3.type d3 bk3 fit3) (h4 : Opn P f4.type d4 bk4 fit4) (h5 : Opn P f5.type d5 bk5 fit5) (h6 : Opn P f6.type d6 bk6 fit6) (h7 : Opn P f7.type d7 bk7 fit7) (h8 : Opn P f8.type d8 bk8 fit8) (h9 : Opn P f9.type d9 bk9 fit9)
    {g_ : α0 × α1 × α2 × α3 × α4 × α5 × α6 × α7 × α8 × α9 → ω} {f_ : ω → α0 × α1 × α2 × α3 × α4 × α5 × α6 × α7 × α8 × α9} (hfg : ∀ y, f_ (g_ y) = y) (_hgf : ∀ x, g_ (f_ x) = x) : Opn P t (Kd.iso (Kd.pair d0 (Kd.pair d1 (Kd.pair d2 (Kd.pair d3 (Kd.pair d4 (Kd.pair d5 (Kd.pair d6 (Kd.pair d7 (Kd.pair d8 d9))))))))) f_) (fun x => bk0 ((f_ x).1) + bk1 ((f_ x).2.1) + bk2 ((f_ x).2.2.1) + bk3 ((f_ x).2.2.2.1) + bk4 ((f_ x).2.2.2.2.1) + bk5 ((f_ x).2.2.2.2.2.1) + bk6 ((f_ x).2.2.2.2.2.2.1) + bk7 ((f_ x).2.2.2.2.2.2.2.1) + bk8 ((f_ x).2.2.2.2.2.2.2.2.1) + bk9 ((f_ x).2.2.2.2.2.2.2.2.2) + 1) (fun x => fit0 ((f_ x).1) ∧ fit1 ((f_ x).2.1) ∧ fit2 ((f_ x).2.2.1) ∧ fit3 ((f_ x).2.2.2.1) ∧ fit4 ((f_ x).2.2.2.2.1) ∧ fit5 ((f_ x).2.2.2.2.2.1) ∧ fit6 ((f_ x).2.2.2.2.2.2.1) ∧ fit7 ((f_ x).2.2.2.2.2.2.2.1) ∧ fit8 ((f_ x).2.2.2.2.2.2.2.2.1) ∧ fit9 ((f_ x).2.2.2.2.2.2.2.2.2)) := by
  intro H enc W sp held fuel cs dt ps h hw
  simp only [Prod.mk.injEq] at ho
  obtain ⟨o0, o1, o2, o3, o4, o5, o6, o7, o8, o9, o10, o11, o12, o13, o14, o15, o16, o17, o18, o19, o20⟩ := ho
  obtain ⟨xs, n, _, rfl', hl, hlen, hf⟩ := DataW.trod_struct hu h
  obtain ⟨y0, y1, y2, y3, y4, y5, y6, y7, y8, y9, rfl⟩ : ∃ y0 y1 y2 y3 y4 y5 y6 y7 y8 y9, xs = [y0, y1, y2, y3, y4, y5, y6, y7, y8, y9] := by
    match xs, hlen with
    | [y0, y1, y2, y3, y4, y5, y6, y7, y8, y9], _ => exact ⟨y0, y1, y2, y3, y4, y5, y6, y7, y8, y9, rfl⟩
  have t0 : DataW.trod enc P W 0 sp held n f0.type ((cs.drop f0.offset).take (P.cellsOf f0.type)) = some y0 := by simpa using hf 0 f0 rfl
  have t1 : DataW.trod enc P W 0 sp held n f1.type ((cs.drop f1.offset).take (P.cellsOf f1.type)) = some y1 := by simpa using hf 1 f1 rfl
  have t2 : DataW.trod enc P W 0 sp held n f2.type ((cs.drop f2.offset).take (P.cellsOf f2.type)) = some y2 := by simpa using hf 2 f2 rfl
  have t3 : DataW.trod enc P W 0 sp held n f3.type ((cs.drop f3.offset).take (P.cellsOf f3.type)) = some y3 := by simpa using hf 3 f3 rfl
  have t4 : DataW.trod enc P W 0 sp held n f4.type ((cs.drop f4.offset).take (P.cellsOf f4.type)) = some y4 := by simpa using hf 4 f4 rfl
  have t5 : DataW.trod enc P W 0 sp held n f5.type ((cs.drop f5.offset).take (P.cellsOf f5.type)) = some y5 := by simpa using hf 5 f5 rfl
  have t6 : DataW.trod enc P W 0 sp held n f6.type ((cs.drop f6.offset).take (P.cellsOf f6.type)) = some y6 := by simpa using hf 6 f6 rfl
  have t7 : DataW.trod enc P W 0 sp held n f7.type ((cs.drop f7.offset).take (P.cellsOf f7.type)) = some y7 := by simpa using hf 7 f7 rfl
  have t8 : DataW.trod enc P W 0 sp held n f8.type ((cs.drop f8.offset).take (P.cellsOf f8.type)) = some y8 := by simpa using hf 8 f8 rfl
  have t9 : DataW.trod enc P W 0 sp held n f9.type ((cs.drop f9.offset).take (P.cellsOf f9.type)) = some y9 := by simpa using hf 9 f9 rfl
  obtain ⟨rfl, rfl⟩ := Prod.mk.inj rfl'
  rw [o1, o2] at t0
  rw [o3, o4] at t1
  rw [o5, o6] at t2
  rw [o7, o8] at t3
  rw [o9, o10] at t4
  rw [o11, o12] at t5
  rw [o13, o14] at t6
  rw [o15, o16] at t7
  rw [o17, o18] at t8
  rw [o19, o20] at t9
  have hw' : ∀ k, (k ∈ y0.1.weights P f0.type ∨ k ∈ y1.1.weights P f1.type ∨ k ∈ y2.1.weights P f2.type ∨ k ∈ y3.1.weights P f3.type ∨ k ∈ y4.1.weights P f4.type ∨ k ∈ y5.1.weights P f5.type ∨ k ∈ y6.1.weights P f6.type ∨ k ∈ y7.1.weights P f7.type ∨ k ∈ y8.1.weights P f8.type ∨ k ∈ y9.1.weights P f9.type) → k ≤ reachBytes := fun k hk => hw k (by
    simp only [DataW.weights, hu, DataW.weightsEach, List.map_cons, List.map_nil, List.mem_append, List.not_mem_nil, or_false]
    simpa using hk)
  obtain ⟨x0, k0, e0, b0⟩ := h0 H enc W sp held n _ y0.1 y0.2 t0 (fun k hk => hw' k (Or.inl hk))
  obtain ⟨x1, k1, e1, b1⟩ := h1 H enc W sp held n _ y1.1 y1.2 t1 (fun k hk => hw' k (Or.inr (Or.inl hk)))
  obtain ⟨x2, k2, e2, b2⟩ := h2 H enc W sp held n _ y2.1 y2.2 t2 (fun k hk => hw' k (Or.inr (Or.inr (Or.inl hk))))
  obtain ⟨x3, k3, e3, b3⟩ := h3 H enc W sp held n _ y3.1 y3.2 t3 (fun k hk => hw' k (Or.inr (Or.inr (Or.inr (Or.inl hk)))))
  obtain ⟨x4, k4, e4, b4⟩ := h4 H enc W sp held n _ y4.1 y4.2 t4 (fun k hk => hw' k (Or.inr (Or.inr (Or.inr (Or.inr (Or.inl hk))))))
  obtain ⟨x5, k5, e5, b5⟩ := h5 H enc W sp held n _ y5.1 y5.2 t5 (fun k hk => hw' k (Or.inr (Or.inr (Or.inr (Or.inr (Or.inr (Or.inl hk)))))))
  obtain ⟨x6, k6, e6, b6⟩ := h6 H enc W sp held n _ y6.1 y6.2 t6 (fun k hk => hw' k (Or.inr (Or.inr (Or.inr (Or.inr (Or.inr (Or.inr (Or.inl hk))))))))
  obtain ⟨x7, k7, e7, b7⟩ := h7 H enc W sp held n _ y7.1 y7.2 t7 (fun k hk => hw' k (Or.inr (Or.inr (Or.inr (Or.inr (Or.inr (Or.inr (Or.inr (Or.inl hk)))))))))
  obtain ⟨x8, k8, e8, b8⟩ := h8 H enc W sp held n _ y8.1 y8.2 t8 (fun k hk => hw' k (Or.inr (Or.inr (Or.inr (Or.inr (Or.inr (Or.inr (Or.inr (Or.inr (Or.inl hk))))))))))
  obtain ⟨x9, k9, e9, b9⟩ := h9 H enc W sp held n _ y9.1 y9.2 t9 (fun k hk => hw' k (Or.inr (Or.inr (Or.inr (Or.inr (Or.inr (Or.inr (Or.inr (Or.inr (Or.inr (hk)))))))))))
  refine ⟨g_ (x0, x1, x2, x3, x4, x5, x6, x7, x8, x9), ?_, ?_, ?_⟩
  · show ((Kd.pair d0 (Kd.pair d1 (Kd.pair d2 (Kd.pair d3 (Kd.pair d4 (Kd.pair d5 (Kd.pair d6 (Kd.pair d7 (Kd.pair d8 d9)))))))))).K W (f_ (g_ (x0, x1, x2, x3, x4, x5, x6, x7, x8, x9))) cs
    rw [hfg]
    rw [List.drop_zero] at k0
    have hcl : cs.length = (d0.sz + (d1.sz + (d2.sz + (d3.sz + (d4.sz + (d5.sz + (d6.sz + (d7.sz + (d8.sz + d9.sz))))))))) := hl.trans o0
    have elast : (cs.drop (d0.sz + d1.sz + d2.sz + d3.sz + d4.sz + d5.sz + d6.sz + d7.sz + d8.sz)).take d9.sz = cs.drop (d0.sz + d1.sz + d2.sz + d3.sz + d4.sz + d5.sz + d6.sz + d7.sz + d8.sz) := List.take_of_length_le (by rw [List.length_drop]; omega)
    rw [elast] at k9
    have p0 : cs = (cs).take d0.sz ++ cs.drop (d0.sz) := by
      exact (List.take_append_drop d0.sz cs).symm
    have p1 : cs.drop (d0.sz) = (cs.drop (d0.sz)).take d1.sz ++ cs.drop (d0.sz + d1.sz) := by
      have := (List.take_append_drop d1.sz (cs.drop (d0.sz))).symm
      rwa [List.drop_drop] at this
    have p2 : cs.drop (d0.sz + d1.sz) = (cs.drop (d0.sz + d1.sz)).take d2.sz ++ cs.drop (d0.sz + d1.sz + d2.sz) := by
      have := (List.take_append_drop d2.sz (cs.drop (d0.sz + d1.sz))).symm
      rwa [List.drop_drop] at this
    have p3 : cs.drop (d0.sz + d1.sz + d2.sz) = (cs.drop (d0.sz + d1.sz + d2.sz)).take d3.sz ++ cs.drop (d0.sz + d1.sz + d2.sz + d3.sz) := by
      have := (List.take_append_drop d3.sz (cs.drop (d0.sz + d1.sz + d2.sz))).symm
      rwa [List.drop_drop] at this
    have p4 : cs.drop (d0.sz + d1.sz + d2.sz + d3.sz) = (cs.drop (d0.sz + d1.sz + d2.sz + d3.sz)).take d4.sz ++ cs.drop (d0.sz + d1.sz + d2.sz + d3.sz + d4.sz) := by
      have := (List.take_append_drop d4.sz (cs.drop (d0.sz + d1.sz + d2.sz + d3.sz))).symm
      rwa [List.drop_drop] at this
    have p5 : cs.drop (d0.sz + d1.sz + d2.sz + d3.sz + d4.sz) = (cs.drop (d0.sz + d1.sz + d2.sz + d3.sz + d4.sz)).take d5.sz ++ cs.drop (d0.sz + d1.sz + d2.sz + d3.sz + d4.sz + d5.sz) := by
      have := (List.take_append_drop d5.sz (cs.drop (d0.sz + d1.sz + d2.sz + d3.sz + d4.sz))).symm
      rwa [List.drop_drop] at this
    have p6 : cs.drop (d0.sz + d1.sz + d2.sz + d3.sz + d4.sz + d5.sz) = (cs.drop (d0.sz + d1.sz + d2.sz + d3.sz + d4.sz + d5.sz)).take d6.sz ++ cs.drop (d0.sz + d1.sz + d2.sz + d3.sz + d4.sz + d5.sz + d6.sz) := by
      have := (List.take_append_drop d6.sz (cs.drop (d0.sz + d1.sz + d2.sz + d3.sz + d4.sz + d5.sz))).symm
      rwa [List.drop_drop] at this
    have p7 : cs.drop (d0.sz + d1.sz + d2.sz + d3.sz + d4.sz + d5.sz + d6.sz) = (cs.drop (d0.sz + d1.sz + d2.sz + d3.sz + d4.sz + d5.sz + d6.sz)).take d7.sz ++ cs.drop (d0.sz + d1.sz + d2.sz + d3.sz + d4.sz + d5.sz + d6.sz + d7.sz) := by
      have := (List.take_append_drop d7.sz (cs.drop (d0.sz + d1.sz + d2.sz + d3.sz + d4.sz + d5.sz + d6.sz))).symm
      rwa [List.drop_drop] at this
    have p8 : cs.drop (d0.sz + d1.sz + d2.sz + d3.sz + d4.sz + d5.sz + d6.sz + d7.sz) = (cs.drop (d0.sz + d1.sz + d2.sz + d3.sz + d4.sz + d5.sz + d6.sz + d7.sz)).take d8.sz ++ cs.drop (d0.sz + d1.sz + d2.sz + d3.sz + d4.sz + d5.sz + d6.sz + d7.sz + d8.sz) := by
      have := (List.take_append_drop d8.sz (cs.drop (d0.sz + d1.sz + d2.sz + d3.sz + d4.sz + d5.sz + d6.sz + d7.sz))).symm
      rwa [List.drop_drop] at this
    exact ⟨_, _, p0, k0, ⟨_, _, p1, k1, ⟨_, _, p2, k2, ⟨_, _, p3, k3, ⟨_, _, p4, k4, ⟨_, _, p5, k5, ⟨_, _, p6, k6, ⟨_, _, p7, k7, ⟨_, _, p8, k8, k9⟩⟩⟩⟩⟩⟩⟩⟩⟩
  · show fit0 ((f_ (g_ (x0, x1, x2, x3, x4, x5, x6, x7, x8, x9))).1) ∧ fit1 ((f_ (g_ (x0, x1, x2, x3, x4, x5, x6, x7, x8, x9))).2.1) ∧ fit2 ((f_ (g_ (x0, x1, x2, x3, x4, x5, x6, x7, x8, x9))).2.2.1) ∧ fit3 ((f_ (g_ (x0, x1, x2, x3, x4, x5, x6, x7, x8, x9))).2.2.2.1) ∧ fit4 ((f_ (g_ (x0, x1, x2, x3, x4, x5, x6, x7, x8, x9))).2.2.2.2.1) ∧ fit5 ((f_ (g_ (x0, x1, x2, x3, x4, x5, x6, x7, x8, x9))).2.2.2.2.2.1) ∧ fit6 ((f_ (g_ (x0, x1, x2, x3, x4, x5, x6, x7, x8, x9))).2.2.2.2.2.2.1) ∧ fit7 ((f_ (g_ (x0, x1, x2, x3, x4, x5, x6, x7, x8, x9))).2.2.2.2.2.2.2.1) ∧ fit8 ((f_ (g_ (x0, x1, x2, x3, x4, x5, x6, x7, x8, x9))).2.2.2.2.2.2.2.2.1) ∧ fit9 ((f_ (g_ (x0, x1, x2, x3, x4, x5, x6, x7, x8, x9))).2.2.2.2.2.2.2.2.2)
    rw [hfg]
    exact ⟨e0, e1, e2, e3, e4, e5, e6, e7, e8, e9⟩
  · show bk0 ((f_ (g_ (x0, x1, x2, x3, x4, x5, x6, x7, x8, x9))).1) + bk1 ((f_ (g_ (x0, x1, x2, x3, x4, x5, x6, x7, x8, x9))).2.1) + bk2 ((f_ (g_ (x0, x1, x2, x3, x4, x5, x6, x7, x8, x9))).2.2.1) + bk3 ((f_ (g_ (x0, x1, x2, x3, x4, x5, x6, x7, x8, x9))).2.2.2.1) + bk4 ((f_ (g_ (x0, x1, x2, x3, x4, x5, x6, x7, x8, x9))).2.2.2.2.1) + bk5 ((f_ (g_ (x0, x1, x2, x3, x4, x5, x6, x7, x8, x9))).2.2.2.2.2.1) + bk6 ((f_ (g_ (x0, x1, x2, x3, x4, x5, x6, x7, x8, x9))).2.2.2.2.2.2.1) + bk7 ((f_ (g_ (x0, x1, x2, x3, x4, x5, x6, x7, x8, x9))).2.2.2.2.2.2.2.1) + bk8 ((f_ (g_ (x0, x1, x2, x3, x4, x5, x6, x7, x8, x9))).2.2.2.2.2.2.2.2.1) + bk9 ((f_ (g_ (x0, x1, x2, x3, x4, x5, x6, x7, x8, x9))).2.2.2.2.2.2.2.2.2) + 1 ≤ _
    rw [hfg]
    simp only [Rows.uptoBulk, Rows.uptoBulkAll, List.map_cons, List.map_nil]
    omega
end Go.Proofs.YtogkibhbkapobaaDoor.XO

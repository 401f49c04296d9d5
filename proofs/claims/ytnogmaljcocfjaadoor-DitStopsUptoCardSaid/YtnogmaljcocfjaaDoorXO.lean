/- What an argument's reading says of its cells, kind by kind: the value that the printed functions speak of, that it fits (numbers within their kinds, each string and slice within the form's own reach), and its bulk. No program of its own. -/
import Derived.Test.YtnogmaljcocfjaaDoorRows
import Derived.Test.YtnogmaljcocfjaaDoorWWords
import Derived.ProofKit
import Derived.SizedLaws
import Derived.Deep.Slices
import Derived.ChangeSame
set_option linter.unusedVariables false
set_option linter.unusedSimpArgs false
namespace Go.Proofs.YtnogmaljcocfjaaDoor.XO
open Go.RowKit Go.Proofs.YtnogmaljcocfjaaDoorW.PrintWords

/-- Whatever reads at type t is the cells of some value of kind d. -/
def Opn (P : Program) (t : TypeId) {α : Type} (d : Kd α) (bk : α → Nat) (fit : α → Prop) : Prop :=
  ∀ (H : Type) (enc : TypeId × Value → H) (W : World) (sp : Nat → Bool) (held : Bool) (fuel : Nat) (cs : List Value) (dt : DataW H) (ps : List MemPlace),
    DataW.trod enc P W 0 sp held fuel t cs = some (dt, ps) → (∀ n ∈ dt.weights P t, n ≤ reachBytes) → ∃ x, d.K W x cs ∧ fit x ∧ bk x ≤ Rows.uptoBulk dt

theorem bulk_pos {H : Type} (dt : DataW H) : 1 ≤ Rows.uptoBulk dt := by
  cases dt with
  | lit l => cases l <;> simp [Rows.uptoBulk]
  | nil => simp [Rows.uptoBulk]
  | ptr d => simp [Rows.uptoBulk]
  | slice elems spare => simp [Rows.uptoBulk]
  | agg parts => simp [Rows.uptoBulk]
  | iface t d => simp [Rows.uptoBulk]
  | map entries => simp [Rows.uptoBulk]
  | held h => simp [Rows.uptoBulk]

theorem opn_int {P : Program} {t : TypeId} {k : IntKind} (hu : P.underlying t = some (.int k)) : Opn P t (Kd.int k) (fun _ => 1) (fun x => (Lit.int k x).wf = true) := by
  intro H enc W sp held fuel cs dt ps h hw
  cases fuel with
  | zero => simp [DataW.trod] at h
  | succ fuel =>
    obtain ⟨n, hc, hd, hn⟩ := DataW.trod_int hu h
    exact ⟨n, hc, hn, bulk_pos dt⟩
theorem opn_bool {P : Program} {t : TypeId} (hu : P.underlying t = some .bool) : Opn P t Kd.bool (fun _ => 1) (fun _ => True) := by
  intro H enc W sp held fuel cs dt ps h hw
  obtain ⟨b, hc, hd⟩ := DataW.trod_bool hu h
  exact ⟨b, hc, trivial, bulk_pos dt⟩
theorem opn_string {P : Program} {t : TypeId} (hu : P.underlying t = some .string) : Opn P t Kd.string (fun s => s.size + 1) (fun s => s.size ≤ 140737488351232) := by
  intro H enc W sp held fuel cs dt ps h hw
  obtain ⟨s, hc, hd, hn⟩ := DataW.trod_string hu h
  obtain ⟨rfl, rfl⟩ := Prod.mk.inj hd
  have hl : s.data.toList.length = s.size := data_length s
  refine ⟨s, hc, ?_, ?_⟩
  · have := hw s.data.toList.length (by simp [DataW.weights])
    rw [hl] at this
    exact this
  · simp only [Rows.uptoBulk]
    omega

theorem weights_all {H : Type} {P : Program} {e : TypeId} : ∀ {l : List (DataW H)} {d : DataW H}, d ∈ l → ∀ n ∈ d.weights P e, n ∈ DataW.weightsAll P e l
  | x :: l, d, hd, n, hn => by
    simp only [DataW.weightsAll, List.mem_append]
    rcases List.mem_cons.1 hd with rfl | hd
    · exact Or.inl hn
    · exact Or.inr (weights_all hd n hn)
  | [], _, hd, _, _ => by cases hd

theorem sum_le_all {H : Type} {α : Type} (X : Nat → α) (D : Nat → DataW H) (bk : α → Nat) (n : Nat) : (∀ i, i < n → bk (X i) ≤ Rows.uptoBulk (D i)) → (((List.range n).map X).map bk).sum ≤ Rows.uptoBulkAll ((List.range n).map D) := by
  induction n with
  | zero => intro _; simp [Rows.uptoBulkAll]
  | succ n ih =>
    intro h
    have h1 := ih (fun i hi => h i (by omega))
    have h2 := h n (by omega)
    rw [List.range_succ, List.map_append, List.map_append, List.map_append, List.sum_append]
    have app : ∀ (l r : List (DataW H)), Rows.uptoBulkAll (l ++ r) = Rows.uptoBulkAll l + Rows.uptoBulkAll r := by
      intro l r
      induction l with
      | nil => simp [Rows.uptoBulkAll]
      | cons x l ih => simp only [List.cons_append, Rows.uptoBulkAll, ih]; omega
    rw [app]
    simp only [List.map_cons, List.map_nil, List.sum_cons, List.sum_nil, Rows.uptoBulkAll]
    omega

theorem opn_slice {P : Program} {t e : TypeId} {α : Type} {d : Kd α} {bk : α → Nat} {fit : α → Prop} {B : Nat} (hu : P.underlying t = some (.slice e)) (hc : P.cellsOf e = d.sz) (hB : P.bytesOf e = B) (z0 : α) (hE : Opn P e d bk fit) :
    Opn P t (Kd.slice e d) (fun l => (l.map bk).sum + 1) (fun l => l.length * B ≤ 140737488351232 ∧ l.length ≤ maxLen ∧ ∀ x ∈ l, fit x) := by
  intro H enc W sp held fuel cs dt ps h hw
  rcases Deep.open_slice hu h with ⟨rfl, hx⟩ | ⟨a, len, cap, m, n, D, Pl, rfl, hb, hl, hm, hmm, hx, hel⟩
  · obtain ⟨rfl, rfl⟩ := Prod.mk.inj hx
    exact ⟨[], ⟨none, 0, rfl, Nat.le_refl _, rfl, by simp, fun h0 => absurd h0 (by simp)⟩, ⟨by simp, by simp, by simp⟩, by simp [Rows.uptoBulk]⟩
  · obtain ⟨rfl, rfl⟩ := Prod.mk.inj hx
    have hml : len ≤ m := by rw [hmm]; split <;> omega
    have hel2 : ∀ i, i < len → ∃ x : α, (∃ c, W.cells? 0 (a.add (i * P.cellsOf e)) (P.cellsOf e) = some c ∧ d.K W x c) ∧ fit x ∧ bk x ≤ Rows.uptoBulk (D i) := by
      intro i hi
      obtain ⟨c, h1, h2⟩ := hel i (by omega)
      obtain ⟨x, hx1, hx2, hx3⟩ := hE H enc W sp held n c (D i) (Pl i) h2 (fun k hk => hw k (by
        simp only [DataW.weights, hu, List.mem_cons, List.mem_append]
        exact Or.inr (Or.inl (weights_all (List.mem_map.2 ⟨i, List.mem_range.2 hi, rfl⟩) k hk))))
      exact ⟨x, ⟨c, h1, hx1⟩, hx2, hx3⟩
    have hX : ∃ X : Nat → α, ∀ i, i < len → (∃ c, W.cells? 0 (a.add (i * P.cellsOf e)) (P.cellsOf e) = some c ∧ d.K W (X i) c) ∧ fit (X i) ∧ bk (X i) ≤ Rows.uptoBulk (D i) := by
      refine ⟨fun i => if hi : i < len then Classical.choose (hel2 i hi) else z0, fun i hi => ?_⟩
      simp only [dif_pos hi]
      exact Classical.choose_spec (hel2 i hi)
    obtain ⟨X, hX⟩ := hX
    have hlen : ((List.range len).map X).length = len := by simp
    refine ⟨(List.range len).map X, ⟨some a, cap, by rw [hlen], by rw [hlen]; exact hl, ?_, ?_, ?_⟩, ⟨?_, ?_, ?_⟩, ?_⟩
    · rfl
    · rw [hlen]
      simp only [maxLen] at hm
      omega
    · intro _
      refine ⟨a, rfl, fun j p hj => ?_⟩
      have hjl : j < len := by
        rcases Nat.lt_or_ge j len with h' | h'
        · exact h'
        · rw [List.getElem?_eq_none (by rw [hlen]; exact h')] at hj
          cases hj
      rw [List.getElem?_map, List.getElem?_range hjl] at hj
      simp only [Option.map_some, Option.some.injEq] at hj
      subst hj
      obtain ⟨⟨c, hc1, hc2⟩, _, _⟩ := hX j hjl
      obtain ⟨_, hcl, hcell⟩ := World.cells?_some hc1
      refine ⟨c, by rw [hcl, hc], hc2, fun i u hu' => ?_⟩
      have hic : i < P.cellsOf e := by
        rcases Nat.lt_or_ge i (P.cellsOf e) with h' | h'
        · exact h'
        · rw [List.getElem?_eq_none (by rw [hcl]; exact h')] at hu'
          cases hu'
      have := hcell i hic
      rw [hu'] at this
      rw [← this, ← hc, Addr.add_add]
    · rw [hlen]
      have := hw ((((List.range len).map D).length + ((List.range (m - len)).map fun j => D (len + j)).length) * P.bytesOf e) (by simp [DataW.weights, hu])
      rw [hB] at this
      simp only [List.length_map, List.length_range] at this
      have h2 : len * B ≤ (len + (m - len)) * B := Nat.mul_le_mul_right _ (by omega)
      exact Nat.le_trans h2 this
    · rw [hlen]
      omega
    · intro x hx
      obtain ⟨i, hi, rfl⟩ := List.mem_map.1 hx
      exact (hX i (List.mem_range.1 hi)).2.1
    · have := sum_le_all X D bk len (fun i hi => (hX i hi).2.2)
      simp only [Rows.uptoBulk]
      omega
theorem opn_struct2 {P : Program} {t : TypeId} {f0 f1 : Field} {α β γ : Type} {d0 : Kd α} {d1 : Kd β} {bk0 : α → Nat} {bk1 : β → Nat} {fit0 : α → Prop} {fit1 : β → Prop} (hu : P.underlying t = some (.struct #[f0, f1]))
    (ho : (P.cellsOf t, f0.offset, P.cellsOf f0.type, f1.offset, P.cellsOf f1.type) = (d0.sz + d1.sz, 0, d0.sz, d0.sz, d1.sz)) (h0 : Opn P f0.type d0 bk0 fit0) (h1 : Opn P f1.type d1 bk1 fit1)
    {g_ : α × β → γ} {f_ : γ → α × β} (hfg : ∀ y, f_ (g_ y) = y) (_hgf : ∀ x, g_ (f_ x) = x) : Opn P t (Kd.iso (Kd.pair d0 d1) f_) (fun x => bk0 (f_ x).1 + bk1 (f_ x).2 + 1) (fun x => fit0 (f_ x).1 ∧ fit1 (f_ x).2) := by
  intro H enc W sp held fuel cs dt ps h hw
  simp only [Prod.mk.injEq] at ho
  obtain ⟨o1, o2, o3, o4, o5⟩ := ho
  obtain ⟨y0, y1, n, hx, hl, t0, t1⟩ := Go.ChangeShapes.trod_struct2 hu h
  obtain ⟨rfl, rfl⟩ := Prod.mk.inj hx
  rw [o2, o3] at t0
  rw [o4, o5] at t1
  have hw' : ∀ k, (k ∈ y0.1.weights P f0.type ∨ k ∈ y1.1.weights P f1.type) → k ≤ reachBytes := fun k hk => hw k (by
    simp only [DataW.weights, hu, DataW.weightsEach, List.map_cons, List.map_nil, List.mem_append]
    rcases hk with hk | hk
    · exact Or.inl hk
    · exact Or.inr (Or.inl hk))
  obtain ⟨x0, k0, e0, b0⟩ := h0 H enc W sp held n _ y0.1 y0.2 t0 (fun k hk => hw' k (Or.inl hk))
  obtain ⟨x1, k1, e1, b1⟩ := h1 H enc W sp held n _ y1.1 y1.2 t1 (fun k hk => hw' k (Or.inr hk))
  refine ⟨g_ (x0, x1), ?_, ?_, ?_⟩
  · show (Kd.pair d0 d1).K W (f_ (g_ (x0, x1))) cs
    rw [hfg]
    rw [List.drop_zero] at k0
    have e : (cs.drop d0.sz).take d1.sz = cs.drop d0.sz := List.take_of_length_le (by rw [List.length_drop]; omega)
    rw [e] at k1
    exact ⟨_, _, (List.take_append_drop d0.sz cs).symm, k0, k1⟩
  · show fit0 (f_ (g_ (x0, x1))).1 ∧ fit1 (f_ (g_ (x0, x1))).2
    rw [hfg]
    exact ⟨e0, e1⟩
  · show bk0 (f_ (g_ (x0, x1))).1 + bk1 (f_ (g_ (x0, x1))).2 + 1 ≤ _
    rw [hfg]
    simp only [Rows.uptoBulk, Rows.uptoBulkAll]
    omega
end Go.Proofs.YtnogmaljcocfjaaDoor.XO

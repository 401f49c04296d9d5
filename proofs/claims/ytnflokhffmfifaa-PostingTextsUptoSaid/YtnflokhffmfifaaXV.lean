/- Small words on printed functions: tests decided, one round, wraps that do nothing. No program of its own. -/
import Derived.Test.YtnflokhffmfifaaWMore
set_option linter.unusedVariables false
set_option linter.unusedSimpArgs false
namespace Go.Proofs.Ytnflokhffmfifaa.XV
open Go.RowKit Go.Proofs.YtnflokhffmfifaaW.PrintWords Go.Proofs.YtnflokhffmfifaaW.PrintLast
theorem ev_pos {α : Type} {c : Prop} [Decidable c] {f g : Nat → Option α} {r : α} (hc : c) (h : Ev f r) : Ev (fun k => if c then f k else g k) r := Ev.congr (fun k => if_pos hc) h
theorem ev_neg {α : Type} {c : Prop} [Decidable c] {f g : Nat → Option α} {r : α} (hc : ¬ c) (h : Ev g r) : Ev (fun k => if c then f k else g k) r := Ev.congr (fun k => if_neg hc) h
theorem ev_round {α : Type} {g : Nat → Option α} {r : α} (h : Ev (fun k => g (k + 1)) r) : Ev g r := Ev.step (fun _ => rfl) h
theorem ev_some {α β : Type} {x : α} {f : Nat → α → Option β} {r : β} (h : Ev (fun k => f k x) r) : Ev (fun k => (some x).bind (f k)) r := h
theorem ev_eq {α : Type} {r r' : α} (h : r' = r) : Ev (fun _ => some r') r := h ▸ Ev.now r'
theorem ev_at {α : Type} {g : Nat → Option α} {r : α} (n : Nat) (h : ∀ m, g (m + n) = some r) : Ev g r := ⟨n, fun k hk => by
  obtain ⟨m, rfl⟩ : ∃ m, k = m + n := ⟨k - n, by omega⟩
  exact h m⟩
theorem ev_bindsome {α : Type} {g : Nat → Option α} {r : α} (h : Ev g r) : Ev (fun k => (g k).bind fun t => some t) r := Ev.congr (fun k => by cases g k <;> rfl) h
theorem wrp_id (n : Int) (h0 : -9223372036854775808 ≤ n) (h : n ≤ 9223372036854775807) : wrap64 n = n := by unfold wrap64; omega
theorem bt_byte (s : ByteArray) (i : Int) : bt s i = (bytesOf s).getD i.toNat 0 := by rw [← rd_bytesOf]; rfl
theorem bytesOf_append (a b : ByteArray) : bytesOf (a ++ b) = bytesOf a ++ bytesOf b := by
  unfold bytesOf
  rw [← List.map_append]
  congr 1
theorem bytesOf_extract (s : ByteArray) (i j : Nat) : bytesOf (s.extract i j) = ((bytesOf s).take j).drop i := by
  unfold bytesOf
  rw [← List.map_take, ← List.map_drop]
  congr 1
  have h : (s.extract i j).data.toList = (s.data.extract i j).toList := by simp
  rw [h]
  simp [List.drop_take]
theorem bytesOf_range (s : ByteArray) : ∀ x ∈ bytesOf s, 0 ≤ x ∧ x ≤ 255 := by
  intro x hx
  unfold bytesOf at hx
  obtain ⟨b, _, rfl⟩ := List.mem_map.1 hx
  have := b.toNat_lt
  omega
theorem bytesOf_nums (l : List Int) (h : ∀ x ∈ l, 0 ≤ x ∧ x ≤ 255) : bytesOf (strOfNums l) = l := by
  unfold bytesOf
  rw [strOfNums_data, List.map_map]
  conv => rhs; rw [← List.map_id l]
  apply List.map_congr_left
  intro x hx
  have := h x hx
  simp
  omega
theorem bytesOf_inj {a b : ByteArray} (h : bytesOf a = bytesOf b) : a = b := by
  have h2 : a.data.toList = b.data.toList := by
    unfold bytesOf at h
    have inj : ∀ (l m : List UInt8), (l.map fun b => (b.toNat : Int)) = (m.map fun b => (b.toNat : Int)) → l = m := by
      intro l
      induction l with
      | nil => intro m hm; cases m with
        | nil => rfl
        | cons y m => simp at hm
      | cons x l ih => intro m hm; cases m with
        | nil => simp at hm
        | cons y m =>
          simp only [List.map_cons, List.cons.injEq] at hm
          have h1 : x.toNat = y.toNat := by omega
          rw [UInt8.toNat_inj.1 h1, ih m hm.2]
    exact inj _ _ h
  have h3 : a.data = b.data := Array.toList_inj.1 h2
  cases a; cases b; simp_all
theorem toList_data (a : ByteArray) : a.toList = a.data.toList := by
  exact ByteArray.toList_eq a
theorem toList_eq_iff (a b : ByteArray) : a.toList = b.toList ↔ a = b := by
  rw [toList_data, toList_data]
  constructor
  · intro h
    have h3 : a.data = b.data := Array.toList_inj.1 h
    cases a; cases b; simp_all
  · intro h; rw [h]
end Go.Proofs.Ytnflokhffmfifaa.XV

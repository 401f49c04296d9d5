/- By hand: the law PostingCounts, as the row's proof takes it. -/
import Derived.Test.YtnflokhffmfifaaCountsW
set_option linter.unusedVariables false
namespace Go.Proofs.Ytnflokhffmfifaa.CountW
open Go.RowKit Go.Proofs.Ytnflokhffmfifaa.Blk Go.Proofs.Ytnflokhffmfifaa.Ris Go.Proofs.Ytnflokhffmfifaa.Cur Go.Proofs.Ytnflokhffmfifaa.OfW Go.Proofs.Ytnflokhffmfifaa.HeapPure Go.Proofs.Ytnflokhffmfifaa.HeapW Go.Proofs.YtnflokhffmfifaaW.PrintWords Go.Proofs.YtnflokhffmfifaaW.PrintLast Go.Proofs.YtnflokhffmfifaaW.PrintMore
/-- A list of lists that came in, as headers in a row. -/
theorem heads_of_C {w : World} {A : Option Addr} {l : List (List Int)} (h : Kd.C (Kd.slice 2 (Kd.int .i64)) w A l.length l) : ∃ Es, Heads w A Es ∧ Es.map Hd.l = l := by
  have key : ∀ k : Nat, ∃ d : Hd, k < l.length → d.l = l.getD k [] ∧ Row w d.g d.A d.c d.l ∧ ∃ r o, A = some ⟨r, o, none⟩ ∧ w.cell? ⟨r, o + k, none⟩ = some d.v := fun k => by
    by_cases hk : k < l.length
    · obtain ⟨ad, cs, e, _, hK, hc0⟩ := Kd.C_get h [] (k : Int) (by omega) (by omega)
      rw [Int.toNat_natCast] at hK hc0
      obtain ⟨A', c, rfl, hle, hC⟩ := hK
      obtain ⟨g, hr⟩ := row_of_C hC hle
      have h1 := hc0 0 _ rfl
      rw [show (Kd.slice 2 (Kd.int .i64)).sz = 1 from rfl, Nat.mul_one, Nat.add_zero] at h1
      refine ⟨⟨A', c, g, l.getD k []⟩, fun _ => ⟨rfl, hr, ?_⟩⟩
      obtain ⟨r, o, sp⟩ := ad
      have hsp : sp = none := by
        cases sp with
        | none => rfl
        | some q =>
          obtain ⟨ad, cs, e2, _, hK, hc0⟩ := Kd.C_get h [] 0 (by omega) (by omega)
          obtain rfl := Option.some.inj (e.symm.trans e2)
          obtain ⟨A', c, rfl, hle, hC⟩ := hK
          have h2 := hc0 0 _ rfl
          simp [Addr.add, World.cell?] at h2
          split at h2 <;> simp at h2
      subst hsp
      rw [add_off] at h1
      exact ⟨r, o, e, h1⟩
    · exact ⟨default, fun h => absurd h hk⟩
  refine ⟨(List.range l.length).map fun k => Classical.choose (key k), ⟨fun k hk => ?_, fun d hd => ?_⟩, ?_⟩
  · simp only [List.length_map, List.length_range] at hk
    obtain ⟨_, _, r, o, e, hc⟩ := Classical.choose_spec (key k) hk
    refine ⟨r, o, e, ?_⟩
    rw [hc]
    simp [List.getD_eq_getElem?_getD, hk]
  · obtain ⟨k, hk, rfl⟩ := List.mem_map.1 hd
    exact (Classical.choose_spec (key k) (List.mem_range.1 hk)).2.1
  · rw [List.map_map]
    apply List.ext_getElem (by simp)
    intro k h1 h2
    simp only [List.getElem_map, List.getElem_range, Function.comp]
    rw [(Classical.choose_spec (key k) h2).1]
    simp [List.getD_eq_getElem?_getD, List.getElem?_eq_getElem h2]
end Go.Proofs.Ytnflokhffmfifaa.CountW
namespace Go.Proofs.Ytnflokhffmfifaa.XK
open Go.RowKit Go.Proofs.Ytnflokhffmfifaa.CountW Go.Proofs.Ytnflokhffmfifaa.HeapW Go.Proofs.YtnflokhffmfifaaW.PrintWords Go.Proofs.YtnflokhffmfifaaW.PrintLast Go.Proofs.YtnflokhffmfifaaW.PrintMore
def rosterlaw10_PostingCounts.f (x0 : List (List Int)) (x1 : Int) : Option Bool := if x0.flatten.length ≤ 1048576 ∧ x0.length ≤ 1048576 then some true else none
theorem rosterlaw10_PostingCounts.calls (A0 : Option Addr) (c0 : Nat) (l0 : List (List Int)) (x1 : Int) (r : Bool) (w : World) (hr0 : Kd.C (Kd.slice 2 (Kd.int .i64)) w A0 l0.length l0) (hc0 : l0.length ≤ c0) (h : rosterlaw10_PostingCounts.f l0 x1 = some r) :
    Calls Try.prog 6 #[.slice A0 l0.length c0, .int .i64 x1] w fun e w' => e = .returned (.bool r) ∧ Below w.heap.size w w' := by
  unfold rosterlaw10_PostingCounts.f at h
  split at h
  case isFalse => cases h
  case isTrue hs =>
  obtain rfl := Option.some.inj h
  obtain ⟨Es, hh, rfl⟩ := heads_of_C hr0
  rw [flat_len] at hs
  rw [List.length_map] at hs hc0 ⊢
  cases hE : Es with
  | nil => subst hE; exact counts_walk0 w A0 c0 x1 hh
  | cons d t =>
    rw [← hE]
    exact counts_walk1 w A0 c0 Es.length t.length x1 Es hh rfl (by rw [hE]; rfl) hc0 hs.1 hs.2
end Go.Proofs.Ytnflokhffmfifaa.XK

/- LdifRefolds: the law walked. -/
import Derived.Test.YtfiomfcejmmbgaaFoldC
set_option linter.unusedVariables false
set_option linter.unusedSimpArgs false
namespace Go.Proofs.Ytfiomfcejmmbgaa.LinesW
open Go.RowKit Go.Proofs.Ytfiomfcejmmbgaa.Blk Go.Proofs.Ytfiomfcejmmbgaa.ByteM Go.Proofs.Ytfiomfcejmmbgaa.XL Go.Proofs.Ytfiomfcejmmbgaa.XV Go.Proofs.Ytfiomfcejmmbgaa.LinesP Go.Proofs.YtfiomfcejmmbgaaW.PrintWords Go.Proofs.YtfiomfcejmmbgaaW.PrintLast Go.Proofs.YtfiomfcejmmbgaaW.PrintMore
theorem refoldslaw (s : ByteArray) (wd : Int) (w : World) (hs : s.size ≤ 1048576) (hw : wd ≤ 9223372036854775807) : Calls Try.prog 4 #[.string s, .int .i64 wd] w fun e w' => e = .returned (.bool true) ∧ Below w.heap.size w w' := by
  have HL : Hid (∀ w, Calls Try.prog 9 #[.string s, .int .i64 wd] w (RefQ w (phys s) wd)) := Lib.hid (fun w => refold_as s wd w hs hw)
  have HR : Hid (∀ w, Calls Try.prog 10 #[.string s, .int .i64 wd] w (RefQ w (phys s) wd)) := Lib.hid (fun w => rrefold_as s wd w hs hw)
  generalize phys s = p at *
  obtain ⟨⟨o, er, at_⟩, hr⟩ : ∃ z, z = refR p wd := ⟨_, rfl⟩
  have HZ := Lib.hid hr
  have hoo : (o.toList == o.toList) = true := beq_iff_eq.mpr rfl
  clear hr
  go_enter Try.func4, Try.ntmps4
  go_wp2_with (first
    | (go_at_call 9; (with_reducible refine (HL.out _).mono ?_); rintro e w1 ⟨hb1, he1⟩; rw [← HZ.out] at he1; (obtain rfl := he1); have HB1 := Lib.hid hb1; clear hb1)
    | (go_at_call 10; (with_reducible refine (HR.out _).mono ?_); rintro e w2 ⟨hb2, he2⟩; rw [← HZ.out] at he2; (obtain rfl := he2); have HB2 := Lib.hid (HB1.out.trans (hb2.mono HB1.out.size)); clear hb2)
    | (go_at_call 8; ((with_reducible refine (num_as er _).mono ?_); rintro e _ ⟨rfl, rfl⟩))
    | go_in)
  go_ret
  exact ⟨rfl, HB2.out⟩
end Go.Proofs.Ytfiomfcejmmbgaa.LinesW
namespace Go.Proofs.Ytfiomfcejmmbgaa.XL
open Go.RowKit Go.Proofs.Ytfiomfcejmmbgaa.LinesW Go.Proofs.YtfiomfcejmmbgaaW.PrintWords Go.Proofs.YtfiomfcejmmbgaaW.PrintLast Go.Proofs.YtfiomfcejmmbgaaW.PrintMore
def rosterlaw07_LdifRefolds.f (x0 : ByteArray) (x1 : Int) : Option Bool := if x0.size ≤ 1048576 ∧ x1 ≤ 9223372036854775807 then some true else none
theorem rosterlaw07_LdifRefolds.calls (a0 : ByteArray) (a1 : Int) (r : Bool) (w : World) (h : rosterlaw07_LdifRefolds.f a0 a1 = some r) :
    Calls Try.prog 4 #[.string a0, .int .i64 a1] w fun e w' => e = .returned (.bool r) ∧ Below w.heap.size w w' := by
  unfold rosterlaw07_LdifRefolds.f at h
  split at h
  case isFalse => cases h
  case isTrue hs =>
  obtain rfl := Option.some.inj h
  exact refoldslaw a0 a1 w hs.1 hs.2
end Go.Proofs.Ytfiomfcejmmbgaa.XL

/- url.Escape and url.Unescape in the form that the printed texts call. -/
import Derived.Test.YtjakabacdnfmnaaUrlC
set_option linter.unusedVariables false
namespace Go.Proofs.Ytjakabacdnfmnaa.UrlD
open Go.RowKit Go.Proofs.Ytjakabacdnfmnaa.UrlW Go.Proofs.YtjakabacdnfmnaaW.PrintWords Go.Proofs.YtjakabacdnfmnaaW.PrintLast Go.Proofs.YtjakabacdnfmnaaW.PrintMore
def url_escaped.f (a0 : ByteArray) (a1 : Bool) : Option ByteArray := if a1 = false ∧ 3 * a0.size ≤ 140737488355328 then some (strOfNums (escI (bytesOf a0))) else none
theorem url_escaped.calls (a0 : ByteArray) (a1 : Bool) (r : ByteArray) (w : World) (h : url_escaped.f a0 a1 = some r) :
    Calls Try.prog 29 #[.string a0, .bool a1] w fun e w' => e = .returned (.string r) ∧ Below w.heap.size w w' := by
  unfold url_escaped.f at h
  split at h
  case isFalse => cases h
  case isTrue hs =>
  obtain ⟨rfl, hs⟩ := hs
  obtain rfl := Option.some.inj h
  exact escaped_as a0 w hs
def unR (l : List Int) : ByteArray × Int × Int := match (unx l 0).2 with
  | none => (strOfNums (unx l 0).1, 0, 0)
  | some p => (⟨#[]⟩, 182, (p : Int))
def url_Unescape.f (a0 : ByteArray) : Option (ByteArray × Int × Int) := if a0.size ≤ 140737488355327 then some (unR (bytesOf a0)) else none
theorem url_Unescape.calls (a0 : ByteArray) (r1 : ByteArray) (r2 : Int) (r3 : Int) (w : World) (h : url_Unescape.f a0 = some (r1, r2, r3)) :
    Calls Try.prog 16 #[.string a0] w fun e w' => e = .returned (.tuple #[.string r1, .int .i64 r2, .int .i64 r3]) ∧ Below w.heap.size w w' := by
  unfold url_Unescape.f at h
  split at h
  case isFalse => cases h
  case isTrue hs =>
  have e : unAns (bytesOf a0) = .tuple #[.string r1, .int .i64 r2, .int .i64 r3] := by
    have h2 := Option.some.inj h
    unfold unR at h2
    unfold unAns
    cases hu : (unx (bytesOf a0) 0).2 with
    | none => rw [hu] at h2; simp only [Prod.mk.injEq] at h2; obtain ⟨rfl, rfl, rfl⟩ := h2; rfl
    | some p => rw [hu] at h2; simp only [Prod.mk.injEq] at h2; obtain ⟨rfl, rfl, rfl⟩ := h2; rfl
  rw [← e]
  exact unescape_as a0 w hs
end Go.Proofs.Ytjakabacdnfmnaa.UrlD

/-
  No cell of these rows narrows 'for every input' (looked for: loops, veiled, ifaces, maps, wideKeys, modest, calm, conditions, laid).
  DERIVED. THE GIVEN ROWS OF THIS SEAT. 5 by the template 'for every input the law returns true; each argument reads behind the call as it read before'; 0 by the template 'total and deterministic' (their statements: YtjkhdiphcgpbfaaTotals.lean).
  GIVEN WITH THE SEED: the statements are not yours to turn. If you find one false, say at which input.
  Laid BY PROGRAM, IN A SANDBOX (cutbox-rows.mjs): the forced cells as the released guide's own fill.sh prints them over the translation 8b62a730609e491a… (all of the seat's roots in one cut). By AI agents, Wed Nov 11 2026. No macro, syntax, notation, axiom, sorry.
-/
import Derived.Test.YtjkhdiphcgpbfaaChecked
import GoSem.Claim
import GoSem.ClaimJoined
import GoSem.ClaimMapViews
import Derived.JoinedTies
import Derived.KernelRfl
namespace Go.Proofs.Ytjkhdiphcgpbfaa
/- THE CELL 'sum', in the pinned program and in every row, IS THE sha256 OF THE DUMP (.gsa) THAT YtjkhdiphcgpbfaaProg.lean LOADS. Nothing in Lean hashes anything: it is a label: what it is worth is what the hold of that sum in a sandbox is worth. -/
noncomputable def Try.pinned : Pinned := { name := "ytjkhdiphcgpbfaa", sum := "8b62a730609e491a9fcca6b79f38cfac1b3511ebc98c7ec95cf140f24c25f880", checked := Try.checked }
namespace Rows
def none {H : Type} : Left H := { results := [], args := [] }

/-- 'rosterlaw01.TextFolds': WHATEVER THE INPUT: true; the input reads as it did. -/
def textFoldsSpec : ChangeSpec := { name := "textFolds", fn := fun _ => fun
  | [d] => { results := [.lit (.bool true)], args := [d] }
  | _ => none }
def textFoldsRow : OpenClaim := { program := "ytjkhdiphcgpbfaa", sum := "8b62a730609e491a9fcca6b79f38cfac1b3511ebc98c7ec95cf140f24c25f880", func := "roster/rosterlaw01.TextFolds", spec := "textFolds", apart := false }
def TextFoldsSaid : Prop := textFoldsRow.holds Try.pinned (OpenSpec.ofChange textFoldsSpec)

/-- ITS FALSE NEIGHBOUR: 'it returns false'. Refute it at one input. -/
def textFoldsWrong : ChangeSpec := { name := "textFolds", fn := fun _ => fun
  | [d] => { results := [.lit (.bool false)], args := [d] }
  | _ => none }
def TextFoldsWrongFalsely : Prop := textFoldsRow.holds Try.pinned (OpenSpec.ofChange textFoldsWrong)

/-- 'rosterlaw01.TextNormalForm': WHATEVER THE INPUT: true; the input reads as it did. -/
def textNormalFormSpec : ChangeSpec := { name := "textNormalForm", fn := fun _ => fun
  | [d] => { results := [.lit (.bool true)], args := [d] }
  | _ => none }
def textNormalFormRow : OpenClaim := { program := "ytjkhdiphcgpbfaa", sum := "8b62a730609e491a9fcca6b79f38cfac1b3511ebc98c7ec95cf140f24c25f880", func := "roster/rosterlaw01.TextNormalForm", spec := "textNormalForm", apart := false }
def TextNormalFormSaid : Prop := textNormalFormRow.holds Try.pinned (OpenSpec.ofChange textNormalFormSpec)

/-- ITS FALSE NEIGHBOUR: 'it returns false'. Refute it at one input. -/
def textNormalFormWrong : ChangeSpec := { name := "textNormalForm", fn := fun _ => fun
  | [d] => { results := [.lit (.bool false)], args := [d] }
  | _ => none }
def TextNormalFormWrongFalsely : Prop := textNormalFormRow.holds Try.pinned (OpenSpec.ofChange textNormalFormWrong)

/-- 'rosterlaw01.TextNormalSteps': WHATEVER THE INPUT: true; the input reads as it did. -/
def textNormalStepsSpec : ChangeSpec := { name := "textNormalSteps", fn := fun _ => fun
  | [d1, d2] => { results := [.lit (.bool true)], args := [d1, d2] }
  | _ => none }
def textNormalStepsRow : OpenClaim := { program := "ytjkhdiphcgpbfaa", sum := "8b62a730609e491a9fcca6b79f38cfac1b3511ebc98c7ec95cf140f24c25f880", func := "roster/rosterlaw01.TextNormalSteps", spec := "textNormalSteps", apart := false }
def TextNormalStepsSaid : Prop := textNormalStepsRow.holds Try.pinned (OpenSpec.ofChange textNormalStepsSpec)

/-- ITS FALSE NEIGHBOUR: 'it returns false'. Refute it at one input. -/
def textNormalStepsWrong : ChangeSpec := { name := "textNormalSteps", fn := fun _ => fun
  | [d1, d2] => { results := [.lit (.bool false)], args := [d1, d2] }
  | _ => none }
def TextNormalStepsWrongFalsely : Prop := textNormalStepsRow.holds Try.pinned (OpenSpec.ofChange textNormalStepsWrong)

/-- 'rosterlaw01.TextPoints': WHATEVER THE INPUT: true; the input reads as it did. -/
def textPointsSpec : ChangeSpec := { name := "textPoints", fn := fun _ => fun
  | [d1, d2] => { results := [.lit (.bool true)], args := [d1, d2] }
  | _ => none }
def textPointsRow : OpenClaim := { program := "ytjkhdiphcgpbfaa", sum := "8b62a730609e491a9fcca6b79f38cfac1b3511ebc98c7ec95cf140f24c25f880", func := "roster/rosterlaw01.TextPoints", spec := "textPoints", apart := false }
def TextPointsSaid : Prop := textPointsRow.holds Try.pinned (OpenSpec.ofChange textPointsSpec)

/-- ITS FALSE NEIGHBOUR: 'it returns false'. Refute it at one input. -/
def textPointsWrong : ChangeSpec := { name := "textPoints", fn := fun _ => fun
  | [d1, d2] => { results := [.lit (.bool false)], args := [d1, d2] }
  | _ => none }
def TextPointsWrongFalsely : Prop := textPointsRow.holds Try.pinned (OpenSpec.ofChange textPointsWrong)

/-- 'rosterlaw01.TextJoin': WHATEVER THE INPUT: true; the input reads as it did. -/
def textJoinSpec : ChangeSpec := { name := "textJoin", fn := fun _ => fun
  | [d1, d2] => { results := [.lit (.bool true)], args := [d1, d2] }
  | _ => none }
def textJoinRow : OpenClaim := { program := "ytjkhdiphcgpbfaa", sum := "8b62a730609e491a9fcca6b79f38cfac1b3511ebc98c7ec95cf140f24c25f880", func := "roster/rosterlaw01.TextJoin", spec := "textJoin", apart := false }
def TextJoinSaid : Prop := textJoinRow.holds Try.pinned (OpenSpec.ofChange textJoinSpec)

/-- ITS FALSE NEIGHBOUR: 'it returns false'. Refute it at one input. -/
def textJoinWrong : ChangeSpec := { name := "textJoin", fn := fun _ => fun
  | [d1, d2] => { results := [.lit (.bool false)], args := [d1, d2] }
  | _ => none }
def TextJoinWrongFalsely : Prop := textJoinRow.holds Try.pinned (OpenSpec.ofChange textJoinWrong)

/- THE SECOND FORM. 'bulk': how many values and letters a reading holds, each counted each time it is reached (what is shared counts as often as it is met; a slice's spare places count too). A statement '..UptoSaid' is the law's where the arguments, and the package variables that the reading takes, are together of bulk at most 1048576: NARROWER than '..Said'. Prove '..Said' where nothing that the law and all that it calls make is longer than what came in: it says more and counts as full. Else prove '..UptoSaid'. A law counts once. -/
mutual
def uptoBulk {H : Type} : DataW H → Nat
  | .lit (.string bytes) => bytes.length + 1
  | .lit _ => 1
  | .nil => 1
  | .ptr d => uptoBulk d + 1
  | .slice elems spare => uptoBulkAll elems + uptoBulkAll spare + 1
  | .agg parts => uptoBulkAll parts + 1
  | .iface _ d => uptoBulk d + 1
  | .map entries => uptoBulkEntries entries + 1
  | .held _ => 1
def uptoBulkAll {H : Type} : List (DataW H) → Nat
  | [] => 0
  | d :: r => uptoBulk d + uptoBulkAll r
def uptoBulkEntries {H : Type} : List (Lit × DataW H) → Nat
  | [] => 0
  | x :: r => uptoBulkEntry x + uptoBulkEntries r
def uptoBulkEntry {H : Type} : Lit × DataW H → Nat
  | (.string bytes, d) => bytes.length + uptoBulk d + 1
  | (_, d) => uptoBulk d + 1
 end
def uptoSmall : (H : Type) → List (DataW H) → Bool := fun _ ds => decide (uptoBulkAll ds ≤ 1048576)
def OpenSpec.upto (s : _root_.Go.ChangeSpec) : _root_.Go.OpenSpec := { _root_.Go.OpenSpec.ofChange s with cond := some uptoSmall }

/-- 'rosterlaw01.TextFolds', WHERE WHAT IT READS IS OF BULK AT MOST 1048576: true; the input reads as it did. -/
def textFoldsUptoRow : OpenClaim := { program := "ytjkhdiphcgpbfaa", sum := "8b62a730609e491a9fcca6b79f38cfac1b3511ebc98c7ec95cf140f24c25f880", func := "roster/rosterlaw01.TextFolds", spec := "textFolds", apart := false, narrowed := true }
def TextFoldsUptoSaid : Prop := textFoldsUptoRow.holds Try.pinned (OpenSpec.upto textFoldsSpec)

/-- 'rosterlaw01.TextNormalForm', WHERE WHAT IT READS IS OF BULK AT MOST 1048576: true; the input reads as it did. -/
def textNormalFormUptoRow : OpenClaim := { program := "ytjkhdiphcgpbfaa", sum := "8b62a730609e491a9fcca6b79f38cfac1b3511ebc98c7ec95cf140f24c25f880", func := "roster/rosterlaw01.TextNormalForm", spec := "textNormalForm", apart := false, narrowed := true }
def TextNormalFormUptoSaid : Prop := textNormalFormUptoRow.holds Try.pinned (OpenSpec.upto textNormalFormSpec)

/-- 'rosterlaw01.TextNormalSteps', WHERE WHAT IT READS IS OF BULK AT MOST 1048576: true; the input reads as it did. -/
def textNormalStepsUptoRow : OpenClaim := { program := "ytjkhdiphcgpbfaa", sum := "8b62a730609e491a9fcca6b79f38cfac1b3511ebc98c7ec95cf140f24c25f880", func := "roster/rosterlaw01.TextNormalSteps", spec := "textNormalSteps", apart := false, narrowed := true }
def TextNormalStepsUptoSaid : Prop := textNormalStepsUptoRow.holds Try.pinned (OpenSpec.upto textNormalStepsSpec)

/-- 'rosterlaw01.TextPoints', WHERE WHAT IT READS IS OF BULK AT MOST 1048576: true; the input reads as it did. -/
def textPointsUptoRow : OpenClaim := { program := "ytjkhdiphcgpbfaa", sum := "8b62a730609e491a9fcca6b79f38cfac1b3511ebc98c7ec95cf140f24c25f880", func := "roster/rosterlaw01.TextPoints", spec := "textPoints", apart := false, narrowed := true }
def TextPointsUptoSaid : Prop := textPointsUptoRow.holds Try.pinned (OpenSpec.upto textPointsSpec)

/-- 'rosterlaw01.TextJoin', WHERE WHAT IT READS IS OF BULK AT MOST 1048576: true; the input reads as it did. -/
def textJoinUptoRow : OpenClaim := { program := "ytjkhdiphcgpbfaa", sum := "8b62a730609e491a9fcca6b79f38cfac1b3511ebc98c7ec95cf140f24c25f880", func := "roster/rosterlaw01.TextJoin", spec := "textJoin", apart := false, narrowed := true }
def TextJoinUptoSaid : Prop := textJoinUptoRow.holds Try.pinned (OpenSpec.upto textJoinSpec)

end Rows
end Go.Proofs.Ytjkhdiphcgpbfaa

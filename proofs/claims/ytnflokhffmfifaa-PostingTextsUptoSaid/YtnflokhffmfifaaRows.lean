/-
  No cell of these rows narrows 'for every input' (looked for: loops, veiled, ifaces, maps, wideKeys, modest, calm, conditions, laid).
  DERIVED. THE GIVEN ROWS OF THIS SEAT. 9 by the template 'for every input the law returns true; each argument reads behind the call as it read before'; 0 by the template 'total and deterministic' (their statements: YtnflokhffmfifaaTotals.lean).
  GIVEN WITH THE SEED: the statements are not yours to turn. If you find one false, say at which input.
  Laid BY PROGRAM, IN A SANDBOX (cutbox-rows.mjs): the forced cells as the released guide's own fill.sh prints them over the translation 43f67c5cdc42402d… (all of the seat's roots in one cut). By AI agents, Wed Nov 11 2026. No macro, syntax, notation, axiom, sorry.
-/
import Derived.Test.YtnflokhffmfifaaChecked
import GoSem.Claim
import GoSem.ClaimJoined
import GoSem.ClaimMapViews
import Derived.JoinedTies
import Derived.KernelRfl
namespace Go.Proofs.Ytnflokhffmfifaa
/- THE CELL 'sum', in the pinned program and in every row, IS THE sha256 OF THE DUMP (.gsa) THAT YtnflokhffmfifaaProg.lean LOADS. Nothing in Lean hashes anything: it is a label: what it is worth is what the hold of that sum in a sandbox is worth. -/
noncomputable def Try.pinned : Pinned := { name := "ytnflokhffmfifaa", sum := "43f67c5cdc42402d1df456d5da9d3988498bd1b41652922ee3ab5d2926c17263", checked := Try.checked }
namespace Rows
def none {H : Type} : Left H := { results := [], args := [] }

/-- 'rosterlaw10.PostingCursors': WHATEVER THE INPUT: true; the input reads as it did. -/
def postingCursorsSpec : ChangeSpec := { name := "postingCursors", fn := fun _ => fun
  | [d1, d2] => { results := [.lit (.bool true)], args := [d1, d2] }
  | _ => none }
def postingCursorsRow : OpenClaim := { program := "ytnflokhffmfifaa", sum := "43f67c5cdc42402d1df456d5da9d3988498bd1b41652922ee3ab5d2926c17263", func := "roster/rosterlaw10.PostingCursors", spec := "postingCursors", recurses := true, apart := false }
def PostingCursorsSaid : Prop := postingCursorsRow.holds Try.pinned (OpenSpec.ofChange postingCursorsSpec)

/-- ITS FALSE NEIGHBOUR: 'it returns false'. Refute it at one input. -/
def postingCursorsWrong : ChangeSpec := { name := "postingCursors", fn := fun _ => fun
  | [d1, d2] => { results := [.lit (.bool false)], args := [d1, d2] }
  | _ => none }
def PostingCursorsWrongFalsely : Prop := postingCursorsRow.holds Try.pinned (OpenSpec.ofChange postingCursorsWrong)

/-- 'rosterlaw10.PostingSkips': WHATEVER THE INPUT: true; the input reads as it did. -/
def postingSkipsSpec : ChangeSpec := { name := "postingSkips", fn := fun _ => fun
  | [d1, d2, d3] => { results := [.lit (.bool true)], args := [d1, d2, d3] }
  | _ => none }
def postingSkipsRow : OpenClaim := { program := "ytnflokhffmfifaa", sum := "43f67c5cdc42402d1df456d5da9d3988498bd1b41652922ee3ab5d2926c17263", func := "roster/rosterlaw10.PostingSkips", spec := "postingSkips", recurses := true, apart := false }
def PostingSkipsSaid : Prop := postingSkipsRow.holds Try.pinned (OpenSpec.ofChange postingSkipsSpec)

/-- ITS FALSE NEIGHBOUR: 'it returns false'. Refute it at one input. -/
def postingSkipsWrong : ChangeSpec := { name := "postingSkips", fn := fun _ => fun
  | [d1, d2, d3] => { results := [.lit (.bool false)], args := [d1, d2, d3] }
  | _ => none }
def PostingSkipsWrongFalsely : Prop := postingSkipsRow.holds Try.pinned (OpenSpec.ofChange postingSkipsWrong)

/-- 'rosterlaw10.PostingMerges': WHATEVER THE INPUT: true; the input reads as it did. -/
def postingMergesSpec : ChangeSpec := { name := "postingMerges", fn := fun _ => fun
  | [d1, d2] => { results := [.lit (.bool true)], args := [d1, d2] }
  | _ => none }
def postingMergesRow : OpenClaim := { program := "ytnflokhffmfifaa", sum := "43f67c5cdc42402d1df456d5da9d3988498bd1b41652922ee3ab5d2926c17263", func := "roster/rosterlaw10.PostingMerges", spec := "postingMerges", unfollowed := true, recurses := true, apart := false }
def PostingMergesSaid : Prop := postingMergesRow.holds Try.pinned (OpenSpec.ofChange postingMergesSpec)

/-- ITS FALSE NEIGHBOUR: 'it returns false'. Refute it at one input. -/
def postingMergesWrong : ChangeSpec := { name := "postingMerges", fn := fun _ => fun
  | [d1, d2] => { results := [.lit (.bool false)], args := [d1, d2] }
  | _ => none }
def PostingMergesWrongFalsely : Prop := postingMergesRow.holds Try.pinned (OpenSpec.ofChange postingMergesWrong)

/-- 'rosterlaw10.PostingCounts': WHATEVER THE INPUT: true; the input reads as it did. -/
def postingCountsSpec : ChangeSpec := { name := "postingCounts", fn := fun _ => fun
  | [d1, d2] => { results := [.lit (.bool true)], args := [d1, d2] }
  | _ => none }
def postingCountsRow : OpenClaim := { program := "ytnflokhffmfifaa", sum := "43f67c5cdc42402d1df456d5da9d3988498bd1b41652922ee3ab5d2926c17263", func := "roster/rosterlaw10.PostingCounts", spec := "postingCounts", unfollowed := true, recurses := true, apart := false }
def PostingCountsSaid : Prop := postingCountsRow.holds Try.pinned (OpenSpec.ofChange postingCountsSpec)

/-- ITS FALSE NEIGHBOUR: 'it returns false'. Refute it at one input. -/
def postingCountsWrong : ChangeSpec := { name := "postingCounts", fn := fun _ => fun
  | [d1, d2] => { results := [.lit (.bool false)], args := [d1, d2] }
  | _ => none }
def PostingCountsWrongFalsely : Prop := postingCountsRow.holds Try.pinned (OpenSpec.ofChange postingCountsWrong)

/-- 'rosterlaw10.PostingSets': WHATEVER THE INPUT: true; the input reads as it did. -/
def postingSetsSpec : ChangeSpec := { name := "postingSets", fn := fun _ => fun
  | [d1, d2] => { results := [.lit (.bool true)], args := [d1, d2] }
  | _ => none }
def postingSetsRow : OpenClaim := { program := "ytnflokhffmfifaa", sum := "43f67c5cdc42402d1df456d5da9d3988498bd1b41652922ee3ab5d2926c17263", func := "roster/rosterlaw10.PostingSets", spec := "postingSets", unfollowed := true, recurses := true, apart := false }
def PostingSetsSaid : Prop := postingSetsRow.holds Try.pinned (OpenSpec.ofChange postingSetsSpec)

/-- ITS FALSE NEIGHBOUR: 'it returns false'. Refute it at one input. -/
def postingSetsWrong : ChangeSpec := { name := "postingSets", fn := fun _ => fun
  | [d1, d2] => { results := [.lit (.bool false)], args := [d1, d2] }
  | _ => none }
def PostingSetsWrongFalsely : Prop := postingSetsRow.holds Try.pinned (OpenSpec.ofChange postingSetsWrong)

/-- 'rosterlaw10.PostingTexts': WHATEVER THE INPUT: true; the input reads as it did. -/
def postingTextsSpec : ChangeSpec := { name := "postingTexts", fn := fun _ => fun
  | [d1, d2] => { results := [.lit (.bool true)], args := [d1, d2] }
  | _ => none }
def postingTextsRow : OpenClaim := { program := "ytnflokhffmfifaa", sum := "43f67c5cdc42402d1df456d5da9d3988498bd1b41652922ee3ab5d2926c17263", func := "roster/rosterlaw10.PostingTexts", spec := "postingTexts", unfollowed := true, recurses := true, apart := false }
def PostingTextsSaid : Prop := postingTextsRow.holds Try.pinned (OpenSpec.ofChange postingTextsSpec)

/-- ITS FALSE NEIGHBOUR: 'it returns false'. Refute it at one input. -/
def postingTextsWrong : ChangeSpec := { name := "postingTexts", fn := fun _ => fun
  | [d1, d2] => { results := [.lit (.bool false)], args := [d1, d2] }
  | _ => none }
def PostingTextsWrongFalsely : Prop := postingTextsRow.holds Try.pinned (OpenSpec.ofChange postingTextsWrong)

/-- 'rosterlaw10.PostingKept': WHATEVER THE INPUT: true; the input reads as it did. -/
def postingKeptSpec : ChangeSpec := { name := "postingKept", fn := fun _ => fun
  | [d] => { results := [.lit (.bool true)], args := [d] }
  | _ => none }
def postingKeptRow : OpenClaim := { program := "ytnflokhffmfifaa", sum := "43f67c5cdc42402d1df456d5da9d3988498bd1b41652922ee3ab5d2926c17263", func := "roster/rosterlaw10.PostingKept", spec := "postingKept", unfollowed := true, recurses := true, apart := false }
def PostingKeptSaid : Prop := postingKeptRow.holds Try.pinned (OpenSpec.ofChange postingKeptSpec)

/-- ITS FALSE NEIGHBOUR: 'it returns false'. Refute it at one input. -/
def postingKeptWrong : ChangeSpec := { name := "postingKept", fn := fun _ => fun
  | [d] => { results := [.lit (.bool false)], args := [d] }
  | _ => none }
def PostingKeptWrongFalsely : Prop := postingKeptRow.holds Try.pinned (OpenSpec.ofChange postingKeptWrong)

/-- 'rosterlaw10.PostingMembers': WHATEVER THE INPUT: true; the input reads as it did. -/
def postingMembersSpec : ChangeSpec := { name := "postingMembers", fn := fun _ => fun
  | [d1, d2, d3] => { results := [.lit (.bool true)], args := [d1, d2, d3] }
  | _ => none }
def postingMembersRow : OpenClaim := { program := "ytnflokhffmfifaa", sum := "43f67c5cdc42402d1df456d5da9d3988498bd1b41652922ee3ab5d2926c17263", func := "roster/rosterlaw10.PostingMembers", spec := "postingMembers", unfollowed := true, recurses := true, apart := false }
def PostingMembersSaid : Prop := postingMembersRow.holds Try.pinned (OpenSpec.ofChange postingMembersSpec)

/-- ITS FALSE NEIGHBOUR: 'it returns false'. Refute it at one input. -/
def postingMembersWrong : ChangeSpec := { name := "postingMembers", fn := fun _ => fun
  | [d1, d2, d3] => { results := [.lit (.bool false)], args := [d1, d2, d3] }
  | _ => none }
def PostingMembersWrongFalsely : Prop := postingMembersRow.holds Try.pinned (OpenSpec.ofChange postingMembersWrong)

/-- 'rosterlaw10.PostingAlgebra': WHATEVER THE INPUT: true; the input reads as it did. -/
def postingAlgebraSpec : ChangeSpec := { name := "postingAlgebra", fn := fun _ => fun
  | [d1, d2, d3] => { results := [.lit (.bool true)], args := [d1, d2, d3] }
  | _ => none }
def postingAlgebraRow : OpenClaim := { program := "ytnflokhffmfifaa", sum := "43f67c5cdc42402d1df456d5da9d3988498bd1b41652922ee3ab5d2926c17263", func := "roster/rosterlaw10.PostingAlgebra", spec := "postingAlgebra", unfollowed := true, recurses := true, apart := false }
def PostingAlgebraSaid : Prop := postingAlgebraRow.holds Try.pinned (OpenSpec.ofChange postingAlgebraSpec)

/-- ITS FALSE NEIGHBOUR: 'it returns false'. Refute it at one input. -/
def postingAlgebraWrong : ChangeSpec := { name := "postingAlgebra", fn := fun _ => fun
  | [d1, d2, d3] => { results := [.lit (.bool false)], args := [d1, d2, d3] }
  | _ => none }
def PostingAlgebraWrongFalsely : Prop := postingAlgebraRow.holds Try.pinned (OpenSpec.ofChange postingAlgebraWrong)

/- THE SECOND FORM. 'bulk': how many values and letters a reading holds, each counted each time it is reached (what is shared counts as often as it is met; a slice's spare places count too). A statement '..UptoSaid' is the law's where the arguments, and the package variables that the reading takes, are together of bulk at most 1048576: NARROWER than '..Said'. Prove '..Said' where nothing that the law and all that it calls make is longer than what came in: it says more and counts as full. Else prove '..UptoSaid'. A law counts once. -/
mutual
def uptoBulk {H : Type} : DataW H → Nat
  | .lit (.string bytes) => bytes.length + 1
  | .lit _ => 1
  | .nil => 1
  | .ptr d => uptoBulk d + 1
  | .slice elems spare => uptoBulkAll elems + uptoBulkAll spare + 1
  | .agg parts => uptoBulkAll parts + 1
  | .iface _ d => uptoBulk d + 1
  | .map entries => uptoBulkEntries entries + 1
  | .held _ => 1
def uptoBulkAll {H : Type} : List (DataW H) → Nat
  | [] => 0
  | d :: r => uptoBulk d + uptoBulkAll r
def uptoBulkEntries {H : Type} : List (Lit × DataW H) → Nat
  | [] => 0
  | x :: r => uptoBulkEntry x + uptoBulkEntries r
def uptoBulkEntry {H : Type} : Lit × DataW H → Nat
  | (.string bytes, d) => bytes.length + uptoBulk d + 1
  | (_, d) => uptoBulk d + 1
 end
def uptoSmall : (H : Type) → List (DataW H) → Bool := fun _ ds => decide (uptoBulkAll ds ≤ 1048576)
def OpenSpec.upto (s : _root_.Go.ChangeSpec) : _root_.Go.OpenSpec := { _root_.Go.OpenSpec.ofChange s with cond := some uptoSmall }

/-- 'rosterlaw10.PostingCursors', WHERE WHAT IT READS IS OF BULK AT MOST 1048576: true; the input reads as it did. -/
def postingCursorsUptoRow : OpenClaim := { program := "ytnflokhffmfifaa", sum := "43f67c5cdc42402d1df456d5da9d3988498bd1b41652922ee3ab5d2926c17263", func := "roster/rosterlaw10.PostingCursors", spec := "postingCursors", recurses := true, apart := false, narrowed := true }
def PostingCursorsUptoSaid : Prop := postingCursorsUptoRow.holds Try.pinned (OpenSpec.upto postingCursorsSpec)

/-- 'rosterlaw10.PostingSkips', WHERE WHAT IT READS IS OF BULK AT MOST 1048576: true; the input reads as it did. -/
def postingSkipsUptoRow : OpenClaim := { program := "ytnflokhffmfifaa", sum := "43f67c5cdc42402d1df456d5da9d3988498bd1b41652922ee3ab5d2926c17263", func := "roster/rosterlaw10.PostingSkips", spec := "postingSkips", recurses := true, apart := false, narrowed := true }
def PostingSkipsUptoSaid : Prop := postingSkipsUptoRow.holds Try.pinned (OpenSpec.upto postingSkipsSpec)

/-- 'rosterlaw10.PostingMerges', WHERE WHAT IT READS IS OF BULK AT MOST 1048576: true; the input reads as it did. -/
def postingMergesUptoRow : OpenClaim := { program := "ytnflokhffmfifaa", sum := "43f67c5cdc42402d1df456d5da9d3988498bd1b41652922ee3ab5d2926c17263", func := "roster/rosterlaw10.PostingMerges", spec := "postingMerges", unfollowed := true, recurses := true, apart := false, narrowed := true }
def PostingMergesUptoSaid : Prop := postingMergesUptoRow.holds Try.pinned (OpenSpec.upto postingMergesSpec)

/-- 'rosterlaw10.PostingCounts', WHERE WHAT IT READS IS OF BULK AT MOST 1048576: true; the input reads as it did. -/
def postingCountsUptoRow : OpenClaim := { program := "ytnflokhffmfifaa", sum := "43f67c5cdc42402d1df456d5da9d3988498bd1b41652922ee3ab5d2926c17263", func := "roster/rosterlaw10.PostingCounts", spec := "postingCounts", unfollowed := true, recurses := true, apart := false, narrowed := true }
def PostingCountsUptoSaid : Prop := postingCountsUptoRow.holds Try.pinned (OpenSpec.upto postingCountsSpec)

/-- 'rosterlaw10.PostingSets', WHERE WHAT IT READS IS OF BULK AT MOST 1048576: true; the input reads as it did. -/
def postingSetsUptoRow : OpenClaim := { program := "ytnflokhffmfifaa", sum := "43f67c5cdc42402d1df456d5da9d3988498bd1b41652922ee3ab5d2926c17263", func := "roster/rosterlaw10.PostingSets", spec := "postingSets", unfollowed := true, recurses := true, apart := false, narrowed := true }
def PostingSetsUptoSaid : Prop := postingSetsUptoRow.holds Try.pinned (OpenSpec.upto postingSetsSpec)

/-- 'rosterlaw10.PostingTexts', WHERE WHAT IT READS IS OF BULK AT MOST 1048576: true; the input reads as it did. -/
def postingTextsUptoRow : OpenClaim := { program := "ytnflokhffmfifaa", sum := "43f67c5cdc42402d1df456d5da9d3988498bd1b41652922ee3ab5d2926c17263", func := "roster/rosterlaw10.PostingTexts", spec := "postingTexts", unfollowed := true, recurses := true, apart := false, narrowed := true }
def PostingTextsUptoSaid : Prop := postingTextsUptoRow.holds Try.pinned (OpenSpec.upto postingTextsSpec)

/-- 'rosterlaw10.PostingKept', WHERE WHAT IT READS IS OF BULK AT MOST 1048576: true; the input reads as it did. -/
def postingKeptUptoRow : OpenClaim := { program := "ytnflokhffmfifaa", sum := "43f67c5cdc42402d1df456d5da9d3988498bd1b41652922ee3ab5d2926c17263", func := "roster/rosterlaw10.PostingKept", spec := "postingKept", unfollowed := true, recurses := true, apart := false, narrowed := true }
def PostingKeptUptoSaid : Prop := postingKeptUptoRow.holds Try.pinned (OpenSpec.upto postingKeptSpec)

/-- 'rosterlaw10.PostingMembers', WHERE WHAT IT READS IS OF BULK AT MOST 1048576: true; the input reads as it did. -/
def postingMembersUptoRow : OpenClaim := { program := "ytnflokhffmfifaa", sum := "43f67c5cdc42402d1df456d5da9d3988498bd1b41652922ee3ab5d2926c17263", func := "roster/rosterlaw10.PostingMembers", spec := "postingMembers", unfollowed := true, recurses := true, apart := false, narrowed := true }
def PostingMembersUptoSaid : Prop := postingMembersUptoRow.holds Try.pinned (OpenSpec.upto postingMembersSpec)

/-- 'rosterlaw10.PostingAlgebra', WHERE WHAT IT READS IS OF BULK AT MOST 1048576: true; the input reads as it did. -/
def postingAlgebraUptoRow : OpenClaim := { program := "ytnflokhffmfifaa", sum := "43f67c5cdc42402d1df456d5da9d3988498bd1b41652922ee3ab5d2926c17263", func := "roster/rosterlaw10.PostingAlgebra", spec := "postingAlgebra", unfollowed := true, recurses := true, apart := false, narrowed := true }
def PostingAlgebraUptoSaid : Prop := postingAlgebraUptoRow.holds Try.pinned (OpenSpec.upto postingAlgebraSpec)

end Rows
end Go.Proofs.Ytnflokhffmfifaa

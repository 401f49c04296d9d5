/-
  No cell of these rows narrows 'for every input' (looked for: loops, veiled, ifaces, maps, wideKeys, modest, calm, conditions, laid).
  DERIVED. THE GIVEN ROWS OF THIS SEAT. 5 by the template 'for every input the law returns true; each argument reads behind the call as it read before'; 0 by the template 'total and deterministic' (their statements: YtdkohenilbkmkaaTotals.lean).
  GIVEN WITH THE SEED: the statements are not yours to turn. If you find one false, say at which input.
  Laid BY PROGRAM, IN A SANDBOX (cutbox-rows.mjs): the forced cells as the released guide's own fill.sh prints them over the translation 17817df878fcb8cb… (all of the seat's roots in one cut). By AI agents, Wed Nov 11 2026. No macro, syntax, notation, axiom, sorry.
-/
import Derived.Test.YtdkohenilbkmkaaChecked
import GoSem.Claim
import GoSem.ClaimJoined
import GoSem.ClaimMapViews
import Derived.JoinedTies
import Derived.KernelRfl
namespace Go.Proofs.Ytdkohenilbkmkaa
/- THE CELL 'sum', in the pinned program and in every row, IS THE sha256 OF THE DUMP (.gsa) THAT YtdkohenilbkmkaaProg.lean LOADS. Nothing in Lean hashes anything: it is a label: what it is worth is what the hold of that sum in a sandbox is worth. -/
noncomputable def Try.pinned : Pinned := { name := "ytdkohenilbkmkaa", sum := "17817df878fcb8cb794d24d7dc57e8fa838d30efff9b88ee3a1a3e7c9fb70513", checked := Try.checked }
namespace Rows
def none {H : Type} : Left H := { results := [], args := [] }

/-- 'rosterlaw05.DnUp': WHATEVER THE INPUT: true; the input reads as it did. -/
def dnUpSpec : ChangeSpec := { name := "dnUp", fn := fun _ => fun
  | [d1, d2] => { results := [.lit (.bool true)], args := [d1, d2] }
  | _ => none }
def dnUpRow : OpenClaim := { program := "ytdkohenilbkmkaa", sum := "17817df878fcb8cb794d24d7dc57e8fa838d30efff9b88ee3a1a3e7c9fb70513", func := "roster/rosterlaw05.DnUp", spec := "dnUp", unfollowed := true, recurses := true, apart := false }
def DnUpSaid : Prop := dnUpRow.holds Try.pinned (OpenSpec.ofChange dnUpSpec)

/-- ITS FALSE NEIGHBOUR: 'it returns false'. Refute it at one input. -/
def dnUpWrong : ChangeSpec := { name := "dnUp", fn := fun _ => fun
  | [d1, d2] => { results := [.lit (.bool false)], args := [d1, d2] }
  | _ => none }
def DnUpWrongFalsely : Prop := dnUpRow.holds Try.pinned (OpenSpec.ofChange dnUpWrong)

/-- 'rosterlaw05.DnWithin': WHATEVER THE INPUT: true; the input reads as it did. -/
def dnWithinSpec : ChangeSpec := { name := "dnWithin", fn := fun _ => fun
  | [d1, d2] => { results := [.lit (.bool true)], args := [d1, d2] }
  | _ => none }
def dnWithinRow : OpenClaim := { program := "ytdkohenilbkmkaa", sum := "17817df878fcb8cb794d24d7dc57e8fa838d30efff9b88ee3a1a3e7c9fb70513", func := "roster/rosterlaw05.DnWithin", spec := "dnWithin", apart := false }
def DnWithinSaid : Prop := dnWithinRow.holds Try.pinned (OpenSpec.ofChange dnWithinSpec)

/-- ITS FALSE NEIGHBOUR: 'it returns false'. Refute it at one input. -/
def dnWithinWrong : ChangeSpec := { name := "dnWithin", fn := fun _ => fun
  | [d1, d2] => { results := [.lit (.bool false)], args := [d1, d2] }
  | _ => none }
def DnWithinWrongFalsely : Prop := dnWithinRow.holds Try.pinned (OpenSpec.ofChange dnWithinWrong)

/-- 'rosterlaw05.DnCompare': WHATEVER THE INPUT: true; the input reads as it did. -/
def dnCompareSpec : ChangeSpec := { name := "dnCompare", fn := fun _ => fun
  | [d1, d2] => { results := [.lit (.bool true)], args := [d1, d2] }
  | _ => none }
def dnCompareRow : OpenClaim := { program := "ytdkohenilbkmkaa", sum := "17817df878fcb8cb794d24d7dc57e8fa838d30efff9b88ee3a1a3e7c9fb70513", func := "roster/rosterlaw05.DnCompare", spec := "dnCompare", apart := false }
def DnCompareSaid : Prop := dnCompareRow.holds Try.pinned (OpenSpec.ofChange dnCompareSpec)

/-- ITS FALSE NEIGHBOUR: 'it returns false'. Refute it at one input. -/
def dnCompareWrong : ChangeSpec := { name := "dnCompare", fn := fun _ => fun
  | [d1, d2] => { results := [.lit (.bool false)], args := [d1, d2] }
  | _ => none }
def DnCompareWrongFalsely : Prop := dnCompareRow.holds Try.pinned (OpenSpec.ofChange dnCompareWrong)

/-- 'rosterlaw05.DnOrder': WHATEVER THE INPUT: true; the input reads as it did. -/
def dnOrderSpec : ChangeSpec := { name := "dnOrder", fn := fun _ => fun
  | [d1, d2, d3] => { results := [.lit (.bool true)], args := [d1, d2, d3] }
  | _ => none }
def dnOrderRow : OpenClaim := { program := "ytdkohenilbkmkaa", sum := "17817df878fcb8cb794d24d7dc57e8fa838d30efff9b88ee3a1a3e7c9fb70513", func := "roster/rosterlaw05.DnOrder", spec := "dnOrder", apart := false }
def DnOrderSaid : Prop := dnOrderRow.holds Try.pinned (OpenSpec.ofChange dnOrderSpec)

/-- ITS FALSE NEIGHBOUR: 'it returns false'. Refute it at one input. -/
def dnOrderWrong : ChangeSpec := { name := "dnOrder", fn := fun _ => fun
  | [d1, d2, d3] => { results := [.lit (.bool false)], args := [d1, d2, d3] }
  | _ => none }
def DnOrderWrongFalsely : Prop := dnOrderRow.holds Try.pinned (OpenSpec.ofChange dnOrderWrong)

/-- 'rosterlaw05.DnTogether': WHATEVER THE INPUT: true; the input reads as it did. -/
def dnTogetherSpec : ChangeSpec := { name := "dnTogether", fn := fun _ => fun
  | [d1, d2, d3, d4] => { results := [.lit (.bool true)], args := [d1, d2, d3, d4] }
  | _ => none }
def dnTogetherRow : OpenClaim := { program := "ytdkohenilbkmkaa", sum := "17817df878fcb8cb794d24d7dc57e8fa838d30efff9b88ee3a1a3e7c9fb70513", func := "roster/rosterlaw05.DnTogether", spec := "dnTogether", apart := false }
def DnTogetherSaid : Prop := dnTogetherRow.holds Try.pinned (OpenSpec.ofChange dnTogetherSpec)

/-- ITS FALSE NEIGHBOUR: 'it returns false'. Refute it at one input. -/
def dnTogetherWrong : ChangeSpec := { name := "dnTogether", fn := fun _ => fun
  | [d1, d2, d3, d4] => { results := [.lit (.bool false)], args := [d1, d2, d3, d4] }
  | _ => none }
def DnTogetherWrongFalsely : Prop := dnTogetherRow.holds Try.pinned (OpenSpec.ofChange dnTogetherWrong)

/- THE SECOND FORM. 'bulk': how many values and letters a reading holds, each counted each time it is reached (what is shared counts as often as it is met; a slice's spare places count too). A statement '..UptoSaid' is the law's where the arguments, and the package variables that the reading takes, are together of bulk at most 1048576: NARROWER than '..Said'. Prove '..Said' where nothing that the law and all that it calls make is longer than what came in: it says more and counts as full. Else prove '..UptoSaid'. A law counts once. -/
mutual
def uptoBulk {H : Type} : DataW H → Nat
  | .lit (.string bytes) => bytes.length + 1
  | .lit _ => 1
  | .nil => 1
  | .ptr d => uptoBulk d + 1
  | .slice elems spare => uptoBulkAll elems + uptoBulkAll spare + 1
  | .agg parts => uptoBulkAll parts + 1
  | .iface _ d => uptoBulk d + 1
  | .map entries => uptoBulkEntries entries + 1
  | .held _ => 1
def uptoBulkAll {H : Type} : List (DataW H) → Nat
  | [] => 0
  | d :: r => uptoBulk d + uptoBulkAll r
def uptoBulkEntries {H : Type} : List (Lit × DataW H) → Nat
  | [] => 0
  | x :: r => uptoBulkEntry x + uptoBulkEntries r
def uptoBulkEntry {H : Type} : Lit × DataW H → Nat
  | (.string bytes, d) => bytes.length + uptoBulk d + 1
  | (_, d) => uptoBulk d + 1
 end
def uptoSmall : (H : Type) → List (DataW H) → Bool := fun _ ds => decide (uptoBulkAll ds ≤ 1048576)
def OpenSpec.upto (s : _root_.Go.ChangeSpec) : _root_.Go.OpenSpec := { _root_.Go.OpenSpec.ofChange s with cond := some uptoSmall }

/-- 'rosterlaw05.DnUp', WHERE WHAT IT READS IS OF BULK AT MOST 1048576: true; the input reads as it did. -/
def dnUpUptoRow : OpenClaim := { program := "ytdkohenilbkmkaa", sum := "17817df878fcb8cb794d24d7dc57e8fa838d30efff9b88ee3a1a3e7c9fb70513", func := "roster/rosterlaw05.DnUp", spec := "dnUp", unfollowed := true, recurses := true, apart := false, narrowed := true }
def DnUpUptoSaid : Prop := dnUpUptoRow.holds Try.pinned (OpenSpec.upto dnUpSpec)

/-- 'rosterlaw05.DnWithin', WHERE WHAT IT READS IS OF BULK AT MOST 1048576: true; the input reads as it did. -/
def dnWithinUptoRow : OpenClaim := { program := "ytdkohenilbkmkaa", sum := "17817df878fcb8cb794d24d7dc57e8fa838d30efff9b88ee3a1a3e7c9fb70513", func := "roster/rosterlaw05.DnWithin", spec := "dnWithin", apart := false, narrowed := true }
def DnWithinUptoSaid : Prop := dnWithinUptoRow.holds Try.pinned (OpenSpec.upto dnWithinSpec)

/-- 'rosterlaw05.DnCompare', WHERE WHAT IT READS IS OF BULK AT MOST 1048576: true; the input reads as it did. -/
def dnCompareUptoRow : OpenClaim := { program := "ytdkohenilbkmkaa", sum := "17817df878fcb8cb794d24d7dc57e8fa838d30efff9b88ee3a1a3e7c9fb70513", func := "roster/rosterlaw05.DnCompare", spec := "dnCompare", apart := false, narrowed := true }
def DnCompareUptoSaid : Prop := dnCompareUptoRow.holds Try.pinned (OpenSpec.upto dnCompareSpec)

/-- 'rosterlaw05.DnOrder', WHERE WHAT IT READS IS OF BULK AT MOST 1048576: true; the input reads as it did. -/
def dnOrderUptoRow : OpenClaim := { program := "ytdkohenilbkmkaa", sum := "17817df878fcb8cb794d24d7dc57e8fa838d30efff9b88ee3a1a3e7c9fb70513", func := "roster/rosterlaw05.DnOrder", spec := "dnOrder", apart := false, narrowed := true }
def DnOrderUptoSaid : Prop := dnOrderUptoRow.holds Try.pinned (OpenSpec.upto dnOrderSpec)

/-- 'rosterlaw05.DnTogether', WHERE WHAT IT READS IS OF BULK AT MOST 1048576: true; the input reads as it did. -/
def dnTogetherUptoRow : OpenClaim := { program := "ytdkohenilbkmkaa", sum := "17817df878fcb8cb794d24d7dc57e8fa838d30efff9b88ee3a1a3e7c9fb70513", func := "roster/rosterlaw05.DnTogether", spec := "dnTogether", apart := false, narrowed := true }
def DnTogetherUptoSaid : Prop := dnTogetherUptoRow.holds Try.pinned (OpenSpec.upto dnTogetherSpec)

end Rows
end Go.Proofs.Ytdkohenilbkmkaa

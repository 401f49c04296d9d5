/-
  No cell of these rows narrows 'for every input' (looked for: loops, veiled, ifaces, maps, wideKeys, modest, calm, conditions, laid).
  DERIVED. THE GIVEN ROWS OF THIS SEAT. 5 by the template 'for every input the law returns true; each argument reads behind the call as it read before'; 0 by the template 'total and deterministic' (their statements: YtjakabacdnfmnaaTotals.lean).
  GIVEN WITH THE SEED: the statements are not yours to turn. If you find one false, say at which input.
  Laid BY PROGRAM, IN A SANDBOX (cutbox-rows.mjs): the forced cells as the released guide's own fill.sh prints them over the translation 35d335f3eae06fd3… (all of the seat's roots in one cut). By AI agents, Wed Nov 11 2026. No macro, syntax, notation, axiom, sorry.
-/
import Derived.Test.YtjakabacdnfmnaaChecked
import GoSem.Claim
import GoSem.ClaimJoined
import GoSem.ClaimMapViews
import Derived.JoinedTies
import Derived.KernelRfl
namespace Go.Proofs.Ytjakabacdnfmnaa
/- THE CELL 'sum', in the pinned program and in every row, IS THE sha256 OF THE DUMP (.gsa) THAT YtjakabacdnfmnaaProg.lean LOADS. Nothing in Lean hashes anything: it is a label: what it is worth is what the hold of that sum in a sandbox is worth. -/
noncomputable def Try.pinned : Pinned := { name := "ytjakabacdnfmnaa", sum := "35d335f3eae06fd3e270838d11260ad3aa7680ab0a10c39d6a48543626fa586f", checked := Try.checked }
namespace Rows
def none {H : Type} : Left H := { results := [], args := [] }

/-- 'rosterlaw04.AttrPrints': WHATEVER THE INPUT: true; the input reads as it did. -/
def attrPrintsSpec : ChangeSpec := { name := "attrPrints", fn := fun _ => fun
  | [d1, d2] => { results := [.lit (.bool true)], args := [d1, d2] }
  | _ => none }
def attrPrintsRow : OpenClaim := { program := "ytjakabacdnfmnaa", sum := "35d335f3eae06fd3e270838d11260ad3aa7680ab0a10c39d6a48543626fa586f", func := "roster/rosterlaw04.AttrPrints", spec := "attrPrints", inPlace := ["internal/abi.NoEscape"], apart := false }
def AttrPrintsSaid : Prop := attrPrintsRow.holds Try.pinned (OpenSpec.ofChange attrPrintsSpec)

/-- ITS FALSE NEIGHBOUR: 'it returns false'. Refute it at one input. -/
def attrPrintsWrong : ChangeSpec := { name := "attrPrints", fn := fun _ => fun
  | [d1, d2] => { results := [.lit (.bool false)], args := [d1, d2] }
  | _ => none }
def AttrPrintsWrongFalsely : Prop := attrPrintsRow.holds Try.pinned (OpenSpec.ofChange attrPrintsWrong)

/-- 'rostertop.Names': WHATEVER THE INPUT: true; the input reads as it did. -/
def namesSpec : ChangeSpec := { name := "names", fn := fun _ => fun
  | [] => { results := [.lit (.bool true)], args := [] }
  | _ => none }
def namesRow : OpenClaim := { program := "ytjakabacdnfmnaa", sum := "35d335f3eae06fd3e270838d11260ad3aa7680ab0a10c39d6a48543626fa586f", func := "roster/rostertop.Names", spec := "names", apart := false }
def NamesSaid : Prop := namesRow.holds Try.pinned (OpenSpec.ofChange namesSpec)

/-- ITS FALSE NEIGHBOUR: 'it returns false'. Refute it at one input. -/
def namesWrong : ChangeSpec := { name := "names", fn := fun _ => fun
  | [] => { results := [.lit (.bool false)], args := [] }
  | _ => none }
def NamesWrongFalsely : Prop := namesRow.holds Try.pinned (OpenSpec.ofChange namesWrong)

/-- 'rosterlaw18.UrlEscape': WHATEVER THE INPUT: true; the input reads as it did. -/
def urlEscapeSpec : ChangeSpec := { name := "urlEscape", fn := fun _ => fun
  | [d1, d2] => { results := [.lit (.bool true)], args := [d1, d2] }
  | _ => none }
def urlEscapeRow : OpenClaim := { program := "ytjakabacdnfmnaa", sum := "35d335f3eae06fd3e270838d11260ad3aa7680ab0a10c39d6a48543626fa586f", func := "roster/rosterlaw18.UrlEscape", spec := "urlEscape", inPlace := ["internal/bytealg.IndexByteString", "internal/abi.NoEscape"], apart := false }
def UrlEscapeSaid : Prop := urlEscapeRow.holds Try.pinned (OpenSpec.ofChange urlEscapeSpec)

/-- ITS FALSE NEIGHBOUR: 'it returns false'. Refute it at one input. -/
def urlEscapeWrong : ChangeSpec := { name := "urlEscape", fn := fun _ => fun
  | [d1, d2] => { results := [.lit (.bool false)], args := [d1, d2] }
  | _ => none }
def UrlEscapeWrongFalsely : Prop := urlEscapeRow.holds Try.pinned (OpenSpec.ofChange urlEscapeWrong)

/-- 'rosterlaw18.UrlQuiet': WHATEVER THE INPUT: true; the input reads as it did. -/
def urlQuietSpec : ChangeSpec := { name := "urlQuiet", fn := fun _ => fun
  | [d] => { results := [.lit (.bool true)], args := [d] }
  | _ => none }
def urlQuietRow : OpenClaim := { program := "ytjakabacdnfmnaa", sum := "35d335f3eae06fd3e270838d11260ad3aa7680ab0a10c39d6a48543626fa586f", func := "roster/rosterlaw18.UrlQuiet", spec := "urlQuiet", inPlace := ["internal/bytealg.IndexByteString", "internal/abi.NoEscape"], apart := false }
def UrlQuietSaid : Prop := urlQuietRow.holds Try.pinned (OpenSpec.ofChange urlQuietSpec)

/-- ITS FALSE NEIGHBOUR: 'it returns false'. Refute it at one input. -/
def urlQuietWrong : ChangeSpec := { name := "urlQuiet", fn := fun _ => fun
  | [d] => { results := [.lit (.bool false)], args := [d] }
  | _ => none }
def UrlQuietWrongFalsely : Prop := urlQuietRow.holds Try.pinned (OpenSpec.ofChange urlQuietWrong)

/-- 'rosterlaw06.MatchFits': WHATEVER THE INPUT: true; the input reads as it did. -/
def matchFitsSpec : ChangeSpec := { name := "matchFits", fn := fun _ => fun
  | [d1, d2] => { results := [.lit (.bool true)], args := [d1, d2] }
  | _ => none }
def matchFitsRow : OpenClaim := { program := "ytjakabacdnfmnaa", sum := "35d335f3eae06fd3e270838d11260ad3aa7680ab0a10c39d6a48543626fa586f", func := "roster/rosterlaw06.MatchFits", spec := "matchFits", inPlace := ["internal/bytealg.IndexByteString", "internal/bytealg.IndexString"], named := ["internal/bytealg.MaxLen"], apart := false }
def MatchFitsSaid : Prop := matchFitsRow.holds Try.pinned (OpenSpec.ofChange matchFitsSpec)

/-- ITS FALSE NEIGHBOUR: 'it returns false'. Refute it at one input. -/
def matchFitsWrong : ChangeSpec := { name := "matchFits", fn := fun _ => fun
  | [d1, d2] => { results := [.lit (.bool false)], args := [d1, d2] }
  | _ => none }
def MatchFitsWrongFalsely : Prop := matchFitsRow.holds Try.pinned (OpenSpec.ofChange matchFitsWrong)

/- THE SECOND FORM. 'bulk': how many values and letters a reading holds, each counted each time it is reached (what is shared counts as often as it is met; a slice's spare places count too). A statement '..UptoSaid' is the law's where the arguments, and the package variables that the reading takes, are together of bulk at most 1048576: NARROWER than '..Said'. Prove '..Said' where nothing that the law and all that it calls make is longer than what came in: it says more and counts as full. Else prove '..UptoSaid'. A law counts once. -/
mutual
def uptoBulk {H : Type} : DataW H → Nat
  | .lit (.string bytes) => bytes.length + 1
  | .lit _ => 1
  | .nil => 1
  | .ptr d => uptoBulk d + 1
  | .slice elems spare => uptoBulkAll elems + uptoBulkAll spare + 1
  | .agg parts => uptoBulkAll parts + 1
  | .iface _ d => uptoBulk d + 1
  | .map entries => uptoBulkEntries entries + 1
  | .held _ => 1
def uptoBulkAll {H : Type} : List (DataW H) → Nat
  | [] => 0
  | d :: r => uptoBulk d + uptoBulkAll r
def uptoBulkEntries {H : Type} : List (Lit × DataW H) → Nat
  | [] => 0
  | x :: r => uptoBulkEntry x + uptoBulkEntries r
def uptoBulkEntry {H : Type} : Lit × DataW H → Nat
  | (.string bytes, d) => bytes.length + uptoBulk d + 1
  | (_, d) => uptoBulk d + 1
 end
def uptoSmall : (H : Type) → List (DataW H) → Bool := fun _ ds => decide (uptoBulkAll ds ≤ 1048576)
def OpenSpec.upto (s : _root_.Go.ChangeSpec) : _root_.Go.OpenSpec := { _root_.Go.OpenSpec.ofChange s with cond := some uptoSmall }

/-- 'rosterlaw04.AttrPrints', WHERE WHAT IT READS IS OF BULK AT MOST 1048576: true; the input reads as it did. -/
def attrPrintsUptoRow : OpenClaim := { program := "ytjakabacdnfmnaa", sum := "35d335f3eae06fd3e270838d11260ad3aa7680ab0a10c39d6a48543626fa586f", func := "roster/rosterlaw04.AttrPrints", spec := "attrPrints", inPlace := ["internal/abi.NoEscape"], apart := false, narrowed := true }
def AttrPrintsUptoSaid : Prop := attrPrintsUptoRow.holds Try.pinned (OpenSpec.upto attrPrintsSpec)

/-- 'rostertop.Names', WHERE WHAT IT READS IS OF BULK AT MOST 1048576: true; the input reads as it did. -/
def namesUptoRow : OpenClaim := { program := "ytjakabacdnfmnaa", sum := "35d335f3eae06fd3e270838d11260ad3aa7680ab0a10c39d6a48543626fa586f", func := "roster/rostertop.Names", spec := "names", apart := false, narrowed := true }
def NamesUptoSaid : Prop := namesUptoRow.holds Try.pinned (OpenSpec.upto namesSpec)

/-- 'rosterlaw18.UrlEscape', WHERE WHAT IT READS IS OF BULK AT MOST 1048576: true; the input reads as it did. -/
def urlEscapeUptoRow : OpenClaim := { program := "ytjakabacdnfmnaa", sum := "35d335f3eae06fd3e270838d11260ad3aa7680ab0a10c39d6a48543626fa586f", func := "roster/rosterlaw18.UrlEscape", spec := "urlEscape", inPlace := ["internal/bytealg.IndexByteString", "internal/abi.NoEscape"], apart := false, narrowed := true }
def UrlEscapeUptoSaid : Prop := urlEscapeUptoRow.holds Try.pinned (OpenSpec.upto urlEscapeSpec)

/-- 'rosterlaw18.UrlQuiet', WHERE WHAT IT READS IS OF BULK AT MOST 1048576: true; the input reads as it did. -/
def urlQuietUptoRow : OpenClaim := { program := "ytjakabacdnfmnaa", sum := "35d335f3eae06fd3e270838d11260ad3aa7680ab0a10c39d6a48543626fa586f", func := "roster/rosterlaw18.UrlQuiet", spec := "urlQuiet", inPlace := ["internal/bytealg.IndexByteString", "internal/abi.NoEscape"], apart := false, narrowed := true }
def UrlQuietUptoSaid : Prop := urlQuietUptoRow.holds Try.pinned (OpenSpec.upto urlQuietSpec)

/-- 'rosterlaw06.MatchFits', WHERE WHAT IT READS IS OF BULK AT MOST 1048576: true; the input reads as it did. -/
def matchFitsUptoRow : OpenClaim := { program := "ytjakabacdnfmnaa", sum := "35d335f3eae06fd3e270838d11260ad3aa7680ab0a10c39d6a48543626fa586f", func := "roster/rosterlaw06.MatchFits", spec := "matchFits", inPlace := ["internal/bytealg.IndexByteString", "internal/bytealg.IndexString"], named := ["internal/bytealg.MaxLen"], apart := false, narrowed := true }
def MatchFitsUptoSaid : Prop := matchFitsUptoRow.holds Try.pinned (OpenSpec.upto matchFitsSpec)

end Rows
end Go.Proofs.Ytjakabacdnfmnaa

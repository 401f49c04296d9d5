/-
  NARROWER THAN 'FOR EVERY INPUT', by the rows' own cells (each row's printed sentence says how): TextWritten: laid · TextHexes: laid · TextHexRound: laid · TextHexOnly: laid · TextChecks: laid.
  DERIVED. THE GIVEN ROWS OF THIS SEAT. 5 by the template 'for every input the law returns true; each argument reads behind the call as it read before'; 0 by the template 'total and deterministic' (their statements: YtjkhdiphcgpbfaaDoorTotals.lean).
  GIVEN WITH THE SEED: the statements are not yours to turn. If you find one false, say at which input.
  Laid BY PROGRAM, IN A SANDBOX (cutbox-rows.mjs): the forced cells as the released guide's own fill.sh prints them over the translation 610292bc1f4b274c… (all of the seat's roots in one cut). By AI agents, Wed Nov 11 2026. No macro, syntax, notation, axiom, sorry.
-/
import Derived.Test.YtjkhdiphcgpbfaaDoorChecked
import GoSem.Claim
import GoSem.ClaimJoined
import GoSem.ClaimMapViews
import Derived.JoinedTies
import Derived.KernelRfl
namespace Go.Proofs.YtjkhdiphcgpbfaaDoor
/- THE CELL 'sum', in the pinned program and in every row, IS THE sha256 OF THE DUMP (.gsa) THAT YtjkhdiphcgpbfaaDoorProg.lean LOADS. Nothing in Lean hashes anything: it is a label: what it is worth is what the hold of that sum in a sandbox is worth. -/
noncomputable def Tryd.pinned : Pinned := { name := "ytjkhdiphcgpbfaadoor", sum := "610292bc1f4b274ce31903343a984e72873eee335e10c2fac57a387d3bf2c36f", checked := Tryd.checked }
namespace Rows
def none {H : Type} : Left H := { results := [], args := [] }

/- WHAT THE LISTED PACKAGE-LEVEL VARIABLES READ AS WHEN THE CALL BEGINS. Each datum BY PROGRAM (the guide's laid-datum.mjs) off the statement by which the dump's own 'gosem.cut.vars' lays the variable. In a bare row this is a premise. The card (YtjkhdiphcgpbfaaDoorCards.lean) ties it to the program's text. -/
def laid_roster_text_hexDigits {H : Type} : DataW H := .agg [.lit (.int .u8 48), .lit (.int .u8 49), .lit (.int .u8 50), .lit (.int .u8 51), .lit (.int .u8 52), .lit (.int .u8 53), .lit (.int .u8 54), .lit (.int .u8 55), .lit (.int .u8 56), .lit (.int .u8 57), .lit (.int .u8 97), .lit (.int .u8 98), .lit (.int .u8 99), .lit (.int .u8 100), .lit (.int .u8 101), .lit (.int .u8 102)]
def laid_roster_text_letters64 {H : Type} : DataW H := .agg [.lit (.int .u8 65), .lit (.int .u8 66), .lit (.int .u8 67), .lit (.int .u8 68), .lit (.int .u8 69), .lit (.int .u8 70), .lit (.int .u8 71), .lit (.int .u8 72), .lit (.int .u8 73), .lit (.int .u8 74), .lit (.int .u8 75), .lit (.int .u8 76), .lit (.int .u8 77), .lit (.int .u8 78), .lit (.int .u8 79), .lit (.int .u8 80), .lit (.int .u8 81), .lit (.int .u8 82), .lit (.int .u8 83), .lit (.int .u8 84), .lit (.int .u8 85), .lit (.int .u8 86), .lit (.int .u8 87), .lit (.int .u8 88), .lit (.int .u8 89), .lit (.int .u8 90), .lit (.int .u8 97), .lit (.int .u8 98), .lit (.int .u8 99), .lit (.int .u8 100), .lit (.int .u8 101), .lit (.int .u8 102), .lit (.int .u8 103), .lit (.int .u8 104), .lit (.int .u8 105), .lit (.int .u8 106), .lit (.int .u8 107), .lit (.int .u8 108), .lit (.int .u8 109), .lit (.int .u8 110), .lit (.int .u8 111), .lit (.int .u8 112), .lit (.int .u8 113), .lit (.int .u8 114), .lit (.int .u8 115), .lit (.int .u8 116), .lit (.int .u8 117), .lit (.int .u8 118), .lit (.int .u8 119), .lit (.int .u8 120), .lit (.int .u8 121), .lit (.int .u8 122), .lit (.int .u8 48), .lit (.int .u8 49), .lit (.int .u8 50), .lit (.int .u8 51), .lit (.int .u8 52), .lit (.int .u8 53), .lit (.int .u8 54), .lit (.int .u8 55), .lit (.int .u8 56), .lit (.int .u8 57), .lit (.int .u8 43), .lit (.int .u8 47)]
def laid_roster_rosterref01_rows {H : Type} : DataW H := .agg [.agg [.lit (.int .i64 1), .lit (.int .i64 0), .lit (.int .i64 127), .lit (.int .i64 0), .lit (.int .i64 0), .lit (.int .i64 0), .lit (.int .i64 0), .lit (.int .i64 0), .lit (.int .i64 0)], .agg [.lit (.int .i64 2), .lit (.int .i64 194), .lit (.int .i64 223), .lit (.int .i64 128), .lit (.int .i64 191), .lit (.int .i64 0), .lit (.int .i64 0), .lit (.int .i64 0), .lit (.int .i64 0)], .agg [.lit (.int .i64 3), .lit (.int .i64 224), .lit (.int .i64 224), .lit (.int .i64 160), .lit (.int .i64 191), .lit (.int .i64 128), .lit (.int .i64 191), .lit (.int .i64 0), .lit (.int .i64 0)], .agg [.lit (.int .i64 3), .lit (.int .i64 225), .lit (.int .i64 236), .lit (.int .i64 128), .lit (.int .i64 191), .lit (.int .i64 128), .lit (.int .i64 191), .lit (.int .i64 0), .lit (.int .i64 0)], .agg [.lit (.int .i64 3), .lit (.int .i64 237), .lit (.int .i64 237), .lit (.int .i64 128), .lit (.int .i64 159), .lit (.int .i64 128), .lit (.int .i64 191), .lit (.int .i64 0), .lit (.int .i64 0)], .agg [.lit (.int .i64 3), .lit (.int .i64 238), .lit (.int .i64 239), .lit (.int .i64 128), .lit (.int .i64 191), .lit (.int .i64 128), .lit (.int .i64 191), .lit (.int .i64 0), .lit (.int .i64 0)], .agg [.lit (.int .i64 4), .lit (.int .i64 240), .lit (.int .i64 240), .lit (.int .i64 144), .lit (.int .i64 191), .lit (.int .i64 128), .lit (.int .i64 191), .lit (.int .i64 128), .lit (.int .i64 191)], .agg [.lit (.int .i64 4), .lit (.int .i64 241), .lit (.int .i64 243), .lit (.int .i64 128), .lit (.int .i64 191), .lit (.int .i64 128), .lit (.int .i64 191), .lit (.int .i64 128), .lit (.int .i64 191)], .agg [.lit (.int .i64 4), .lit (.int .i64 244), .lit (.int .i64 244), .lit (.int .i64 128), .lit (.int .i64 143), .lit (.int .i64 128), .lit (.int .i64 191), .lit (.int .i64 128), .lit (.int .i64 191)]]

/-- 'rosterlaw01.TextWritten': WHATEVER THE INPUT: true; the input reads as it did. -/
def textWrittenSpec : ChangeSpec := { name := "textWritten", fn := fun _ => fun
  | [d1, d2, d3] => { results := [.lit (.bool true)], args := [d1, d2, d3] }
  | _ => none }
def textWrittenRow : OpenClaim := { program := "ytjkhdiphcgpbfaadoor", sum := "610292bc1f4b274ce31903343a984e72873eee335e10c2fac57a387d3bf2c36f", func := "roster/rosterlaw01.TextWritten", spec := "textWritten", named := ["roster/text.letters64", "roster/text.hexDigits"], apart := false, laid := [("roster/text.hexDigits", laid_roster_text_hexDigits), ("roster/text.letters64", laid_roster_text_letters64)] }
def TextWrittenSaid : Prop := textWrittenRow.holds Tryd.pinned (OpenSpec.ofChange textWrittenSpec)

/-- ITS FALSE NEIGHBOUR: 'it returns false'. Refute it at one input. -/
def textWrittenWrong : ChangeSpec := { name := "textWritten", fn := fun _ => fun
  | [d1, d2, d3] => { results := [.lit (.bool false)], args := [d1, d2, d3] }
  | _ => none }
def TextWrittenWrongFalsely : Prop := textWrittenRow.holds Tryd.pinned (OpenSpec.ofChange textWrittenWrong)

/-- 'rosterlaw01.TextHexes': WHATEVER THE INPUT: true; the input reads as it did. -/
def textHexesSpec : ChangeSpec := { name := "textHexes", fn := fun _ => fun
  | [d] => { results := [.lit (.bool true)], args := [d] }
  | _ => none }
def textHexesRow : OpenClaim := { program := "ytjkhdiphcgpbfaadoor", sum := "610292bc1f4b274ce31903343a984e72873eee335e10c2fac57a387d3bf2c36f", func := "roster/rosterlaw01.TextHexes", spec := "textHexes", named := ["roster/text.hexDigits"], apart := false, laid := [("roster/text.hexDigits", laid_roster_text_hexDigits)] }
def TextHexesSaid : Prop := textHexesRow.holds Tryd.pinned (OpenSpec.ofChange textHexesSpec)

/-- ITS FALSE NEIGHBOUR: 'it returns false'. Refute it at one input. -/
def textHexesWrong : ChangeSpec := { name := "textHexes", fn := fun _ => fun
  | [d] => { results := [.lit (.bool false)], args := [d] }
  | _ => none }
def TextHexesWrongFalsely : Prop := textHexesRow.holds Tryd.pinned (OpenSpec.ofChange textHexesWrong)

/-- 'rosterlaw01.TextHexRound': WHATEVER THE INPUT: true; the input reads as it did. -/
def textHexRoundSpec : ChangeSpec := { name := "textHexRound", fn := fun _ => fun
  | [d1, d2] => { results := [.lit (.bool true)], args := [d1, d2] }
  | _ => none }
def textHexRoundRow : OpenClaim := { program := "ytjkhdiphcgpbfaadoor", sum := "610292bc1f4b274ce31903343a984e72873eee335e10c2fac57a387d3bf2c36f", func := "roster/rosterlaw01.TextHexRound", spec := "textHexRound", named := ["roster/text.hexDigits"], apart := false, laid := [("roster/text.hexDigits", laid_roster_text_hexDigits)] }
def TextHexRoundSaid : Prop := textHexRoundRow.holds Tryd.pinned (OpenSpec.ofChange textHexRoundSpec)

/-- ITS FALSE NEIGHBOUR: 'it returns false'. Refute it at one input. -/
def textHexRoundWrong : ChangeSpec := { name := "textHexRound", fn := fun _ => fun
  | [d1, d2] => { results := [.lit (.bool false)], args := [d1, d2] }
  | _ => none }
def TextHexRoundWrongFalsely : Prop := textHexRoundRow.holds Tryd.pinned (OpenSpec.ofChange textHexRoundWrong)

/-- 'rosterlaw01.TextHexOnly': WHATEVER THE INPUT: true; the input reads as it did. -/
def textHexOnlySpec : ChangeSpec := { name := "textHexOnly", fn := fun _ => fun
  | [d1, d2] => { results := [.lit (.bool true)], args := [d1, d2] }
  | _ => none }
def textHexOnlyRow : OpenClaim := { program := "ytjkhdiphcgpbfaadoor", sum := "610292bc1f4b274ce31903343a984e72873eee335e10c2fac57a387d3bf2c36f", func := "roster/rosterlaw01.TextHexOnly", spec := "textHexOnly", named := ["roster/text.hexDigits"], apart := false, laid := [("roster/text.hexDigits", laid_roster_text_hexDigits)] }
def TextHexOnlySaid : Prop := textHexOnlyRow.holds Tryd.pinned (OpenSpec.ofChange textHexOnlySpec)

/-- ITS FALSE NEIGHBOUR: 'it returns false'. Refute it at one input. -/
def textHexOnlyWrong : ChangeSpec := { name := "textHexOnly", fn := fun _ => fun
  | [d1, d2] => { results := [.lit (.bool false)], args := [d1, d2] }
  | _ => none }
def TextHexOnlyWrongFalsely : Prop := textHexOnlyRow.holds Tryd.pinned (OpenSpec.ofChange textHexOnlyWrong)

/-- 'rosterlaw01.TextChecks': WHATEVER THE INPUT: true; the input reads as it did. -/
def textChecksSpec : ChangeSpec := { name := "textChecks", fn := fun _ => fun
  | [d] => { results := [.lit (.bool true)], args := [d] }
  | _ => none }
def textChecksRow : OpenClaim := { program := "ytjkhdiphcgpbfaadoor", sum := "610292bc1f4b274ce31903343a984e72873eee335e10c2fac57a387d3bf2c36f", func := "roster/rosterlaw01.TextChecks", spec := "textChecks", named := ["roster/rosterref01.rows"], apart := false, laid := [("roster/rosterref01.rows", laid_roster_rosterref01_rows)] }
def TextChecksSaid : Prop := textChecksRow.holds Tryd.pinned (OpenSpec.ofChange textChecksSpec)

/-- ITS FALSE NEIGHBOUR: 'it returns false'. Refute it at one input. -/
def textChecksWrong : ChangeSpec := { name := "textChecks", fn := fun _ => fun
  | [d] => { results := [.lit (.bool false)], args := [d] }
  | _ => none }
def TextChecksWrongFalsely : Prop := textChecksRow.holds Tryd.pinned (OpenSpec.ofChange textChecksWrong)

/- THE SECOND FORM. 'bulk': how many values and letters a reading holds, each counted each time it is reached (what is shared counts as often as it is met; a slice's spare places count too). A statement '..UptoSaid' is the law's where the arguments, and the package variables that the reading takes, are together of bulk at most 1048576: NARROWER than '..Said'. Prove '..Said' where nothing that the law and all that it calls make is longer than what came in: it says more and counts as full. Else prove '..UptoSaid'. A law counts once. -/
mutual
def uptoBulk {H : Type} : DataW H → Nat
  | .lit (.string bytes) => bytes.length + 1
  | .lit _ => 1
  | .nil => 1
  | .ptr d => uptoBulk d + 1
  | .slice elems spare => uptoBulkAll elems + uptoBulkAll spare + 1
  | .agg parts => uptoBulkAll parts + 1
  | .iface _ d => uptoBulk d + 1
  | .map entries => uptoBulkEntries entries + 1
  | .held _ => 1
def uptoBulkAll {H : Type} : List (DataW H) → Nat
  | [] => 0
  | d :: r => uptoBulk d + uptoBulkAll r
def uptoBulkEntries {H : Type} : List (Lit × DataW H) → Nat
  | [] => 0
  | x :: r => uptoBulkEntry x + uptoBulkEntries r
def uptoBulkEntry {H : Type} : Lit × DataW H → Nat
  | (.string bytes, d) => bytes.length + uptoBulk d + 1
  | (_, d) => uptoBulk d + 1
 end
def uptoSmall : (H : Type) → List (DataW H) → Bool := fun _ ds => decide (uptoBulkAll ds ≤ 1048576)
def OpenSpec.upto (s : _root_.Go.ChangeSpec) : _root_.Go.OpenSpec := { _root_.Go.OpenSpec.ofChange s with cond := some uptoSmall }

/-- 'rosterlaw01.TextWritten', WHERE WHAT IT READS IS OF BULK AT MOST 1048576: true; the input reads as it did. -/
def textWrittenUptoRow : OpenClaim := { program := "ytjkhdiphcgpbfaadoor", sum := "610292bc1f4b274ce31903343a984e72873eee335e10c2fac57a387d3bf2c36f", func := "roster/rosterlaw01.TextWritten", spec := "textWritten", named := ["roster/text.letters64", "roster/text.hexDigits"], apart := false, laid := [("roster/text.hexDigits", laid_roster_text_hexDigits), ("roster/text.letters64", laid_roster_text_letters64)], narrowed := true }
def TextWrittenUptoSaid : Prop := textWrittenUptoRow.holds Tryd.pinned (OpenSpec.upto textWrittenSpec)

/-- 'rosterlaw01.TextHexes', WHERE WHAT IT READS IS OF BULK AT MOST 1048576: true; the input reads as it did. -/
def textHexesUptoRow : OpenClaim := { program := "ytjkhdiphcgpbfaadoor", sum := "610292bc1f4b274ce31903343a984e72873eee335e10c2fac57a387d3bf2c36f", func := "roster/rosterlaw01.TextHexes", spec := "textHexes", named := ["roster/text.hexDigits"], apart := false, laid := [("roster/text.hexDigits", laid_roster_text_hexDigits)], narrowed := true }
def TextHexesUptoSaid : Prop := textHexesUptoRow.holds Tryd.pinned (OpenSpec.upto textHexesSpec)

/-- 'rosterlaw01.TextHexRound', WHERE WHAT IT READS IS OF BULK AT MOST 1048576: true; the input reads as it did. -/
def textHexRoundUptoRow : OpenClaim := { program := "ytjkhdiphcgpbfaadoor", sum := "610292bc1f4b274ce31903343a984e72873eee335e10c2fac57a387d3bf2c36f", func := "roster/rosterlaw01.TextHexRound", spec := "textHexRound", named := ["roster/text.hexDigits"], apart := false, laid := [("roster/text.hexDigits", laid_roster_text_hexDigits)], narrowed := true }
def TextHexRoundUptoSaid : Prop := textHexRoundUptoRow.holds Tryd.pinned (OpenSpec.upto textHexRoundSpec)

/-- 'rosterlaw01.TextHexOnly', WHERE WHAT IT READS IS OF BULK AT MOST 1048576: true; the input reads as it did. -/
def textHexOnlyUptoRow : OpenClaim := { program := "ytjkhdiphcgpbfaadoor", sum := "610292bc1f4b274ce31903343a984e72873eee335e10c2fac57a387d3bf2c36f", func := "roster/rosterlaw01.TextHexOnly", spec := "textHexOnly", named := ["roster/text.hexDigits"], apart := false, laid := [("roster/text.hexDigits", laid_roster_text_hexDigits)], narrowed := true }
def TextHexOnlyUptoSaid : Prop := textHexOnlyUptoRow.holds Tryd.pinned (OpenSpec.upto textHexOnlySpec)

/-- 'rosterlaw01.TextChecks', WHERE WHAT IT READS IS OF BULK AT MOST 1048576: true; the input reads as it did. -/
def textChecksUptoRow : OpenClaim := { program := "ytjkhdiphcgpbfaadoor", sum := "610292bc1f4b274ce31903343a984e72873eee335e10c2fac57a387d3bf2c36f", func := "roster/rosterlaw01.TextChecks", spec := "textChecks", named := ["roster/rosterref01.rows"], apart := false, laid := [("roster/rosterref01.rows", laid_roster_rosterref01_rows)], narrowed := true }
def TextChecksUptoSaid : Prop := textChecksUptoRow.holds Tryd.pinned (OpenSpec.upto textChecksSpec)

end Rows
end Go.Proofs.YtjkhdiphcgpbfaaDoor

/-
  NARROWER THAN 'FOR EVERY INPUT', by the rows' own cells (each row's printed sentence says how): TextBases: laid · TextBaseRound: laid · TextBaseOnly: laid · TextAll: laid.
  DERIVED. THE GIVEN ROWS OF THIS SEAT. 4 by the template 'for every input the law returns true; each argument reads behind the call as it read before'; 0 by the template 'total and deterministic' (their statements: YtppnhlkfkedlmaaDoorTotals.lean).
  GIVEN WITH THE SEED: the statements are not yours to turn. If you find one false, say at which input.
  Laid BY PROGRAM, IN A SANDBOX (cutbox-rows.mjs): the forced cells as the released guide's own fill.sh prints them over the translation 6f2899a1f61d3ae9… (all of the seat's roots in one cut). By AI agents, Wed Nov 11 2026. No macro, syntax, notation, axiom, sorry.
-/
import Derived.Test.YtppnhlkfkedlmaaDoorChecked
import GoSem.Claim
import GoSem.ClaimJoined
import GoSem.ClaimMapViews
import Derived.JoinedTies
import Derived.KernelRfl
namespace Go.Proofs.YtppnhlkfkedlmaaDoor
/- THE CELL 'sum', in the pinned program and in every row, IS THE sha256 OF THE DUMP (.gsa) THAT YtppnhlkfkedlmaaDoorProg.lean LOADS. Nothing in Lean hashes anything: it is a label: what it is worth is what the hold of that sum in a sandbox is worth. -/
noncomputable def Tryd.pinned : Pinned := { name := "ytppnhlkfkedlmaadoor", sum := "6f2899a1f61d3ae98fce92c3c26847ae5e3fd38e453a3dac7d5973c59706ae7e", checked := Tryd.checked }
namespace Rows
def none {H : Type} : Left H := { results := [], args := [] }

/- WHAT THE LISTED PACKAGE-LEVEL VARIABLES READ AS WHEN THE CALL BEGINS. Each datum BY PROGRAM (the guide's laid-datum.mjs) off the statement by which the dump's own 'gosem.cut.vars' lays the variable. In a bare row this is a premise. The card (YtppnhlkfkedlmaaDoorCards.lean) ties it to the program's text. -/
def laid_roster_text_letters64 {H : Type} : DataW H := .agg [.lit (.int .u8 65), .lit (.int .u8 66), .lit (.int .u8 67), .lit (.int .u8 68), .lit (.int .u8 69), .lit (.int .u8 70), .lit (.int .u8 71), .lit (.int .u8 72), .lit (.int .u8 73), .lit (.int .u8 74), .lit (.int .u8 75), .lit (.int .u8 76), .lit (.int .u8 77), .lit (.int .u8 78), .lit (.int .u8 79), .lit (.int .u8 80), .lit (.int .u8 81), .lit (.int .u8 82), .lit (.int .u8 83), .lit (.int .u8 84), .lit (.int .u8 85), .lit (.int .u8 86), .lit (.int .u8 87), .lit (.int .u8 88), .lit (.int .u8 89), .lit (.int .u8 90), .lit (.int .u8 97), .lit (.int .u8 98), .lit (.int .u8 99), .lit (.int .u8 100), .lit (.int .u8 101), .lit (.int .u8 102), .lit (.int .u8 103), .lit (.int .u8 104), .lit (.int .u8 105), .lit (.int .u8 106), .lit (.int .u8 107), .lit (.int .u8 108), .lit (.int .u8 109), .lit (.int .u8 110), .lit (.int .u8 111), .lit (.int .u8 112), .lit (.int .u8 113), .lit (.int .u8 114), .lit (.int .u8 115), .lit (.int .u8 116), .lit (.int .u8 117), .lit (.int .u8 118), .lit (.int .u8 119), .lit (.int .u8 120), .lit (.int .u8 121), .lit (.int .u8 122), .lit (.int .u8 48), .lit (.int .u8 49), .lit (.int .u8 50), .lit (.int .u8 51), .lit (.int .u8 52), .lit (.int .u8 53), .lit (.int .u8 54), .lit (.int .u8 55), .lit (.int .u8 56), .lit (.int .u8 57), .lit (.int .u8 43), .lit (.int .u8 47)]
def laid_roster_rosterref01_rows {H : Type} : DataW H := .agg [.agg [.lit (.int .i64 1), .lit (.int .i64 0), .lit (.int .i64 127), .lit (.int .i64 0), .lit (.int .i64 0), .lit (.int .i64 0), .lit (.int .i64 0), .lit (.int .i64 0), .lit (.int .i64 0)], .agg [.lit (.int .i64 2), .lit (.int .i64 194), .lit (.int .i64 223), .lit (.int .i64 128), .lit (.int .i64 191), .lit (.int .i64 0), .lit (.int .i64 0), .lit (.int .i64 0), .lit (.int .i64 0)], .agg [.lit (.int .i64 3), .lit (.int .i64 224), .lit (.int .i64 224), .lit (.int .i64 160), .lit (.int .i64 191), .lit (.int .i64 128), .lit (.int .i64 191), .lit (.int .i64 0), .lit (.int .i64 0)], .agg [.lit (.int .i64 3), .lit (.int .i64 225), .lit (.int .i64 236), .lit (.int .i64 128), .lit (.int .i64 191), .lit (.int .i64 128), .lit (.int .i64 191), .lit (.int .i64 0), .lit (.int .i64 0)], .agg [.lit (.int .i64 3), .lit (.int .i64 237), .lit (.int .i64 237), .lit (.int .i64 128), .lit (.int .i64 159), .lit (.int .i64 128), .lit (.int .i64 191), .lit (.int .i64 0), .lit (.int .i64 0)], .agg [.lit (.int .i64 3), .lit (.int .i64 238), .lit (.int .i64 239), .lit (.int .i64 128), .lit (.int .i64 191), .lit (.int .i64 128), .lit (.int .i64 191), .lit (.int .i64 0), .lit (.int .i64 0)], .agg [.lit (.int .i64 4), .lit (.int .i64 240), .lit (.int .i64 240), .lit (.int .i64 144), .lit (.int .i64 191), .lit (.int .i64 128), .lit (.int .i64 191), .lit (.int .i64 128), .lit (.int .i64 191)], .agg [.lit (.int .i64 4), .lit (.int .i64 241), .lit (.int .i64 243), .lit (.int .i64 128), .lit (.int .i64 191), .lit (.int .i64 128), .lit (.int .i64 191), .lit (.int .i64 128), .lit (.int .i64 191)], .agg [.lit (.int .i64 4), .lit (.int .i64 244), .lit (.int .i64 244), .lit (.int .i64 128), .lit (.int .i64 143), .lit (.int .i64 128), .lit (.int .i64 191), .lit (.int .i64 128), .lit (.int .i64 191)]]
def laid_roster_text_hexDigits {H : Type} : DataW H := .agg [.lit (.int .u8 48), .lit (.int .u8 49), .lit (.int .u8 50), .lit (.int .u8 51), .lit (.int .u8 52), .lit (.int .u8 53), .lit (.int .u8 54), .lit (.int .u8 55), .lit (.int .u8 56), .lit (.int .u8 57), .lit (.int .u8 97), .lit (.int .u8 98), .lit (.int .u8 99), .lit (.int .u8 100), .lit (.int .u8 101), .lit (.int .u8 102)]

/-- 'rosterlaw01.TextBases': WHATEVER THE INPUT: true; the input reads as it did. -/
def textBasesSpec : ChangeSpec := { name := "textBases", fn := fun _ => fun
  | [d] => { results := [.lit (.bool true)], args := [d] }
  | _ => none }
def textBasesRow : OpenClaim := { program := "ytppnhlkfkedlmaadoor", sum := "6f2899a1f61d3ae98fce92c3c26847ae5e3fd38e453a3dac7d5973c59706ae7e", func := "roster/rosterlaw01.TextBases", spec := "textBases", named := ["roster/text.letters64"], apart := false, laid := [("roster/text.letters64", laid_roster_text_letters64)] }
def TextBasesSaid : Prop := textBasesRow.holds Tryd.pinned (OpenSpec.ofChange textBasesSpec)

/-- ITS FALSE NEIGHBOUR: 'it returns false'. Refute it at one input. -/
def textBasesWrong : ChangeSpec := { name := "textBases", fn := fun _ => fun
  | [d] => { results := [.lit (.bool false)], args := [d] }
  | _ => none }
def TextBasesWrongFalsely : Prop := textBasesRow.holds Tryd.pinned (OpenSpec.ofChange textBasesWrong)

/-- 'rosterlaw01.TextBaseRound': WHATEVER THE INPUT: true; the input reads as it did. -/
def textBaseRoundSpec : ChangeSpec := { name := "textBaseRound", fn := fun _ => fun
  | [d1, d2, d3] => { results := [.lit (.bool true)], args := [d1, d2, d3] }
  | _ => none }
def textBaseRoundRow : OpenClaim := { program := "ytppnhlkfkedlmaadoor", sum := "6f2899a1f61d3ae98fce92c3c26847ae5e3fd38e453a3dac7d5973c59706ae7e", func := "roster/rosterlaw01.TextBaseRound", spec := "textBaseRound", named := ["roster/text.letters64"], apart := false, laid := [("roster/text.letters64", laid_roster_text_letters64)] }
def TextBaseRoundSaid : Prop := textBaseRoundRow.holds Tryd.pinned (OpenSpec.ofChange textBaseRoundSpec)

/-- ITS FALSE NEIGHBOUR: 'it returns false'. Refute it at one input. -/
def textBaseRoundWrong : ChangeSpec := { name := "textBaseRound", fn := fun _ => fun
  | [d1, d2, d3] => { results := [.lit (.bool false)], args := [d1, d2, d3] }
  | _ => none }
def TextBaseRoundWrongFalsely : Prop := textBaseRoundRow.holds Tryd.pinned (OpenSpec.ofChange textBaseRoundWrong)

/-- 'rosterlaw01.TextBaseOnly': WHATEVER THE INPUT: true; the input reads as it did. -/
def textBaseOnlySpec : ChangeSpec := { name := "textBaseOnly", fn := fun _ => fun
  | [d] => { results := [.lit (.bool true)], args := [d] }
  | _ => none }
def textBaseOnlyRow : OpenClaim := { program := "ytppnhlkfkedlmaadoor", sum := "6f2899a1f61d3ae98fce92c3c26847ae5e3fd38e453a3dac7d5973c59706ae7e", func := "roster/rosterlaw01.TextBaseOnly", spec := "textBaseOnly", named := ["roster/text.letters64"], apart := false, laid := [("roster/text.letters64", laid_roster_text_letters64)] }
def TextBaseOnlySaid : Prop := textBaseOnlyRow.holds Tryd.pinned (OpenSpec.ofChange textBaseOnlySpec)

/-- ITS FALSE NEIGHBOUR: 'it returns false'. Refute it at one input. -/
def textBaseOnlyWrong : ChangeSpec := { name := "textBaseOnly", fn := fun _ => fun
  | [d] => { results := [.lit (.bool false)], args := [d] }
  | _ => none }
def TextBaseOnlyWrongFalsely : Prop := textBaseOnlyRow.holds Tryd.pinned (OpenSpec.ofChange textBaseOnlyWrong)

/-- 'rosterlaw01.TextAll': WHATEVER THE INPUT: true; the input reads as it did. -/
def textAllSpec : ChangeSpec := { name := "textAll", fn := fun _ => fun
  | [d] => { results := [.lit (.bool true)], args := [d] }
  | _ => none }
def textAllRow : OpenClaim := { program := "ytppnhlkfkedlmaadoor", sum := "6f2899a1f61d3ae98fce92c3c26847ae5e3fd38e453a3dac7d5973c59706ae7e", func := "roster/rosterlaw01.TextAll", spec := "textAll", named := ["roster/rosterref01.rows", "roster/text.hexDigits", "roster/text.letters64"], apart := false, laid := [("roster/rosterref01.rows", laid_roster_rosterref01_rows), ("roster/text.hexDigits", laid_roster_text_hexDigits), ("roster/text.letters64", laid_roster_text_letters64)] }
def TextAllSaid : Prop := textAllRow.holds Tryd.pinned (OpenSpec.ofChange textAllSpec)

/-- ITS FALSE NEIGHBOUR: 'it returns false'. Refute it at one input. -/
def textAllWrong : ChangeSpec := { name := "textAll", fn := fun _ => fun
  | [d] => { results := [.lit (.bool false)], args := [d] }
  | _ => none }
def TextAllWrongFalsely : Prop := textAllRow.holds Tryd.pinned (OpenSpec.ofChange textAllWrong)

/- THE SECOND FORM. 'bulk': how many values and letters a reading holds, each counted each time it is reached (what is shared counts as often as it is met; a slice's spare places count too). A statement '..UptoSaid' is the law's where the arguments, and the package variables that the reading takes, are together of bulk at most 1048576: NARROWER than '..Said'. Prove '..Said' where nothing that the law and all that it calls make is longer than what came in: it says more and counts as full. Else prove '..UptoSaid'. A law counts once. -/
mutual
def uptoBulk {H : Type} : DataW H → Nat
  | .lit (.string bytes) => bytes.length + 1
  | .lit _ => 1
  | .nil => 1
  | .ptr d => uptoBulk d + 1
  | .slice elems spare => uptoBulkAll elems + uptoBulkAll spare + 1
  | .agg parts => uptoBulkAll parts + 1
  | .iface _ d => uptoBulk d + 1
  | .map entries => uptoBulkEntries entries + 1
  | .held _ => 1
def uptoBulkAll {H : Type} : List (DataW H) → Nat
  | [] => 0
  | d :: r => uptoBulk d + uptoBulkAll r
def uptoBulkEntries {H : Type} : List (Lit × DataW H) → Nat
  | [] => 0
  | x :: r => uptoBulkEntry x + uptoBulkEntries r
def uptoBulkEntry {H : Type} : Lit × DataW H → Nat
  | (.string bytes, d) => bytes.length + uptoBulk d + 1
  | (_, d) => uptoBulk d + 1
 end
def uptoSmall : (H : Type) → List (DataW H) → Bool := fun _ ds => decide (uptoBulkAll ds ≤ 1048576)
def OpenSpec.upto (s : _root_.Go.ChangeSpec) : _root_.Go.OpenSpec := { _root_.Go.OpenSpec.ofChange s with cond := some uptoSmall }

/-- 'rosterlaw01.TextBases', WHERE WHAT IT READS IS OF BULK AT MOST 1048576: true; the input reads as it did. -/
def textBasesUptoRow : OpenClaim := { program := "ytppnhlkfkedlmaadoor", sum := "6f2899a1f61d3ae98fce92c3c26847ae5e3fd38e453a3dac7d5973c59706ae7e", func := "roster/rosterlaw01.TextBases", spec := "textBases", named := ["roster/text.letters64"], apart := false, laid := [("roster/text.letters64", laid_roster_text_letters64)], narrowed := true }
def TextBasesUptoSaid : Prop := textBasesUptoRow.holds Tryd.pinned (OpenSpec.upto textBasesSpec)

/-- 'rosterlaw01.TextBaseRound', WHERE WHAT IT READS IS OF BULK AT MOST 1048576: true; the input reads as it did. -/
def textBaseRoundUptoRow : OpenClaim := { program := "ytppnhlkfkedlmaadoor", sum := "6f2899a1f61d3ae98fce92c3c26847ae5e3fd38e453a3dac7d5973c59706ae7e", func := "roster/rosterlaw01.TextBaseRound", spec := "textBaseRound", named := ["roster/text.letters64"], apart := false, laid := [("roster/text.letters64", laid_roster_text_letters64)], narrowed := true }
def TextBaseRoundUptoSaid : Prop := textBaseRoundUptoRow.holds Tryd.pinned (OpenSpec.upto textBaseRoundSpec)

/-- 'rosterlaw01.TextBaseOnly', WHERE WHAT IT READS IS OF BULK AT MOST 1048576: true; the input reads as it did. -/
def textBaseOnlyUptoRow : OpenClaim := { program := "ytppnhlkfkedlmaadoor", sum := "6f2899a1f61d3ae98fce92c3c26847ae5e3fd38e453a3dac7d5973c59706ae7e", func := "roster/rosterlaw01.TextBaseOnly", spec := "textBaseOnly", named := ["roster/text.letters64"], apart := false, laid := [("roster/text.letters64", laid_roster_text_letters64)], narrowed := true }
def TextBaseOnlyUptoSaid : Prop := textBaseOnlyUptoRow.holds Tryd.pinned (OpenSpec.upto textBaseOnlySpec)

/-- 'rosterlaw01.TextAll', WHERE WHAT IT READS IS OF BULK AT MOST 1048576: true; the input reads as it did. -/
def textAllUptoRow : OpenClaim := { program := "ytppnhlkfkedlmaadoor", sum := "6f2899a1f61d3ae98fce92c3c26847ae5e3fd38e453a3dac7d5973c59706ae7e", func := "roster/rosterlaw01.TextAll", spec := "textAll", named := ["roster/rosterref01.rows", "roster/text.hexDigits", "roster/text.letters64"], apart := false, laid := [("roster/rosterref01.rows", laid_roster_rosterref01_rows), ("roster/text.hexDigits", laid_roster_text_hexDigits), ("roster/text.letters64", laid_roster_text_letters64)], narrowed := true }
def TextAllUptoSaid : Prop := textAllUptoRow.holds Tryd.pinned (OpenSpec.upto textAllSpec)

end Rows
end Go.Proofs.YtppnhlkfkedlmaaDoor

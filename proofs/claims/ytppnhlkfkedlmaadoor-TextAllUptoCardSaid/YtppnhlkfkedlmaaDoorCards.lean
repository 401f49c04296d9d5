/-
  DERIVED. GIVEN WITH THE SEED: THE CARDS: each row of YtppnhlkfkedlmaaDoorRows.lean that lists a variable, with what it lists TIED to the program's text (the seventh form; the later family's looks); each row that meets fmt, with fmt's text TOLD by the authors' own Lean function (tested against real Go, not proved from fmt's source: count such statements apart). THE CARD IS WHAT COUNTS. Prove the row's statement (the work); the ties are given (YtppnhlkfkedlmaaDoorTie.lean); close each card by the builder's one call (the guide's Derived/Test/ToyasCard.lean, 'card_holds'). Laid BY PROGRAM, IN A SANDBOX (cutbox-door.mjs). By AI agents, Wed Nov 11 2026. No macro, syntax, notation, axiom, sorry.
-/
import Derived.Test.YtppnhlkfkedlmaaDoorRows
import GoSem.ClaimSeven
namespace Go.Proofs.YtppnhlkfkedlmaaDoor
namespace Rows

/-- THE TIED CARD OF 'rosterlaw01.TextBases'. -/
def textBasesCard : Claim7 := { stood := { row := textBasesRow, standIns := [], harness := (true, "cf6c0c219cfe02bb714305f0d2893e5a74b3dc42d9f8c08045815fe170a1cd4a"), looks := false }, kinds := [], alts := [], laidByText := true, laidKinds := [.data], laidTests := true, laidLooks := .later }
def TextBasesCardSaid : Prop := Claim7.holds Tryd.pinned (.plain (OpenSpec.ofChange textBasesSpec)) textBasesCard

/-- THE TIED CARD OF 'rosterlaw01.TextBaseRound'. -/
def textBaseRoundCard : Claim7 := { stood := { row := textBaseRoundRow, standIns := [], harness := (true, "cf6c0c219cfe02bb714305f0d2893e5a74b3dc42d9f8c08045815fe170a1cd4a"), looks := false }, kinds := [], alts := [], laidByText := true, laidKinds := [.data], laidTests := true, laidLooks := .later }
def TextBaseRoundCardSaid : Prop := Claim7.holds Tryd.pinned (.plain (OpenSpec.ofChange textBaseRoundSpec)) textBaseRoundCard

/-- THE TIED CARD OF 'rosterlaw01.TextBaseOnly'. -/
def textBaseOnlyCard : Claim7 := { stood := { row := textBaseOnlyRow, standIns := [], harness := (true, "cf6c0c219cfe02bb714305f0d2893e5a74b3dc42d9f8c08045815fe170a1cd4a"), looks := false }, kinds := [], alts := [], laidByText := true, laidKinds := [.data], laidTests := true, laidLooks := .later }
def TextBaseOnlyCardSaid : Prop := Claim7.holds Tryd.pinned (.plain (OpenSpec.ofChange textBaseOnlySpec)) textBaseOnlyCard

/-- THE TIED CARD OF 'rosterlaw01.TextAll'. -/
def textAllCard : Claim7 := { stood := { row := textAllRow, standIns := [], harness := (true, "cf6c0c219cfe02bb714305f0d2893e5a74b3dc42d9f8c08045815fe170a1cd4a"), looks := false }, kinds := [], alts := [], laidByText := true, laidKinds := [.data, .data, .data], laidTests := true, laidLooks := .later }
def TextAllCardSaid : Prop := Claim7.holds Tryd.pinned (.plain (OpenSpec.ofChange textAllSpec)) textAllCard

/-- THE SECOND FORM's CARD OF 'rosterlaw01.TextBases'. -/
def textBasesUptoCard : Claim7 := { stood := { row := textBasesUptoRow, standIns := [], harness := (true, "cf6c0c219cfe02bb714305f0d2893e5a74b3dc42d9f8c08045815fe170a1cd4a"), looks := false }, kinds := [], alts := [], laidByText := true, laidKinds := [.data], laidTests := true, laidLooks := .later }
def TextBasesUptoCardSaid : Prop := Claim7.holds Tryd.pinned (.plain (OpenSpec.upto textBasesSpec)) textBasesUptoCard

/-- THE SECOND FORM's CARD OF 'rosterlaw01.TextBaseRound'. -/
def textBaseRoundUptoCard : Claim7 := { stood := { row := textBaseRoundUptoRow, standIns := [], harness := (true, "cf6c0c219cfe02bb714305f0d2893e5a74b3dc42d9f8c08045815fe170a1cd4a"), looks := false }, kinds := [], alts := [], laidByText := true, laidKinds := [.data], laidTests := true, laidLooks := .later }
def TextBaseRoundUptoCardSaid : Prop := Claim7.holds Tryd.pinned (.plain (OpenSpec.upto textBaseRoundSpec)) textBaseRoundUptoCard

/-- THE SECOND FORM's CARD OF 'rosterlaw01.TextBaseOnly'. -/
def textBaseOnlyUptoCard : Claim7 := { stood := { row := textBaseOnlyUptoRow, standIns := [], harness := (true, "cf6c0c219cfe02bb714305f0d2893e5a74b3dc42d9f8c08045815fe170a1cd4a"), looks := false }, kinds := [], alts := [], laidByText := true, laidKinds := [.data], laidTests := true, laidLooks := .later }
def TextBaseOnlyUptoCardSaid : Prop := Claim7.holds Tryd.pinned (.plain (OpenSpec.upto textBaseOnlySpec)) textBaseOnlyUptoCard

/-- THE SECOND FORM's CARD OF 'rosterlaw01.TextAll'. -/
def textAllUptoCard : Claim7 := { stood := { row := textAllUptoRow, standIns := [], harness := (true, "cf6c0c219cfe02bb714305f0d2893e5a74b3dc42d9f8c08045815fe170a1cd4a"), looks := false }, kinds := [], alts := [], laidByText := true, laidKinds := [.data, .data, .data], laidTests := true, laidLooks := .later }
def TextAllUptoCardSaid : Prop := Claim7.holds Tryd.pinned (.plain (OpenSpec.upto textAllSpec)) textAllUptoCard
end Rows
end Go.Proofs.YtppnhlkfkedlmaaDoor

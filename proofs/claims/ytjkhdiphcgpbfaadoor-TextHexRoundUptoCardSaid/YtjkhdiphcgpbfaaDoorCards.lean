/-
  DERIVED. GIVEN WITH THE SEED: THE CARDS: each row of YtjkhdiphcgpbfaaDoorRows.lean that lists a variable, with what it lists TIED to the program's text (the seventh form; the later family's looks); each row that meets fmt, with fmt's text TOLD by the authors' own Lean function (tested against real Go, not proved from fmt's source: count such statements apart). THE CARD IS WHAT COUNTS. Prove the row's statement (the work); the ties are given (YtjkhdiphcgpbfaaDoorTie.lean); close each card by the builder's one call (the guide's Derived/Test/ToyasCard.lean, 'card_holds'). Laid BY PROGRAM, IN A SANDBOX (cutbox-door.mjs). By AI agents, Wed Nov 11 2026. No macro, syntax, notation, axiom, sorry.
-/
import Derived.Test.YtjkhdiphcgpbfaaDoorRows
import GoSem.ClaimSeven
namespace Go.Proofs.YtjkhdiphcgpbfaaDoor
namespace Rows

/-- THE TIED CARD OF 'rosterlaw01.TextWritten'. -/
def textWrittenCard : Claim7 := { stood := { row := textWrittenRow, standIns := [], harness := (true, "82cf9e0f8ed42730459a482bc3f3d9dc8a380597b06fae294309bda5d6bbb1cb"), looks := false }, kinds := [], alts := [], laidByText := true, laidKinds := [.data, .data], laidTests := true, laidLooks := .later }
def TextWrittenCardSaid : Prop := Claim7.holds Tryd.pinned (.plain (OpenSpec.ofChange textWrittenSpec)) textWrittenCard

/-- THE TIED CARD OF 'rosterlaw01.TextHexes'. -/
def textHexesCard : Claim7 := { stood := { row := textHexesRow, standIns := [], harness := (true, "82cf9e0f8ed42730459a482bc3f3d9dc8a380597b06fae294309bda5d6bbb1cb"), looks := false }, kinds := [], alts := [], laidByText := true, laidKinds := [.data], laidTests := true, laidLooks := .later }
def TextHexesCardSaid : Prop := Claim7.holds Tryd.pinned (.plain (OpenSpec.ofChange textHexesSpec)) textHexesCard

/-- THE TIED CARD OF 'rosterlaw01.TextHexRound'. -/
def textHexRoundCard : Claim7 := { stood := { row := textHexRoundRow, standIns := [], harness := (true, "82cf9e0f8ed42730459a482bc3f3d9dc8a380597b06fae294309bda5d6bbb1cb"), looks := false }, kinds := [], alts := [], laidByText := true, laidKinds := [.data], laidTests := true, laidLooks := .later }
def TextHexRoundCardSaid : Prop := Claim7.holds Tryd.pinned (.plain (OpenSpec.ofChange textHexRoundSpec)) textHexRoundCard

/-- THE TIED CARD OF 'rosterlaw01.TextHexOnly'. -/
def textHexOnlyCard : Claim7 := { stood := { row := textHexOnlyRow, standIns := [], harness := (true, "82cf9e0f8ed42730459a482bc3f3d9dc8a380597b06fae294309bda5d6bbb1cb"), looks := false }, kinds := [], alts := [], laidByText := true, laidKinds := [.data], laidTests := true, laidLooks := .later }
def TextHexOnlyCardSaid : Prop := Claim7.holds Tryd.pinned (.plain (OpenSpec.ofChange textHexOnlySpec)) textHexOnlyCard

/-- THE TIED CARD OF 'rosterlaw01.TextChecks'. -/
def textChecksCard : Claim7 := { stood := { row := textChecksRow, standIns := [], harness := (true, "82cf9e0f8ed42730459a482bc3f3d9dc8a380597b06fae294309bda5d6bbb1cb"), looks := false }, kinds := [], alts := [], laidByText := true, laidKinds := [.data], laidTests := true, laidLooks := .later }
def TextChecksCardSaid : Prop := Claim7.holds Tryd.pinned (.plain (OpenSpec.ofChange textChecksSpec)) textChecksCard

/-- THE SECOND FORM's CARD OF 'rosterlaw01.TextWritten'. -/
def textWrittenUptoCard : Claim7 := { stood := { row := textWrittenUptoRow, standIns := [], harness := (true, "82cf9e0f8ed42730459a482bc3f3d9dc8a380597b06fae294309bda5d6bbb1cb"), looks := false }, kinds := [], alts := [], laidByText := true, laidKinds := [.data, .data], laidTests := true, laidLooks := .later }
def TextWrittenUptoCardSaid : Prop := Claim7.holds Tryd.pinned (.plain (OpenSpec.upto textWrittenSpec)) textWrittenUptoCard

/-- THE SECOND FORM's CARD OF 'rosterlaw01.TextHexes'. -/
def textHexesUptoCard : Claim7 := { stood := { row := textHexesUptoRow, standIns := [], harness := (true, "82cf9e0f8ed42730459a482bc3f3d9dc8a380597b06fae294309bda5d6bbb1cb"), looks := false }, kinds := [], alts := [], laidByText := true, laidKinds := [.data], laidTests := true, laidLooks := .later }
def TextHexesUptoCardSaid : Prop := Claim7.holds Tryd.pinned (.plain (OpenSpec.upto textHexesSpec)) textHexesUptoCard

/-- THE SECOND FORM's CARD OF 'rosterlaw01.TextHexRound'. -/
def textHexRoundUptoCard : Claim7 := { stood := { row := textHexRoundUptoRow, standIns := [], harness := (true, "82cf9e0f8ed42730459a482bc3f3d9dc8a380597b06fae294309bda5d6bbb1cb"), looks := false }, kinds := [], alts := [], laidByText := true, laidKinds := [.data], laidTests := true, laidLooks := .later }
def TextHexRoundUptoCardSaid : Prop := Claim7.holds Tryd.pinned (.plain (OpenSpec.upto textHexRoundSpec)) textHexRoundUptoCard

/-- THE SECOND FORM's CARD OF 'rosterlaw01.TextHexOnly'. -/
def textHexOnlyUptoCard : Claim7 := { stood := { row := textHexOnlyUptoRow, standIns := [], harness := (true, "82cf9e0f8ed42730459a482bc3f3d9dc8a380597b06fae294309bda5d6bbb1cb"), looks := false }, kinds := [], alts := [], laidByText := true, laidKinds := [.data], laidTests := true, laidLooks := .later }
def TextHexOnlyUptoCardSaid : Prop := Claim7.holds Tryd.pinned (.plain (OpenSpec.upto textHexOnlySpec)) textHexOnlyUptoCard

/-- THE SECOND FORM's CARD OF 'rosterlaw01.TextChecks'. -/
def textChecksUptoCard : Claim7 := { stood := { row := textChecksUptoRow, standIns := [], harness := (true, "82cf9e0f8ed42730459a482bc3f3d9dc8a380597b06fae294309bda5d6bbb1cb"), looks := false }, kinds := [], alts := [], laidByText := true, laidKinds := [.data], laidTests := true, laidLooks := .later }
def TextChecksUptoCardSaid : Prop := Claim7.holds Tryd.pinned (.plain (OpenSpec.upto textChecksSpec)) textChecksUptoCard
end Rows
end Go.Proofs.YtjkhdiphcgpbfaaDoor

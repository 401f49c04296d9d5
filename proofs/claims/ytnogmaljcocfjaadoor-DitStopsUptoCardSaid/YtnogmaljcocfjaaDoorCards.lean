/-
  DERIVED. GIVEN WITH THE SEED: THE CARDS: each row of YtnogmaljcocfjaaDoorRows.lean that lists a variable, with what it lists TIED to the program's text (the seventh form; the later family's looks); each row that meets fmt, with fmt's text TOLD by the authors' own Lean function (tested against real Go, not proved from fmt's source: count such statements apart). THE CARD IS WHAT COUNTS. Prove the row's statement (the work); the ties are given (YtnogmaljcocfjaaDoorTie.lean); close each card by the builder's one call (the guide's Derived/Test/ToyasCard.lean, 'card_holds'). Laid BY PROGRAM, IN A SANDBOX (cutbox-door.mjs). By AI agents, Wed Nov 11 2026. No macro, syntax, notation, axiom, sorry.
-/
import Derived.Test.YtnogmaljcocfjaaDoorRows
import GoSem.ClaimSeven
namespace Go.Proofs.YtnogmaljcocfjaaDoor
namespace Rows

/-- THE TIED CARD OF 'rosterlaw09.DitBuilds'. -/
def ditBuildsCard : Claim7 := { stood := { row := ditBuildsRow, standIns := [], harness := (true, "20fb7baa79495449d273d0163f17d61ce4d8873c3da1668b8e0085213f25476e"), looks := false }, kinds := [], alts := [], laidByText := true, laidKinds := [.data, .data, .data], laidTests := true, laidLooks := .later }
def DitBuildsCardSaid : Prop := Claim7.holds Tryd.pinned (.plain (OpenSpec.ofChange ditBuildsSpec)) ditBuildsCard

/-- THE TIED CARD OF 'rosterlaw09.DitRefuses'. -/
def ditRefusesCard : Claim7 := { stood := { row := ditRefusesRow, standIns := [], harness := (true, "20fb7baa79495449d273d0163f17d61ce4d8873c3da1668b8e0085213f25476e"), looks := false }, kinds := [], alts := [], laidByText := true, laidKinds := [.data, .data, .data], laidTests := true, laidLooks := .later }
def DitRefusesCardSaid : Prop := Claim7.holds Tryd.pinned (.plain (OpenSpec.ofChange ditRefusesSpec)) ditRefusesCard

/-- THE TIED CARD OF 'rosterlaw09.DitOrder'. -/
def ditOrderCard : Claim7 := { stood := { row := ditOrderRow, standIns := [], harness := (true, "20fb7baa79495449d273d0163f17d61ce4d8873c3da1668b8e0085213f25476e"), looks := false }, kinds := [], alts := [], laidByText := true, laidKinds := [.data, .data, .data], laidTests := true, laidLooks := .later }
def DitOrderCardSaid : Prop := Claim7.holds Tryd.pinned (.plain (OpenSpec.ofChange ditOrderSpec)) ditOrderCard

/-- THE TIED CARD OF 'rosterlaw09.DitAnyOrder'. -/
def ditAnyOrderCard : Claim7 := { stood := { row := ditAnyOrderRow, standIns := [], harness := (true, "20fb7baa79495449d273d0163f17d61ce4d8873c3da1668b8e0085213f25476e"), looks := false }, kinds := [], alts := [], laidByText := true, laidKinds := [.data, .data, .data], laidTests := true, laidLooks := .later }
def DitAnyOrderCardSaid : Prop := Claim7.holds Tryd.pinned (.plain (OpenSpec.ofChange ditAnyOrderSpec)) ditAnyOrderCard

/-- THE TIED CARD OF 'rosterlaw09.DitSubtree'. -/
def ditSubtreeCard : Claim7 := { stood := { row := ditSubtreeRow, standIns := [], harness := (true, "20fb7baa79495449d273d0163f17d61ce4d8873c3da1668b8e0085213f25476e"), looks := false }, kinds := [], alts := [], laidByText := true, laidKinds := [.data, .data, .data], laidTests := true, laidLooks := .later }
def DitSubtreeCardSaid : Prop := Claim7.holds Tryd.pinned (.plain (OpenSpec.ofChange ditSubtreeSpec)) ditSubtreeCard

/-- THE TIED CARD OF 'rosterlaw09.DitFinds'. -/
def ditFindsCard : Claim7 := { stood := { row := ditFindsRow, standIns := [], harness := (true, "20fb7baa79495449d273d0163f17d61ce4d8873c3da1668b8e0085213f25476e"), looks := false }, kinds := [], alts := [], laidByText := true, laidKinds := [.data, .data, .data], laidTests := true, laidLooks := .later }
def DitFindsCardSaid : Prop := Claim7.holds Tryd.pinned (.plain (OpenSpec.ofChange ditFindsSpec)) ditFindsCard

/-- THE TIED CARD OF 'rosterlaw09.DitStops'. -/
def ditStopsCard : Claim7 := { stood := { row := ditStopsRow, standIns := [], harness := (true, "20fb7baa79495449d273d0163f17d61ce4d8873c3da1668b8e0085213f25476e"), looks := false }, kinds := [], alts := [], laidByText := true, laidKinds := [.data, .data, .data], laidTests := true, laidLooks := .later }
def DitStopsCardSaid : Prop := Claim7.holds Tryd.pinned (.plain (OpenSpec.ofChange ditStopsSpec)) ditStopsCard

/-- THE TIED CARD OF 'rosterlaw09.DitFamily'. -/
def ditFamilyCard : Claim7 := { stood := { row := ditFamilyRow, standIns := [], harness := (true, "20fb7baa79495449d273d0163f17d61ce4d8873c3da1668b8e0085213f25476e"), looks := false }, kinds := [], alts := [], laidByText := true, laidKinds := [.data, .data, .data], laidTests := true, laidLooks := .later }
def DitFamilyCardSaid : Prop := Claim7.holds Tryd.pinned (.plain (OpenSpec.ofChange ditFamilySpec)) ditFamilyCard

/-- THE SECOND FORM's CARD OF 'rosterlaw09.DitBuilds'. -/
def ditBuildsUptoCard : Claim7 := { stood := { row := ditBuildsUptoRow, standIns := [], harness := (true, "20fb7baa79495449d273d0163f17d61ce4d8873c3da1668b8e0085213f25476e"), looks := false }, kinds := [], alts := [], laidByText := true, laidKinds := [.data, .data, .data], laidTests := true, laidLooks := .later }
def DitBuildsUptoCardSaid : Prop := Claim7.holds Tryd.pinned (.plain (OpenSpec.upto ditBuildsSpec)) ditBuildsUptoCard

/-- THE SECOND FORM's CARD OF 'rosterlaw09.DitRefuses'. -/
def ditRefusesUptoCard : Claim7 := { stood := { row := ditRefusesUptoRow, standIns := [], harness := (true, "20fb7baa79495449d273d0163f17d61ce4d8873c3da1668b8e0085213f25476e"), looks := false }, kinds := [], alts := [], laidByText := true, laidKinds := [.data, .data, .data], laidTests := true, laidLooks := .later }
def DitRefusesUptoCardSaid : Prop := Claim7.holds Tryd.pinned (.plain (OpenSpec.upto ditRefusesSpec)) ditRefusesUptoCard

/-- THE SECOND FORM's CARD OF 'rosterlaw09.DitOrder'. -/
def ditOrderUptoCard : Claim7 := { stood := { row := ditOrderUptoRow, standIns := [], harness := (true, "20fb7baa79495449d273d0163f17d61ce4d8873c3da1668b8e0085213f25476e"), looks := false }, kinds := [], alts := [], laidByText := true, laidKinds := [.data, .data, .data], laidTests := true, laidLooks := .later }
def DitOrderUptoCardSaid : Prop := Claim7.holds Tryd.pinned (.plain (OpenSpec.upto ditOrderSpec)) ditOrderUptoCard

/-- THE SECOND FORM's CARD OF 'rosterlaw09.DitAnyOrder'. -/
def ditAnyOrderUptoCard : Claim7 := { stood := { row := ditAnyOrderUptoRow, standIns := [], harness := (true, "20fb7baa79495449d273d0163f17d61ce4d8873c3da1668b8e0085213f25476e"), looks := false }, kinds := [], alts := [], laidByText := true, laidKinds := [.data, .data, .data], laidTests := true, laidLooks := .later }
def DitAnyOrderUptoCardSaid : Prop := Claim7.holds Tryd.pinned (.plain (OpenSpec.upto ditAnyOrderSpec)) ditAnyOrderUptoCard

/-- THE SECOND FORM's CARD OF 'rosterlaw09.DitSubtree'. -/
def ditSubtreeUptoCard : Claim7 := { stood := { row := ditSubtreeUptoRow, standIns := [], harness := (true, "20fb7baa79495449d273d0163f17d61ce4d8873c3da1668b8e0085213f25476e"), looks := false }, kinds := [], alts := [], laidByText := true, laidKinds := [.data, .data, .data], laidTests := true, laidLooks := .later }
def DitSubtreeUptoCardSaid : Prop := Claim7.holds Tryd.pinned (.plain (OpenSpec.upto ditSubtreeSpec)) ditSubtreeUptoCard

/-- THE SECOND FORM's CARD OF 'rosterlaw09.DitFinds'. -/
def ditFindsUptoCard : Claim7 := { stood := { row := ditFindsUptoRow, standIns := [], harness := (true, "20fb7baa79495449d273d0163f17d61ce4d8873c3da1668b8e0085213f25476e"), looks := false }, kinds := [], alts := [], laidByText := true, laidKinds := [.data, .data, .data], laidTests := true, laidLooks := .later }
def DitFindsUptoCardSaid : Prop := Claim7.holds Tryd.pinned (.plain (OpenSpec.upto ditFindsSpec)) ditFindsUptoCard

/-- THE SECOND FORM's CARD OF 'rosterlaw09.DitStops'. -/
def ditStopsUptoCard : Claim7 := { stood := { row := ditStopsUptoRow, standIns := [], harness := (true, "20fb7baa79495449d273d0163f17d61ce4d8873c3da1668b8e0085213f25476e"), looks := false }, kinds := [], alts := [], laidByText := true, laidKinds := [.data, .data, .data], laidTests := true, laidLooks := .later }
def DitStopsUptoCardSaid : Prop := Claim7.holds Tryd.pinned (.plain (OpenSpec.upto ditStopsSpec)) ditStopsUptoCard

/-- THE SECOND FORM's CARD OF 'rosterlaw09.DitFamily'. -/
def ditFamilyUptoCard : Claim7 := { stood := { row := ditFamilyUptoRow, standIns := [], harness := (true, "20fb7baa79495449d273d0163f17d61ce4d8873c3da1668b8e0085213f25476e"), looks := false }, kinds := [], alts := [], laidByText := true, laidKinds := [.data, .data, .data], laidTests := true, laidLooks := .later }
def DitFamilyUptoCardSaid : Prop := Claim7.holds Tryd.pinned (.plain (OpenSpec.upto ditFamilySpec)) ditFamilyUptoCard
end Rows
end Go.Proofs.YtnogmaljcocfjaaDoor

/-
  DERIVED. GIVEN WITH THE SEED: THE CARDS: each row of YtogkibhbkapobaaDoorRows.lean that lists a variable, with what it lists TIED to the program's text (the seventh form; the later family's looks); each row that meets fmt, with fmt's text TOLD by the authors' own Lean function (tested against real Go, not proved from fmt's source: count such statements apart). THE CARD IS WHAT COUNTS. Prove the row's statement (the work); the ties are given (YtogkibhbkapobaaDoorTie.lean); close each card by the builder's one call (the guide's Derived/Test/ToyasCard.lean, 'card_holds'). Laid BY PROGRAM, IN A SANDBOX (cutbox-door.mjs). By AI agents, Wed Nov 11 2026. No macro, syntax, notation, axiom, sorry.
-/
import Derived.Test.YtogkibhbkapobaaDoorRows
import GoSem.ClaimSeven
namespace Go.Proofs.YtogkibhbkapobaaDoor
namespace Rows

/-- THE TIED CARD OF 'rosterlaw19.ClientShows'. -/
def clientShowsCard : Claim7 := { stood := { row := clientShowsRow, standIns := [], harness := (true, "0bffb1f6d410480b4dcdf5e23962406219b12cda7cc525a386e630ecff77dbf5"), looks := false }, kinds := [], alts := [], laidByText := true, laidKinds := [.data, .data, .data, .data, .data], laidTests := true, laidLooks := .later }
def ClientShowsCardSaid : Prop := Claim7.holds Tryd.pinned (.plain (OpenSpec.ofChange clientShowsSpec)) clientShowsCard

/-- THE SECOND FORM's CARD OF 'rosterlaw19.ClientShows'. -/
def clientShowsUptoCard : Claim7 := { stood := { row := clientShowsUptoRow, standIns := [], harness := (true, "0bffb1f6d410480b4dcdf5e23962406219b12cda7cc525a386e630ecff77dbf5"), looks := false }, kinds := [], alts := [], laidByText := true, laidKinds := [.data, .data, .data, .data, .data], laidTests := true, laidLooks := .later }
def ClientShowsUptoCardSaid : Prop := Claim7.holds Tryd.pinned (.plain (OpenSpec.upto clientShowsSpec)) clientShowsUptoCard
end Rows
end Go.Proofs.YtogkibhbkapobaaDoor

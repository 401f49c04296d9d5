/-
  DERIVED. GIVEN WITH THE SEED: THE PROGRAM's TIES (one call each: nine closed facts by the kernel) AND EACH ROW's TIE, after the 31st guide's Derived/Test/Toyas{Tie, Card}.lean. No idea stands in it: it is a product of the set-up. Laid BY PROGRAM, IN A SANDBOX (cutbox-door.mjs). By AI agents, Wed Nov 11 2026. No macro, syntax, notation, axiom, sorry.
-/
import Derived.Test.YtjkhdiphcgpbfaaDoorRows
import Derived.LaidByTextLater
import Derived.SevenTiedAt
import Derived.LaidSub
import Derived.LaidOnce
namespace Go.Proofs.YtjkhdiphcgpbfaaDoor
open Go
set_option maxRecDepth 100000
theorem seatTie1 : Tryd.prog.laidByTextLater [("roster/rosterref01.rows", Rows.laid_roster_rosterref01_rows), ("roster/text.hexDigits", Rows.laid_roster_text_hexDigits), ("roster/text.letters64", Rows.laid_roster_text_letters64)] [.data, .data, .data] true :=
  Program.laidByTextLater_by_one 33 8 82 (by kernel_rfl) (by kernel_rfl) (by kernel_rfl) (by kernel_rfl) (by kernel_rfl) (by kernel_rfl) (fun _ _ => by kernel_rfl)
theorem noOwnUnsafe : Tryd.pinned.checked.prog.headLifts.contains "ownunsafe" = false := by kernel_rfl
theorem tie : Tryd.prog.laidByTextLater [("roster/text.hexDigits", Rows.laid_roster_text_hexDigits), ("roster/text.letters64", Rows.laid_roster_text_letters64)] [.data, .data] true :=
  Program.laidByTextLater.sub seatTie1 ["roster/text.hexDigits", "roster/text.letters64"] (by kernel_rfl) (by kernel_rfl)
theorem textWritten_row_tie : Rows.textWrittenRow.laidByTextAt .later Tryd.pinned [.data, .data] true :=
  OpenClaim.laidByTextAt_later rfl rfl tie noOwnUnsafe
theorem tie2 : Tryd.prog.laidByTextLater [("roster/text.hexDigits", Rows.laid_roster_text_hexDigits)] [.data] true :=
  Program.laidByTextLater.sub seatTie1 ["roster/text.hexDigits"] (by kernel_rfl) (by kernel_rfl)
theorem textHexes_row_tie : Rows.textHexesRow.laidByTextAt .later Tryd.pinned [.data] true :=
  OpenClaim.laidByTextAt_later rfl rfl tie2 noOwnUnsafe
theorem textHexRound_row_tie : Rows.textHexRoundRow.laidByTextAt .later Tryd.pinned [.data] true :=
  OpenClaim.laidByTextAt_later rfl rfl tie2 noOwnUnsafe
theorem textHexOnly_row_tie : Rows.textHexOnlyRow.laidByTextAt .later Tryd.pinned [.data] true :=
  OpenClaim.laidByTextAt_later rfl rfl tie2 noOwnUnsafe
theorem tie3 : Tryd.prog.laidByTextLater [("roster/rosterref01.rows", Rows.laid_roster_rosterref01_rows)] [.data] true :=
  Program.laidByTextLater.sub seatTie1 ["roster/rosterref01.rows"] (by kernel_rfl) (by kernel_rfl)
theorem textChecks_row_tie : Rows.textChecksRow.laidByTextAt .later Tryd.pinned [.data] true :=
  OpenClaim.laidByTextAt_later rfl rfl tie3 noOwnUnsafe
theorem textWrittenUpto_row_tie : Rows.textWrittenUptoRow.laidByTextAt .later Tryd.pinned [.data, .data] true :=
  OpenClaim.laidByTextAt_later rfl rfl tie noOwnUnsafe
theorem textHexesUpto_row_tie : Rows.textHexesUptoRow.laidByTextAt .later Tryd.pinned [.data] true :=
  OpenClaim.laidByTextAt_later rfl rfl tie2 noOwnUnsafe
theorem textHexRoundUpto_row_tie : Rows.textHexRoundUptoRow.laidByTextAt .later Tryd.pinned [.data] true :=
  OpenClaim.laidByTextAt_later rfl rfl tie2 noOwnUnsafe
theorem textHexOnlyUpto_row_tie : Rows.textHexOnlyUptoRow.laidByTextAt .later Tryd.pinned [.data] true :=
  OpenClaim.laidByTextAt_later rfl rfl tie2 noOwnUnsafe
theorem textChecksUpto_row_tie : Rows.textChecksUptoRow.laidByTextAt .later Tryd.pinned [.data] true :=
  OpenClaim.laidByTextAt_later rfl rfl tie3 noOwnUnsafe
end Go.Proofs.YtjkhdiphcgpbfaaDoor

/-
  DERIVED. GIVEN WITH THE SEED: THE PROGRAM's TIES (one call each: nine closed facts by the kernel) AND EACH ROW's TIE, after the 31st guide's Derived/Test/Toyas{Tie, Card}.lean. No idea stands in it: it is a product of the set-up. Laid BY PROGRAM, IN A SANDBOX (cutbox-door.mjs). By AI agents, Wed Nov 11 2026. No macro, syntax, notation, axiom, sorry.
-/
import Derived.Test.YtppnhlkfkedlmaaDoorRows
import Derived.LaidByTextLater
import Derived.SevenTiedAt
import Derived.LaidSub
import Derived.LaidOnce
namespace Go.Proofs.YtppnhlkfkedlmaaDoor
open Go
set_option maxRecDepth 100000
theorem seatTie1 : Tryd.prog.laidByTextLater [("roster/rosterref01.rows", Rows.laid_roster_rosterref01_rows), ("roster/text.hexDigits", Rows.laid_roster_text_hexDigits), ("roster/text.letters64", Rows.laid_roster_text_letters64)] [.data, .data, .data] true :=
  Program.laidByTextLater_by_one 33 8 82 (by kernel_rfl) (by kernel_rfl) (by kernel_rfl) (by kernel_rfl) (by kernel_rfl) (by kernel_rfl) (fun _ _ => by kernel_rfl)
theorem noOwnUnsafe : Tryd.pinned.checked.prog.headLifts.contains "ownunsafe" = false := by kernel_rfl
theorem tie : Tryd.prog.laidByTextLater [("roster/text.letters64", Rows.laid_roster_text_letters64)] [.data] true :=
  Program.laidByTextLater.sub seatTie1 ["roster/text.letters64"] (by kernel_rfl) (by kernel_rfl)
theorem textBases_row_tie : Rows.textBasesRow.laidByTextAt .later Tryd.pinned [.data] true :=
  OpenClaim.laidByTextAt_later rfl rfl tie noOwnUnsafe
theorem textBaseRound_row_tie : Rows.textBaseRoundRow.laidByTextAt .later Tryd.pinned [.data] true :=
  OpenClaim.laidByTextAt_later rfl rfl tie noOwnUnsafe
theorem textBaseOnly_row_tie : Rows.textBaseOnlyRow.laidByTextAt .later Tryd.pinned [.data] true :=
  OpenClaim.laidByTextAt_later rfl rfl tie noOwnUnsafe
theorem tie2 : Tryd.prog.laidByTextLater [("roster/rosterref01.rows", Rows.laid_roster_rosterref01_rows), ("roster/text.hexDigits", Rows.laid_roster_text_hexDigits), ("roster/text.letters64", Rows.laid_roster_text_letters64)] [.data, .data, .data] true :=
  Program.laidByTextLater.sub seatTie1 ["roster/rosterref01.rows", "roster/text.hexDigits", "roster/text.letters64"] (by kernel_rfl) (by kernel_rfl)
theorem textAll_row_tie : Rows.textAllRow.laidByTextAt .later Tryd.pinned [.data, .data, .data] true :=
  OpenClaim.laidByTextAt_later rfl rfl tie2 noOwnUnsafe
theorem textBasesUpto_row_tie : Rows.textBasesUptoRow.laidByTextAt .later Tryd.pinned [.data] true :=
  OpenClaim.laidByTextAt_later rfl rfl tie noOwnUnsafe
theorem textBaseRoundUpto_row_tie : Rows.textBaseRoundUptoRow.laidByTextAt .later Tryd.pinned [.data] true :=
  OpenClaim.laidByTextAt_later rfl rfl tie noOwnUnsafe
theorem textBaseOnlyUpto_row_tie : Rows.textBaseOnlyUptoRow.laidByTextAt .later Tryd.pinned [.data] true :=
  OpenClaim.laidByTextAt_later rfl rfl tie noOwnUnsafe
theorem textAllUpto_row_tie : Rows.textAllUptoRow.laidByTextAt .later Tryd.pinned [.data, .data, .data] true :=
  OpenClaim.laidByTextAt_later rfl rfl tie2 noOwnUnsafe
end Go.Proofs.YtppnhlkfkedlmaaDoor

/-
  DERIVED. GIVEN WITH THE SEED: THE PROGRAM's TIES (one call each: nine closed facts by the kernel) AND EACH ROW's TIE, after the 31st guide's Derived/Test/Toyas{Tie, Card}.lean. No idea stands in it: it is a product of the set-up. Laid BY PROGRAM, IN A SANDBOX (cutbox-door.mjs). By AI agents, Wed Nov 11 2026. No macro, syntax, notation, axiom, sorry.
-/
import Derived.Test.YtgfankkobgfhnaaGreatDoorRows
import Derived.LaidByTextLater
import Derived.SevenTiedAt
import Derived.LaidSub
import Derived.LaidOnce
namespace Go.Proofs.YtgfankkobgfhnaaGreatDoor
open Go
set_option maxRecDepth 100000
theorem seatTie1 : Tryz.prog.laidByTextLater [("donjon/moesi.rows", Rows.laid_donjon_moesi_rows), ("donjon/place.limits", Rows.laid_donjon_place_limits), ("donjon/isa.ops", Rows.laid_donjon_isa_ops), ("donjon/note.kinds", Rows.laid_donjon_note_kinds)] [.data, .data, .data, .data] true :=
  Program.laidByTextLater_by_one 82 8 127 (by kernel_rfl) (by kernel_rfl) (by kernel_rfl) (by kernel_rfl) (by kernel_rfl) (by kernel_rfl) (fun _ _ => by kernel_rfl)
theorem noOwnUnsafe : Tryz.pinned.checked.prog.headLifts.contains "ownunsafe" = false := by kernel_rfl
theorem tie : Tryz.prog.laidByTextLater [("donjon/moesi.rows", Rows.laid_donjon_moesi_rows), ("donjon/place.limits", Rows.laid_donjon_place_limits), ("donjon/isa.ops", Rows.laid_donjon_isa_ops), ("donjon/note.kinds", Rows.laid_donjon_note_kinds)] [.data, .data, .data, .data] true :=
  Program.laidByTextLater.sub seatTie1 ["donjon/moesi.rows", "donjon/place.limits", "donjon/isa.ops", "donjon/note.kinds"] (by kernel_rfl) (by kernel_rfl)
theorem fairEnds_row_tie : Rows.fairEndsRow.laidByTextAt .later Tryz.pinned [.data, .data, .data, .data] true :=
  OpenClaim.laidByTextAt_later rfl rfl tie noOwnUnsafe
theorem fairEndsUpto_row_tie : Rows.fairEndsUptoRow.laidByTextAt .later Tryz.pinned [.data, .data, .data, .data] true :=
  OpenClaim.laidByTextAt_later rfl rfl tie noOwnUnsafe
end Go.Proofs.YtgfankkobgfhnaaGreatDoor

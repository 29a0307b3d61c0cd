/-
  DERIVED. GIVEN WITH THE SEED: THE CARDS: each row of YtgfankkobgfhnaaGreatDoorRows.lean that lists a variable, with what it lists TIED to the program's text (the seventh form; the later family's looks); each row that meets fmt, with fmt's text TOLD by the authors' own Lean function (tested against real Go, not proved from fmt's source: count such statements apart). THE CARD IS WHAT COUNTS. Prove the row's statement (the work); the ties are given (YtgfankkobgfhnaaGreatDoorTie.lean); close each card by the builder's one call (the guide's Derived/Test/ToyasCard.lean, 'card_holds'). Laid BY PROGRAM, IN A SANDBOX (cutbox-door.mjs). By AI agents, Wed Nov 11 2026. No macro, syntax, notation, axiom, sorry.
-/
import Derived.Test.YtgfankkobgfhnaaGreatDoorRows
import GoSem.ClaimSeven
namespace Go.Proofs.YtgfankkobgfhnaaGreatDoor
namespace Rows

/-- THE TIED CARD OF 'donjonlaw19.FairEnds'. -/
def fairEndsCard : Claim7 := { stood := { row := fairEndsRow, standIns := [], harness := (true, "4374979cd2b6f53c18ab063fe89b27523626298528f81cf818bdb69050418181"), looks := false }, kinds := [], alts := [], laidByText := true, laidKinds := [.data, .data, .data, .data], laidTests := true, laidLooks := .later }
def FairEndsCardSaid : Prop := Claim7.holds Tryz.pinned (.plain (OpenSpec.ofChange fairEndsSpec)) fairEndsCard

/-- THE SECOND FORM's CARD OF 'donjonlaw19.FairEnds'. -/
def fairEndsUptoCard : Claim7 := { stood := { row := fairEndsUptoRow, standIns := [], harness := (true, "4374979cd2b6f53c18ab063fe89b27523626298528f81cf818bdb69050418181"), looks := false }, kinds := [], alts := [], laidByText := true, laidKinds := [.data, .data, .data, .data], laidTests := true, laidLooks := .later }
def FairEndsUptoCardSaid : Prop := Claim7.holds Tryz.pinned (.plain (OpenSpec.upto fairEndsSpec)) fairEndsUptoCard
end Rows
end Go.Proofs.YtgfankkobgfhnaaGreatDoor

/-
  DERIVED. GIVEN WITH THE SEED: THE CARDS: each row of YtbcndiahccicpaaGreatDoorRows.lean that lists a variable, with what it lists TIED to the program's text (the seventh form; the later family's looks); each row that meets fmt, with fmt's text TOLD by the authors' own Lean function (tested against real Go, not proved from fmt's source: count such statements apart). THE CARD IS WHAT COUNTS. Prove the row's statement (the work); the ties are given (YtbcndiahccicpaaGreatDoorTie.lean); close each card by the builder's one call (the guide's Derived/Test/ToyasCard.lean, 'card_holds'). Laid BY PROGRAM, IN A SANDBOX (cutbox-door.mjs). By AI agents, Wed Nov 11 2026. No macro, syntax, notation, axiom, sorry.
-/
import Derived.Test.YtbcndiahccicpaaGreatDoorRows
import GoSem.ClaimSeven
namespace Go.Proofs.YtbcndiahccicpaaGreatDoor
namespace Rows

/-- THE TIED CARD OF 'donjontop.TopSizes'. -/
def topSizesCard : Claim7 := { stood := { row := topSizesRow, standIns := [], harness := (true, "b4c1327080c6ed0a4b77ba11d307c573ddef88dbd7111d82b07e63c0cfe6b6be"), looks := true }, kinds := [], alts := [], laidByText := true, laidKinds := [.data, .data, .data, .data, .sentinel, .sentinel, .data, .data, .data, .data, .pinned], laidTests := true, laidLooks := .later }
def TopSizesCardSaid : Prop := Claim7.holds Tryz.pinned (.plain (OpenSpec.ofChange topSizesSpec)) topSizesCard

/-- THE SECOND FORM's CARD OF 'donjontop.TopSizes'. -/
def topSizesUptoCard : Claim7 := { stood := { row := topSizesUptoRow, standIns := [], harness := (true, "b4c1327080c6ed0a4b77ba11d307c573ddef88dbd7111d82b07e63c0cfe6b6be"), looks := true }, kinds := [], alts := [], laidByText := true, laidKinds := [.data, .data, .data, .data, .sentinel, .sentinel, .data, .data, .data, .data, .pinned], laidTests := true, laidLooks := .later }
def TopSizesUptoCardSaid : Prop := Claim7.holds Tryz.pinned (.plain (OpenSpec.upto topSizesSpec)) topSizesUptoCard
end Rows
end Go.Proofs.YtbcndiahccicpaaGreatDoor

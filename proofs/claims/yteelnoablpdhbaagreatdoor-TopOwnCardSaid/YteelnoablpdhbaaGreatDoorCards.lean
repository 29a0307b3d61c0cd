/-
  DERIVED. GIVEN WITH THE SEED: THE CARDS: each row of YteelnoablpdhbaaGreatDoorRows.lean that lists a variable, with what it lists TIED to the program's text (the seventh form; the later family's looks); each row that meets fmt, with fmt's text TOLD by the authors' own Lean function (tested against real Go, not proved from fmt's source: count such statements apart). THE CARD IS WHAT COUNTS. Prove the row's statement (the work); the ties are given (YteelnoablpdhbaaGreatDoorTie.lean); close each card by the builder's one call (the guide's Derived/Test/ToyasCard.lean, 'card_holds'). Laid BY PROGRAM, IN A SANDBOX (cutbox-door.mjs). By AI agents, Wed Nov 11 2026. No macro, syntax, notation, axiom, sorry.
-/
import Derived.Test.YteelnoablpdhbaaGreatDoorRows
import GoSem.ClaimSeven
namespace Go.Proofs.YteelnoablpdhbaaGreatDoor
namespace Rows

/-- THE TIED CARD OF 'donjontop.TopOwn'. -/
def topOwnCard : Claim7 := { stood := { row := topOwnRow, standIns := [], harness := (true, "2f8a0f3b99512857bc70db14a7346fffc8bf7c18d49cd1b5dd688c23dda70076"), looks := true }, kinds := [], alts := [], laidByText := true, laidKinds := [.data, .data, .data, .data, .sentinel, .sentinel, .data, .data, .data, .data, .pinned], laidTests := true, laidLooks := .later }
def TopOwnCardSaid : Prop := Claim7.holds Tryz.pinned (.plain (OpenSpec.ofChange topOwnSpec)) topOwnCard

/-- THE SECOND FORM's CARD OF 'donjontop.TopOwn'. -/
def topOwnUptoCard : Claim7 := { stood := { row := topOwnUptoRow, standIns := [], harness := (true, "2f8a0f3b99512857bc70db14a7346fffc8bf7c18d49cd1b5dd688c23dda70076"), looks := true }, kinds := [], alts := [], laidByText := true, laidKinds := [.data, .data, .data, .data, .sentinel, .sentinel, .data, .data, .data, .data, .pinned], laidTests := true, laidLooks := .later }
def TopOwnUptoCardSaid : Prop := Claim7.holds Tryz.pinned (.plain (OpenSpec.upto topOwnSpec)) topOwnUptoCard
end Rows
end Go.Proofs.YteelnoablpdhbaaGreatDoor

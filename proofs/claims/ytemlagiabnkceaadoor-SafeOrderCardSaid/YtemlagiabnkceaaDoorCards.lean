/-
  DERIVED. GIVEN WITH THE SEED: THE CARDS: each row of YtemlagiabnkceaaDoorRows.lean that lists a variable, with what it lists TIED to the program's text (the seventh form; the later family's looks); each row that meets fmt, with fmt's text TOLD by the authors' own Lean function (tested against real Go, not proved from fmt's source: count such statements apart). THE CARD IS WHAT COUNTS. Prove the row's statement (the work); the ties are given (YtemlagiabnkceaaDoorTie.lean); close each card by the builder's one call (the guide's Derived/Test/ToyasCard.lean, 'card_holds'). Laid BY PROGRAM, IN A SANDBOX (cutbox-door.mjs). By AI agents, Wed Nov 11 2026. No macro, syntax, notation, axiom, sorry.
-/
import Derived.Test.YtemlagiabnkceaaDoorRows
import GoSem.ClaimSeven
namespace Go.Proofs.YtemlagiabnkceaaDoor
namespace Rows

/-- THE TIED CARD OF 'donjonlaw17.SafeOrder'. -/
def safeOrderCard : Claim7 := { stood := { row := safeOrderRow, standIns := [], harness := (true, "2588365c753d5cc36f016c3c4d5b2f34fd68648653d08e1472e9084321f56af6"), looks := false }, kinds := [], alts := [], laidByText := true, laidKinds := [.data, .data], laidTests := true, laidLooks := .later }
def SafeOrderCardSaid : Prop := Claim7.holds Tryd.pinned (.plain (OpenSpec.ofChange safeOrderSpec)) safeOrderCard

/-- THE SECOND FORM's CARD OF 'donjonlaw17.SafeOrder'. -/
def safeOrderUptoCard : Claim7 := { stood := { row := safeOrderUptoRow, standIns := [], harness := (true, "2588365c753d5cc36f016c3c4d5b2f34fd68648653d08e1472e9084321f56af6"), looks := false }, kinds := [], alts := [], laidByText := true, laidKinds := [.data, .data], laidTests := true, laidLooks := .later }
def SafeOrderUptoCardSaid : Prop := Claim7.holds Tryd.pinned (.plain (OpenSpec.upto safeOrderSpec)) safeOrderUptoCard
end Rows
end Go.Proofs.YtemlagiabnkceaaDoor

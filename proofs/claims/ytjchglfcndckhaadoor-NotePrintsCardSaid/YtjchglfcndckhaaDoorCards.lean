/-
  DERIVED. GIVEN WITH THE SEED: THE CARDS: each row of YtjchglfcndckhaaDoorRows.lean that lists a variable, with what it lists TIED to the program's text (the seventh form; the later family's looks); each row that meets fmt, with fmt's text TOLD by the authors' own Lean function (tested against real Go, not proved from fmt's source: count such statements apart). THE CARD IS WHAT COUNTS. Prove the row's statement (the work); the ties are given (YtjchglfcndckhaaDoorTie.lean); close each card by the builder's one call (the guide's Derived/Test/ToyasCard.lean, 'card_holds'). Laid BY PROGRAM, IN A SANDBOX (cutbox-door.mjs). By AI agents, Wed Nov 11 2026. No macro, syntax, notation, axiom, sorry.
-/
import Derived.Test.YtjchglfcndckhaaDoorRows
import GoSem.ClaimSeven
namespace Go.Proofs.YtjchglfcndckhaaDoor
namespace Rows

/-- THE TIED CARD OF 'donjonlaw03.NotePrints'. -/
def notePrintsCard : Claim7 := { stood := { row := notePrintsRow, standIns := [], harness := (true, "09c642c721732eb29377f5f37458a3939adf1fa64f769e67490c4a5833b23fed"), looks := false }, kinds := [], alts := [], laidByText := true, laidKinds := [.data, .data, .data, .data, .data], laidTests := true, laidLooks := .later }
def NotePrintsCardSaid : Prop := Claim7.holds Tryd.pinned (.plain (OpenSpec.ofChange notePrintsSpec)) notePrintsCard

/-- THE TIED CARD OF 'donjonlaw03.NoteMore'. -/
def noteMoreCard : Claim7 := { stood := { row := noteMoreRow, standIns := [], harness := (true, "09c642c721732eb29377f5f37458a3939adf1fa64f769e67490c4a5833b23fed"), looks := false }, kinds := [], alts := [], laidByText := true, laidKinds := [.data, .data, .data, .data, .data], laidTests := true, laidLooks := .later }
def NoteMoreCardSaid : Prop := Claim7.holds Tryd.pinned (.plain (OpenSpec.ofChange noteMoreSpec)) noteMoreCard

/-- THE TIED CARD OF 'donjonlaw03.NoteChecks'. -/
def noteChecksCard : Claim7 := { stood := { row := noteChecksRow, standIns := [], harness := (true, "09c642c721732eb29377f5f37458a3939adf1fa64f769e67490c4a5833b23fed"), looks := false }, kinds := [], alts := [], laidByText := true, laidKinds := [.data, .data, .data, .data, .data], laidTests := true, laidLooks := .later }
def NoteChecksCardSaid : Prop := Claim7.holds Tryd.pinned (.plain (OpenSpec.ofChange noteChecksSpec)) noteChecksCard

/-- THE TIED CARD OF 'donjonlaw03.NoteOne'. -/
def noteOneCard : Claim7 := { stood := { row := noteOneRow, standIns := [], harness := (true, "09c642c721732eb29377f5f37458a3939adf1fa64f769e67490c4a5833b23fed"), looks := false }, kinds := [], alts := [], laidByText := true, laidKinds := [.data, .data, .data, .data, .data], laidTests := true, laidLooks := .later }
def NoteOneCardSaid : Prop := Claim7.holds Tryd.pinned (.plain (OpenSpec.ofChange noteOneSpec)) noteOneCard

/-- THE SECOND FORM's CARD OF 'donjonlaw03.NotePrints'. -/
def notePrintsUptoCard : Claim7 := { stood := { row := notePrintsUptoRow, standIns := [], harness := (true, "09c642c721732eb29377f5f37458a3939adf1fa64f769e67490c4a5833b23fed"), looks := false }, kinds := [], alts := [], laidByText := true, laidKinds := [.data, .data, .data, .data, .data], laidTests := true, laidLooks := .later }
def NotePrintsUptoCardSaid : Prop := Claim7.holds Tryd.pinned (.plain (OpenSpec.upto notePrintsSpec)) notePrintsUptoCard

/-- THE SECOND FORM's CARD OF 'donjonlaw03.NoteMore'. -/
def noteMoreUptoCard : Claim7 := { stood := { row := noteMoreUptoRow, standIns := [], harness := (true, "09c642c721732eb29377f5f37458a3939adf1fa64f769e67490c4a5833b23fed"), looks := false }, kinds := [], alts := [], laidByText := true, laidKinds := [.data, .data, .data, .data, .data], laidTests := true, laidLooks := .later }
def NoteMoreUptoCardSaid : Prop := Claim7.holds Tryd.pinned (.plain (OpenSpec.upto noteMoreSpec)) noteMoreUptoCard

/-- THE SECOND FORM's CARD OF 'donjonlaw03.NoteChecks'. -/
def noteChecksUptoCard : Claim7 := { stood := { row := noteChecksUptoRow, standIns := [], harness := (true, "09c642c721732eb29377f5f37458a3939adf1fa64f769e67490c4a5833b23fed"), looks := false }, kinds := [], alts := [], laidByText := true, laidKinds := [.data, .data, .data, .data, .data], laidTests := true, laidLooks := .later }
def NoteChecksUptoCardSaid : Prop := Claim7.holds Tryd.pinned (.plain (OpenSpec.upto noteChecksSpec)) noteChecksUptoCard

/-- THE SECOND FORM's CARD OF 'donjonlaw03.NoteOne'. -/
def noteOneUptoCard : Claim7 := { stood := { row := noteOneUptoRow, standIns := [], harness := (true, "09c642c721732eb29377f5f37458a3939adf1fa64f769e67490c4a5833b23fed"), looks := false }, kinds := [], alts := [], laidByText := true, laidKinds := [.data, .data, .data, .data, .data], laidTests := true, laidLooks := .later }
def NoteOneUptoCardSaid : Prop := Claim7.holds Tryd.pinned (.plain (OpenSpec.upto noteOneSpec)) noteOneUptoCard
end Rows
end Go.Proofs.YtjchglfcndckhaaDoor

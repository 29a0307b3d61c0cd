/-
  DERIVED. GIVEN WITH THE SEED: THE CARDS: each row of YtngdhjebbhjokaaDoorRows.lean that lists a variable, with what it lists TIED to the program's text (the seventh form; the later family's looks); each row that meets fmt, with fmt's text TOLD by the authors' own Lean function (tested against real Go, not proved from fmt's source: count such statements apart). THE CARD IS WHAT COUNTS. Prove the row's statement (the work); the ties are given (YtngdhjebbhjokaaDoorTie.lean); close each card by the builder's one call (the guide's Derived/Test/ToyasCard.lean, 'card_holds'). Laid BY PROGRAM, IN A SANDBOX (cutbox-door.mjs). By AI agents, Wed Nov 11 2026. No macro, syntax, notation, axiom, sorry.
-/
import Derived.Test.YtngdhjebbhjokaaDoorRows
import GoSem.ClaimSeven
namespace Go.Proofs.YtngdhjebbhjokaaDoor
namespace Rows

/-- THE TIED CARD OF 'donjonlaw10.IsaPrints'. -/
def isaPrintsCard : Claim7 := { stood := { row := isaPrintsRow, standIns := [], harness := (true, "88bc37414bc606aec7788cd26e61206ebf68f01e90b0270915478c9e60690175"), looks := true }, kinds := [], alts := [], laidByText := true, laidKinds := [.data, .data, .data, .data, .sentinel, .sentinel, .data, .pinned], laidTests := true, laidLooks := .later }
def IsaPrintsCardSaid : Prop := Claim7.holds Tryd.pinned (.plain (OpenSpec.ofChange isaPrintsSpec)) isaPrintsCard

/-- THE TIED CARD OF 'donjonlaw10.IsaBack'. -/
def isaBackCard : Claim7 := { stood := { row := isaBackRow, standIns := [], harness := (true, "88bc37414bc606aec7788cd26e61206ebf68f01e90b0270915478c9e60690175"), looks := true }, kinds := [], alts := [], laidByText := true, laidKinds := [.data, .data, .data, .data, .sentinel, .sentinel, .data, .pinned], laidTests := true, laidLooks := .later }
def IsaBackCardSaid : Prop := Claim7.holds Tryd.pinned (.plain (OpenSpec.ofChange isaBackSpec)) isaBackCard

/-- THE TIED CARD OF 'donjonlaw10.IsaWorse'. -/
def isaWorseCard : Claim7 := { stood := { row := isaWorseRow, standIns := [], harness := (true, "88bc37414bc606aec7788cd26e61206ebf68f01e90b0270915478c9e60690175"), looks := true }, kinds := [], alts := [], laidByText := true, laidKinds := [.data, .data, .data, .data, .sentinel, .sentinel, .data, .pinned], laidTests := true, laidLooks := .later }
def IsaWorseCardSaid : Prop := Claim7.holds Tryd.pinned (.plain (OpenSpec.ofChange isaWorseSpec)) isaWorseCard

/-- THE TIED CARD OF 'donjonlaw10.IsaParts'. -/
def isaPartsCard : Claim7 := { stood := { row := isaPartsRow, standIns := [], harness := (true, "88bc37414bc606aec7788cd26e61206ebf68f01e90b0270915478c9e60690175"), looks := true }, kinds := [], alts := [], laidByText := true, laidKinds := [.data, .data, .data, .data, .sentinel, .sentinel, .data, .pinned], laidTests := true, laidLooks := .later }
def IsaPartsCardSaid : Prop := Claim7.holds Tryd.pinned (.plain (OpenSpec.ofChange isaPartsSpec)) isaPartsCard

/-- THE SECOND FORM's CARD OF 'donjonlaw10.IsaPrints'. -/
def isaPrintsUptoCard : Claim7 := { stood := { row := isaPrintsUptoRow, standIns := [], harness := (true, "88bc37414bc606aec7788cd26e61206ebf68f01e90b0270915478c9e60690175"), looks := true }, kinds := [], alts := [], laidByText := true, laidKinds := [.data, .data, .data, .data, .sentinel, .sentinel, .data, .pinned], laidTests := true, laidLooks := .later }
def IsaPrintsUptoCardSaid : Prop := Claim7.holds Tryd.pinned (.plain (OpenSpec.upto isaPrintsSpec)) isaPrintsUptoCard

/-- THE SECOND FORM's CARD OF 'donjonlaw10.IsaBack'. -/
def isaBackUptoCard : Claim7 := { stood := { row := isaBackUptoRow, standIns := [], harness := (true, "88bc37414bc606aec7788cd26e61206ebf68f01e90b0270915478c9e60690175"), looks := true }, kinds := [], alts := [], laidByText := true, laidKinds := [.data, .data, .data, .data, .sentinel, .sentinel, .data, .pinned], laidTests := true, laidLooks := .later }
def IsaBackUptoCardSaid : Prop := Claim7.holds Tryd.pinned (.plain (OpenSpec.upto isaBackSpec)) isaBackUptoCard

/-- THE SECOND FORM's CARD OF 'donjonlaw10.IsaWorse'. -/
def isaWorseUptoCard : Claim7 := { stood := { row := isaWorseUptoRow, standIns := [], harness := (true, "88bc37414bc606aec7788cd26e61206ebf68f01e90b0270915478c9e60690175"), looks := true }, kinds := [], alts := [], laidByText := true, laidKinds := [.data, .data, .data, .data, .sentinel, .sentinel, .data, .pinned], laidTests := true, laidLooks := .later }
def IsaWorseUptoCardSaid : Prop := Claim7.holds Tryd.pinned (.plain (OpenSpec.upto isaWorseSpec)) isaWorseUptoCard

/-- THE SECOND FORM's CARD OF 'donjonlaw10.IsaParts'. -/
def isaPartsUptoCard : Claim7 := { stood := { row := isaPartsUptoRow, standIns := [], harness := (true, "88bc37414bc606aec7788cd26e61206ebf68f01e90b0270915478c9e60690175"), looks := true }, kinds := [], alts := [], laidByText := true, laidKinds := [.data, .data, .data, .data, .sentinel, .sentinel, .data, .pinned], laidTests := true, laidLooks := .later }
def IsaPartsUptoCardSaid : Prop := Claim7.holds Tryd.pinned (.plain (OpenSpec.upto isaPartsSpec)) isaPartsUptoCard
end Rows
end Go.Proofs.YtngdhjebbhjokaaDoor

/-
  DERIVED. GIVEN WITH THE SEED: THE CARDS: each row of YtcjlkjeeifemhaaGreatDoorRows.lean that lists a variable, with what it lists TIED to the program's text (the seventh form; the later family's looks); each row that meets fmt, with fmt's text TOLD by the authors' own Lean function (tested against real Go, not proved from fmt's source: count such statements apart). THE CARD IS WHAT COUNTS. Prove the row's statement (the work); the ties are given (YtcjlkjeeifemhaaGreatDoorTie.lean); close each card by the builder's one call (the guide's Derived/Test/ToyasCard.lean, 'card_holds'). Laid BY PROGRAM, IN A SANDBOX (cutbox-door.mjs). By AI agents, Wed Nov 11 2026. No macro, syntax, notation, axiom, sorry.
-/
import Derived.Test.YtcjlkjeeifemhaaGreatDoorRows
import GoSem.ClaimSeven
namespace Go.Proofs.YtcjlkjeeifemhaaGreatDoor
namespace Rows

/-- THE TIED CARD OF 'donjonlaw20.ScriptEvent'. -/
def scriptEventCard : Claim7 := { stood := { row := scriptEventRow, standIns := [], harness := (true, "5e9e56761286c3aadce469dc2a1492c7a5a62f37ec5b2d2902d03c1d8436e06c"), looks := true }, kinds := [], alts := [], laidByText := true, laidKinds := [.data, .data, .data, .data, .sentinel, .sentinel, .data, .data, .data, .data, .pinned], laidTests := true, laidLooks := .later }
def ScriptEventCardSaid : Prop := Claim7.holds Tryz.pinned (.plain (OpenSpec.ofChange scriptEventSpec)) scriptEventCard

/-- THE TIED CARD OF 'donjonlaw20.ScriptRuns'. -/
def scriptRunsCard : Claim7 := { stood := { row := scriptRunsRow, standIns := [], harness := (true, "5e9e56761286c3aadce469dc2a1492c7a5a62f37ec5b2d2902d03c1d8436e06c"), looks := true }, kinds := [], alts := [], laidByText := true, laidKinds := [.data, .data, .data, .data, .sentinel, .sentinel, .data, .data, .data, .data, .pinned], laidTests := true, laidLooks := .later }
def ScriptRunsCardSaid : Prop := Claim7.holds Tryz.pinned (.plain (OpenSpec.ofChange scriptRunsSpec)) scriptRunsCard

/-- THE TIED CARD OF 'donjonlaw20.ScriptBegins'. -/
def scriptBeginsCard : Claim7 := { stood := { row := scriptBeginsRow, standIns := [], harness := (true, "5e9e56761286c3aadce469dc2a1492c7a5a62f37ec5b2d2902d03c1d8436e06c"), looks := true }, kinds := [], alts := [], laidByText := true, laidKinds := [.data, .data, .data, .data, .sentinel, .sentinel, .data, .data, .data, .data, .pinned], laidTests := true, laidLooks := .later }
def ScriptBeginsCardSaid : Prop := Claim7.holds Tryz.pinned (.plain (OpenSpec.ofChange scriptBeginsSpec)) scriptBeginsCard

/-- THE TIED CARD OF 'donjonlaw20.ScriptBack'. -/
def scriptBackCard : Claim7 := { stood := { row := scriptBackRow, standIns := [], harness := (true, "5e9e56761286c3aadce469dc2a1492c7a5a62f37ec5b2d2902d03c1d8436e06c"), looks := true }, kinds := [], alts := [], laidByText := true, laidKinds := [.data, .data, .data, .data, .sentinel, .sentinel, .data, .data, .data, .data, .pinned], laidTests := true, laidLooks := .later }
def ScriptBackCardSaid : Prop := Claim7.holds Tryz.pinned (.plain (OpenSpec.ofChange scriptBackSpec)) scriptBackCard

/-- THE TIED CARD OF 'donjontop.TopSizes'. -/
def topSizesCard : Claim7 := { stood := { row := topSizesRow, standIns := [], harness := (true, "5e9e56761286c3aadce469dc2a1492c7a5a62f37ec5b2d2902d03c1d8436e06c"), looks := true }, kinds := [], alts := [], laidByText := true, laidKinds := [.data, .data, .data, .data, .sentinel, .sentinel, .data, .data, .data, .data, .pinned], laidTests := true, laidLooks := .later }
def TopSizesCardSaid : Prop := Claim7.holds Tryz.pinned (.plain (OpenSpec.ofChange topSizesSpec)) topSizesCard

/-- THE TIED CARD OF 'donjontop.TopOwn'. -/
def topOwnCard : Claim7 := { stood := { row := topOwnRow, standIns := [], harness := (true, "5e9e56761286c3aadce469dc2a1492c7a5a62f37ec5b2d2902d03c1d8436e06c"), looks := true }, kinds := [], alts := [], laidByText := true, laidKinds := [.data, .data, .data, .data, .sentinel, .sentinel, .data, .data, .data, .data, .pinned], laidTests := true, laidLooks := .later }
def TopOwnCardSaid : Prop := Claim7.holds Tryz.pinned (.plain (OpenSpec.ofChange topOwnSpec)) topOwnCard

/-- THE SECOND FORM's CARD OF 'donjonlaw20.ScriptEvent'. -/
def scriptEventUptoCard : Claim7 := { stood := { row := scriptEventUptoRow, standIns := [], harness := (true, "5e9e56761286c3aadce469dc2a1492c7a5a62f37ec5b2d2902d03c1d8436e06c"), looks := true }, kinds := [], alts := [], laidByText := true, laidKinds := [.data, .data, .data, .data, .sentinel, .sentinel, .data, .data, .data, .data, .pinned], laidTests := true, laidLooks := .later }
def ScriptEventUptoCardSaid : Prop := Claim7.holds Tryz.pinned (.plain (OpenSpec.upto scriptEventSpec)) scriptEventUptoCard

/-- THE SECOND FORM's CARD OF 'donjonlaw20.ScriptRuns'. -/
def scriptRunsUptoCard : Claim7 := { stood := { row := scriptRunsUptoRow, standIns := [], harness := (true, "5e9e56761286c3aadce469dc2a1492c7a5a62f37ec5b2d2902d03c1d8436e06c"), looks := true }, kinds := [], alts := [], laidByText := true, laidKinds := [.data, .data, .data, .data, .sentinel, .sentinel, .data, .data, .data, .data, .pinned], laidTests := true, laidLooks := .later }
def ScriptRunsUptoCardSaid : Prop := Claim7.holds Tryz.pinned (.plain (OpenSpec.upto scriptRunsSpec)) scriptRunsUptoCard

/-- THE SECOND FORM's CARD OF 'donjonlaw20.ScriptBegins'. -/
def scriptBeginsUptoCard : Claim7 := { stood := { row := scriptBeginsUptoRow, standIns := [], harness := (true, "5e9e56761286c3aadce469dc2a1492c7a5a62f37ec5b2d2902d03c1d8436e06c"), looks := true }, kinds := [], alts := [], laidByText := true, laidKinds := [.data, .data, .data, .data, .sentinel, .sentinel, .data, .data, .data, .data, .pinned], laidTests := true, laidLooks := .later }
def ScriptBeginsUptoCardSaid : Prop := Claim7.holds Tryz.pinned (.plain (OpenSpec.upto scriptBeginsSpec)) scriptBeginsUptoCard

/-- THE SECOND FORM's CARD OF 'donjonlaw20.ScriptBack'. -/
def scriptBackUptoCard : Claim7 := { stood := { row := scriptBackUptoRow, standIns := [], harness := (true, "5e9e56761286c3aadce469dc2a1492c7a5a62f37ec5b2d2902d03c1d8436e06c"), looks := true }, kinds := [], alts := [], laidByText := true, laidKinds := [.data, .data, .data, .data, .sentinel, .sentinel, .data, .data, .data, .data, .pinned], laidTests := true, laidLooks := .later }
def ScriptBackUptoCardSaid : Prop := Claim7.holds Tryz.pinned (.plain (OpenSpec.upto scriptBackSpec)) scriptBackUptoCard

/-- THE SECOND FORM's CARD OF 'donjontop.TopSizes'. -/
def topSizesUptoCard : Claim7 := { stood := { row := topSizesUptoRow, standIns := [], harness := (true, "5e9e56761286c3aadce469dc2a1492c7a5a62f37ec5b2d2902d03c1d8436e06c"), looks := true }, kinds := [], alts := [], laidByText := true, laidKinds := [.data, .data, .data, .data, .sentinel, .sentinel, .data, .data, .data, .data, .pinned], laidTests := true, laidLooks := .later }
def TopSizesUptoCardSaid : Prop := Claim7.holds Tryz.pinned (.plain (OpenSpec.upto topSizesSpec)) topSizesUptoCard

/-- THE SECOND FORM's CARD OF 'donjontop.TopOwn'. -/
def topOwnUptoCard : Claim7 := { stood := { row := topOwnUptoRow, standIns := [], harness := (true, "5e9e56761286c3aadce469dc2a1492c7a5a62f37ec5b2d2902d03c1d8436e06c"), looks := true }, kinds := [], alts := [], laidByText := true, laidKinds := [.data, .data, .data, .data, .sentinel, .sentinel, .data, .data, .data, .data, .pinned], laidTests := true, laidLooks := .later }
def TopOwnUptoCardSaid : Prop := Claim7.holds Tryz.pinned (.plain (OpenSpec.upto topOwnSpec)) topOwnUptoCard
end Rows
end Go.Proofs.YtcjlkjeeifemhaaGreatDoor

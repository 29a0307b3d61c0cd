/-
  DERIVED. GIVEN WITH THE SEED: THE CARDS: each row of YtajjljbmfdboaaaGreatDoorRows.lean that lists a variable, with what it lists TIED to the program's text (the seventh form; the later family's looks); each row that meets fmt, with fmt's text TOLD by the authors' own Lean function (tested against real Go, not proved from fmt's source: count such statements apart). THE CARD IS WHAT COUNTS. Prove the row's statement (the work); the ties are given (YtajjljbmfdboaaaGreatDoorTie.lean); close each card by the builder's one call (the guide's Derived/Test/ToyasCard.lean, 'card_holds'). Laid BY PROGRAM, IN A SANDBOX (cutbox-door.mjs). By AI agents, Wed Nov 11 2026. No macro, syntax, notation, axiom, sorry.
-/
import Derived.Test.YtajjljbmfdboaaaGreatDoorRows
import GoSem.ClaimSeven
namespace Go.Proofs.YtajjljbmfdboaaaGreatDoor
namespace Rows

/-- THE TIED CARD OF 'donjonlaw16.MachineNil'. -/
def machineNilCard : Claim7 := { stood := { row := machineNilRow, standIns := [], harness := (true, "b22a31e0ab9e4235e1f2f63de0b50fccb8e3b007ad8a7441379c2f91d7255f0b"), looks := false }, kinds := [], alts := [], laidByText := true, laidKinds := [.data, .data, .data, .data], laidTests := true, laidLooks := .later }
def MachineNilCardSaid : Prop := Claim7.holds Tryz.pinned (.plain (OpenSpec.ofChange machineNilSpec)) machineNilCard

/-- THE TIED CARD OF 'donjonlaw19.FairNil'. -/
def fairNilCard : Claim7 := { stood := { row := fairNilRow, standIns := [], harness := (true, "b22a31e0ab9e4235e1f2f63de0b50fccb8e3b007ad8a7441379c2f91d7255f0b"), looks := false }, kinds := [], alts := [], laidByText := true, laidKinds := [.data, .data, .data, .data], laidTests := true, laidLooks := .later }
def FairNilCardSaid : Prop := Claim7.holds Tryz.pinned (.plain (OpenSpec.ofChange fairNilSpec)) fairNilCard

/-- THE TIED CARD OF 'donjonlaw16.MachineNews'. -/
def machineNewsCard : Claim7 := { stood := { row := machineNewsRow, standIns := [], harness := (true, "b22a31e0ab9e4235e1f2f63de0b50fccb8e3b007ad8a7441379c2f91d7255f0b"), looks := false }, kinds := [], alts := [], laidByText := true, laidKinds := [.data, .data, .data, .data], laidTests := true, laidLooks := .later }
def MachineNewsCardSaid : Prop := Claim7.holds Tryz.pinned (.plain (OpenSpec.ofChange machineNewsSpec)) machineNewsCard

/-- THE TIED CARD OF 'donjonlaw16.MachineCopies'. -/
def machineCopiesCard : Claim7 := { stood := { row := machineCopiesRow, standIns := [], harness := (true, "b22a31e0ab9e4235e1f2f63de0b50fccb8e3b007ad8a7441379c2f91d7255f0b"), looks := false }, kinds := [], alts := [], laidByText := true, laidKinds := [.data, .data, .data, .data], laidTests := true, laidLooks := .later }
def MachineCopiesCardSaid : Prop := Claim7.holds Tryz.pinned (.plain (OpenSpec.ofChange machineCopiesSpec)) machineCopiesCard

/-- THE TIED CARD OF 'donjonlaw16.MachineMany'. -/
def machineManyCard : Claim7 := { stood := { row := machineManyRow, standIns := [], harness := (true, "b22a31e0ab9e4235e1f2f63de0b50fccb8e3b007ad8a7441379c2f91d7255f0b"), looks := false }, kinds := [], alts := [], laidByText := true, laidKinds := [.data, .data, .data, .data], laidTests := true, laidLooks := .later }
def MachineManyCardSaid : Prop := Claim7.holds Tryz.pinned (.plain (OpenSpec.ofChange machineManySpec)) machineManyCard

/-- THE TIED CARD OF 'donjonlaw16.MachineProgram'. -/
def machineProgramCard : Claim7 := { stood := { row := machineProgramRow, standIns := [], harness := (true, "b22a31e0ab9e4235e1f2f63de0b50fccb8e3b007ad8a7441379c2f91d7255f0b"), looks := false }, kinds := [], alts := [], laidByText := true, laidKinds := [.data, .data, .data, .data], laidTests := true, laidLooks := .later }
def MachineProgramCardSaid : Prop := Claim7.holds Tryz.pinned (.plain (OpenSpec.ofChange machineProgramSpec)) machineProgramCard

/-- THE TIED CARD OF 'donjonlaw16.MachineWaits'. -/
def machineWaitsCard : Claim7 := { stood := { row := machineWaitsRow, standIns := [], harness := (true, "b22a31e0ab9e4235e1f2f63de0b50fccb8e3b007ad8a7441379c2f91d7255f0b"), looks := false }, kinds := [], alts := [], laidByText := true, laidKinds := [.data, .data, .data, .data], laidTests := true, laidLooks := .later }
def MachineWaitsCardSaid : Prop := Claim7.holds Tryz.pinned (.plain (OpenSpec.ofChange machineWaitsSpec)) machineWaitsCard

/-- THE TIED CARD OF 'donjonlaw16.MachineMemory'. -/
def machineMemoryCard : Claim7 := { stood := { row := machineMemoryRow, standIns := [], harness := (true, "b22a31e0ab9e4235e1f2f63de0b50fccb8e3b007ad8a7441379c2f91d7255f0b"), looks := false }, kinds := [], alts := [], laidByText := true, laidKinds := [.data, .data, .data, .data], laidTests := true, laidLooks := .later }
def MachineMemoryCardSaid : Prop := Claim7.holds Tryz.pinned (.plain (OpenSpec.ofChange machineMemorySpec)) machineMemoryCard

/-- THE TIED CARD OF 'donjonlaw19.FairFew'. -/
def fairFewCard : Claim7 := { stood := { row := fairFewRow, standIns := [], harness := (true, "b22a31e0ab9e4235e1f2f63de0b50fccb8e3b007ad8a7441379c2f91d7255f0b"), looks := false }, kinds := [], alts := [], laidByText := true, laidKinds := [.data, .data, .data, .data], laidTests := true, laidLooks := .later }
def FairFewCardSaid : Prop := Claim7.holds Tryz.pinned (.plain (OpenSpec.ofChange fairFewSpec)) fairFewCard

/-- THE TIED CARD OF 'donjonlaw19.FairEnds'. -/
def fairEndsCard : Claim7 := { stood := { row := fairEndsRow, standIns := [], harness := (true, "b22a31e0ab9e4235e1f2f63de0b50fccb8e3b007ad8a7441379c2f91d7255f0b"), looks := false }, kinds := [], alts := [], laidByText := true, laidKinds := [.data, .data, .data, .data], laidTests := true, laidLooks := .later }
def FairEndsCardSaid : Prop := Claim7.holds Tryz.pinned (.plain (OpenSpec.ofChange fairEndsSpec)) fairEndsCard

/-- THE TIED CARD OF 'donjonlaw18.ReplayTells'. -/
def replayTellsCard : Claim7 := { stood := { row := replayTellsRow, standIns := [], harness := (true, "b22a31e0ab9e4235e1f2f63de0b50fccb8e3b007ad8a7441379c2f91d7255f0b"), looks := false }, kinds := [], alts := [], laidByText := true, laidKinds := [.data, .data, .data, .data], laidTests := true, laidLooks := .later }
def ReplayTellsCardSaid : Prop := Claim7.holds Tryz.pinned (.plain (OpenSpec.ofChange replayTellsSpec)) replayTellsCard

/-- THE TIED CARD OF 'donjonlaw18.ReplayTurns'. -/
def replayTurnsCard : Claim7 := { stood := { row := replayTurnsRow, standIns := [], harness := (true, "b22a31e0ab9e4235e1f2f63de0b50fccb8e3b007ad8a7441379c2f91d7255f0b"), looks := false }, kinds := [], alts := [], laidByText := true, laidKinds := [.data, .data, .data, .data], laidTests := true, laidLooks := .later }
def ReplayTurnsCardSaid : Prop := Claim7.holds Tryz.pinned (.plain (OpenSpec.ofChange replayTurnsSpec)) replayTurnsCard

/-- THE SECOND FORM's CARD OF 'donjonlaw16.MachineNil'. -/
def machineNilUptoCard : Claim7 := { stood := { row := machineNilUptoRow, standIns := [], harness := (true, "b22a31e0ab9e4235e1f2f63de0b50fccb8e3b007ad8a7441379c2f91d7255f0b"), looks := false }, kinds := [], alts := [], laidByText := true, laidKinds := [.data, .data, .data, .data], laidTests := true, laidLooks := .later }
def MachineNilUptoCardSaid : Prop := Claim7.holds Tryz.pinned (.plain (OpenSpec.upto machineNilSpec)) machineNilUptoCard

/-- THE SECOND FORM's CARD OF 'donjonlaw19.FairNil'. -/
def fairNilUptoCard : Claim7 := { stood := { row := fairNilUptoRow, standIns := [], harness := (true, "b22a31e0ab9e4235e1f2f63de0b50fccb8e3b007ad8a7441379c2f91d7255f0b"), looks := false }, kinds := [], alts := [], laidByText := true, laidKinds := [.data, .data, .data, .data], laidTests := true, laidLooks := .later }
def FairNilUptoCardSaid : Prop := Claim7.holds Tryz.pinned (.plain (OpenSpec.upto fairNilSpec)) fairNilUptoCard

/-- THE SECOND FORM's CARD OF 'donjonlaw16.MachineNews'. -/
def machineNewsUptoCard : Claim7 := { stood := { row := machineNewsUptoRow, standIns := [], harness := (true, "b22a31e0ab9e4235e1f2f63de0b50fccb8e3b007ad8a7441379c2f91d7255f0b"), looks := false }, kinds := [], alts := [], laidByText := true, laidKinds := [.data, .data, .data, .data], laidTests := true, laidLooks := .later }
def MachineNewsUptoCardSaid : Prop := Claim7.holds Tryz.pinned (.plain (OpenSpec.upto machineNewsSpec)) machineNewsUptoCard

/-- THE SECOND FORM's CARD OF 'donjonlaw16.MachineCopies'. -/
def machineCopiesUptoCard : Claim7 := { stood := { row := machineCopiesUptoRow, standIns := [], harness := (true, "b22a31e0ab9e4235e1f2f63de0b50fccb8e3b007ad8a7441379c2f91d7255f0b"), looks := false }, kinds := [], alts := [], laidByText := true, laidKinds := [.data, .data, .data, .data], laidTests := true, laidLooks := .later }
def MachineCopiesUptoCardSaid : Prop := Claim7.holds Tryz.pinned (.plain (OpenSpec.upto machineCopiesSpec)) machineCopiesUptoCard

/-- THE SECOND FORM's CARD OF 'donjonlaw16.MachineMany'. -/
def machineManyUptoCard : Claim7 := { stood := { row := machineManyUptoRow, standIns := [], harness := (true, "b22a31e0ab9e4235e1f2f63de0b50fccb8e3b007ad8a7441379c2f91d7255f0b"), looks := false }, kinds := [], alts := [], laidByText := true, laidKinds := [.data, .data, .data, .data], laidTests := true, laidLooks := .later }
def MachineManyUptoCardSaid : Prop := Claim7.holds Tryz.pinned (.plain (OpenSpec.upto machineManySpec)) machineManyUptoCard

/-- THE SECOND FORM's CARD OF 'donjonlaw16.MachineProgram'. -/
def machineProgramUptoCard : Claim7 := { stood := { row := machineProgramUptoRow, standIns := [], harness := (true, "b22a31e0ab9e4235e1f2f63de0b50fccb8e3b007ad8a7441379c2f91d7255f0b"), looks := false }, kinds := [], alts := [], laidByText := true, laidKinds := [.data, .data, .data, .data], laidTests := true, laidLooks := .later }
def MachineProgramUptoCardSaid : Prop := Claim7.holds Tryz.pinned (.plain (OpenSpec.upto machineProgramSpec)) machineProgramUptoCard

/-- THE SECOND FORM's CARD OF 'donjonlaw16.MachineWaits'. -/
def machineWaitsUptoCard : Claim7 := { stood := { row := machineWaitsUptoRow, standIns := [], harness := (true, "b22a31e0ab9e4235e1f2f63de0b50fccb8e3b007ad8a7441379c2f91d7255f0b"), looks := false }, kinds := [], alts := [], laidByText := true, laidKinds := [.data, .data, .data, .data], laidTests := true, laidLooks := .later }
def MachineWaitsUptoCardSaid : Prop := Claim7.holds Tryz.pinned (.plain (OpenSpec.upto machineWaitsSpec)) machineWaitsUptoCard

/-- THE SECOND FORM's CARD OF 'donjonlaw16.MachineMemory'. -/
def machineMemoryUptoCard : Claim7 := { stood := { row := machineMemoryUptoRow, standIns := [], harness := (true, "b22a31e0ab9e4235e1f2f63de0b50fccb8e3b007ad8a7441379c2f91d7255f0b"), looks := false }, kinds := [], alts := [], laidByText := true, laidKinds := [.data, .data, .data, .data], laidTests := true, laidLooks := .later }
def MachineMemoryUptoCardSaid : Prop := Claim7.holds Tryz.pinned (.plain (OpenSpec.upto machineMemorySpec)) machineMemoryUptoCard

/-- THE SECOND FORM's CARD OF 'donjonlaw19.FairFew'. -/
def fairFewUptoCard : Claim7 := { stood := { row := fairFewUptoRow, standIns := [], harness := (true, "b22a31e0ab9e4235e1f2f63de0b50fccb8e3b007ad8a7441379c2f91d7255f0b"), looks := false }, kinds := [], alts := [], laidByText := true, laidKinds := [.data, .data, .data, .data], laidTests := true, laidLooks := .later }
def FairFewUptoCardSaid : Prop := Claim7.holds Tryz.pinned (.plain (OpenSpec.upto fairFewSpec)) fairFewUptoCard

/-- THE SECOND FORM's CARD OF 'donjonlaw19.FairEnds'. -/
def fairEndsUptoCard : Claim7 := { stood := { row := fairEndsUptoRow, standIns := [], harness := (true, "b22a31e0ab9e4235e1f2f63de0b50fccb8e3b007ad8a7441379c2f91d7255f0b"), looks := false }, kinds := [], alts := [], laidByText := true, laidKinds := [.data, .data, .data, .data], laidTests := true, laidLooks := .later }
def FairEndsUptoCardSaid : Prop := Claim7.holds Tryz.pinned (.plain (OpenSpec.upto fairEndsSpec)) fairEndsUptoCard

/-- THE SECOND FORM's CARD OF 'donjonlaw18.ReplayTells'. -/
def replayTellsUptoCard : Claim7 := { stood := { row := replayTellsUptoRow, standIns := [], harness := (true, "b22a31e0ab9e4235e1f2f63de0b50fccb8e3b007ad8a7441379c2f91d7255f0b"), looks := false }, kinds := [], alts := [], laidByText := true, laidKinds := [.data, .data, .data, .data], laidTests := true, laidLooks := .later }
def ReplayTellsUptoCardSaid : Prop := Claim7.holds Tryz.pinned (.plain (OpenSpec.upto replayTellsSpec)) replayTellsUptoCard

/-- THE SECOND FORM's CARD OF 'donjonlaw18.ReplayTurns'. -/
def replayTurnsUptoCard : Claim7 := { stood := { row := replayTurnsUptoRow, standIns := [], harness := (true, "b22a31e0ab9e4235e1f2f63de0b50fccb8e3b007ad8a7441379c2f91d7255f0b"), looks := false }, kinds := [], alts := [], laidByText := true, laidKinds := [.data, .data, .data, .data], laidTests := true, laidLooks := .later }
def ReplayTurnsUptoCardSaid : Prop := Claim7.holds Tryz.pinned (.plain (OpenSpec.upto replayTurnsSpec)) replayTurnsUptoCard
end Rows
end Go.Proofs.YtajjljbmfdboaaaGreatDoor

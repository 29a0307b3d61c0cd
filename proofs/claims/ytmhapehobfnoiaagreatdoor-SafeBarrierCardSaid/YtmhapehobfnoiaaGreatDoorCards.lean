/-
  DERIVED. GIVEN WITH THE SEED: THE CARDS: each row of YtmhapehobfnoiaaGreatDoorRows.lean that lists a variable, with what it lists TIED to the program's text (the seventh form; the later family's looks); each row that meets fmt, with fmt's text TOLD by the authors' own Lean function (tested against real Go, not proved from fmt's source: count such statements apart). THE CARD IS WHAT COUNTS. Prove the row's statement (the work); the ties are given (YtmhapehobfnoiaaGreatDoorTie.lean); close each card by the builder's one call (the guide's Derived/Test/ToyasCard.lean, 'card_holds'). Laid BY PROGRAM, IN A SANDBOX (cutbox-door.mjs). By AI agents, Wed Nov 11 2026. No macro, syntax, notation, axiom, sorry.
-/
import Derived.Test.YtmhapehobfnoiaaGreatDoorRows
import GoSem.ClaimSeven
namespace Go.Proofs.YtmhapehobfnoiaaGreatDoor
namespace Rows

/-- THE TIED CARD OF 'donjonlaw16.MachineNews'. -/
def machineNewsCard : Claim7 := { stood := { row := machineNewsRow, standIns := [], harness := (true, "ec427a933bf625866ce61c35bc60ef2414534eca1df083477db74438fb7ab51d"), looks := false }, kinds := [], alts := [], laidByText := true, laidKinds := [.data, .data, .data, .data], laidTests := true, laidLooks := .later }
def MachineNewsCardSaid : Prop := Claim7.holds Tryz.pinned (.plain (OpenSpec.ofChange machineNewsSpec)) machineNewsCard

/-- THE TIED CARD OF 'donjonlaw16.MachineMany'. -/
def machineManyCard : Claim7 := { stood := { row := machineManyRow, standIns := [], harness := (true, "ec427a933bf625866ce61c35bc60ef2414534eca1df083477db74438fb7ab51d"), looks := false }, kinds := [], alts := [], laidByText := true, laidKinds := [.data, .data, .data, .data], laidTests := true, laidLooks := .later }
def MachineManyCardSaid : Prop := Claim7.holds Tryz.pinned (.plain (OpenSpec.ofChange machineManySpec)) machineManyCard

/-- THE TIED CARD OF 'donjonlaw16.MachineCopies'. -/
def machineCopiesCard : Claim7 := { stood := { row := machineCopiesRow, standIns := [], harness := (true, "ec427a933bf625866ce61c35bc60ef2414534eca1df083477db74438fb7ab51d"), looks := false }, kinds := [], alts := [], laidByText := true, laidKinds := [.data, .data, .data, .data], laidTests := true, laidLooks := .later }
def MachineCopiesCardSaid : Prop := Claim7.holds Tryz.pinned (.plain (OpenSpec.ofChange machineCopiesSpec)) machineCopiesCard

/-- THE TIED CARD OF 'donjonlaw17.SafeSizes'. -/
def safeSizesCard : Claim7 := { stood := { row := safeSizesRow, standIns := [], harness := (true, "ec427a933bf625866ce61c35bc60ef2414534eca1df083477db74438fb7ab51d"), looks := false }, kinds := [], alts := [], laidByText := true, laidKinds := [.data, .data, .data, .data], laidTests := true, laidLooks := .later }
def SafeSizesCardSaid : Prop := Claim7.holds Tryz.pinned (.plain (OpenSpec.ofChange safeSizesSpec)) safeSizesCard

/-- THE TIED CARD OF 'donjonlaw17.SafeBarrier'. -/
def safeBarrierCard : Claim7 := { stood := { row := safeBarrierRow, standIns := [], harness := (true, "ec427a933bf625866ce61c35bc60ef2414534eca1df083477db74438fb7ab51d"), looks := false }, kinds := [], alts := [], laidByText := true, laidKinds := [.data, .data, .data, .data], laidTests := true, laidLooks := .later }
def SafeBarrierCardSaid : Prop := Claim7.holds Tryz.pinned (.plain (OpenSpec.ofChange safeBarrierSpec)) safeBarrierCard

/-- THE TIED CARD OF 'donjonlaw19.FairEnds'. -/
def fairEndsCard : Claim7 := { stood := { row := fairEndsRow, standIns := [], harness := (true, "ec427a933bf625866ce61c35bc60ef2414534eca1df083477db74438fb7ab51d"), looks := false }, kinds := [], alts := [], laidByText := true, laidKinds := [.data, .data, .data, .data], laidTests := true, laidLooks := .later }
def FairEndsCardSaid : Prop := Claim7.holds Tryz.pinned (.plain (OpenSpec.ofChange fairEndsSpec)) fairEndsCard

/-- THE SECOND FORM's CARD OF 'donjonlaw16.MachineNews'. -/
def machineNewsUptoCard : Claim7 := { stood := { row := machineNewsUptoRow, standIns := [], harness := (true, "ec427a933bf625866ce61c35bc60ef2414534eca1df083477db74438fb7ab51d"), looks := false }, kinds := [], alts := [], laidByText := true, laidKinds := [.data, .data, .data, .data], laidTests := true, laidLooks := .later }
def MachineNewsUptoCardSaid : Prop := Claim7.holds Tryz.pinned (.plain (OpenSpec.upto machineNewsSpec)) machineNewsUptoCard

/-- THE SECOND FORM's CARD OF 'donjonlaw16.MachineMany'. -/
def machineManyUptoCard : Claim7 := { stood := { row := machineManyUptoRow, standIns := [], harness := (true, "ec427a933bf625866ce61c35bc60ef2414534eca1df083477db74438fb7ab51d"), looks := false }, kinds := [], alts := [], laidByText := true, laidKinds := [.data, .data, .data, .data], laidTests := true, laidLooks := .later }
def MachineManyUptoCardSaid : Prop := Claim7.holds Tryz.pinned (.plain (OpenSpec.upto machineManySpec)) machineManyUptoCard

/-- THE SECOND FORM's CARD OF 'donjonlaw16.MachineCopies'. -/
def machineCopiesUptoCard : Claim7 := { stood := { row := machineCopiesUptoRow, standIns := [], harness := (true, "ec427a933bf625866ce61c35bc60ef2414534eca1df083477db74438fb7ab51d"), looks := false }, kinds := [], alts := [], laidByText := true, laidKinds := [.data, .data, .data, .data], laidTests := true, laidLooks := .later }
def MachineCopiesUptoCardSaid : Prop := Claim7.holds Tryz.pinned (.plain (OpenSpec.upto machineCopiesSpec)) machineCopiesUptoCard

/-- THE SECOND FORM's CARD OF 'donjonlaw17.SafeSizes'. -/
def safeSizesUptoCard : Claim7 := { stood := { row := safeSizesUptoRow, standIns := [], harness := (true, "ec427a933bf625866ce61c35bc60ef2414534eca1df083477db74438fb7ab51d"), looks := false }, kinds := [], alts := [], laidByText := true, laidKinds := [.data, .data, .data, .data], laidTests := true, laidLooks := .later }
def SafeSizesUptoCardSaid : Prop := Claim7.holds Tryz.pinned (.plain (OpenSpec.upto safeSizesSpec)) safeSizesUptoCard

/-- THE SECOND FORM's CARD OF 'donjonlaw17.SafeBarrier'. -/
def safeBarrierUptoCard : Claim7 := { stood := { row := safeBarrierUptoRow, standIns := [], harness := (true, "ec427a933bf625866ce61c35bc60ef2414534eca1df083477db74438fb7ab51d"), looks := false }, kinds := [], alts := [], laidByText := true, laidKinds := [.data, .data, .data, .data], laidTests := true, laidLooks := .later }
def SafeBarrierUptoCardSaid : Prop := Claim7.holds Tryz.pinned (.plain (OpenSpec.upto safeBarrierSpec)) safeBarrierUptoCard

/-- THE SECOND FORM's CARD OF 'donjonlaw19.FairEnds'. -/
def fairEndsUptoCard : Claim7 := { stood := { row := fairEndsUptoRow, standIns := [], harness := (true, "ec427a933bf625866ce61c35bc60ef2414534eca1df083477db74438fb7ab51d"), looks := false }, kinds := [], alts := [], laidByText := true, laidKinds := [.data, .data, .data, .data], laidTests := true, laidLooks := .later }
def FairEndsUptoCardSaid : Prop := Claim7.holds Tryz.pinned (.plain (OpenSpec.upto fairEndsSpec)) fairEndsUptoCard
end Rows
end Go.Proofs.YtmhapehobfnoiaaGreatDoor

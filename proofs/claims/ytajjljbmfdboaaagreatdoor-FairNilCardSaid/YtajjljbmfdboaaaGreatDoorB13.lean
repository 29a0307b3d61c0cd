/- Closed facts of the program, one by one. -/
import Derived.Test.YtajjljbmfdboaaaGreatDoorB12
section
namespace Go.Proofs.YtajjljbmfdboaaaGreatDoor
open Go Go.Ab Go.RowKit
set_option maxRecDepth 100000
theorem andB {a b : Bool} (ha : a = true) (hb : b = true) : (a && b) = true := by rw [ha, hb]; rfl
theorem p_maps : mapsRowed Tryz.prog = true := by kernel_rfl
theorem p_stops : (Tryz.prog.stops == []) = true := by kernel_rfl
theorem p_knobs : (Tryz.prog.stopKnobs == []) = true := by kernel_rfl
theorem p_plain : (Rows.machineNilRow.plainKeys == Tryz.prog.plainKeys) = true := by kernel_rfl
theorem p_heard : Tryz.prog.stopsHeard = true := by kernel_rfl
theorem p_enter : Tryz.prog.mayEnter = true := by kernel_rfl
theorem p_lifts : (Rows.machineNilRow.lifted == Tryz.prog.liftsFinal) = true := by kernel_rfl
theorem p_make : (Tryz.prog.make == some Rows.machineNilRow.make) = true := by kernel_rfl
theorem p_main : Tryz.prog.mainIs = some (Rows.machineNilCard.stood.harness.1, Rows.machineNilCard.stood.harness.2.toList) := by kernel_rfl
theorem p_looks : false = Tryz.prog.looks [] := by kernel_rfl
end Go.Proofs.YtajjljbmfdboaaaGreatDoor
end

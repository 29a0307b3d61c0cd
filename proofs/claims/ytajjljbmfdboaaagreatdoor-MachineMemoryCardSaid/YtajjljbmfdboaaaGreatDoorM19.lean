/- A part of the proof. -/
import Derived.Test.YtajjljbmfdboaaaGreatDoorM18
namespace Go.Proofs.YtajjljbmfdboaaaGreatDoor
open Go Go.Ab Go.RowKit
section
set_option maxRecDepth 100000
theorem nX {a b:Bool} (c:a=true) (hb:b=true):(a&&b)=true:=by rw[c,hb];rfl
theorem aE8:mapsRowed Tryz.prog=true:=by kernel_rfl
theorem aAi:(Tryz.prog.stops==[])=true:=by kernel_rfl
theorem aAg:(Tryz.prog.stopKnobs==[])=true:=by kernel_rfl
theorem aBb:(Rows.machineNilRow.plainKeys==Tryz.prog.plainKeys)=true:=by kernel_rfl
theorem ze:Tryz.prog.stopsHeard=true:=by kernel_rfl
theorem aB5:Tryz.prog.mayEnter=true:=by kernel_rfl
theorem aBr:(Rows.machineNilRow.lifted==Tryz.prog.liftsFinal)=true:=by kernel_rfl
theorem aFv:(Tryz.prog.make==some Rows.machineNilRow.make)=true:=by kernel_rfl
theorem aF6:Tryz.prog.mainIs=some (Rows.machineNilCard.stood.harness.1,Rows.machineNilCard.stood.harness.2.toList):=by kernel_rfl
theorem z7:false=Tryz.prog.looks []:=by kernel_rfl
end
end Go.Proofs.YtajjljbmfdboaaaGreatDoor

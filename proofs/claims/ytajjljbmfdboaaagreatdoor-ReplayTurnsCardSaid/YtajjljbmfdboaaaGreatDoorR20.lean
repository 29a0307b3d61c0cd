/- A part of the proof. -/
import Derived.Test.YtajjljbmfdboaaaGreatDoorR19
namespace Go.Proofs.YtajjljbmfdboaaaGreatDoor
open Go Go.Ab Go.RowKit
section
set_option maxRecDepth 100000
theorem fP {a b:Bool} (c:a=true) (hb:b=true):(a&&b)=true:=by rw[c,hb];rfl
theorem xv:mapsRowed Tryz.prog=true:=by kernel_rfl
theorem Zf:(Tryz.prog.stops==[])=true:=by kernel_rfl
theorem Zx:(Tryz.prog.stopKnobs==[])=true:=by kernel_rfl
theorem Y9:(Rows.machineNilRow.plainKeys==Tryz.prog.plainKeys)=true:=by kernel_rfl
theorem Zy:Tryz.prog.stopsHeard=true:=by kernel_rfl
theorem bt:Tryz.prog.mayEnter=true:=by kernel_rfl
theorem Zj:(Rows.machineNilRow.lifted==Tryz.prog.liftsFinal)=true:=by kernel_rfl
theorem xh:(Tryz.prog.make==some Rows.machineNilRow.make)=true:=by kernel_rfl
theorem w8:Tryz.prog.mainIs=some (Rows.machineNilCard.stood.harness.1,Rows.machineNilCard.stood.harness.2.toList):=by kernel_rfl
theorem Y5:false=Tryz.prog.looks []:=by kernel_rfl
end
end Go.Proofs.YtajjljbmfdboaaaGreatDoor

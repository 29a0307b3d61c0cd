/- A part of the proof. -/
import Derived.Test.YtajjljbmfdboaaaGreatDoorP20
section
namespace Go.Proofs.YtajjljbmfdboaaaGreatDoor
open Go Go.Ab Go.RowKit
set_option maxRecDepth 100000
theorem eX {a b:Bool} (ha:a=true) (hb:b=true):(a&&b)=true:=by rw[ha,hb];rfl
theorem ny:mapsRowed Tryz.prog=true:=by kernel_rfl
theorem X0:(Tryz.prog.stops==[])=true:=by kernel_rfl
theorem Xs:(Tryz.prog.stopKnobs==[])=true:=by kernel_rfl
theorem Y5:(Rows.machineNilRow.plainKeys==Tryz.prog.plainKeys)=true:=by kernel_rfl
theorem Y7:Tryz.prog.stopsHeard=true:=by kernel_rfl
theorem Xk:Tryz.prog.mayEnter=true:=by kernel_rfl
theorem Xc:(Rows.machineNilRow.lifted==Tryz.prog.liftsFinal)=true:=by kernel_rfl
theorem nc:(Tryz.prog.make==some Rows.machineNilRow.make)=true:=by kernel_rfl
theorem km:Tryz.prog.mainIs=some (Rows.machineNilCard.stood.harness.1,Rows.machineNilCard.stood.harness.2.toList):=by kernel_rfl
theorem Yl:false=Tryz.prog.looks []:=by kernel_rfl
end Go.Proofs.YtajjljbmfdboaaaGreatDoor
end

/- A part of the proof. -/
import Derived.Test.YtmhapehobfnoiaaGreatDoorQ16
namespace Go.Proofs.YtmhapehobfnoiaaGreatDoor
open Go Go.Ab Go.RowKit
section
set_option maxRecDepth 100000
theorem dM {a b:Bool} (c:a=true) (hb:b=true):(a&&b)=true:=by rw[c,hb];rfl
theorem Yc:mapsRowed Tryz.prog=true:=by kernel_rfl
theorem Sw:(Tryz.prog.stops==[])=true:=by kernel_rfl
theorem Su:(Tryz.prog.stopKnobs==[])=true:=by kernel_rfl
theorem Ro:(Rows.machineNewsRow.plainKeys==Tryz.prog.plainKeys)=true:=by kernel_rfl
theorem Rf:Tryz.prog.stopsHeard=true:=by kernel_rfl
theorem Rn:Tryz.prog.mayEnter=true:=by kernel_rfl
theorem Sg:(Rows.machineNewsRow.lifted==Tryz.prog.liftsFinal)=true:=by kernel_rfl
theorem Z4:(Tryz.prog.make==some Rows.machineNewsRow.make)=true:=by kernel_rfl
theorem Yw:Tryz.prog.mainIs=some (Rows.machineNewsCard.stood.harness.1,Rows.machineNewsCard.stood.harness.2.toList):=by kernel_rfl
theorem Qp:false=Tryz.prog.looks []:=by kernel_rfl
end
end Go.Proofs.YtmhapehobfnoiaaGreatDoor

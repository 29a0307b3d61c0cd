/- A part of the proof. -/
import Derived.Test.YtmhapehobfnoiaaGreatDoorN15
namespace Go.Proofs.YtmhapehobfnoiaaGreatDoor
open Go Go.Ab Go.RowKit
section
set_option maxRecDepth 100000
theorem jE {a b:Bool} (c:a=true) (hb:b=true):(a&&b)=true:=by rw[c,hb];rfl
theorem vd:mapsRowed Tryz.prog=true:=by kernel_rfl
theorem j2:(Tryz.prog.stops==[])=true:=by kernel_rfl
theorem me:(Tryz.prog.stopKnobs==[])=true:=by kernel_rfl
theorem ml:(Rows.machineNewsRow.plainKeys==Tryz.prog.plainKeys)=true:=by kernel_rfl
theorem mz:Tryz.prog.stopsHeard=true:=by kernel_rfl
theorem py:Tryz.prog.mayEnter=true:=by kernel_rfl
theorem oa:(Rows.machineNewsRow.lifted==Tryz.prog.liftsFinal)=true:=by kernel_rfl
theorem vn:(Tryz.prog.make==some Rows.machineNewsRow.make)=true:=by kernel_rfl
theorem ud:Tryz.prog.mainIs=some (Rows.machineNewsCard.stood.harness.1,Rows.machineNewsCard.stood.harness.2.toList):=by kernel_rfl
theorem mq:false=Tryz.prog.looks []:=by kernel_rfl
end
end Go.Proofs.YtmhapehobfnoiaaGreatDoor

/- A part of the proof. -/
import Derived.Test.YtcjlkjeeifemhaaGreatDoorE12
namespace Go.Proofs.YtcjlkjeeifemhaaGreatDoor
open Go Go.Ab Go.RowKit
section
set_option maxRecDepth 100000
theorem dE {a b:Bool} (c:a=true) (d:b=true):(a&&b)=true:=by rw[c,d];rfl
theorem F9:mapsRowed Tryz.prog=true:=by kernel_rfl
theorem Dh:(Tryz.prog.stops==[])=true:=by kernel_rfl
theorem D0:(Tryz.prog.stopKnobs==[])=true:=by kernel_rfl
theorem Dm:(Rows.scriptEventRow.plainKeys==Tryz.prog.plainKeys)=true:=by kernel_rfl
theorem C8:Tryz.prog.stopsHeard=true:=by kernel_rfl
theorem Du:Tryz.prog.mayEnter=true:=by kernel_rfl
theorem Dq:(Rows.scriptEventRow.lifted==Tryz.prog.liftsFinal)=true:=by kernel_rfl
theorem Gb:(Tryz.prog.make==some Rows.scriptEventRow.make)=true:=by kernel_rfl
theorem Fp:Tryz.prog.mainIs=some (Rows.scriptEventCard.stood.harness.1,Rows.scriptEventCard.stood.harness.2.toList):=by kernel_rfl
theorem Dt:true=Tryz.prog.looks []:=by kernel_rfl
end
end Go.Proofs.YtcjlkjeeifemhaaGreatDoor

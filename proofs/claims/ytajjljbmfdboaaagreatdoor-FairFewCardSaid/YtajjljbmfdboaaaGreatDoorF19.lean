/- A part of the proof. -/
import Derived.Test.YtajjljbmfdboaaaGreatDoorF18
section
namespace Go.Proofs.YtajjljbmfdboaaaGreatDoor
open Go Go.Ab Go.RowKit
set_option maxRecDepth 100000
theorem mD {a b:Bool} (ha:a=true) (hb:b=true):(a&&b)=true:=by rw[ha,hb];rfl
theorem zn:mapsRowed Tryz.prog=true:=by kernel_rfl
theorem xb:(Tryz.prog.stops==[])=true:=by kernel_rfl
theorem uu:(Tryz.prog.stopKnobs==[])=true:=by kernel_rfl
theorem vz:(Rows.machineNilRow.plainKeys==Tryz.prog.plainKeys)=true:=by kernel_rfl
theorem th:Tryz.prog.stopsHeard=true:=by kernel_rfl
theorem ub:Tryz.prog.mayEnter=true:=by kernel_rfl
theorem xe:(Rows.machineNilRow.lifted==Tryz.prog.liftsFinal)=true:=by kernel_rfl
theorem aBv:(Tryz.prog.make==some Rows.machineNilRow.make)=true:=by kernel_rfl
theorem zr:Tryz.prog.mainIs=some (Rows.machineNilCard.stood.harness.1,Rows.machineNilCard.stood.harness.2.toList):=by kernel_rfl
theorem yc:false=Tryz.prog.looks []:=by kernel_rfl
end Go.Proofs.YtajjljbmfdboaaaGreatDoor
end
section
namespace Go.Proofs.YtajjljbmfdboaaaGreatDoor
open Go Go.Ab
set_option maxRecDepth 100000
variable (e0:TypeId) (z0:Nat×Nat) (e1:TypeId) (z1:Nat×Nat) (e2:TypeId) (z2:Nat×Nat) (e3:TypeId) (z3:Nat×Nat)
theorem Rc:((T6 Pr K1 8000 (.call 29 []) (st4 e0 z0 e1 z1 e2 z2 e3 z3)).any fun r=>mS r.1.v (.bool true))=true:=by kernel_rfl
end Go.Proofs.YtajjljbmfdboaaaGreatDoor
end

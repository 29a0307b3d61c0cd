/- A part of the proof. -/
import Derived.Test.YtcjlkjeeifemhaaGreatDoorE9
namespace Go.Proofs.YtcjlkjeeifemhaaGreatDoor
open Go Go.Ab
section
set_option maxRecDepth 100000
variable (e0:TypeId) (z0:Nat×Nat) (e1:TypeId) (z1:Nat×Nat)
theorem tI:((Ae Pr K0 8000 (.call 12 []) (Fq e0 z0 e1 z1)).any fun r=>iC r.1.v (.bool true))=true:=by kernel_rfl
end
end Go.Proofs.YtcjlkjeeifemhaaGreatDoor

/- A part of the proof. -/
import Derived.Test.YtajjljbmfdboaaaGreatDoorP20
section
namespace Go.Proofs.YtajjljbmfdboaaaGreatDoor
open Go Go.Ab
set_option maxRecDepth 100000
variable (e0:TypeId) (z0:Nat×Nat) (e1:TypeId) (z1:Nat×Nat) (e2:TypeId) (z2:Nat×Nat) (e3:TypeId) (z3:Nat×Nat)
theorem Tl:((Vf Pr K1 8000 (.call 25 []) (st4 e0 z0 e1 z1 e2 z2 e3 z3)).any fun r=>mB r.1.v (.bool true))=true:=by kernel_rfl
end Go.Proofs.YtajjljbmfdboaaaGreatDoor
end

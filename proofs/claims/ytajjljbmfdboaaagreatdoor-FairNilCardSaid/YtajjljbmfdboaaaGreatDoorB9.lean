/- A nil machine: the laws' runs. -/
import Derived.Test.YtajjljbmfdboaaaGreatDoorB7
section
namespace Go.Proofs.YtajjljbmfdboaaaGreatDoor
open Go Go.Ab
set_option maxRecDepth 100000
variable (e0 : TypeId) (z0 : Nat × Nat) (e1 : TypeId) (z1 : Nat × Nat) (e2 : TypeId) (z2 : Nat × Nat) (e3 : TypeId) (z3 : Nat × Nat)
theorem facts_run : factsRun Pr K0 3000 (st4 e0 z0 e1 z1 e2 z2 e3 z3) facts = true := by kernel_rfl
end Go.Proofs.YtajjljbmfdboaaaGreatDoor
end
section
namespace Go.Proofs.YtajjljbmfdboaaaGreatDoor
open Go Go.Ab
set_option maxRecDepth 100000
variable (e0 : TypeId) (z0 : Nat × Nat) (e1 : TypeId) (z1 : Nat × Nat) (e2 : TypeId) (z2 : Nat × Nat) (e3 : TypeId) (z3 : Nat × Nat)
theorem machineNil_run (a b c d : Int) : ((runF Pr (addK K1 25 (.bool true)) 1000 (.call 3 [.agg ⟨[I a, I b, I c, I d]⟩]) (st4 e0 z0 e1 z1 e2 z2 e3 z3)).any fun r => veq r.1.v (.bool true)) = true := by kernel_rfl
theorem fairNil_run (a : Int) : ((runF Pr (addK K1 29 (.bool true)) 1000 (.call 4 [I a]) (st4 e0 z0 e1 z1 e2 z2 e3 z3)).any fun r => veq r.1.v (.bool true)) = true := by kernel_rfl
end Go.Proofs.YtajjljbmfdboaaaGreatDoor
end

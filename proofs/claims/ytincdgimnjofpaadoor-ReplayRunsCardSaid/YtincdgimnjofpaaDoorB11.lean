/- The chapter's example: run once. -/
import Derived.Test.YtincdgimnjofpaaDoorB6
import Derived.Test.YtincdgimnjofpaaDoorB7
import Derived.Test.YtincdgimnjofpaaDoorB5
import Derived.Test.YtincdgimnjofpaaDoorB4
section
namespace Go.Proofs.YtincdgimnjofpaaDoor
open Go Go.Ab Go.Hm Go.Is
set_option maxRecDepth 100000
def glR (e0 : TypeId) (z0 : Nat × Nat) (e1 : TypeId) (z1 : Nat × Nat) : Nat → Option Blk := fun i => if i = 0 then some (.cells limE e0 z0 true) else if i = 1 then some (.cells opsE e1 z1 true) else none
theorem awake_run (e0 : TypeId) (z0 : Nat × Nat) (e1 : TypeId) (z1 : Nat × Nat) : ((runF Pr K0 5000 (.call 5 []) (Go.Ab.start 2 (oldOf 2 (glR e0 z0 e1 z1) []))).any fun r => veq r.1.v (.bool true)) = true := by kernel_rfl
theorem globals2 : Pr.globals.size = 2 := by kernel_rfl
end Go.Proofs.YtincdgimnjofpaaDoor
end

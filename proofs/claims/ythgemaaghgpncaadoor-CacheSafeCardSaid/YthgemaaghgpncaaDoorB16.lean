/- A part of the proof. -/
import Derived.Test.YthgemaaghgpncaaDoorB6
import Derived.Test.YthgemaaghgpncaaDoorB4
import Derived.Test.YthgemaaghgpncaaDoorB7
import Derived.Test.YthgemaaghgpncaaDoorB8
section
namespace Go.Proofs.YthgemaaghgpncaaDoor
open Go Go.Ab Go.Hm Go.Ct
set_option maxRecDepth 100000
def Re (e0:TypeId) (z0:Nat×Nat) (e1:TypeId) (z1:Nat×Nat):Nat→Option jN:=fun i=>if i=0 then some (.cells eJ e0 z0 true) else if i=1 then some (.cells cK e1 z1 true) else none
theorem Ov (e0:TypeId) (z0:Nat×Nat) (e1:TypeId) (z1:Nat×Nat):((R2 Pr K0 5000 (.call 5 []) (Go.Ab.start 2 (qZ 2 (Re e0 z0 e1 z1) []))).any fun r=>mL r.1.v (.bool true))=true:=by kernel_rfl
end Go.Proofs.YthgemaaghgpncaaDoor
end

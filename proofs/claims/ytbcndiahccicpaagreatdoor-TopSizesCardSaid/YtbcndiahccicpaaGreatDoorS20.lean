/- A part of the proof. -/
import Derived.Test.YtbcndiahccicpaaGreatDoorS15
set_option linter.all false
set_option maxRecDepth 100000
open Go Go.Ab
namespace Go.Proofs.Z
variable (a b c d:Bool) (E:Nat->TypeId) (Z:Nat->Nat×Nat)
def bBk:((run Pr K0 2000 (.call 17 [.agg ⟨dk⟩,.agg ⟨aS 12⟩])<|Xx LB E Z).any fun r=>wM r.1.v<|.tuple ⟨[.agg ⟨[I 0,I 0]⟩,I 0]⟩)=true:=FU
def bBt:((run Pr K0 2000 (.call 20 [.agg ⟨cH⟩,Pa 0])<|Xx (LA a b c d) E Z).any fun r=>wM r.1.v<|.bool true)=true:=FU
end Go.Proofs.Z

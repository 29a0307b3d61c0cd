/- A part of the proof. -/
import Derived.Test.YteelnoablpdhbaaGreatDoorO13
import Derived.Test.YteelnoablpdhbaaGreatDoorO10
set_option linter.all false
set_option maxRecDepth 100000
open Go Go.Ab
namespace Go.Proofs.Z
section
variable (a b c d:Bool) (E:Nat->TypeId) (Z:Nat->Nat×Nat)
def aRb:((P8 Pr K0 2000 (.call 23 [.agg ⟨cH⟩,Pa 0])<|Md (LA a b c d) E Z).any fun r=>rZ r.1.v<|.bool true)=true:=EU
def aW4:((run Pr K0 2000 (.call 23 [.agg ⟨cH⟩,Pa 0])<|Md (LA a b c d) E Z).any fun r=>rZ r.1.v<|.bool true)=true:=Ly<|aRb a b c d E Z
end
variable (E:Nat->TypeId) (Z:Nat->Nat×Nat)
def aSl:((P8 Pr K0 2000 (.call 21 [.agg ⟨Qy⟩,.agg ⟨aS false⟩])<|Md LB E Z).any fun r=>rZ r.1.v<|.tuple ⟨[.agg ⟨[I 0,I 0]⟩,I 0]⟩)=true:=EU
def aSu:((P8 Pr K0 2000 (.call 21 [.agg ⟨Qy⟩,.agg ⟨aS true⟩])<|Md LB E Z).any fun r=>rZ r.1.v<|.tuple ⟨[.agg ⟨[I 0,I 0]⟩,I 0]⟩)=true:=EU
def aVu (a:Bool):((run Pr K0 2000 (.call 21 [.agg ⟨Qy⟩,.agg ⟨aS a⟩])<|Md LB E Z).any fun r=>rZ r.1.v<|.tuple ⟨[.agg ⟨[I 0,I 0]⟩,I 0]⟩)=true:=by
 refine Ly ?_;cases a;exact aSl E Z;exact aSu E Z
end Go.Proofs.Z

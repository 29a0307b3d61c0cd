/- A part of the proof. -/
import Derived.Test.YtbcndiahccicpaaGreatDoorS15
set_option linter.all false
set_option maxRecDepth 100000
open Go Go.Ab
namespace Go.Proofs.Z
variable (a b c d:Bool) (E:Nat->TypeId) (Z:Nat->Nat×Nat)
noncomputable def ml:Bool:=(run Pr K0 2000 (.call 18 [Pa 0])<|Xx (LA a b c d) E Z).any fun r=>(unB false r.1.v).any fun e=>aJ0 (LA a b c d).length e (aS 0) bS (aMg e) r.2
def s0:ml false false false false E Z=true:=FU
def s1:ml false false false true E Z=true:=FU
def s2:ml false false true false E Z=true:=FU
def s3:ml false false true true E Z=true:=FU
def s4:ml false true false false E Z=true:=FU
def s5:ml false true false true E Z=true:=FU
def s6:ml false true true false E Z=true:=FU
def s7:ml false true true true E Z=true:=FU
def s8:ml true false false false E Z=true:=FU
def s9:ml true false false true E Z=true:=FU
def s10:ml true false true false E Z=true:=FU
def s11:ml true false true true E Z=true:=FU
def s12:ml true true false false E Z=true:=FU
def s13:ml true true false true E Z=true:=FU
def s14:ml true true true false E Z=true:=FU
def s15:ml true true true true E Z=true:=FU
def bBq:ml a b c d E Z=true:=by
 cases a<;>cases b<;>cases c<;>cases d;exact s0 E Z;exact s1 E Z;exact s2 E Z;exact s3 E Z;exact s4 E Z;exact s5 E Z;exact s6 E Z;exact s7 E Z;exact s8 E Z;exact s9 E Z;exact s10 E Z;exact s11 E Z;exact s12 E Z;exact s13 E Z;exact s14 E Z;exact s15 E Z
end Go.Proofs.Z

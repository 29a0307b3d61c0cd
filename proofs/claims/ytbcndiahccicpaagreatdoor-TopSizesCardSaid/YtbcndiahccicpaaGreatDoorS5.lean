/- A part of the proof. -/
import Derived.Test.YtbcndiahccicpaaGreatDoorChecked
import Derived.Test.YtbcndiahccicpaaGreatDoorS4
import Derived.KernelRfl
set_option linter.all false
set_option maxRecDepth 100000
open Go Go.Ab
namespace Go.Proofs.Z
noncomputable abbrev Pr:Program:=Tryz.prog
noncomputable def K0:FuncId->FJ->IX:=fun f a=>match f,a with
 |242,[.func (.func 306) ⟨[]⟩ ⟨[.pointer<|some ⟨c,0,none⟩]⟩]=>some (.K7<|Ix 3 c)
 |200,[.iface 304 v,w,l]=>some (.yn 374 [v,w,l])
 |_,_=>none
def xV:Pr.globals.size=12:=FU
end Go.Proofs.Z

/- A part of the proof. -/
import Derived.Test.YtgfankkobgfhnaaGreatDoorChecked
import Derived.Test.YtgfankkobgfhnaaGreatDoorG4
import Derived.KernelRfl
set_option linter.all false
set_option maxRecDepth 100000
open Go Go.Ab
namespace Go.Proofs.Z
noncomputable abbrev Pr:Program:=Tryz.prog
noncomputable def K0:FuncId->EU->IE:=fun f a=>match f,a with
 |55,[.func (.func 90) ⟨[]⟩ ⟨[.pointer<|some ⟨c,0,none⟩]⟩]=>some (.pn<|Iu 3 c)
 |165,[.iface 257 v,w,l]=>some (.fwd 277 [v,w,l])
 |_,_=>none
def aFx:Pr.globals.size=4:=FD
end Go.Proofs.Z

/- A part of the proof. -/
import Derived.Test.YtajjljbmfdboaaaGreatDoorChecked
import Derived.Test.YtajjljbmfdboaaaGreatDoorF5
import Derived.KernelRfl
section
namespace Go.Proofs.YtajjljbmfdboaaaGreatDoor
open Go Go.Ab
set_option maxRecDepth 100000
noncomputable abbrev Pr:Program:=Tryz.prog
noncomputable def K0:FuncId→List Value→Option hJ:=fun f args=>match f,args with
 |122,[.func (.func 170) ⟨[]⟩ ⟨[.pointer (some ⟨c,0,none⟩)]⟩]=>some (.host (yY 3 c))
 |219,[.iface 311 v,w,l]=>some (.fwd 334 [v,w,l])
 |_,_=>none
theorem Sf:Pr.globals.size=4:=by kernel_rfl
end Go.Proofs.YtajjljbmfdboaaaGreatDoor
end

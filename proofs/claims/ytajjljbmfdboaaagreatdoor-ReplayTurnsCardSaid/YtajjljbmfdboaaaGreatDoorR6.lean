/- A part of the proof. -/
import Derived.Test.YtajjljbmfdboaaaGreatDoorChecked
import Derived.Test.YtajjljbmfdboaaaGreatDoorR5
import Derived.KernelRfl
namespace Go.Proofs.YtajjljbmfdboaaaGreatDoor
open Go Go.Ab
section
set_option maxRecDepth 100000
noncomputable abbrev Pr:Program:=Tryz.prog
noncomputable def K0:FuncId->List Value->Option jI:=fun f a=>match f,a with
 |122,[.func (.func 170) ⟨[]⟩ ⟨[.pointer (some ⟨c,0,none⟩)]⟩]=>some (.host (Bo 3 c))
 |219,[.iface 311 v,w,l]=>some (.fwd 334 [v,w,l])
 |_,_=>none
theorem Un:Pr.globals.size=4:=by kernel_rfl
end
end Go.Proofs.YtajjljbmfdboaaaGreatDoor

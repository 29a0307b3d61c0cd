/- A part of the proof. -/
import Derived.Test.YthgemaaghgpncaaDoorChecked
import Derived.Test.YthgemaaghgpncaaDoorB5
import Derived.KernelRfl
section
namespace Go.Proofs.YthgemaaghgpncaaDoor
open Go Go.Ab
set_option maxRecDepth 100000
noncomputable abbrev Pr:Program:=Tryd.prog
noncomputable def K0:FuncId→List Value→Option fM:=fun f args=>match f,args with
 |48,[.iface 25 v,w,l]=>some (.fwd 24 [v,w,l])
 |_,_=>none
theorem I8:Pr.globals.size=2:=by kernel_rfl
end Go.Proofs.YthgemaaghgpncaaDoor
end

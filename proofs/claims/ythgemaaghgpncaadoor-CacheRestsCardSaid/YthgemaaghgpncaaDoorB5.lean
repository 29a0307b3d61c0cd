/- A part of the proof. -/
import Derived.Test.YthgemaaghgpncaaDoorB4
section
namespace Go.Ab
noncomputable section
end
end Go.Ab
end
section
namespace Go.Ab
open Go.RowKit
noncomputable section
variable {P:Program} {K:FuncId→List Value→Option fM}
end
end Go.Ab
end

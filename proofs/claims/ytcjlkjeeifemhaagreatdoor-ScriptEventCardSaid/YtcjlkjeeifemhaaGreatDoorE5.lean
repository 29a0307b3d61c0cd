/- A part of the proof. -/
import Derived.Test.YtcjlkjeeifemhaaGreatDoorE4
section
namespace Go.Ab
noncomputable section
end
end Go.Ab
end
namespace Go.Ab
open Go.RowKit
section
noncomputable section
variable {P:Program} {K:FuncId->List Value->Option bZ}
end
end
end Go.Ab

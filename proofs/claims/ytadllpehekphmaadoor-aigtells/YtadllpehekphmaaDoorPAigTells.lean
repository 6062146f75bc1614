/- Plain law: AigTells. No condition. -/
import Derived.Test.YtadllpehekphmaaDoorPI
namespace Go.Vid
open Go.Vabs
theorem AigTells_true (x0 x1:Aig)(x2:ByteArray)(h0:x0.Wf)(_:x1.Wf)(_:FitsS x2):law06_AigTells x0 x1 x2=some true:=AigTells_all h0
end Go.Vid

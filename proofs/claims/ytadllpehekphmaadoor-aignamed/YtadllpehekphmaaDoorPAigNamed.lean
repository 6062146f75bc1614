/- Plain law: AigNamed. No condition. -/
import Derived.Test.YtadllpehekphmaaDoorPI
namespace Go.Vid
open Go.Vabs
theorem AigNamed_true (x0:Aig)(x1:Name)(x2:ByteArray)(h0:x0.Wf)(h1:x1.Wf)(_:FitsS x2):law06_AigNamed x0 x1 x2=some true:=AigNamed_all h0 h1
end Go.Vid

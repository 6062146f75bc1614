/- Plain law: AigBack. No condition. -/
import Derived.Test.YtadllpehekphmaaDoorPI
namespace Go.Vid
open Go.Vabs
theorem AigBack_true (x0 x1:Aig)(h0:x0.Wf)(h1:x1.Wf):law06_AigBack x0 x1=some true:=AigBack_all h0 h1
end Go.Vid

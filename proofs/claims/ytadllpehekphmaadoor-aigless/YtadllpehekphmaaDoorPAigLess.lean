/- Plain law: AigLess. No condition. -/
import Derived.Test.YtadllpehekphmaaDoorPH
namespace Go.Vid
open Go.Vabs
theorem AigLess_true (x0:Aig) (h0:x0.Wf):law06_AigLess x0=some true:=Less_of shown_true x0 h0
end Go.Vid

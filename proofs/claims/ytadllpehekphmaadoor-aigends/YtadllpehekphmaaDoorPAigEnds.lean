/- Plain law: AigEnds. No condition. -/
import Derived.Test.YtadllpehekphmaaDoorPI
namespace Go.Vid
open Go.Vabs
theorem AigEnds_true (x0:Aig)(x1 x2:Int)(h0:x0.Wf)(h1:Fits .u8 x1)(h2:Fits .u16 x2):law06_AigEnds x0 x1 x2=some true:=AigEnds_all h0 ⟨h1.1,h1.2⟩ ⟨h2.1,h2.2⟩
end Go.Vid

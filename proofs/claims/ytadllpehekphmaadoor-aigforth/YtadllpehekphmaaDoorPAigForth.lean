/- Plain law: AigForth. No condition. -/
import Derived.Test.YtadllpehekphmaaDoorPI
namespace Go.Vid
open Go.Vabs
theorem AigForth_true (x0:List Int)(h0:FitsL 1 (Fits .u8) x0):law06_AigForth x0=some true:=AigForth_all (IsB_of h0)
end Go.Vid

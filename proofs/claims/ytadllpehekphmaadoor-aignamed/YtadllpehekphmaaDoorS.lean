/- Data of a seat's own kinds. No condition. -/
import Derived.Test.YtadllpehekphmaaDoorVW
set_option linter.unusedSimpArgs false
namespace Go.Vid
open Go.Vabs
structure Reader_aig where
 b:List (Int)
 at':Int
@[simp] def Reader_aig.cells (x:Reader_aig):List C:=[sls 1 byteF x.b,C.lit (.int .i64 x.at')]
@[simp] theorem fold47 (q_next:Int)(q_reset:Int)(r:List (List C)):Ob.mk false true 47 2 ([C.lit (.int .i64 q_next),C.lit (.int .i64 q_reset)]::r)=Ob.mk false true 47 2 (cm Latch.cells [⟨q_next,q_reset⟩]++r):=rfl
@[simp] theorem fold53 (q_a:Int)(q_b:Int)(r:List (List C)):Ob.mk false true 53 2 ([C.lit (.int .i64 q_a),C.lit (.int .i64 q_b)]::r)=Ob.mk false true 53 2 (cm And.cells [⟨q_a,q_b⟩]++r):=rfl
@[simp] theorem fold49 (q_kind:Int)(q_pos:Int)(q_s:ByteArray)(r:List (List C)):Ob.mk false true 49 3 ([C.lit (.int .u8 q_kind),C.lit (.int .i64 q_pos),C.lit (.string q_s)]::r)=Ob.mk false true 49 3 (cm Name.cells [⟨q_kind,q_pos,q_s⟩]++r):=rfl
@[simp] theorem foldx49 (x:Name)(r:List (List C)):Ob.mk false true 49 3 (x.cells::r)=Ob.mk false true 49 3 (cm Name.cells [x]++r):=rfl
end Go.Vid

/- What the interpreter comes to where a contract is known; figures. No condition. -/
import Derived.Test.YtadllpehekphmaaDoorK
set_option linter.unusedSimpArgs false
set_option linter.unusedVariables false
set_option maxRecDepth 20000
set_option maxHeartbeats 4000000
namespace Go.Proofs.YtadllpehekphmaaDoor
open Go.Vabs Go.Vid
theorem ev_prim {f:FuncId}{args:List T}{r:T × List Ob}(hK:kt f=none)(hm:marked args=false)(h:Prims.pr f args=some r):ev f args=some r:=evCall_of (by unfold evFn; rw[hm]; unfold evFn0; rw[hK]; exact h)
theorem w_strconv_Itoa (n:Int)(r:ByteArray)(h:strconv_Itoa n=some r):ev 42 [T.c (.lit (.int .i64 n))]=some (T.c (.lit (.string r)),[]):=ev_prim rfl rfl (prItoa_eq h)
theorem w_strings_Join (xs:List ByteArray)(sep:ByteArray)(r:ByteArray)(h:strings_Join xs sep=some r):ev 46 [T.c (sls 1 strF xs),T.c (.lit (.string sep))]=some (T.c (.lit (.string r)),[]):=ev_prim rfl rfl (prJoin_eq h)
theorem w_bld_check0 (r:Unit)(h:bld_check0=some r):ev 45 [T.c (C.ptr 9000 0 0),obT (Ob.mk true true 56 2 [[C.lit (.pointer none),C.lit (.slice none 0 0)]])]=some (T.tup [],[Ob.mk true false 56 2 [[C.ptr 0 0 0,C.lit (.slice none 0 0)]]]):=ev_prim rfl rfl (prCheck0_eq true)
theorem w_bld_check1 (q:List Int)(r:List Int)(h:bld_check1 q=some r):ev 45 [T.c (C.ptr 9000 0 0),obT (Ob.mk true false 56 2 [[C.ptr 9000 0 0,C.ref 19001 0 (lenN q)]]),obT (rowO 5 1 byteF q)]=some (T.tup [],[Ob.mk true false 56 2 [[C.ptr 0 0 0,C.ref 1 0 (lenN r)]],rowO 5 1 byteF r]):=by
 injection h with h;subst h;exact ev_prim rfl rfl (prCheck1_eq false q)
theorem w_strings_Builder_String (q:List Int)(r:ByteArray)(h:strings_Builder_String q=some r):ev 26 [T.c (C.ptr 9000 0 0),obT (Ob.mk true false 56 2 [[C.ptr 9000 0 0,C.ref 19001 0 (lenN q)]]),obT (rowO 5 1 byteF q)]=some (T.c (.lit (.string r)),[Ob.mk true false 56 2 [[C.ptr 0 0 0,C.junk]],Ob.mk false true 5 1 []]):=ev_prim rfl rfl (prStr_eq false q h)
end Go.Proofs.YtadllpehekphmaaDoor

/- What the interpreter comes to where a contract is known; figures. No condition. -/
import Derived.Test.YtadllpehekphmaaDoorK
set_option linter.unusedSimpArgs false
set_option linter.unusedVariables false
set_option maxRecDepth 20000
set_option maxHeartbeats 4000000
namespace Go.Proofs.YtadllpehekphmaaDoor
open Go.Vabs Go.Vid
theorem ev_prim {f:FuncId}{args:List T}{r:T × List Ob}(hK:kt f=none)(hm:marked args=false)(h:Prims.pr f args=some r):ev f args=some r:=evCall_of (by unfold evFn; rw[hm]; unfold evFn0; rw[hK]; exact h)
theorem w_strconv_Itoa (n:Int)(r:ByteArray)(h:strconv_Itoa n=some r):ev 42 [T.c (.lit (.int .i64 n))]=some (T.c (.lit (.string r)),[]):=ev_prim rfl rfl (prItoa_eq h)
theorem w_strings_Join (xs:List ByteArray)(sep:ByteArray)(r:ByteArray)(h:strings_Join xs sep=some r):ev 46 [T.c (sls 1 strF xs),T.c (.lit (.string sep))]=some (T.c (.lit (.string r)),[]):=ev_prim rfl rfl (prJoin_eq h)
theorem w_bld_check0 (r:Unit)(h:bld_check0=some r):ev 45 [T.c (C.ptr 9000 0 0),obT (Ob.mk true true 56 2 [[C.lit (.pointer none),C.lit (.slice none 0 0)]])]=some (T.tup [],[Ob.mk true false 56 2 [[C.ptr 0 0 0,C.lit (.slice none 0 0)]]]):=ev_prim rfl rfl (prCheck0_eq true)
theorem w_bld_check1 (q:List Int)(r:List Int)(h:bld_check1 q=some r):ev 45 [T.c (C.ptr 9000 0 0),obT (Ob.mk true false 56 2 [[C.ptr 9000 0 0,C.ref 19001 0 (lenN q)]]),obT (rowO 5 1 byteF q)]=some (T.tup [],[Ob.mk true false 56 2 [[C.ptr 0 0 0,C.ref 1 0 (lenN r)]],rowO 5 1 byteF r]):=by
 injection h with h;subst h;exact ev_prim rfl rfl (prCheck1_eq false q)
theorem w_strings_Builder_String (q:List Int)(r:ByteArray)(h:strings_Builder_String q=some r):ev 26 [T.c (C.ptr 9000 0 0),obT (Ob.mk true false 56 2 [[C.ptr 9000 0 0,C.ref 19001 0 (lenN q)]]),obT (rowO 5 1 byteF q)]=some (T.c (.lit (.string r)),[Ob.mk true false 56 2 [[C.ptr 0 0 0,C.junk]],Ob.mk false true 5 1 []]):=ev_prim rfl rfl (prStr_eq false q h)
def FigOK (n:Int):Prop:=∀ r,ref03_Figures n=some r→ev 48 [T.c (.lit (.int .i64 n))]=some (T.c (.lit (.string r)),[])
theorem fig_neg (n:Int)(hn:n<0)(ih:FigOK (-n)):FigOK n:=by
 intro r h;unfold ref03_Figures at h
 split at h
 ·rename_i hb;injection h with h;subst h;have e1:ineg .i64 n=-n:=ineg_ok (by omega) (by omega);have h2:ev 48 [T.c (.lit (.int .i64 (ineg .i64 n)))]=some (T.c (.lit (.string (numeral (-n)))),[]):=by
   rw[e1];refine ih _ ?_;unfold ref03_Figures;rw[if_pos (by omega)]
  have c0:ilt n 0=true:=by rw[ilt_iff]; exact hn
  have c3:addOk { data:=#[45] } (numeral (-n))=true:=by
   rw[addOk_iff];have:=numeral_len (n:=-n) (by omega) (by omega);show 1+_≤_;omega
  rw[← numeral_neg hn];refine ev_run' (kp:=k48) (us:=[9]) fn48 rfl rfl rfl rfl rfl (by kernel_rfl) rfl rfl (by simp) ?_;simp;simp[c0];simp[c0,h2];simp[c0,h2,c3];rfl
 ·cases h
theorem fig_one_round (n:Int)(h0:0≤n)(h9:n<10):FigOK n:=by
 intro r h;unfold ref03_Figures at h
 split at h
 ·injection h with h;subst h;have c0:ilt n 0=false:=by rw[Bool.eq_false_iff]; simp; omega
  have c4:ilt n 10=true:=by rw[ilt_iff]; exact h9
  have hr:numeral n=strOf [iconv .u8 (iadd .i64 48 (irem n 10))]:=by
   apply bytesOf_inj;have e1:irem n 10=n:=by unfold irem; rw[Int.tmod_eq_emod_of_nonneg h0]; omega
   have e2:iconv .u8 (48+n)=48+n:=iconvb (by omega) (by omega);rw[e1,iadd_ok (by omega) (by omega),e2,bytesOf_strOf (fun c hc=>by rw[List.mem_singleton] at hc; omega),bytes_numeral,if_neg (by omega),fig_small (by omega)];congr 1;omega
  rw[hr];refine ev_run' (kp:=k48) (us:=[9]) fn48 rfl rfl rfl rfl rfl (by kernel_rfl) rfl rfl (by simp) ?_;simp;simp[c0];simp[c0,c4];rfl
 ·cases h
theorem fig_more (n:Int)(h9:¬ n<10)(ih:FigOK (n / 10)):FigOK n:=by
 intro r h;unfold ref03_Figures at h
 split at h
 ·rename_i hb;injection h with h;subst h;have c0:ilt n 0=false:=by rw[Bool.eq_false_iff]; simp; omega
  have c4:ilt n 10=false:=by rw[Bool.eq_false_iff]; simp; omega
  have e1:irem n 10=n % 10:=by unfold irem; rw[Int.tmod_eq_emod_of_nonneg (by omega)]
  have e2:iquo IntKind.i64 n 10=n / 10:=by unfold iquo; rw[Int.tdiv_eq_ediv_of_nonneg (by omega)]; exact wrap_ok (by omega) (by omega)
  have e3:iconv .u8 (iadd .i64 48 (irem n 10))=48+n % 10:=by
   rw[e1,iadd_ok (by omega) (by omega)];exact iconvb (by omega) (by omega)
  have hs:bytesOf (strOf [48+n % 10])=[48+n % 10]:=bytesOf_strOf (fun c hc=>by rw[List.mem_singleton] at hc; omega);have h6:ev 48 [T.c (.lit (.int .i64 (iquo IntKind.i64 n 10)))]=some (T.c (.lit (.string (numeral (n / 10)))),[]):=by
   rw[e2];refine ih _ ?_;unfold ref03_Figures;rw[if_pos (by omega)]
  have c7:addOk (numeral (n / 10)) (strOf [iconv .u8 (iadd .i64 48 (irem n 10))])=true:=by
   rw[addOk_iff,e3,hs];have:=numeral_len (n:=n / 10) (by omega) (by omega);simp only[List.length_singleton];omega
  have hr:numeral n=numeral (n / 10)++strOf [iconv .u8 (iadd .i64 48 (irem n 10))]:=by
   apply bytesOf_inj;rw[e3,bytesOf_append,hs,bytes_numeral,bytes_numeral,if_neg (by omega),if_neg (by omega),fig_big (by omega)];have h1:(n / 10).toNat=n.toNat / 10:=by omega
   have h2:48+((n.toNat % 10:Nat):Int)=48+n % 10:=by omega
   rw[h1,h2]
  rw[hr];refine ev_run' (kp:=k48) (us:=[9]) fn48 rfl rfl rfl rfl rfl (by kernel_rfl) rfl rfl (by simp) ?_;simp;simp[c0];simp[c0,c4];simp[c0,c4,h6];simp[c0,c4,h6,c7];rfl
 ·cases h
theorem fig_nat:∀ n:Nat,FigOK (n:Int):=by
 intro n
 induction n using Nat.strongRecOn with
 | _ n ih=>
  by_cases h:(n:Int)<10
  ·exact fig_one_round _ (by omega) h
  ·refine fig_more _ h ?_;have:=ih (n / 10) (by omega);have e:((n / 10:Nat):Int)=(n:Int) / 10:=by omega
   rw[← e];exact this
theorem w_ref03_Figures (n:Int)(r:ByteArray)(h:ref03_Figures n=some r):ev 48 [T.c (.lit (.int .i64 n))]=some (T.c (.lit (.string r)),[]):=by
 by_cases hn:n<0
 ·refine fig_neg n hn ?_ r h;have e:((-n).toNat:Int)=-n:=by omega
  rw[← e];exact fig_nat _
 ·have e:(n.toNat:Int)=n:=by omega
  rw[← e] at h ⊢;exact fig_nat _ r h
end Go.Proofs.YtadllpehekphmaaDoor

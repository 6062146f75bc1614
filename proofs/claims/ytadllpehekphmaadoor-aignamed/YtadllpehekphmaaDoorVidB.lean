/- A library: numerals, pieces put together, and a builder's string, plainly. No condition. -/
import Derived.Test.YtadllpehekphmaaDoorVW
import Derived.Test.YtadllpehekphmaaDoorVX
import Derived.Lib.ItoaNum
import Derived.Lib.Join
set_option linter.unusedSimpArgs false
set_option linter.unusedVariables false
set_option maxRecDepth 20000
namespace Go.Vid
open Go.Vabs
def numeral (n:Int):ByteArray:=⟨(Go.Lib.itoa n).toArray⟩
def strconv_Itoa (n:Int):Option ByteArray:=if -9223372036854775808≤n∧n≤9223372036854775807 then some (numeral n) else none
def joined (xs:List ByteArray)(sep:ByteArray):ByteArray:=⟨(Go.Lib.join (xs.map (·.data.toList)) sep.data.toList).toArray⟩
def strings_Join (xs:List ByteArray)(sep:ByteArray):Option ByteArray:=if 0<xs.length∧xs.length≤140737488355328∧(Go.Lib.join (xs.map (·.data.toList)) sep.data.toList).length≤281474976710656 then some (joined xs sep) else none
def strings_Builder_String (q:List Int):Option ByteArray:=if q.length≤281474976710656 then some (strOf q) else none
def bld_check0:Option Unit:=some ()
def bld_check1 (q:List Int):Option (List Int):=some q
def strE:List C→Option ByteArray
 | [.lit (.string x)]=>some x
 | _=>none
def bldBox (tb:Nat)(a b:C)(f:Bool):Ob:=⟨true,f,tb,2,[[a,b]]⟩
def prItoa:List T→Option (T × List Ob)
 | [.c (.lit (.int .i64 n))]=>(strconv_Itoa n).map fun x=>(.c (.lit (.string x)),[])
 | _=>none
def prJoin:List T→Option (T × List Ob)
 | [.c (.sl 1 es),.c (.lit (.string sep))]=>(es.mapM strE).bind fun xs=>(strings_Join xs sep).map fun x=>(.c (.lit (.string x)),[])
 | _=>none
def intE:List C→Option Int
 | [.lit (.int .i64 x)]=>some x
 | _=>none
def prCheck (tb e:Nat):List T→Option (T × List Ob)
 | [.c (.ptr 9000 0 0),o1]=>match tOb o1 with
  | some ⟨true,_,k,2,[[.lit (.pointer none),.lit (.slice none 0 0)]]⟩=>if k=tb then some (.tup [],[bldBox tb (.ptr 0 0 0) (.lit (.slice none 0 0)) false]) else none
  | _=>none
 | [.c (.ptr 9000 0 0),o1,o2]=>match tOb o1,tOb o2 with
  | some ⟨true,_,k,2,[[.ptr 9000 0 0,.ref 19001 0 n]]⟩,some ⟨false,true,k',1,es⟩=>if k=tb∧k'=e then some (.tup [],[bldBox tb (.ptr 0 0 0) (.ref 1 0 n) false,⟨false,true,e,1,es⟩]) else none
  | _,_=>none
 | _=>none
def prStr (tb e:Nat):List T→Option (T × List Ob)
 | [.c (.ptr 9000 0 0),o1,o2]=>match tOb o1,tOb o2 with
  | some ⟨true,_,k,2,[[.ptr 9000 0 0,.ref 19001 0 n]]⟩,some ⟨false,true,k',1,es⟩=>if k=tb∧k'=e∧n=es.length∧n≤281474976710656 then (bytesE es).map fun x=>(.c (.lit (.string x)),[bldBox tb (.ptr 0 0 0) .junk false,⟨false,true,e,1,[]⟩]) else none
  | _,_=>none
 | _=>none
theorem prItoa_eq {n:Int}{r:ByteArray}(h:strconv_Itoa n=some r):prItoa [T.c (C.lit (Value.int IntKind.i64 n))]=some (T.c (C.lit (Value.string r)),[]):=by simp only[prItoa,h,Option.map_some]
theorem strE_all:∀ xs:List ByteArray,(cm strF xs).mapM strE=some xs
 | []=>rfl
 | x::xs=>by
  have ih:=strE_all xs;simp only[cm,List.map_cons,List.mapM_cons] at ih ⊢;rw[ih];rfl
theorem prJoin_eq {xs:List ByteArray}{sep r:ByteArray}(h:strings_Join xs sep=some r):prJoin [T.c (sls 1 strF xs),T.c (C.lit (Value.string sep))]=some (T.c (C.lit (Value.string r)),[]):=by
 show prJoin [T.c (.sl 1 (cm strF xs)),_]=_;simp only[prJoin,strE_all,Option.bind_some,h,Option.map_some]
theorem bytesE_all (q:List Int):bytesE (cm byteF q)=some (strOf q):=by
 have:(cm byteF q).mapM Go.Vabs.byteOf=some q:=by
  induction q with
  | nil=>rfl
  | cons x q ih=>
   simp only[cm,List.map_cons,List.mapM_cons] at ih ⊢;rw[ih];rfl
 unfold bytesE;rw[this];rfl
theorem prCheck0_eq {tb e:Nat}(f:Bool):prCheck tb e [T.c (C.ptr 9000 0 0),obT (Ob.mk true f tb 2 [[C.lit (Value.pointer none),C.lit (Value.slice none 0 0)]])]=some (T.tup [],[Ob.mk true false tb 2 [[C.ptr 0 0 0,C.lit (Value.slice none 0 0)]]]):=by
 unfold prCheck;simp only[tOb,obT,Int.toNat_natCast,if_true,bldBox]
theorem prCheck1_eq {tb e:Nat}(f:Bool)(q:List Int):prCheck tb e [T.c (C.ptr 9000 0 0),obT (Ob.mk true f tb 2 [[C.ptr 9000 0 0,C.ref 19001 0 (lenN q)]]),obT (rowO e 1 byteF q)]=some (T.tup [],[Ob.mk true false tb 2 [[C.ptr 0 0 0,C.ref 1 0 (lenN q)]],rowO e 1 byteF q]):=by
 unfold prCheck;simp only[tOb,obT,rowO,Int.toNat_natCast,and_self,if_true,bldBox]
theorem prStr_eq {tb e:Nat}(f:Bool)(q:List Int){r:ByteArray}(h:strings_Builder_String q=some r):prStr tb e [T.c (C.ptr 9000 0 0),obT (Ob.mk true f tb 2 [[C.ptr 9000 0 0,C.ref 19001 0 (lenN q)]]),obT (rowO e 1 byteF q)]=some (T.c (C.lit (Value.string r)),[Ob.mk true false tb 2 [[C.ptr 0 0 0,C.junk]],Ob.mk false true e 1 []]):=by
 unfold strings_Builder_String at h
 split at h
 ·rename_i hc;injection h with h;subst h;have hl:lenN q=(cm byteF q).length:=by simp[cm,lenN]
  have h2:(cm byteF q).length≤281474976710656:=by simpa[cm] using hc
  unfold prStr;simp only[tOb,obT,rowO,Int.toNat_natCast,hl,h2,and_self,if_true,bytesE_all,Option.map_some,bldBox]
 ·cases h
theorem iconvb {a:Int}(h0:0≤a)(h1:a≤255):iconv .u8 a=a:=by
 unfold iconv IntKind.wrap;simp[IntKind.signed,IntKind.bits];omega
def fig (n:Nat):List Int:=if h:n<10 then [48+(n:Int)] else fig (n / 10)++[48+((n % 10:Nat):Int)]
decreasing_by omega
theorem fig_small {n:Nat}(h:n<10):fig n=[48+(n:Int)]:=by rw[fig,dif_pos h]
theorem fig_big {n:Nat}(h:¬ n<10):fig n=fig (n / 10)++[48+((n % 10:Nat):Int)]:=by rw[fig,dif_neg h]
theorem fig_pos (n:Nat):1≤(fig n).length:=by
 by_cases h:n<10
 ·rw[fig_small h]; exact Nat.le_refl _
 ·rw[fig_big h]; simp
theorem fig_one {n:Nat}:1<(fig n).length↔10≤n:=by
 by_cases h:n<10
 ·rw[fig_small h]; simp; omega
 ·rw[fig_big h,List.length_append];have:=fig_pos (n / 10);simp only[List.length_singleton];omega
theorem fig_head:∀ (n:Nat),0<n→(fig n)[0]?≠some 48:=by
 intro n
 induction n using Nat.strongRecOn with
 | _ n ih=>
  intro hn
  by_cases h:n<10
  ·rw[fig_small h];simp; omega
  ·rw[fig_big h,List.getElem?_append_left (by have:=fig_pos (n / 10); omega)];exact ih _ (by omega) (by omega)
theorem fig_len:∀ (k n:Nat),n<10 ^ k→0<k→(fig n).length≤k:=by
 intro k
 induction k with
 | zero=>intro n _ h; omega
 | succ k ih=>
  intro n hn _
  by_cases h:n<10
  ·rw[fig_small h]; simp
  ·rw[fig_big h,List.length_append];have hk:0<k:=by
    cases k with
    | zero=>omega
    | succ k=>omega
   have:=ih (n / 10) (by rw[Nat.pow_succ] at hn; omega) hk;simpa using this
theorem bytes_dec:∀ n:Nat,(Go.Lib.decDigits n).map (fun b=>(b.toNat:Int))=fig n:=by
 intro n
 induction n using Nat.strongRecOn with
 | _ n ih=>
  by_cases h:n<10
  ·rw[fig_small h,Go.Lib.decDigits,dif_pos h];simp only[List.map_cons,List.map_nil,UInt8.toNat_ofNat'];rw[Nat.mod_eq_of_lt (by omega)];simp
  ·rw[fig_big h,Go.Lib.decDigits,dif_neg h,List.map_append,ih _ (by omega)];simp only[List.map_cons,List.map_nil,UInt8.toNat_ofNat'];rw[Nat.mod_eq_of_lt (by omega)];simp
theorem bytes_numeral (n:Int):bytesOf (numeral n)=if n<0 then 45::fig n.natAbs else fig n.toNat:=by
 unfold numeral;rw[bytesOf_mk];unfold Go.Lib.itoa
 split
 ·rw[List.map_cons,bytes_dec];rfl
 ·exact bytes_dec _
theorem numeral_len {n:Int}(h0:-9223372036854775808≤n)(h1:n≤9223372036854775807):(bytesOf (numeral n)).length≤21:=by
 rw[bytes_numeral]
 split
 ·have:=fig_len 20 n.natAbs (by omega) (by omega);rw[List.length_cons];omega
 ·have:=fig_len 20 n.toNat (by omega) (by omega);omega
theorem numeral_neg {n:Int}(h:n<0):(⟨#[45]⟩:ByteArray)++numeral (-n)=numeral n:=by
 apply bytesOf_inj;rw[bytesOf_append,bytes_numeral,bytes_numeral,if_pos h,if_neg (by omega)];have:(-n).toNat=n.natAbs:=by omega
 rw[this];rfl
end Go.Vid

/- A library: how the abstract interpreter is reckoned, by 'simp'. No condition. -/
import Derived.Test.YtadllpehekphmaaDoorVT
set_option linter.unusedSimpArgs false
set_option linter.unusedVariables false
namespace Go.Vabs
def tget:List (Nat × T)→Nat→T
 | [],_=>.junk
 | (k,t)::m,i=>if k=i then t else tget m i
def tput (m:List (Nat × T))(d:Nat)(t:T):List (Nat × T):=(d,t)::m
def tmk (n:Nat)(m:List (Nat × T)):List T:=(List.range n).map (tget m)
def mk (n:Nat)(m:List (Nat × T))(hp:Heap)(fr:List Nat):St:={ tm:=tmk n m,hp:=hp,fr:=fr }
theorem tget_tput (m:List (Nat × T))(d:Nat)(t:T)(i:Nat):tget (tput m d t) i=if d=i then t else tget m i:=rfl
theorem tmk_get (n:Nat)(m:List (Nat × T))(i:Nat):(tmk n m)[i]?=if i<n then some (tget m i) else none:=by
 unfold tmk;rw[List.getElem?_map]
 by_cases h:i<n
 ·rw[List.getElem?_range h,if_pos h]; rfl
 ·rw[List.getElem?_eq_none (by simpa using h),if_neg h]; rfl
theorem tmk_length (n:Nat)(m:List (Nat × T)):(tmk n m).length=n:=by simp[tmk]
theorem tmk_set (n:Nat)(m:List (Nat × T))(d:Nat)(t:T):(tmk n m).set d t=tmk n (tput m d t):=by
 apply List.ext_getElem?;intro i;rw[List.getElem?_set,tmk_get,tmk_get,tmk_length,tget_tput]
 by_cases h:d=i
 ·subst h;simp
 ·simp[h]
theorem tget_map (f:T→T)(hf:f .junk=.junk)(m:List (Nat × T))(i:Nat):tget (m.map fun p=>(p.1,f p.2)) i=f (tget m i):=by
 induction m with
 | nil=>exact hf.symm
 | cons p m ih=>
  simp only[List.map_cons,tget]
  split
  ·rfl
  ·exact ih
theorem tmk_map (f:T→T)(hf:f .junk=.junk)(n:Nat)(m:List (Nat × T)):(tmk n m).map f=tmk n (m.map fun p=>(p.1,f p.2)):=by
 unfold tmk;rw[List.map_map];exact List.map_congr_left fun i _=>(tget_map f hf m i).symm
theorem tget_filter (q:Nat→Bool)(m:List (Nat × T))(i:Nat):tget (m.filter fun p=>q p.1) i=if q i then tget m i else .junk:=by
 induction m with
 | nil=>simp[tget]
 | cons p m ih=>
  obtain⟨k,t⟩:=p
  by_cases h:k=i
  ·subst h
   cases hq:q k with
   | true=>simp[tget,hq]
   | false=>rw[List.filter_cons_of_neg (by simpa using hq),ih,hq]; rfl
  ·cases hq:q k with
   | true=>rw[List.filter_cons_of_pos (by simpa using hq)]; simp only[tget,if_neg h]; exact ih
   | false=>rw[List.filter_cons_of_neg (by simpa using hq)]; simp only[tget,if_neg h]; exact ih
theorem keepAt_tmk (ks:List Nat)(n:Nat)(m:List (Nat × T)):keepAt ks (tmk n m)=tmk n (m.filter fun p=>ks.contains p.1):=by
 apply List.ext_getElem?;intro i;unfold keepAt;rw[List.getElem?_mapIdx,tmk_get,tmk_get,tget_filter ks.contains]
 by_cases h:i<n
 ·simp only[if_pos h,Option.map_some]
 ·simp only[if_neg h,Option.map_none]
theorem tmk_args (args:List T)(n:Nat)(h:args.length≤n):args++List.replicate (n-args.length) .junk=tmk n (args.zipIdx.map fun p=>(p.2,p.1)):=by
 have hg:∀ (l:List T) (b i:Nat),tget ((l.zipIdx b).map fun p=>(p.2,p.1)) i=if b≤i then (l[i-b]?).getD .junk else .junk:=by
  intro l
  induction l with
  | nil=>intro b i; simp[tget]
  | cons t l ih=>
   intro b i;simp only[List.zipIdx_cons,List.map_cons,tget,ih]
   by_cases e:b=i
   ·subst e; simp
   ·by_cases e2:b≤i
    ·rw[if_neg e,if_pos (by omega),if_pos e2];have:i-b=(i-(b+1))+1:=by omega
     rw[this,List.getElem?_cons_succ]
    ·rw[if_neg e,if_neg (by omega),if_neg e2]
 apply List.ext_getElem?;intro i;rw[tmk_get,hg]
 by_cases h1:i<args.length
 ·rw[List.getElem?_append_left h1,if_pos (by omega)];simp[h1]
 ·rw[List.getElem?_append_right (by omega),List.getElem?_replicate]
  by_cases h2:i<n
  ·rw[if_pos (by omega),if_pos h2];simp[List.getElem?_eq_none (show args.length≤i by omega)]
  ·rw[if_neg (by omega),if_neg h2]
def sortedB (n:Nat):Nat→List (Nat × T)→Bool
 | _,[]=>true
 | a,(k,_)::m=>decide (a≤k)&&decide (k<n)&&sortedB n (k+1) m
theorem sortedB_lt {n:Nat}:∀ {m:List (Nat × T)} {a i:Nat},sortedB n a m=true→i<a→tget m i=.junk
 | [],_,_,_,_=>rfl
 | (k,t)::m,a,i,h,hi=>by
  simp only[sortedB,Bool.and_eq_true,decide_eq_true_eq] at h;simp only[tget];rw[if_neg (by omega)];exact sortedB_lt h.2 (by omega)
theorem flat_tmk {n:Nat}:∀ (l a:Nat) (m:List (Nat × T)),a+l=n→sortedB n a m=true→((List.range' a l).map (tget m)).flatMap T.hds=m.flatMap fun p=>p.2.hds
 | 0,a,m,h,hs=>by
  cases m with
  | nil=>rfl
  | cons p m=>
   obtain⟨k,t⟩:=p;simp only[sortedB,Bool.and_eq_true,decide_eq_true_eq] at hs;omega
 | l+1,a,m,h,hs=>by
  rw[List.range'_succ,List.map_cons,List.flatMap_cons]
  cases m with
  | nil=>
   have:=flat_tmk (n:=n) l (a+1) [] (by omega) rfl;rw[this];rfl
  | cons p m=>
   obtain⟨k,t⟩:=p;simp only[sortedB,Bool.and_eq_true,decide_eq_true_eq] at hs;obtain⟨⟨h1,h2⟩,h3⟩:=hs
   by_cases e:k=a
   ·subst e;have:=flat_tmk l (k+1) m (by omega) h3;rw[List.flatMap_cons,← this];simp only[tget,if_true];congr 2;refine List.map_congr_left (fun i hi=>?_);rw[List.mem_range'_1] at hi;rw[if_neg (by omega)]
   ·have:=flat_tmk (n:=n) l (a+1) ((k,t)::m) (by omega) (by simp only[sortedB,Bool.and_eq_true,decide_eq_true_eq]; exact⟨⟨by omega,h2⟩,h3⟩);rw[← this];have h0:tget ((k,t)::m) a=.junk:=by
     simp only[tget,if_neg e];exact sortedB_lt (n:=n) (m:=m) (a:=k+1) (i:=a) h3 (by omega)
    rw[h0];rfl
section
variable {call:CallF} {ty:Tys} {kp:Nat→Option (List Nat)}
def contS [Globals] (call:CallF)(ty:Tys)(kp:Nat→Option (List Nat))(b:Code):Ex × St→Option (Ex × St)
 | (.norm,s)=>evCode call ty kp b s
 | (e,s)=>some (e,s)
def contB (id:Nat):Ex × St→Option (Ex × St)
 | (.exit id',s)=>if id'=id then some (.norm,s) else some (.exit id',s)
 | r=>some r
def contL [Globals] (call:CallF)(ty:Tys)(kp:Nat→Option (List Nat))(c:Code):Ex × St→Option (Ex × St)
 | (.norm,s)=>evLoop call ty kp c s
 | (e,s)=>some (e,s)
def condE (t:T)(x y:Option (Ex × St)):Option (Ex × St):=match t with
 | .c (.lit (.bool b))=>if b=true then x else y
 | _=>none
@[simp] theorem contB_norm (id:Nat)(s:St):contB id (.norm,s)=some (.norm,s):=rfl
@[simp] theorem contB_exit (id id':Nat)(s:St):contB id (.exit id',s)=if id'=id then some (.norm,s) else some (.exit id',s):=rfl
@[simp] theorem contB_ret (id:Nat)(s:St):contB id (.ret,s)=some (.ret,s):=rfl
@[simp] theorem contB_pan (id:Nat)(u:Nat)(cs:List C)(s:St):contB id (.pan u cs,s)=some (.pan u cs,s):=rfl
@[simp] theorem evCode_skip [Globals] (s:St):evCode call ty kp .skip s=some (.norm,s):=by rw[evCode]
@[simp] theorem evCode_exit [Globals] (id:Nat)(s:St):evCode call ty kp (.exit id) s=some (.exit id,tidy (kp (20000+id)) s):=by rw[evCode]
@[simp] theorem evCode_ret [Globals] (s:St):evCode call ty kp .ret s=some (.ret,tidy (kp 9999) s):=by rw[evCode]
@[simp] theorem evCode_region [Globals] (id:Nat)(ops:Array Oper)(d:Bool)(s:St):evCode call ty kp (.region id ops d) s=evRg call ty (kp (30000+id)) ops (enter ops.toList (tidy (kp id) s)):=by rw[evCode]
@[simp] theorem evCode_seq [Globals] (a b:Code)(s:St):evCode call ty kp (.seq a b) s=(evCode call ty kp a s).bind (contS call ty kp b):=by
 rw[evCode]
 cases evCode call ty kp a s with
 | none=>rfl
 | some r=>
  obtain⟨e,s⟩:=r
  cases e<;>rfl
@[simp] theorem evCode_block [Globals] (id:Nat)(c:Code)(s:St):evCode call ty kp (.block id c) s=(evCode call ty kp c s).bind (contB id):=by
 rw[evCode]
 cases evCode call ty kp c s with
 | none=>rfl
 | some r=>
  obtain⟨e,s⟩:=r
  cases e<;>rfl
@[simp] theorem evCode_loop [Globals] (c:Code)(s:St):evCode call ty kp (.loop c) s=evLoop call ty kp c s:=by rw[evCode]
@[simp] theorem evCode_cond [Globals] (c:Operand)(x y:Code)(s:St):evCode call ty kp (.cond c x y) s=condE (opd s.tm c) (evCode call ty kp x s) (evCode call ty kp y s):=by
 rw[evCode];unfold condE
 split
 ·rename_i b h;simp only[h]
 ·rename_i h
  split
  ·rename_i b h2;exact absurd h2 (h b)
  ·rfl
theorem evLoop_step [Globals] (c:Code)(s:St):evLoop call ty kp c s=(evCode call ty kp c (tidy (kp (headOf c)) s)).bind (contL call ty kp c):=by
 rw[evLoop]
 cases evCode call ty kp c (tidy (kp (headOf c)) s) with
 | none=>rfl
 | some r=>
  obtain⟨e,s⟩:=r
  cases e<;>rfl
@[simp] theorem bind_ite {α β:Type}(p:Prop) [Decidable p] (x y:Option α)(f:α→Option β):(if p then x else y).bind f=if p then x.bind f else y.bind f:=by split<;>rfl
@[simp] theorem map_ite {α β:Type}(p:Prop) [Decidable p] (x y:Option α)(f:α→β):(if p then x else y).map f=if p then x.map f else y.map f:=by split<;>rfl
def contG (L:St→Option (Ex × St)):Ex × St→Option (Ex × St)
 | (.norm,s)=>L s
 | (e,s)=>some (e,s)
@[simp] theorem contG_norm (L:St→Option (Ex × St))(s:St):contG L (.norm,s)=L s:=rfl
@[simp] theorem contG_exit (L:St→Option (Ex × St))(id:Nat)(s:St):contG L (.exit id,s)=some (.exit id,s):=rfl
@[simp] theorem contG_ret (L:St→Option (Ex × St))(s:St):contG L (.ret,s)=some (.ret,s):=rfl
@[simp] theorem contG_pan (L:St→Option (Ex × St))(u:Nat)(cs:List C)(s:St):contG L (.pan u cs,s)=some (.pan u cs,s):=rfl
def guardE (g:T)(want:Bool)(no yes sk:Option St):Option St:=match g with
 | .c (.lit (.bool b))=>if b=want then yes else no
 | .tup _=>sk
 | _=>none
@[simp] theorem guardE_lit (b want:Bool)(no yes sk:Option St):guardE (.c (.lit (.bool b))) want no yes sk=if b=want then yes else no:=rfl
theorem tmk_put (n:Nat)(m:List (Nat × T))(d:Nat){t:T}(h:tget m d=t):tmk n (tput m d t)=tmk n m:=by
 unfold tmk;refine List.map_congr_left (fun i _=>?_);rw[tget_tput]
 split
 ·rename_i e; rw[← e,h]
 ·rfl
def guardJ [Globals] (call:CallF)(ty:Tys)(ops:Array Oper)(dst:Option Nat)(op:Op)(t:TypeId)(pos:String)(after:Array Edge)(j:Nat)(want:Bool)(l:List Oper)(n:Nat)(m:List (Nat × T))(hp:Heap)(fr:List Nat):Option Nat→Option St
 | none=>none
 | some d=>if d<n then guardE (tget m d) want (evOps call ty ops l (putT (mk n (tput m d (.c (.lit (.bool (!want))))) hp fr) dst (.tup [])))
   ((evOp call ty { dst:=dst,op:=op,type:=t,pos:=pos,after:=after,guard:=some (j,want) } (mk n (tput m d (.c (.lit (.bool want)))) hp fr)).bind (evOps call ty ops l)) (evOps call ty ops l (putT (mk n m hp fr) dst (.tup []))) else none
@[simp] theorem evOps_cons [Globals] (ops:Array Oper)(dst:Option Nat)(op:Op)(t:TypeId)(pos:String)(after:Array Edge)(l:List Oper)(s:St):
  evOps call ty ops ({ dst:=dst,op:=op,type:=t,pos:=pos,after:=after,guard:=none }::l) s=(evOp call ty { dst:=dst,op:=op,type:=t,pos:=pos,after:=after,guard:=none } s).bind (evOps call ty ops l):=by
 rw[evOps];simp only[guardOf]
 cases evOp call ty { dst:=dst,op:=op,type:=t,pos:=pos,after:=after,guard:=none } s<;>rfl
@[simp] theorem evOps_guard [Globals] (ops:Array Oper)(dst:Option Nat)(op:Op)(t:TypeId)(pos:String)(after:Array Edge)(j:Nat)(want:Bool)(l:List Oper)(n:Nat)(m:List (Nat × T))(hp:Heap)(fr:List Nat):
  evOps call ty ops ({ dst:=dst,op:=op,type:=t,pos:=pos,after:=after,guard:=some (j,want) }::l) (mk n m hp fr)=guardJ call ty ops dst op t pos after j want l n m hp fr ((ops[j]?).bind (·.dst)):=by
 rw[evOps];unfold guardJ;simp only[guardOf]
 cases (ops[j]?).bind (·.dst) with
 | none=>rfl
 | some d=>
  simp only[mk,tmk_get]
  by_cases hn:d<n
  ·simp only[if_pos hn]
   cases ht:tget m d with
   | c x=>cases x with
    | lit v=>cases v with
     | bool b=>
      simp only[guardE_lit]
      by_cases hb:b=want
      ·subst hb;rw[tmk_put n m d ht];simp only[if_true,beq_self_eq_true]
       cases evOp call ty _ _<;>rfl
      ·have:b=!want:=by cases b<;>cases want<;>simp_all
       subst this;rw[tmk_put n m d ht,if_neg hb];have:((!want)==want)=false:=by cases want<;>rfl
       rw[this]
     | _=>rfl
    | _=>rfl
   | _=>rfl
  ·simp only[if_neg hn]
variable {n:Nat} {m:List (Nat × T)} {hp:Heap} {fr:List Nat} {d:Nat} {t:TypeId} {pos:String} {after:Array Edge} {g:Option (Nat × Bool)}
@[simp] theorem mk_tm:(mk n m hp fr).tm=tmk n m:=rfl
@[simp] theorem mk_hp:(mk n m hp fr).hp=hp:=rfl
@[simp] theorem mk_fr:(mk n m hp fr).fr=fr:=rfl
theorem mk_start (args:List T)(h:args.length≤n):({ tm:=args++List.replicate (n-args.length) .junk,hp:=[],fr:=[] }:St)=mk n (args.zipIdx.map fun p=>(p.2,p.1)) [] []:=by
 unfold mk;rw[tmk_args args n h]
@[simp] theorem noI_c (x:C):(T.c x).noI=.c x:=rfl
@[simp] theorem noI_agg (cs:List C):(T.agg cs).noI=.agg cs:=rfl
@[simp] theorem noI_tup (ts:List T):(T.tup ts).noI=.tup ts:=rfl
@[simp] theorem noI_junk:T.junk.noI=.junk:=rfl
@[simp] theorem noI_itr' (q:ByteArray)(pos:Nat):(T.itr q pos).noI=.junk:=rfl
theorem opd_tmk [Globals] (i:Nat):opd (tmk n m) (.tmp i)=if i<n then (tget m i).noI else .junk:=by
 simp only[opd,tmk_get]
 split<;>rfl
@[simp] theorem opd_tmp [Globals] (i:Nat)(h:i<n):opd (tmk n m) (.tmp i)=(tget m i).noI:=by rw[opd_tmk,if_pos h]
@[simp] theorem opd_func [Globals] (tm:List T)(f:FuncId):opd tm (.func f)=.c (.lit (.func (.func f) #[] #[])):=rfl
@[simp] theorem opd_const [Globals] (tm:List T)(v:Value):opd tm (.const v)=tOf v:=rfl
@[simp] theorem tOf_int (k:IntKind)(x:Int):tOf (.int k x)=.c (.lit (.int k x)):=rfl
@[simp] theorem tOf_bool (x:Bool):tOf (.bool x)=.c (.lit (.bool x)):=rfl
@[simp] theorem tOf_str (x:ByteArray):tOf (.string x)=.c (.lit (.string x)):=rfl
@[simp] theorem tOf_slice (a:Option Addr)(l c:Nat):tOf (.slice a l c)=.c (.lit (.slice a l c)):=rfl
@[simp] theorem tget_cons (k:Nat)(t:T)(m:List (Nat × T))(i:Nat):tget ((k,t)::m) i=if k=i then t else tget m i:=rfl
@[simp] theorem tget_nil (i:Nat):tget [] i=.junk:=rfl
@[simp] theorem tput_eq (m:List (Nat × T))(d:Nat)(t:T):tput m d t=(d,t)::m:=rfl
@[simp] theorem hget_cons (k:Nat)(o:Ob)(l:Heap)(i:Nat):hget ((k,o)::l) i=if k=i then some o else hget l i:=rfl
@[simp] theorem hget_nil (i:Nat):hget [] i=none:=rfl
@[simp] theorem hput_nil (k:Nat)(o:Ob):hput [] k o=[(k,o)]:=rfl
@[simp] theorem hput_cons (k':Nat)(o':Ob)(l:Heap)(k:Nat)(o:Ob):hput ((k',o')::l) k o=if k=k' then (k,o)::l else if k<k' then (k,o)::(k',o')::l else (k',o')::hput l k o:=rfl
@[simp] theorem hdel_nil (k:Nat):hdel [] k=[]:=rfl
@[simp] theorem hdel_cons (k':Nat)(o:Ob)(l:Heap)(k:Nat):hdel ((k',o)::l) k=if k'=k then hdel l k else (k',o)::hdel l k:=rfl
@[simp] theorem putT_mk (t:T):putT (mk n m hp fr) (some d) t=mk n (tput m d t) hp fr:=by simp only[putT,mk,tmk_set]
@[simp] theorem putP_mk (t:T):putP (mk n m hp fr) (some d) (t,none)=some (mk n (tput m d t) hp fr):=by simp only[putP,mk,tmk_set]
def newE (o:Option Ob)(s:St):Option St:=match o with
 | none=>some s
 | some _=>none
@[simp] theorem newE_none (s:St):newE none s=some s:=rfl
@[simp] theorem putP_new (t:T)(o:Ob):putP (mk n m hp fr) (some d) (t,some o)=newE (hget hp d) (mk n (tput m d t) (hput hp d o) fr):=by
 simp only[putP,mk,tmk_set]
 cases hget hp d<;>rfl
@[simp] theorem enter_nil (ops:List Oper):enter ops (mk n m [] fr)=mk n m [] fr:=rfl
@[simp] theorem enter_cons (ops:List Oper)(p:Nat × Ob)(l:Heap):enter ops (mk n m (p::l) fr)=evicts (toEvict ops (p::l)) (mk n m (p::l) fr):=rfl
@[simp] theorem evicts_nil (s:St):evicts [] s=s:=rfl
@[simp] theorem evicts_cons (h:Nat)(l:List Nat)(s:St):evicts (h::l) s=evicts l (evict h s):=rfl
def evictE (h:Nat)(o:Option Ob)(n:Nat)(m:List (Nat × T))(hp:Heap)(fr:List Nat):St:=match o with
 | none=>mk n m hp fr
 | some o=>if (o.free&&!o.box)=true then mk n (m.map fun p=>(p.1,p.2.frz h o)) ((hdel hp h).map fun p=>(p.1,p.2.frz h o)) (fr.filter (· != h))
  else mk n (m.map fun p=>(p.1,p.2.kill h)) ((hdel hp h).map fun p=>(p.1,p.2.killF h)) (fr.filter (· != h))
@[simp] theorem evictE_none (h:Nat):evictE h none n m hp fr=mk n m hp fr:=rfl
def unL (b:Bool)(o:Option Ob):Option Ob:=match b with
 | true=>none
 | false=>o
@[simp] theorem unL_false (o:Option Ob):unL false o=o:=rfl
attribute [simp] lentNm
@[simp] theorem evict_mk (h:Nat):evict h (mk n m hp fr)=evictE h (unL (lentNm h) (hget hp h)) n m hp fr:=by
 unfold evict
 cases lentNm h with
 | true=>rfl
 | false=>
 rw[if_neg Bool.false_ne_true,unL_false];unfold evict0 evictE;simp only[mk]
 cases hget hp h with
 | none=>rfl
 | some o=>
  simp only
  split
  ·rw[tmk_map (T.frz h o) rfl]
  ·rw[tmk_map (T.kill h) rfl]
def settleE (s:St):St:=settle (evicts (rowRefs s.hp) s)
def settleX (rs:List Nat)(s:St):St:=settle (evicts rs s)
@[simp] theorem settleE_mk:settleE (mk n m hp fr)=settleX (rowRefs hp) (mk n m hp fr):=rfl
@[simp] theorem settleX_nil:settleX [] (mk n m hp fr)=mk n m (hp.map fun p=>(p.1,p.2.lift)) fr:=rfl
@[simp] theorem rowRefs_nil:rowRefs []=[]:=rfl
@[simp] theorem rowRefs_cons (k:Nat)(o:Ob)(l:Heap):rowRefs ((k,o)::l)=(if (o.box||o.free)=true then [] else o.es.flatMap fun e=>e.flatMap C.hds)++rowRefs l:=by
 simp only[rowRefs,List.flatMap_cons]
theorem Ob.lift_mk (b f:Bool)(e sz:Nat)(es:List (List C)):Ob.lift ⟨b,f,e,sz,es⟩=if (b||f)=true then ⟨b,f,e,sz,es⟩ else ⟨b,es.all fun e=>e.all C.free,e,sz,es⟩:=rfl
attribute [simp] Ob.lift_mk
def tidyL (live:List Nat)(n:Nat)(_m m':List (Nat × T))(hp:Heap)(fr:List Nat):St:=
 settleE (if hp.all (fun p=>!live.contains p.1||p.2.hds.all live.contains)=true then mk n m' (hp.filter fun p=>live.contains p.1) (fr.filter live.contains) else mk n m' hp fr)
def pick (ks:List Nat)(m:List (Nat × T)):List (Nat × T):=ks.map fun k=>(k,tget m k)
@[simp] theorem pick_nil (m:List (Nat × T)):pick [] m=[]:=rfl
@[simp] theorem pick_cons (k:Nat)(ks:List Nat)(m:List (Nat × T)):pick (k::ks) m=(k,tget m k)::pick ks m:=rfl
theorem tget_pick (m:List (Nat × T))(i:Nat):∀ ks:List Nat,tget (pick ks m) i=if ks.contains i then tget m i else .junk
 | []=>by simp[tget]
 | k::ks=>by
  simp only[pick_cons,tget,tget_pick m i ks]
  by_cases h:k=i
  ·subst h; simp
  ·have:¬ i=k:=fun e=>h e.symm;simp[h,this]
def sortedK (n:Nat):Nat→List Nat→Bool
 | _,[]=>true
 | a,k::ks=>decide (a≤k)&&decide (k<n)&&sortedK n (k+1) ks
theorem sortedB_pick (m:List (Nat × T)):∀ (ks:List Nat) (a:Nat),sortedK n a ks=true→sortedB n a (pick ks m)=true
 | [],_,_=>rfl
 | k::ks,a,h=>by
  simp only[sortedK,Bool.and_eq_true] at h;simp only[pick_cons,sortedB,Bool.and_eq_true];exact⟨h.1,sortedB_pick m ks (k+1) h.2⟩
theorem keepAt_pick (ks:List Nat)(n:Nat)(m:List (Nat × T)):keepAt ks (tmk n m)=tmk n (pick ks m):=by
 rw[keepAt_tmk];unfold tmk;refine List.map_congr_left fun i _=>?_;rw[tget_filter ks.contains,tget_pick]
def lentK (hp:Heap):List Nat:=(hp.map Prod.fst).filter lentNm
@[simp] theorem lentK_nil:lentK []=[]:=rfl
@[simp] theorem lentK_cons (k:Nat)(o:Ob)(l:Heap):lentK ((k,o)::l)=if lentNm k=true then k::lentK l else lentK l:=by
 simp only[lentK,List.map_cons,List.filter_cons]
theorem lentK_mem {hp:Heap}{p:Nat × Ob}(hm:p∈hp)(hl:lentNm p.1=true):p.1∈lentK hp:=List.mem_filter.2 ⟨List.mem_map.2 ⟨p,hm,rfl⟩,hl⟩
theorem unNil_sorted {ks:List Nat}{a:Nat}(hs:sortedK n a ks=true)(s:St):unNil ks=ks∧nils ks s=s:=by
 unfold unNil nils
 match ks,hs with
 | m::h::j::e::sz::ks,hs=>
  simp only[sortedK,Bool.and_eq_true,decide_eq_true_eq] at hs;have:¬ (m=2000000∧h<m):=fun hc=>by omega
  simp only[if_neg this,and_self]
 | [],_=>exact⟨rfl,rfl⟩
 | [_],_=>exact⟨rfl,rfl⟩
 | [_,_],_=>exact⟨rfl,rfl⟩
 | [_,_,_],_=>exact⟨rfl,rfl⟩
 | [_,_,_,_],_=>exact⟨rfl,rfl⟩
theorem tidy_live (ks:List Nat)(hs:sortedK n 0 ks=true):tidy (some ks) (mk n m hp fr) =
  tidyL (hnext hp (hnext hp (lentK hp++(pick ks m).flatMap fun p=>p.2.hds))) n m (pick ks m) hp fr:=by
 have hf:(tmk n (pick ks m)).flatMap T.hds=(pick ks m).flatMap fun p=>p.2.hds:=by
  unfold tmk;rw[List.range_eq_range'];exact flat_tmk n 0 _ (by omega) (sortedB_pick m ks 0 hs)
 obtain⟨e1,e2⟩:=unNil_sorted hs (mk n m hp fr);simp only[tidy,e1,e2,tidy.tidyK,tidy.settleR,mk_tm,mk_hp,keepAt_pick,hf,tidy1,mk_fr];have hlk:(hp.map Prod.fst).filter lentNm=lentK hp:=rfl;rw[hlk];have h2:(hp.all fun p=>!lentNm p.1||(hnext hp (hnext hp (lentK hp++(pick ks m).flatMap fun p=>p.2.hds))).contains p.1)=true:=by
  rw[List.all_eq_true];intro p hp'
  cases hl:lentNm p.1 with
  | false=>rfl
  | true=>
   rw[Bool.not_true,Bool.false_or,List.contains_iff_mem];exact List.mem_append_left _ (List.mem_append_left _ (List.mem_append_left _ (lentK_mem hp' hl)))
 have h1:((tmk n (pick ks m)).all fun t=>t.hds.all (hnext hp (hnext hp (lentK hp++(pick ks m).flatMap fun p=>p.2.hds))).contains)=true:=by
  rw[List.all_eq_true];intro t ht;rw[List.all_eq_true];intro k hk;rw[List.contains_iff_mem];have:k∈(pick ks m).flatMap fun p=>p.2.hds:=by
   rw[← hf];exact List.mem_flatMap.2 ⟨t,ht,hk⟩
  exact List.mem_append_left _ (List.mem_append_left _ (List.mem_append_right _ this))
 rw[h1,h2,Bool.true_and,Bool.and_true];rfl
def tidyS (b:Bool)(ks live:List Nat)(n:Nat)(m m':List (Nat × T))(hp:Heap)(fr:List Nat):St:=match b with
 | true=>tidyL live n m m' hp fr
 | false=>tidy (some ks) (mk n m hp fr)
@[simp] theorem tidyS_true (ks live:List Nat)(m':List (Nat × T)):tidyS true ks live n m m' hp fr=tidyL live n m m' hp fr:=rfl
@[simp] theorem tidy_some (ks:List Nat):tidy (some ks) (mk n m hp fr)=tidyS (sortedK n 0 ks) ks (hnext hp (hnext hp (lentK hp++(pick ks m).flatMap fun p=>p.2.hds))) n m (pick ks m) hp fr:=by
 cases h:sortedK n 0 ks with
 | true=>exact tidy_live ks h
 | false=>rfl
def nilE1 (h j e sz n:Nat)(m:List (Nat × T))(hp:Heap)(fr:List Nat)(o:Option Ob):St:=match o with
 | some ⟨true,_,el,s0,[cs]⟩=>if fr.contains h=false∧lentNm h=false∧nil1.isNilC cs[j]?=true∧(hget hp (h+10000*(1000+j))).isNone=true then mk n m (hput (hput hp h ⟨true,false,el,s0,[cs.set j (.ref (h+10000*(1000+j)) 0 0)]⟩) (h+10000*(1000+j)) ⟨false,true,e,sz,[]⟩) fr else mk n m hp fr
 | _=>mk n m hp fr
@[simp] theorem nilE1_box (h j e sz:Nat)(f:Bool)(el:TypeId)(s0:Nat)(cs:List C):nilE1 h j e sz n m hp fr (some ⟨true,f,el,s0,[cs]⟩)=if fr.contains h=false∧lentNm h=false∧nil1.isNilC cs[j]?=true∧(hget hp (h+10000*(1000+j))).isNone=true then mk n m (hput (hput hp h ⟨true,false,el,s0,[cs.set j (.ref (h+10000*(1000+j)) 0 0)]⟩) (h+10000*(1000+j)) ⟨false,true,e,sz,[]⟩) fr else mk n m hp fr:=rfl
@[simp] theorem isNilC_nil:nil1.isNilC (some (.lit (.slice none 0 0)))=true:=rfl
@[simp] theorem isNilC_ref (k off len:Nat):nil1.isNilC (some (.ref k off len))=false:=rfl
theorem nil1_mk (h j e sz:Nat):nil1 h j e sz (mk n m hp fr)=nilE1 h j e sz n m hp fr (hget hp h):=by
 unfold nil1 nilE1;simp only[mk_hp,mk_fr,mk_tm]
 cases hget hp h with
 | none=>rfl
 | some o=>
  obtain⟨b,f,el,s0,es⟩:=o
  match es with
  | []=>cases b<;>rfl
  | _::_::_=>cases b<;>rfl
  | [cs]=>
   cases b with
   | false=>simp
   | true=>simp only[true_and]; rfl
@[simp] theorem tidyS_nil (h j e sz:Nat)(ks live:List Nat)(m':List (Nat × T)):tidyS false (2000000::h::j::e::sz::ks) live n m m' hp fr=if h<2000000 then tidy (some ks) (nilE1 h j e sz n m hp fr (hget hp h)) else tidy (some (2000000::h::j::e::sz::ks)) (mk n m hp fr):=by
 show tidy (some (2000000::h::j::e::sz::ks)) (mk n m hp fr)=_
 split
 ·rename_i hh;rw[← nil1_mk];simp only[tidy,unNil,nils,hh,and_self,if_true]
 ·rfl
@[simp] theorem sortedK_nil (a:Nat):sortedK n a []=true:=rfl
@[simp] theorem sortedK_cons (a k:Nat)(ks:List Nat):sortedK n a (k::ks)=(decide (a≤k)&&decide (k<n)&&sortedK n (k+1) ks):=rfl
theorem evOp_P [Globals] {o:Oper}{s:St}(h:(match o.op with | .store _ _ _=>false | .range _ _=>false | .next _ _=>false | .convert _ _ _=>false | .makeFunc _ _ _=>false | .call c=>(match c.callee with | .value _=>false | .builtin .append=>false | _=>true) | _=>true)=true):evOp call ty o s=(evP ty o s.tm s.hp).bind (putP s o.dst):=by
 unfold evOp
 split
 ·rename_i hq; rw[hq] at h; cases h
 ·rename_i hq; rw[hq] at h; cases h
 ·rename_i hq; rw[hq] at h; cases h
 ·rename_i hq; rw[hq] at h; cases h
 ·rename_i hq; rw[hq] at h; cases h
 ·rename_i c hq;rw[hq] at h;simp only at h;have hlc:lendOf c=none:=by
   unfold lendOf
   split
   ·rename_i hc; rw[hc] at h; cases h
   ·rfl
  simp only[hlc]
  split
  ·rename_i hc; rw[hc] at h; cases h
  ·rename_i hc; rw[hc] at h; cases h
  ·rfl
 ·rfl
def moveE (nc:Bool)(el:Option (TypeId × Nat))(x:T)(d n:Nat)(m:List (Nat × T))(hp:Heap)(fr:List Nat):Option St:=
 if nc=true then match el with
  | some (e,sz)=>newE (hget hp d) (mk n (tput m d (.c (.ref d 0 0))) (hput hp d ⟨false,true,e,sz,[]⟩) fr)
  | none=>some (mk n (tput m d (.c (.lit (.slice none 0 0)))) hp fr)
 else some (mk n (tput m d x) hp fr)
@[simp] theorem moveE_false (el:Option (TypeId × Nat))(x:T):moveE false el x d n m hp fr=some (mk n (tput m d x) hp fr):=rfl
@[simp] theorem moveE_some (e:TypeId)(sz:Nat)(x:T):moveE true (some (e,sz)) x d n m hp fr=newE (hget hp d) (mk n (tput m d (.c (.ref d 0 0))) (hput hp d ⟨false,true,e,sz,[]⟩) fr):=rfl
@[simp] theorem moveE_none (x:T):moveE true none x d n m hp fr=some (mk n (tput m d (.c (.lit (.slice none 0 0)))) hp fr):=rfl
@[simp] theorem evOp_move [Globals] (x:Operand):evOp call ty { dst:=some d,op:=.move x,type:=t,pos:=pos,after:=after,guard:=g } (mk n m hp fr)=moveE (nilConst x) (elemOf ty t) (opd (tmk n m) x) d n m hp fr:=by
 rw[evOp_P rfl];simp only[evP,mk_tm,mk_hp]
 cases nilConst x with
 | false=>simp
 | true=>
  simp only[if_true]
  cases elemOf ty t with
  | none=>simp
  | some p=>obtain⟨e,sz⟩:=p; simp
@[simp] theorem evOp_assign [Globals] (x:Operand):evOp call ty { dst:=some d,op:=.assign x,type:=t,pos:=pos,after:=after,guard:=g } (mk n m hp fr)=moveE (nilConst x) (elemOf ty t) (opd (tmk n m) x) d n m hp fr:=by
 rw[evOp_P rfl];simp only[evP,mk_tm,mk_hp]
 cases nilConst x with
 | false=>simp
 | true=>
  simp only[if_true]
  cases elemOf ty t with
  | none=>simp
  | some p=>obtain⟨e,sz⟩:=p; simp
@[simp] theorem nilConst_tmp (i:Nat):nilConst (.tmp i)=false:=rfl
@[simp] theorem nilConst_int (k:IntKind)(x:Int):nilConst (.const (.int k x))=false:=rfl
@[simp] theorem nilConst_bool (x:Bool):nilConst (.const (.bool x))=false:=rfl
@[simp] theorem nilConst_str (x:ByteArray):nilConst (.const (.string x))=false:=rfl
@[simp] theorem nilConst_nil:nilConst (.const (.slice none 0 0))=true:=rfl
def litE (x:T):Option Value:=match x with
 | .c (.lit v)=>some v
 | _=>none
@[simp] theorem litE_lit (v:Value):litE (.c (.lit v))=some v:=rfl
def binE [Globals] (ty:Tys)(op:BinOp)(u:TypeId)(x y:T)(d n:Nat)(m:List (Nat × T))(hp:Heap)(fr:List Nat):Option St:=match x,y with
 | .c (.lit a),.c (.lit b)=>(bin ty op u a b).map fun r=>mk n (tput m d (.c (.lit r))) hp fr
 | .agg cs,.agg ds=>(eqAgg ty op u cs ds).map fun r=>mk n (tput m d (.c (.lit r))) hp fr
 | _,_=>none
@[simp] theorem binE_lit [Globals] (op:BinOp)(u:TypeId)(a b:Value):binE ty op u (.c (.lit a)) (.c (.lit b)) d n m hp fr=(bin ty op u a b).map fun r=>mk n (tput m d (.c (.lit r))) hp fr:=rfl
@[simp] theorem binE_agg [Globals] (op:BinOp)(u:TypeId)(cs ds:List C):binE ty op u (.agg cs) (.agg ds) d n m hp fr=(eqAgg ty op u cs ds).map fun r=>mk n (tput m d (.c (.lit r))) hp fr:=rfl
def eqK (ty:Tys)(op:BinOp)(g:Bool)(cs ds:List C)(k:Option K)(fs:Option (List (Nat × TypeId))):Option Value:=match g,op,k,fs with
 | true,.eql,some .struct,some fs=>(eqF ty cs ds fs).map .bool
 | true,.neq,some .struct,some fs=>(eqF ty cs ds fs).map fun b=>.bool (!b)
 | _,_,_,_=>none
@[simp] theorem eqAgg_eq [Globals] (op:BinOp)(u:TypeId)(cs ds:List C):eqAgg ty op u cs ds=eqK ty op (Globals.eq u) cs ds ((ty u).map Ty.k) ((ty u).map Ty.fields):=by
 unfold eqAgg eqK
 cases Globals.eq u with
 | false=>rfl
 | true=>
  simp only[if_true]
  cases ty u with
  | none=>cases op<;>rfl
  | some y=>
   obtain⟨k,_,_,_,fs⟩:=y
   cases k<;>cases op<;>rfl
@[simp] theorem eqK_neq (cs ds:List C)(fs:List (Nat × TypeId)):eqK ty .neq true cs ds (some .struct) (some fs)=(eqF ty cs ds fs).map fun b=>.bool (!b):=rfl
def eqC (k:Option K)(a b:Option C)(r:Option Bool):Option Bool:=match k,a,b with
 | some k,some (.lit a),some (.lit b)=>(eqV k a b).bind fun q=>r.map fun p=>q&&p
 | _,_,_=>none
@[simp] theorem eqC_lit (k:K)(a b:Value)(r:Option Bool):eqC (some k) (some (.lit a)) (some (.lit b)) r=(eqV k a b).bind fun q=>r.map fun p=>q&&p:=rfl
@[simp] theorem eqF_nil (cs ds:List C):eqF ty cs ds []=some true:=rfl
@[simp] theorem eqF_cons (cs ds:List C)(off:Nat)(ft:TypeId)(l:List (Nat × TypeId)):eqF ty cs ds ((off,ft)::l)=eqC ((ty ft).map Ty.k) cs[off]? ds[off]? (eqF ty cs ds l):=by
 rw[eqF];unfold eqC
 cases (ty ft).map Ty.k with
 | none=>rfl
 | some k=>
  cases cs[off]? with
  | none=>rfl
  | some c=>
   cases ds[off]? with
   | none=>cases c<;>rfl
   | some e=>cases c<;>cases e<;>rfl
@[simp] theorem evOp_bin [Globals] (op:BinOp)(u v:TypeId)(x y:Operand):evOp call ty { dst:=some d,op:=.binOp op u x y v,type:=t,pos:=pos,after:=after,guard:=g } (mk n m hp fr) =
  binE ty op u (opd (tmk n m) x) (opd (tmk n m) y) d n m hp fr:=by
 rw[evOp_P rfl];simp only[evP,mk_tm,mk_hp];generalize opd (tmk n m) x=X;generalize opd (tmk n m) y=Y;unfold binE
 split
 ·rename_i a b;simp only
  cases bin ty op u a b<;>simp
 ·rename_i cs ds;simp only
  cases eqAgg ty op u cs ds<;>simp
 ·rename_i h1 h2
  split
  ·exact absurd rfl (h1 _ _ rfl)
  ·exact absurd rfl (h2 _ _ rfl)
  ·rfl
@[simp] theorem evOp_un [Globals] (op:UnOp)(u:TypeId)(x:Operand):evOp call ty { dst:=some d,op:=.unOp op u x,type:=t,pos:=pos,after:=after,guard:=g } (mk n m hp fr) =
  (litE (opd (tmk n m) x)).bind fun a=>(un op a).map fun r=>mk n (tput m d (.c (.lit r))) hp fr:=by
 rw[evOp_P rfl];simp only[evP,mk_tm,mk_hp,litE]
 cases opd (tmk n m) x with
 | c X=>cases X with
  | lit a=>simp only[Option.bind_some]; cases un op a<;>simp
  | _=>simp
 | _=>simp
@[simp] theorem evOp_load [Globals] (u:TypeId)(x:Operand):evOp call ty { dst:=some d,op:=.load u x,type:=t,pos:=pos,after:=after,guard:=g } (mk n m hp fr) =
  (deref hp (opd (tmk n m) x)).bind fun p=>(loadAt ty u p.1 p.2).map fun v=>mk n (tput m d v) hp fr:=by
 rw[evOp_P rfl];simp only[evP,mk_tm,mk_hp]
 cases deref hp (opd (tmk n m) x) with
 | none=>rfl
 | some p=>
  obtain⟨cs,off⟩:=p;simp only[Option.bind_some]
  cases loadAt ty u cs off<;>simp
@[simp] theorem deref_fptr (cs:List C)(off:Nat):deref hp (.c (.fptr cs off))=some (cs,off):=rfl
@[simp] theorem deref_ptr (h i off:Nat):deref hp (.c (.ptr h i off))=(hget hp h).bind fun o=>(o.es[i]?).map fun e=>(e,off):=by
 simp only[deref]
 cases hget hp h with
 | none=>rfl
 | some o=>simp only[Option.bind_some]; cases o.es[i]?<;>rfl
theorem wrap_ok {x:Int}(h:-9223372036854775808≤x)(h':x≤9223372036854775807):IntKind.i64.wrap x=x:=by
 rw[IntKind.wrap_i64]; omega
section
variable {k:IntKind} {a b:Int}
end
def band (k:IntKind)(a b:Int):Int:=k.wrap (BitVec.ofInt k.bits a &&& BitVec.ofInt k.bits b).toNat
def bor (k:IntKind)(a b:Int):Int:=k.wrap (BitVec.ofInt k.bits a ||| BitVec.ofInt k.bits b).toNat
@[simp] theorem bin_and (k:IntKind)(a b:Int):bin ty .and t (.int k a) (.int k b)=some (.int k (band k a b)):=by simp[bin,intOp,bitsOp,band]
@[simp] theorem bin_or (k:IntKind)(a b:Int):bin ty .or t (.int k a) (.int k b)=some (.int k (bor k a b)):=by simp[bin,intOp,bitsOp,bor]
@[simp] theorem hds_lit (v:Value):(T.c (.lit v)).hds=[]:=rfl
@[simp] theorem hds_ref (h o l:Nat):(T.c (.ref h o l)).hds=[h]:=rfl
@[simp] theorem hds_ptr (h o l:Nat):(T.c (.ptr h o l)).hds=[h]:=rfl
@[simp] theorem hds_fptr (cs:List C)(o:Nat):(T.c (.fptr cs o)).hds=[]:=rfl
@[simp] theorem hds_junk:T.junk.hds=[]:=rfl
@[simp] theorem hds_agg (cs:List C):(T.agg cs).hds=cs.flatMap C.hds:=rfl
@[simp] theorem hds_itr (q:ByteArray)(pos:Nat):(T.itr q pos).hds=[]:=rfl
@[simp] theorem hds_cfn (f:FuncId)(cs:List C):(T.c (.fn f cs)).hds=[]:=rfl
@[simp] theorem hds_tup (ts:List T):(T.tup ts).hds=ts.flatMap T.hds1:=rfl
def takeE (d:Nat)(a:Option Heap)(r:T × List Ob)(n:Nat)(m:List (Nat × T))(hp:Heap)(fr:List Nat)(hs:List Nat):Option St:=match a with
 | some hp'=>some (mk n (tput m d (r.1.shift fun i=>d+10000*i)) hp' (if r.2.isEmpty&&r.1.flat then fr else fputs fr (hs.filter fun h=>(hget hp h).isSome)))
 | none=>none
@[simp] theorem takeE_some (hp':Heap)(r:T × List Ob)(hs:List Nat):takeE d (some hp') r n m hp fr hs=some (mk n (tput m d (r.1.shift fun i=>d+10000*i)) hp' (if r.2.isEmpty&&r.1.flat then fr else fputs fr (hs.filter fun h=>(hget hp h).isSome))):=rfl
def appQ [Globals] (ty:Tys)(d:Nat)(b x:Operand)(t u:TypeId)(s:St):Option St:=
 evA1 ty d b x t u (loose (!freeSrc s.hp (opd s.tm x)) ((srcOf s.hp (opd s.tm x)).map List.flatten) s)
def appB [Globals] (i:Bool)(ty:Tys)(d:Nat)(b x:Operand)(t u:TypeId)(s:St):Option St:=match i with
 | true=>evZ ty d b x t s
 | false=>evA2 ty d b x t u s
def baseE (e sz:Nat)(new:List (List C))(bytes:Nat)(base:T)(d n:Nat)(m:List (Nat × T))(hp:Heap)(fr:List Nat):Option St:=match base with
 | .c (.lit (.slice none 0 0))=>if new.length*bytes≤140737488355328 then newE (hget hp d) (mk n (tput m d (.c (.ref d 0 new.length))) (hput hp d ⟨false,true,e,sz,new⟩) fr) else none
 | .c (.ref h off len)=>(hget hp h).bind fun o=>
  if o.box=false∧o.elem=e∧o.sz=sz∧o.free=true∧fr.contains h=false∧off+len≤o.es.length∧(len+new.length)*bytes≤140737488355328 then
   some (mk n (tput (m.map fun p=>(p.1,p.2.kill h)) d (.c (.ref h 0 (len+new.length)))) (hput (hp.map fun p=>(p.1,p.2.killF h)) h ⟨false,true,e,sz,(o.es.drop off).take len++new⟩) fr)
  else none
 | _=>none
@[simp] theorem baseE_nil (e sz bytes:Nat)(new:List (List C)):baseE e sz new bytes (.c (.lit (.slice none 0 0))) d n m hp fr=if new.length*bytes≤140737488355328 then newE (hget hp d) (mk n (tput m d (.c (.ref d 0 new.length))) (hput hp d ⟨false,true,e,sz,new⟩) fr) else none:=rfl
def buildT (ty:Tys)(y:Ty)(parts:List (Nat × T)):Option (List C):=match y.k,y.zero with
 | .struct,some z=>match lits z with
  | some zs=>if y.fields.all (fun f=>(ty f.2).isSome)=true then fills (placeOf ty y) zs parts else none
  | none=>none
 | .array _ e,some z=>match lits z,ty e with
  | some zs,some ey=>fills (fun i=>some (i*ey.size,ey.size)) zs parts
  | _,_=>none
 | _,_=>none
def boundO (k r:Nat):Option T→Option Nat
 | none=>some r
 | some x=>match x with
  | .c (.lit (.int _ i))=>if 0≤i∧i.toNat≤k then some i.toNat else none
  | _=>none
def pickE (c:T)(x y:Option St):Option St:=match c with
 | .c (.lit (.bool b))=>if b=true then x else y
 | _=>none
@[simp] theorem pickE_lit (b:Bool)(x y:Option St):pickE (.c (.lit (.bool b))) x y=if b=true then x else y:=rfl
def tupE (x:T):Option (List T):=match x with
 | .tup ts=>some ts
 | _=>none
@[simp] theorem tupE_tup (ts:List T):tupE (.tup ts)=some ts:=rfl
def capE (k:Option K)(x:T):Option Nat:=match k,x with
 | some (.slice _),.c (.lit (.slice none 0 0))=>some 0
 | _,_=>none
@[simp] theorem capE_nil (e:TypeId):capE (some (.slice e)) (.c (.lit (.slice none 0 0)))=some 0:=rfl
def maxE (x y:T):Option T:=match x,y with
 | .c (.lit (.int k a)),.c (.lit (.int k' b))=>if k=k' then some (.c (.lit (.int k (max a b)))) else none
 | _,_=>none
def minE (x y:T):Option T:=match x,y with
 | .c (.lit (.int k a)),.c (.lit (.int k' b))=>if k=k' then some (.c (.lit (.int k (min a b)))) else none
 | _,_=>none
def convE (u v:Option K)(x:T):Option T:=match u,v,x with
 | some (.int _),some (.int k),.c (.lit (.int _ n))=>some (.c (.lit (.int k (k.wrap n))))
 | some .str,some .str,.c (.lit (.string s))=>some (.c (.lit (.string s)))
 | _,_,_=>none
@[simp] theorem evOp_pick [Globals] (c x y:Operand):evOp call ty { dst:=some d,op:=.pick c x y,type:=t,pos:=pos,after:=after,guard:=g } (mk n m hp fr) =
  pickE (opd (tmk n m) c) (some (mk n (tput m d (opd (tmk n m) x)) hp fr)) (some (mk n (tput m d (opd (tmk n m) y)) hp fr)):=by
 rw[evOp_P rfl];simp only[evP,mk_tm,mk_hp];generalize opd (tmk n m) c=X
 cases X with
 | c X=>cases X with
  | lit v=>cases v with
   | bool b=>simp only[pickE_lit]; cases b<;>simp
   | _=>rfl
  | _=>rfl
 | _=>rfl
@[simp] theorem evOp_box [Globals] (e:TypeId)(x:Operand):evOp call ty { dst:=some d,op:=.box e x,type:=t,pos:=pos,after:=after,guard:=g } (mk n m hp fr) =
  ((opd (tmk n m) x).cells).bind fun cs=>newE (hget hp d) (mk n (tput m d (.c (.ptr d 0 0))) (hput hp d ⟨true,cs.all C.free,e,cs.length,[cs]⟩) fr):=by
 rw[evOp_P rfl];simp only[evP,mk_tm,mk_hp]
 cases (opd (tmk n m) x).cells with
 | none=>rfl
 | some cs=>simp
@[simp] theorem evOp_alloc [Globals] (e:TypeId):evOp call ty { dst:=some d,op:=.alloc e,type:=t,pos:=pos,after:=after,guard:=g } (mk n m hp fr) =
  (((ty e).bind Ty.zero).bind lits).bind fun cs=>newE (hget hp d) (mk n (tput m d (.c (.ptr d 0 0))) (hput hp d ⟨true,true,e,cs.length,[cs]⟩) fr):=by
 rw[evOp_P rfl];simp only[evP,mk_tm,mk_hp]
 cases ty e with
 | none=>rfl
 | some y=>
  simp only[Option.bind_some]
  cases y.zero with
  | none=>rfl
  | some z=>
   simp only[Option.bind_some]
   cases lits z with
   | none=>rfl
   | some cs=>simp
def faE (sz:Option Nat)(fo:Nat)(x:T):Option T:=match sz,x with
 | some (_+1),.c (.ptr h i off)=>some (.c (.ptr h i (off+fo)))
 | some (_+1),.c (.fptr cs off)=>some (.c (.fptr cs (off+fo)))
 | _,_=>none
@[simp] theorem faE_ptr (k fo h i off:Nat):faE (some (k+1)) fo (.c (.ptr h i off))=some (.c (.ptr h i (off+fo))):=rfl
@[simp] theorem faE_fptr (k fo off:Nat)(cs:List C):faE (some (k+1)) fo (.c (.fptr cs off))=some (.c (.fptr cs (off+fo))):=rfl
def fieldOf (ty:Tys)(u:TypeId)(f:Nat):Option (Nat × TypeId):=(ty u).bind fun y=>match y.k with
 | .struct=>y.fields[f]?
 | _=>none
@[simp] theorem evOp_fieldAddr [Globals] (u:TypeId)(x:Operand)(f:Nat):evOp call ty { dst:=some d,op:=.fieldAddr u x f,type:=t,pos:=pos,after:=after,guard:=g } (mk n m hp fr) =
  (fieldOf ty u f).bind fun p=>(faE ((ty p.2).map Ty.size) p.1 (opd (tmk n m) x)).map fun v=>mk n (tput m d v) hp fr:=by
 rw[evOp_P rfl];simp only[evP,mk_tm,mk_hp,fieldOf]
 cases ty u with
 | none=>rfl
 | some y=>
  simp only[Option.bind_some]
  cases y.k with
  | struct=>
   simp only
   cases y.fields[f]? with
   | none=>rfl
   | some p=>
    obtain⟨fo,ft⟩:=p;simp only[Option.bind_some];generalize (ty ft).map Ty.size=z;generalize opd (tmk n m) x=X
    cases z with
    | none=>rfl
    | some z=>cases z with
     | zero=>rfl
     | succ z=>cases X with
      | c X=>cases X with
       | ptr h i off=>simp
       | fptr cs off=>simp
       | _=>rfl
      | _=>rfl
  | _=>rfl
def ixE (hp:Heap)(el:Option (TypeId × Nat))(x:T)(i:Int):Option T:=match x,el with
 | .c (.sl sz es),some (_,z)=>if z=sz∧0≤i then (es[i.toNat]?).map fun e=>.c (.fptr e 0) else none
 | .c (.ref h off len),some (_,z)=>(hget hp h).bind fun ob=>if z=ob.sz∧0≤i∧i.toNat<len then some (.c (.ptr h (off+i.toNat) 0)) else none
 | _,_=>none
@[simp] theorem ixE_sl (e:TypeId)(z sz:Nat)(es:List (List C))(i:Int):ixE hp (some (e,z)) (.c (.sl sz es)) i=if z=sz∧0≤i then (es[i.toNat]?).map fun e=>.c (.fptr e 0) else none:=rfl
@[simp] theorem ixE_ref (e:TypeId)(z h off len:Nat)(i:Int):ixE hp (some (e,z)) (.c (.ref h off len)) i=(hget hp h).bind fun ob=>if z=ob.sz∧0≤i∧i.toNat<len then some (.c (.ptr h (off+i.toNat) 0)) else none:=rfl
def intE (x:T):Option Int:=match x with
 | .c (.lit (.int _ i))=>some i
 | _=>none
@[simp] theorem intE_int (k:IntKind)(i:Int):intE (.c (.lit (.int k i)))=some i:=rfl
def ixA (ar:Option (Nat × Nat))(x:T)(i:Int):Option T:=match ar,x with
 | some (n,z),.c (.ptr h j off)=>if 0≤i∧i.toNat<n then some (.c (.ptr h j (off+i.toNat*z))) else none
 | some (n,z),.c (.fptr cs off)=>if 0≤i∧i.toNat<n then some (.c (.fptr cs (off+i.toNat*z))) else none
 | _,_=>none
@[simp] theorem ixA_fptr (n z off:Nat)(cs:List C)(i:Int):ixA (some (n,z)) (.c (.fptr cs off)) i=if 0≤i∧i.toNat<n then some (.c (.fptr cs (off+i.toNat*z))) else none:=rfl
def ixF (hp:Heap)(el:Option (TypeId × Nat))(ar:Option (Nat × Nat))(x:T)(i:Int):Option T:=match x,el with
 | .c (.sl sz es),some p=>ixE hp (some p) (.c (.sl sz es)) i
 | .c (.ref h off len),some p=>ixE hp (some p) (.c (.ref h off len)) i
 | x,_=>ixA ar x i
@[simp] theorem ixF_none (ar:Option (Nat × Nat))(x:T)(i:Int):ixF hp none ar x i=ixA ar x i:=by
 unfold ixF
 split<;>first | rfl | (rename_i h; cases h)
@[simp] theorem ixF_sl (p:TypeId × Nat)(ar:Option (Nat × Nat))(sz:Nat)(es:List (List C))(i:Int):ixF hp (some p) ar (.c (.sl sz es)) i=ixE hp (some p) (.c (.sl sz es)) i:=rfl
@[simp] theorem ixF_ref (p:TypeId × Nat)(ar:Option (Nat × Nat))(h off len:Nat)(i:Int):ixF hp (some p) ar (.c (.ref h off len)) i=ixE hp (some p) (.c (.ref h off len)) i:=rfl
@[simp] theorem evOp_indexAddr [Globals] (u:TypeId)(x ix:Operand):evOp call ty { dst:=some d,op:=.indexAddr u x ix,type:=t,pos:=pos,after:=after,guard:=g } (mk n m hp fr) =
  (intE (opd (tmk n m) ix)).bind fun i=>(ixF hp (elemOf ty u) (arrOf ty u) (opd (tmk n m) x) i).map fun v=>mk n (tput m d v) hp fr:=by
 rw[evOp_P rfl];simp only[evP,mk_tm,mk_hp,intE];have other:∀ (i:Int) (X:T),((arrAddr ty u X i).map fun v=>(v,(none:Option Ob))).bind (putP (mk n m hp fr) (some d))=(ixA (arrOf ty u) X i).map fun v=>mk n (tput m d v) hp fr:=by
  intro i X;show ((ixA (arrOf ty u) X i).map fun v=>(v,(none:Option Ob))).bind (putP (mk n m hp fr) (some d))=_
  cases ixA (arrOf ty u) X i with
  | none=>rfl
  | some v=>simp
 cases opd (tmk n m) ix with
 | c X=>cases X with
  | lit v=>cases v with
   | int k i=>
    simp only[Option.bind_some]
    cases opd (tmk n m) x with
    | c Y=>cases Y with
     | sl sz es=>
      cases elemOf ty u with
      | none=>simp only[ixF_none]; exact other i _
      | some p=>
       obtain⟨e,z⟩:=p;simp only[ixF_sl,ixE_sl]
       split
       ·cases es[i.toNat]?<;>simp
       ·rfl
     | ref h off len=>
      cases elemOf ty u with
      | none=>simp only[ixF_none]; exact other i _
      | some p=>
       obtain⟨e,z⟩:=p;simp only[ixF_ref,ixE_ref]
       cases hget hp h with
       | none=>rfl
       | some ob=>simp only[Option.bind_some]; split<;>simp
     | _=>exact other i _
    | _=>exact other i _
   | _=>rfl
  | _=>rfl
 | _=>rfl
def atE (ty:Tys)(y:Option Ty)(x:T)(i:Int):Option T:=match x with
 | .c (.lit (.string s))=>match y.map Ty.k with
  | some .str=>if 0≤i then (s[i.toNat]?).map fun b=>.c (.lit (.int .u8 b.toNat)) else none
  | _=>none
 | .agg cs=>match y.map Ty.k with
  | some (.array n e)=>(ty e).bind fun ey=>if 0≤i∧i.toNat<n then loadAt ty e cs (i.toNat*ey.size) else none
  | _=>none
 | _=>none
@[simp] theorem evOp_index [Globals] (u:TypeId)(x ix:Operand):evOp call ty { dst:=some d,op:=.index u x ix,type:=t,pos:=pos,after:=after,guard:=g } (mk n m hp fr) =
  (intE (opd (tmk n m) ix)).bind fun i=>(atE ty (ty u) (opd (tmk n m) x) i).map fun v=>mk n (tput m d v) hp fr:=by
 rw[evOp_P rfl];simp only[evP,mk_tm,mk_hp,intE,atE]
 cases opd (tmk n m) ix with
 | c X=>cases X with
  | lit v=>cases v with
   | int k i=>
    simp only[Option.bind_some]
    cases opd (tmk n m) x with
    | c Y=>cases Y with
     | lit w=>cases w with
      | string s=>
       simp only
       cases ty u with
       | none=>rfl
       | some y=>
        simp only[Option.map_some]
        cases y.k with
        | str=>
         simp only
         split
         ·cases s[i.toNat]?<;>simp
         ·rfl
        | _=>rfl
      | _=>rfl
     | _=>rfl
    | agg cs=>
     simp only
     cases ty u with
     | none=>rfl
     | some y=>
      simp only[Option.map_some]
      cases y.k with
      | array n e=>
       simp only
       cases ty e with
       | none=>rfl
       | some ey=>
        simp only[Option.bind_some]
        split
        ·cases loadAt ty e cs (i.toNat*ey.size)<;>simp
        ·rfl
      | _=>rfl
    | _=>rfl
   | _=>rfl
  | _=>rfl
 | _=>rfl
@[simp] theorem evOp_extract [Globals] (x:Operand)(i:Nat):evOp call ty { dst:=some d,op:=.extract x i,type:=t,pos:=pos,after:=after,guard:=g } (mk n m hp fr) =
  (tupE (opd (tmk n m) x)).bind fun ts=>(ts[i]?).map fun v=>mk n (tput m d v) hp fr:=by
 rw[evOp_P rfl];simp only[evP,mk_tm,mk_hp,tupE]
 cases opd (tmk n m) x with
 | tup ts=>simp only[Option.bind_some]; cases ts[i]?<;>simp
 | _=>rfl
def lenE (k:Option K)(x:T):Option Nat:=match k with
 | some (.slice _)=>lenS x
 | some .str=>lenStr x
 | _=>none
@[simp] theorem lenE_slice (e:TypeId)(x:T):lenE (some (.slice e)) x=lenS x:=rfl
@[simp] theorem lenE_str (x:T):lenE (some .str) x=lenStr x:=rfl
@[simp] theorem lenS_ref (h off len:Nat):lenS (.c (.ref h off len))=some len:=rfl
@[simp] theorem lenS_lit (a:Option Addr)(l c:Nat):lenS (.c (.lit (.slice a l c)))=some l:=rfl
@[simp] theorem evOp_len [Globals] (x:Operand)(u:TypeId):evOp call ty { dst:=some d,op:=.call { callee:=.builtin .len,args:=#[x],argTypes:=#[u] },type:=t,pos:=pos,after:=after,guard:=g } (mk n m hp fr) =
  (lenE ((ty u).map Ty.k) (opd (tmk n m) x)).map fun (k:Nat)=>mk n (tput m d (.c (.lit (.int .i64 k)))) hp fr:=by
 rw[evOp_P rfl];simp only[evP,mk_tm,mk_hp,List.map_cons,List.map_nil,lenE]
 split
 ·rename_i e h; rw[h]; simp only; cases lenS (opd (tmk n m) x)<;>simp
 ·rename_i h; rw[h]; simp only; cases lenStr (opd (tmk n m) x)<;>simp
 ·rename_i h1 h2
  split
  ·rename_i e h; exact absurd h (h1 e)
  ·rename_i h; exact absurd h h2
  ·rfl
@[simp] theorem evOp_cap [Globals] (x:Operand)(u:TypeId):evOp call ty { dst:=some d,op:=.call { callee:=.builtin .cap,args:=#[x],argTypes:=#[u] },type:=t,pos:=pos,after:=after,guard:=g } (mk n m hp fr) =
  (capE ((ty u).map Ty.k) (opd (tmk n m) x)).map fun (k:Nat)=>mk n (tput m d (.c (.lit (.int .i64 k)))) hp fr:=by
 rw[evOp_P rfl];simp only[evP,mk_tm,mk_hp,List.map_cons,List.map_nil,capE];generalize opd (tmk n m) x=X
 cases hz:(ty u).map Ty.k with
 | none=>
  split
  ·rename_i u' h1 h2;have:u'=u:=by simpa using h2.symm
   subst this;rw[hz];rfl
  ·rfl
 | some z=>
  split
  ·rename_i u' h1 h2;have:u'=u:=by simpa using h2.symm
   subst this;simp only[List.cons.injEq,and_true] at h1;subst h1;rw[hz]
   cases z<;>first | rfl | simp
  ·rename_i h
   split
   ·rename_i e h1 h2;exact (h u rfl rfl).elim
   ·rfl
@[simp] theorem evOp_min [Globals] (x y:Operand)(us:Array TypeId):evOp call ty { dst:=some d,op:=.call { callee:=.builtin .min,args:=#[x,y],argTypes:=us },type:=t,pos:=pos,after:=after,guard:=g } (mk n m hp fr) =
  (minE (opd (tmk n m) x) (opd (tmk n m) y)).map fun v=>mk n (tput m d v) hp fr:=by
 rw[evOp_P rfl];simp only[evP,mk_tm,mk_hp,List.map_cons,List.map_nil,minE]
 split
 ·rename_i k a k' b h;simp only[List.cons.injEq,and_true] at h;rw[h.1,h.2];simp only
  split<;>simp
 ·rename_i h
  split
  ·rename_i k a k' b h1 h2;exact (h k a k' b (by rw[h1,h2])).elim
  ·rfl
def bytE (k:Option K)(b:Option ByteArray)(d n:Nat)(m:List (Nat × T))(hp:Heap)(fr:List Nat):Option St:=match k,b with
 | some (.int .u8),some b=>some (mk n (tput m d (.c (.lit (.string b)))) hp fr)
 | _,_=>none
@[simp] theorem bytE_some (b:ByteArray):bytE (some (.int .u8)) (some b) d n m hp fr=some (mk n (tput m d (.c (.lit (.string b)))) hp fr):=rfl
def strE (k:Option K)(e:TypeId)(X:T)(d n:Nat)(m:List (Nat × T))(hp:Heap)(fr:List Nat):Option St:=match k,X with
 | some (.int .u8),.c (.lit (.string q))=>newE (hget hp d) (mk n (tput m d (.c (.ref d 0 q.size))) (hput hp d ⟨false,true,e,1,byteEs q⟩) fr)
 | _,_=>none
@[simp] theorem strE_some (e:TypeId)(q:ByteArray):strE (some (.int .u8)) e (.c (.lit (.string q))) d n m hp fr=newE (hget hp d) (mk n (tput m d (.c (.ref d 0 q.size))) (hput hp d ⟨false,true,e,1,byteEs q⟩) fr):=rfl
def convP (ty:Tys)(y z:Option K)(X:T)(d n:Nat)(m:List (Nat × T))(hp:Heap)(fr:List Nat):Option St:=match y,z with
 | some (.slice e),some .str=>bytE ((ty e).map Ty.k) (bytesT hp X) d n m hp fr
 | some .str,some (.slice e)=>strE ((ty e).map Ty.k) e X d n m hp fr
 | y,z=>(convE y z X).map fun r=>mk n (tput m d r) hp fr
@[simp] theorem convP_bytes (e:TypeId)(X:T):convP ty (some (.slice e)) (some .str) X d n m hp fr=bytE ((ty e).map Ty.k) (bytesT hp X) d n m hp fr:=rfl
@[simp] theorem convP_str (e:TypeId)(X:T):convP ty (some .str) (some (.slice e)) X d n m hp fr=strE ((ty e).map Ty.k) e X d n m hp fr:=rfl
@[simp] theorem convP_int (a k:IntKind)(X:T):convP ty (some (.int a)) (some (.int k)) X d n m hp fr=(convE (some (.int a)) (some (.int k)) X).map fun r=>mk n (tput m d r) hp fr:=rfl
def wS (k:Option K)(X:T)(d n:Nat)(m:List (Nat × T))(hp:Heap)(fr:List Nat):Option St:=match k,X with
 | some (.int .u8),.c (.ref h off len)=>(hget hp h).bind fun ob=>if fr.contains h=false∧0<len then some (mk n (tput m d (.c (.ref h off len))) (hput hp h ob) fr) else none
 | _,_=>none
@[simp] theorem wS_ref (h off len:Nat):wS (some (.int .u8)) (.c (.ref h off len)) d n m hp fr=(hget hp h).bind fun ob=>if fr.contains h=false∧0<len then some (mk n (tput m d (.c (.ref h off len))) (hput hp h ob) fr) else none:=rfl
def wE (ty:Tys)(k:Option K)(X:T)(cv:Option St)(d n:Nat)(m:List (Nat × T))(hp:Heap)(fr:List Nat):Option St:=match k with
 | some (.slice e)=>wS ((ty e).map Ty.k) X d n m hp fr
 | _=>cv
@[simp] theorem wE_slice (e:TypeId)(X:T)(cv:Option St):wE ty (some (.slice e)) X cv d n m hp fr=wS ((ty e).map Ty.k) X d n m hp fr:=rfl
@[simp] theorem wE_int (k:IntKind)(X:T)(cv:Option St):wE ty (some (.int k)) X cv d n m hp fr=cv:=rfl
@[simp] theorem wE_str (X:T)(cv:Option St):wE ty (some .str) X cv d n m hp fr=cv:=rfl
def cvtI (b:Bool)(x y:Option St):Option St:=if b=true then x else y
@[simp] theorem cvtI_true (x y:Option St):cvtI true x y=x:=rfl
@[simp] theorem cvtI_false (x y:Option St):cvtI false x y=y:=rfl
theorem evP_convert [Globals] (u v:TypeId)(x:Operand):(evP ty { dst:=some d,op:=.convert u v x,type:=t,pos:=pos,after:=after,guard:=g } (tmk n m) hp).bind (putP (mk n m hp fr) (some d)) =
  convP ty ((ty u).map Ty.k) ((ty v).map Ty.k) (opd (tmk n m) x) d n m hp fr:=by
 simp only[evP,mk_tm,mk_hp];generalize opd (tmk n m) x=X;generalize (ty u).map Ty.k=y;generalize (ty v).map Ty.k=z
 cases y with
 | none=>rfl
 | some y=>cases z with
  | none=>cases y<;>rfl
  | some z=>cases y with
   | int a=>cases z with
    | int k=>cases X with
     | c X=>cases X with
      | lit v=>cases v<;>first | rfl | simp[convP,convE]
      | _=>rfl
     | _=>rfl
    | _=>rfl
   | slice e=>cases z with
    | str=>
     simp only[convP,bytE]
     cases (ty e).map Ty.k with
     | none=>rfl
     | some k=>cases k with
      | int k=>cases k<;>cases bytesT hp X<;>first | rfl | simp
      | _=>rfl
    | _=>rfl
   | str=>cases z with
    | str=>cases X with
     | c X=>cases X with
      | lit v=>cases v<;>first | rfl | simp[convP,convE]
      | _=>rfl
     | _=>rfl
    | slice e=>
     cases X with
     | c X=>cases X with
      | lit v=>cases v with
       | string q=>
        simp only[convP,strE]
        cases (ty e).map Ty.k with
        | none=>rfl
        | some k=>cases k with
         | int k=>cases k<;>first | rfl | (simp only[Option.bind_some,putP_new]; done)
         | _=>rfl
       | _=>simp only[convP,strE]; cases (ty e).map Ty.k with
        | none=>rfl
        | some k=>cases k with
         | int k=>cases k<;>rfl
         | _=>rfl
      | _=>simp only[convP,strE]; cases (ty e).map Ty.k with
        | none=>rfl
        | some k=>cases k with
         | int k=>cases k<;>rfl
         | _=>rfl
     | _=>simp only[convP,strE]; cases (ty e).map Ty.k with
        | none=>rfl
        | some k=>cases k with
         | int k=>cases k<;>rfl
         | _=>rfl
    | _=>rfl
   | _=>cases z<;>rfl
@[simp] theorem evOp_convert [Globals] (u v:TypeId)(x:Operand):evOp call ty { dst:=some d,op:=.convert u v x,type:=t,pos:=pos,after:=after,guard:=g } (mk n m hp fr) =
  cvtI (u==v) (wE ty ((ty u).map Ty.k) (opd (tmk n m) x) (convP ty ((ty u).map Ty.k) ((ty v).map Ty.k) (opd (tmk n m) x) d n m hp fr) d n m hp fr) (convP ty ((ty u).map Ty.k) ((ty v).map Ty.k) (opd (tmk n m) x) d n m hp fr):=by
 have h0:=evP_convert (ty:=ty) (n:=n) (m:=m) (hp:=hp) (fr:=fr) (d:=d) (t:=t) (pos:=pos) (after:=after) (g:=g) u v x;unfold evOp;simp only[mk_tm,mk_hp]
 by_cases huv:u=v
 ·rw[if_pos huv,beq_iff_eq.2 huv,cvtI_true,← h0];unfold evW wE;simp only[mk_tm,mk_hp,mk_fr]
  cases hk:(ty u).map Ty.k with
  | none=>rfl
  | some k=>
   cases k with
   | slice e=>
    simp only[wS]
    cases (ty e).map Ty.k with
    | none=>rfl
    | some k2=>cases k2 with
     | int k3=>cases k3<;>first
      | rfl
      | (cases opd (tmk n m) x with
       | c X=>cases X with
        | ref h off len=>
         simp only
         cases hget hp h with
         | none=>rfl
         | some ob=>simp only[Option.bind_some,mk,tmk_set]
        | _=>rfl
       | _=>rfl)
     | _=>rfl
   | _=>rfl
 ·rw[if_neg huv,show (u==v)=false by simpa using huv,cvtI_false,← h0]
def outR [Globals] (ty:Tys)(rs:List ResultVar)(us:List TypeId)(s:St):Option (T × List Ob):=
 match rs.mapM (resT ty s) with
 | some [t]=>match exp1 s.hp s.fr ((us.map (layE ty 5)).headD []) t [] [] with
  | some (t,_,obs)=>some (t,obs)
  | none=>none
 | some ts=>match expTs s.hp s.fr (us.map (layE ty 5)) ts [] [] with
  | some (ts,_,obs)=>some (.tup ts,obs)
  | none=>none
 | none=>none
def retE [Globals] (ty:Tys)(rs:List ResultVar)(us:List TypeId):Ex × St→Option (T × List Ob)
 | (.exit _,_)=>none
 | (.pan _ _,_)=>none
 | (_,s)=>outR ty rs us s
@[simp] theorem retE_ret [Globals] (rs:List ResultVar)(us:List TypeId)(s:St):retE ty rs us (.ret,s)=outR ty rs us s:=rfl
theorem ev_run [Globals] [Prims] {P : Program} {K : Nat → Option (Nat → Option (List Nat))} {f : FuncId} {args : List T} {r : T × List Ob} {fn : Func} {c : Code} {rs : List ResultVar} {us : List TypeId} {n : Nat} (hf : P.funcs[f]? = some fn) (hK : K f = some kp) (hb : fn.body = some c) (hr : fn.results.toList = rs) (hu : fn.resultTypes.toList = us) (ht : fn.ntmps = n) (hn : (fn.name == "runtime.NumGoroutine") = false) (hlo : lentOf args = []) (hm : marked args = false) (ha : args.length ≤ n)
  (h:(evCode (evCall P ty K) ty kp c (mk n (args.zipIdx.map fun p=>(p.2,p.1)) [] [])).bind (retE ty rs us)=some r):evCall P ty K f args=some r:=by
 subst hr;subst hu;subst ht;rw[Option.bind_eq_some_iff] at h;obtain⟨x,hx,hr⟩:=h;rw[← mk_start args ha] at hx;obtain⟨e,s⟩:=x;refine ev_start hK hf hb hn hlo hm hx ?_ ?_ ?_
 ·intro id he;simp only at he;subst he
  cases hr
 ·intro u cs he;simp only at he;subst he
  cases hr
 ·cases e with
  | exit id=>cases hr
  | pan _ _=>cases hr
  | norm=>exact hr
  | ret=>exact hr
@[simp] theorem free_lit (v:Value):C.free (.lit v)=true:=rfl
@[simp] theorem chds_lit (v:Value):C.hds (.lit v)=[]:=rfl
@[simp] theorem kill_lit (h:Nat)(v:Value):C.kill h (.lit v)=(.lit v):=rfl
@[simp] theorem isLit_lit (v:Value):C.isLit (.lit v)=true:=rfl
@[simp] theorem shift_lit (g:Nat→Nat)(v:Value):C.shift g (.lit v)=(.lit v):=rfl
@[simp] theorem frz_lit (h:Nat)(o:Ob)(v:Value):C.frz h o (.lit v)=(.lit v):=rfl
@[simp] theorem data_lit {hp:Heap}(q:Nat)(v:Value):dataC hp q (.lit v)=some (.lit v):=by cases q<;>rfl
@[simp] theorem hsC_lit {hp:Heap}(q:Nat)(v:Value):hsC hp q (.lit v)=[]:=by cases q<;>rfl
@[simp] theorem free_ref (k off len:Nat):C.free (.ref k off len)=false:=rfl
@[simp] theorem chds_ref (k off len:Nat):C.hds (.ref k off len)=[k]:=rfl
@[simp] theorem has_ref (h:Nat)(k off len:Nat):C.has h (.ref k off len)=(k==h):=rfl
@[simp] theorem kill_ref (h:Nat)(k off len:Nat):C.kill h (.ref k off len)=if k=h then .junk else (.ref k off len):=by
 simp[C.kill]
@[simp] theorem isLit_ref (k off len:Nat):C.isLit (.ref k off len)=false:=rfl
@[simp] theorem shift_ref (g:Nat→Nat)(k off len:Nat):C.shift g (.ref k off len)=(.ref (g k) off len):=rfl
@[simp] theorem frz_ref (h:Nat)(o:Ob)(k off len:Nat):C.frz h o (.ref k off len)=if k=h then (if off+len≤o.es.length then .sl o.sz ((o.es.drop off).take len) else .junk) else .ref k off len:=rfl
@[simp] theorem free_ptr (k i off:Nat):C.free (.ptr k i off)=false:=rfl
@[simp] theorem chds_ptr (k i off:Nat):C.hds (.ptr k i off)=[k]:=rfl
@[simp] theorem has_ptr (h:Nat)(k i off:Nat):C.has h (.ptr k i off)=(k==h):=rfl
@[simp] theorem kill_ptr (h:Nat)(k i off:Nat):C.kill h (.ptr k i off)=if k=h then .junk else (.ptr k i off):=by
 simp[C.kill]
@[simp] theorem shift_ptr (g:Nat→Nat)(k i off:Nat):C.shift g (.ptr k i off)=(.ptr (g k) i off):=rfl
def ptrF (e:Option (List C))(off:Nat):C:=match e with
 | some e=>.fptr e off
 | none=>.junk
@[simp] theorem ptrF_some (e:List C)(off:Nat):ptrF (some e) off=.fptr e off:=rfl
@[simp] theorem frz_ptr (h:Nat)(o:Ob)(k i off:Nat):C.frz h o (.ptr k i off)=if k=h then ptrF (o.es[i]?) off else .ptr k i off:=rfl
@[simp] theorem data_ptr {hp:Heap}(q:Nat)(k i off:Nat):dataC hp q (.ptr k i off)=none:=by cases q<;>rfl
@[simp] theorem hsC_ptr {hp:Heap}(q:Nat)(k i off:Nat):hsC hp q (.ptr k i off)=[]:=by cases q<;>rfl
@[simp] theorem free_fptr (cs:List C)(off:Nat):C.free (.fptr cs off)=true:=rfl
@[simp] theorem data_fn {hp:Heap}(q:Nat)(f:FuncId)(cs:List C):dataC hp q (.fn f cs)=some (.fn f cs):=by cases q<;>rfl
@[simp] theorem hsC_fn {hp:Heap}(q:Nat)(f:FuncId)(cs:List C):hsC hp q (.fn f cs)=[]:=by cases q<;>rfl
@[simp] theorem chds_junk :C.hds .junk=[]:=rfl
@[simp] theorem kill_junk (h:Nat) :C.kill h .junk=.junk:=rfl
@[simp] theorem shift_junk (g:Nat→Nat) :C.shift g .junk=.junk:=rfl
@[simp] theorem tcells_c (x:C):T.cells (.c x)=some [x]:=rfl
@[simp] theorem tkill_c (h:Nat)(x:C):T.kill h (.c x)=(.c (x.kill h)):=rfl
@[simp] theorem tfrz_c (h:Nat)(o:Ob)(x:C):T.frz h o (.c x)=(.c (x.frz h o)):=rfl
@[simp] theorem tshift1_c (g:Nat→Nat)(x:C):T.shift1 g (.c x)=(.c (x.shift g)):=rfl
@[simp] theorem tshift_c (g:Nat→Nat)(x:C):T.shift g (.c x)=(.c (x.shift g)):=rfl
@[simp] theorem tflat1_c (x:C):T.flat1 (.c x)=x.isLit:=rfl
@[simp] theorem tflat_c (x:C):T.flat (.c x)=x.isLit:=rfl
@[simp] theorem hds1_c (x:C):T.hds1 (.c x)=x.hds:=rfl
@[simp] theorem dataT_c {hp:Heap}(x:C):dataT hp (.c x)=(dataC hp 3 x).map .c:=rfl
@[simp] theorem hsT_c {hp:Heap}(x:C):hsT hp (.c x)=hsC hp 3 x:=rfl
@[simp] theorem tcells_agg (cs:List C):T.cells (.agg cs)=some cs:=rfl
@[simp] theorem tkill_agg (h:Nat)(cs:List C):T.kill h (.agg cs)=(.agg (cs.map (C.kill h))):=rfl
@[simp] theorem tshift1_agg (g:Nat→Nat)(cs:List C):T.shift1 g (.agg cs)=(.agg (cs.map (C.shift g))):=rfl
@[simp] theorem tshift_agg (g:Nat→Nat)(cs:List C):T.shift g (.agg cs)=(.agg (cs.map (C.shift g))):=rfl
@[simp] theorem tflat1_agg (cs:List C):T.flat1 (.agg cs)=cs.all C.isLit:=rfl
@[simp] theorem dataT_agg {hp:Heap}(cs:List C):dataT hp (.agg cs)=(cs.mapM (dataC hp 3)).map .agg:=rfl
@[simp] theorem hsT_agg {hp:Heap}(cs:List C):hsT hp (.agg cs)=cs.flatMap (hsC hp 3):=rfl
@[simp] theorem tshift_tup (g:Nat→Nat)(ts:List T):T.shift g (.tup ts)=(.tup (ts.map (T.shift1 g))):=rfl
@[simp] theorem tflat_tup (ts:List T):T.flat (.tup ts)=ts.all T.flat1:=rfl
@[simp] theorem data_ref (q k off len:Nat):dataC hp (q+1) (.ref k off len)=(hget hp k).bind fun o=>if o.box=true then none else if off+len≤o.es.length then (if o.free=true then some (.sl o.sz ((o.es.drop off).take len)) else (((o.es.drop off).take len).mapM fun (e:List C)=>e.mapM (dataC hp q)).map fun es=>.sl o.sz es) else none:=by
 simp only[dataC]
 cases hget hp k with
 | none=>rfl
 | some o=>
  simp only[Option.bind_some];refine ite_congr rfl (fun _=>rfl) (fun _=>ite_congr rfl (fun _=>ite_congr rfl (fun _=>rfl) (fun _=>?_)) (fun _=>rfl))
  cases ((o.es.drop off).take len).mapM fun e=>e.mapM (dataC hp q)<;>rfl
def hsO (hp:Heap)(q:Nat)(o:Option Ob):List Nat:=match o with
 | some o=>if o.free then [] else o.es.flatMap fun e=>e.flatMap (hsC hp q)
 | none=>[]
@[simp] theorem hsO_some (q:Nat)(o:Ob):hsO hp q (some o)=if o.free=true then [] else o.es.flatMap fun e=>e.flatMap (hsC hp q):=rfl
@[simp] theorem hsC_ref (q k off len:Nat):hsC hp (q+1) (.ref k off len)=k::hsO hp q (hget hp k):=rfl
attribute [simp] toEvict sites makes siteOf Ob.hds hnext tidyL Ob.frz Ob.kill Ob.killF takeIn addObs fputs fput
def fndA (as:List T)(d n:Nat)(m:List (Nat × T))(hp:Heap)(fr:List Nat):Option St:=match as with
 | [.c (.lit (.string q)),.c (.lit (.int .u8 b))]=>some (mk n (tput m d (.c (.lit (.int .i64 (findB q b))))) hp fr)
 | _=>none
def fndE (as:List T)(caps:List C)(d n:Nat)(m:List (Nat × T))(hp:Heap)(fr:List Nat):Option St:=match caps with
 | []=>fndA as d n m hp fr
 | _::_=>none
@[simp] theorem fndE_some (q:ByteArray)(b:Int):fndE [.c (.lit (.string q)),.c (.lit (.int .u8 b))] [] d n m hp fr=some (mk n (tput m d (.c (.lit (.int .i64 (findB q b))))) hp fr):=rfl
def killM:List Nat→List (Nat × T)→List (Nat × T)
 | [],m=>m
 | h::l,m=>killM l (m.map fun p=>(p.1,p.2.kill h))
def killH:List Nat→Heap→Heap
 | [],hp=>hp
 | h::l,hp=>killH l (hp.map fun p=>(p.1,p.2.killF h))
theorem killS_mk:∀ (l:List Nat) {m:List (Nat × T)} {hp:Heap},killS l (mk n m hp fr)=mk n (killM l m) (killH l hp) fr
 | [],m,hp=>rfl
 | h::l,m,hp=>by
  simp only[killS,mk_tm,mk_hp,mk_fr,killM,killH];rw[← killS_mk l];congr 1;simp only[mk];rw[tmk_map (T.kill h) rfl]
def lndT (g:Nat→Nat)(d:Nat)(r:T × List Ob)(n:Nat)(m:List (Nat × T))(fr dhs:List Nat)(hp:Option Heap):Option St:=match hp with
 | some hp=>some (mk n (tput m d (r.1.shift g)) hp (fputs fr dhs))
 | none=>none
@[simp] theorem lndT_some (g:Nat→Nat)(d:Nat)(r:T × List Ob)(dhs:List Nat)(hp:Heap):lndT g d r n m fr dhs (some hp)=some (mk n (tput m d (r.1.shift g)) hp (fputs fr dhs)):=rfl
def lndR (hs dhs:List Nat)(d n:Nat)(m:List (Nat × T))(hp:Heap)(fr:List Nat)(r:T × List Ob):Option St:=
 lndT (backH hs d) d r n (killM (rowsOf hp hs) m) fr (dhs.filter fun h=>(hget hp h).isSome) (addObs (putL (killH (rowsOf hp hs) hp) hs (r.2.map (Ob.shift (backH hs d)))) d 0 ((r.2.drop hs.length).map (Ob.shift (backH hs d))))
theorem takeL_mk (hs dhs:List Nat)(r:T × List Ob):takeL (mk n m hp fr) d hs dhs r=lndR hs dhs d n m hp fr r:=by
 unfold takeL lndR;rw[killS_mk];simp only[mk_hp,mk_tm,mk_fr]
 cases addObs (putL (killH (rowsOf hp hs) hp) hs (r.2.map (Ob.shift (backH hs d)))) d 0 ((r.2.drop hs.length).map (Ob.shift (backH hs d))) with
 | none=>rfl
 | some hp'=>simp only[lndT_some,mk,tmk_set]
def lndC (call:CallF)(f:FuncId)(tyArgs:List T→List T)(hs nms dhs:List Nat)(obs:List Ob)(d n:Nat)(m:List (Nat × T))(hp:Heap)(fr:List Nat)(b:Bool)(args:Option (List T)):Option St:=match args,b with
 | some args,true=>(call f (tyArgs args++obs.map fun ob=>obT (ob.shift (nmOf hs nms)))).bind (lndR hs dhs d n m hp fr)
 | _,_=>none
@[simp] theorem lndC_some (call:CallF)(f:FuncId)(tyArgs:List T→List T)(hs nms dhs:List Nat)(obs:List Ob)(args:List T):lndC call f tyArgs hs nms dhs obs d n m hp fr true (some args)=(call f (tyArgs args++obs.map fun ob=>obT (ob.shift (nmOf hs nms)))).bind (lndR hs dhs d n m hp fr):=rfl
def lndO (call:CallF)(f:FuncId)(tyArgs:List T→List T)(ts:List T)(hs:List Nat)(d n:Nat)(m:List (Nat × T))(hp:Heap)(fr:List Nat)(obs:Option (List Ob)):Option St:=match obs with
 | some obs=>lndC call f tyArgs hs (namesFrom 0 obs) (ts.flatMap (dhsT hp hs)) obs d n m hp fr (!hs.isEmpty&&(ts.flatMap (dhsT hp hs)).all fun h=>!hs.contains h) (ts.mapM (handT hp hs (namesFrom 0 obs)))
 | none=>none
@[simp] theorem lndO_some (call:CallF)(f:FuncId)(tyArgs:List T→List T)(ts:List T)(hs:List Nat)(obs:List Ob):lndO call f tyArgs ts hs d n m hp fr (some obs) =
  lndC call f tyArgs hs (namesFrom 0 obs) (ts.flatMap (dhsT hp hs)) obs d n m hp fr (!hs.isEmpty&&(ts.flatMap (dhsT hp hs)).all fun h=>!hs.contains h) (ts.mapM (handT hp hs (namesFrom 0 obs))):=rfl
def lndH (call:CallF)(f:FuncId)(tyArgs:List T→List T)(ts:List T)(d n:Nat)(m:List (Nat × T))(hp:Heap)(fr:List Nat)(hs:List Nat):Option St:=lndO call f tyArgs ts hs d n m hp fr (lentObs hp fr hs hs)
theorem evL2_mk [Globals] {o:Oper}(f:FuncId)(ts:List T)(hs:List Nat):evL2 call ty o f d ts hs (mk n m hp fr)=lndH call f (wkArgs ty (callTys o)) ts d n m hp fr hs:=by
 unfold evL2 lndH;have e1:(mk n m hp fr).hp=hp:=rfl;have e2:(mk n m hp fr).fr=fr:=rfl;rw[e1,e2]
 cases lentObs hp fr hs hs with
 | none=>rfl
 | some obs=>
  show (match ts.mapM (handT hp hs (namesFrom 0 obs)) with | none=>none | some args=>_)=lndC call f (wkArgs ty (callTys o)) hs (namesFrom 0 obs) (ts.flatMap (dhsT hp hs)) obs d n m hp fr (!hs.isEmpty&&(ts.flatMap (dhsT hp hs)).all fun h=>!hs.contains h) (ts.mapM (handT hp hs (namesFrom 0 obs)))
  cases ts.mapM (handT hp hs (namesFrom 0 obs)) with
  | none=>rfl
  | some args=>
   show (if (!hs.isEmpty&&(ts.flatMap (dhsT hp hs)).all fun h=>!hs.contains h)=true then _ else none)=_
   cases hc:(!hs.isEmpty&&(ts.flatMap (dhsT hp hs)).all fun h=>!hs.contains h) with
   | false=>rfl
   | true=>
    rw[if_pos rfl];simp only[lndC_some]
    cases call f (wkArgs ty (callTys o) args++obs.map fun ob=>obT (ob.shift (nmOf hs (namesFrom 0 obs)))) with
    | none=>rfl
    | some r=>exact takeL_mk _ _ _
def lnpU (hs dhs:List Nat)(d n:Nat)(m:List (Nat × T))(hp:Heap)(fr:List Nat):Option ((Nat × List C) ⊕ (T × List Ob))→Option ((Nat × List C) ⊕ St)
 | none=>none
 | some (.inl p)=>some (.inl p)
 | some (.inr r)=>(lndR hs dhs d n m hp fr r).map .inr
@[simp] theorem lnpU_inl (hs dhs:List Nat)(p:Nat × List C):lnpU hs dhs d n m hp fr (some (.inl p))=some (.inl p):=rfl
@[simp] theorem lnpU_inr (hs dhs:List Nat)(r:T × List Ob):lnpU hs dhs d n m hp fr (some (.inr r))=(lndR hs dhs d n m hp fr r).map .inr:=rfl
@[simp] theorem unR_ok (r:T × List Ob):unR (okR r)=some (.inr r):=rfl
@[simp] theorem unR_pan (u:Nat)(cs:List C):unR (panR u cs)=some (.inl (u,cs)):=by simp[unR,panR]
def lnpR (hs dhs:List Nat)(d n:Nat)(m:List (Nat × T))(hp:Heap)(fr:List Nat)(r:T × List Ob):Option ((Nat × List C) ⊕ St):=lnpU hs dhs d n m hp fr (unR r)
@[simp] theorem lnpR_eq (hs dhs:List Nat)(r:T × List Ob):lnpR hs dhs d n m hp fr r=lnpU hs dhs d n m hp fr (unR r):=rfl
def lnpC (call:CallF)(f:FuncId)(tyArgs:List T→List T)(hs nms dhs:List Nat)(obs:List Ob)(d n:Nat)(m:List (Nat × T))(hp:Heap)(fr:List Nat)(b:Bool)(args:Option (List T)):Option ((Nat × List C) ⊕ St):=match args,b with
 | some args,true=>(call f (.tup []::(tyArgs args++obs.map fun ob=>obT (ob.shift (nmOf hs nms))))).bind (lnpR hs dhs d n m hp fr)
 | _,_=>none
@[simp] theorem lnpC_some (call:CallF)(f:FuncId)(tyArgs:List T→List T)(hs nms dhs:List Nat)(obs:List Ob)(args:List T):lnpC call f tyArgs hs nms dhs obs d n m hp fr true (some args)=(call f (.tup []::(tyArgs args++obs.map fun ob=>obT (ob.shift (nmOf hs nms))))).bind (lnpR hs dhs d n m hp fr):=rfl
def lnpO (call:CallF)(f:FuncId)(tyArgs:List T→List T)(ts:List T)(hs:List Nat)(d n:Nat)(m:List (Nat × T))(hp:Heap)(fr:List Nat)(obs:Option (List Ob)):Option ((Nat × List C) ⊕ St):=match obs with
 | some obs=>lnpC call f tyArgs hs (namesFrom 0 obs) (ts.flatMap (dhsT hp hs)) obs d n m hp fr (!hs.isEmpty&&(ts.flatMap (dhsT hp hs)).all fun h=>!hs.contains h) (ts.mapM (handT hp hs (namesFrom 0 obs)))
 | none=>none
@[simp] theorem lnpO_some (call:CallF)(f:FuncId)(tyArgs:List T→List T)(ts:List T)(hs:List Nat)(obs:List Ob):lnpO call f tyArgs ts hs d n m hp fr (some obs) =
  lnpC call f tyArgs hs (namesFrom 0 obs) (ts.flatMap (dhsT hp hs)) obs d n m hp fr (!hs.isEmpty&&(ts.flatMap (dhsT hp hs)).all fun h=>!hs.contains h) (ts.mapM (handT hp hs (namesFrom 0 obs))):=rfl
def lnpH (call:CallF)(f:FuncId)(tyArgs:List T→List T)(ts:List T)(d n:Nat)(m:List (Nat × T))(hp:Heap)(fr:List Nat)(hs:List Nat):Option ((Nat × List C) ⊕ St):=lnpO call f tyArgs ts hs d n m hp fr (lentObs hp fr hs hs)
theorem evLP_mk [Globals] {o:Oper}(f:FuncId)(ts:List T)(hs:List Nat):evLP call ty o f d ts hs (mk n m hp fr)=lnpH call f (wkArgs ty (callTys o)) ts d n m hp fr hs:=by
 unfold evLP lnpH;have e1:(mk n m hp fr).hp=hp:=rfl;have e2:(mk n m hp fr).fr=fr:=rfl;rw[e1,e2]
 cases lentObs hp fr hs hs with
 | none=>rfl
 | some obs=>
  show (match ts.mapM (handT hp hs (namesFrom 0 obs)) with | none=>none | some args=>_)=lnpC call f (wkArgs ty (callTys o)) hs (namesFrom 0 obs) (ts.flatMap (dhsT hp hs)) obs d n m hp fr (!hs.isEmpty&&(ts.flatMap (dhsT hp hs)).all fun h=>!hs.contains h) (ts.mapM (handT hp hs (namesFrom 0 obs)))
  cases ts.mapM (handT hp hs (namesFrom 0 obs)) with
  | none=>rfl
  | some args=>
   show (if (!hs.isEmpty&&(ts.flatMap (dhsT hp hs)).all fun h=>!hs.contains h)=true then _ else none)=_
   cases hc:(!hs.isEmpty&&(ts.flatMap (dhsT hp hs)).all fun h=>!hs.contains h) with
   | false=>rfl
   | true=>
    rw[if_pos rfl];simp only[lnpC_some]
    cases call f (.tup []::(wkArgs ty (callTys o) args++obs.map fun ob=>obT (ob.shift (nmOf hs (namesFrom 0 obs))))) with
    | none=>rfl
    | some r=>
     simp only[Option.bind_some,lnpR]
     cases unR r with
     | none=>rfl
     | some q=>
      cases q with
      | inl p=>rfl
      | inr r=>simp only[lnpU_inr,takeL_mk]
theorem evL1_mk [Globals] {o:Oper}(hd:o.dst=some d)(f:FuncId)(all:Bool)(ts:List T):evL1 call ty o f all ts (mk n m hp fr)=lndH call f (wkArgs ty (callTys o)) ts d n m hp fr (lentHs hp all ts):=by
 unfold evL1;simp only[hd];exact evL2_mk f ts _
def lendV [Globals] (x:Operand):Option (FuncId × Bool):=match x with
 | .func f=>(Globals.ld f).map fun b=>(f,b)
 | _=>none
@[simp] theorem lendV_func [Globals] (f:FuncId):lendV (.func f)=(Globals.ld f).map fun b=>(f,b):=rfl
@[simp] theorem lendV_tmp [Globals] (t:Tmp):lendV (.tmp t)=none:=rfl
def lendE (call:CallF)(ty:Tys)(p:Option (FuncId × Bool))(ts:List T)(tys:List TypeId)(d n:Nat)(m:List (Nat × T))(hp:Heap)(fr:List Nat)(y:Option St):Option St:=match p with
 | some (f,all)=>lndH call f (wkArgs ty tys) ts d n m hp fr (lentHs hp all ts)
 | none=>y
@[simp] theorem lendE_none (call:CallF)(ts:List T)(tys:List TypeId)(y:Option St):lendE call ty none ts tys d n m hp fr y=y:=rfl
@[simp] theorem lendE_some (call:CallF)(f:FuncId)(all:Bool)(ts:List T)(tys:List TypeId)(y:Option St):lendE call ty (some (f,all)) ts tys d n m hp fr y=lndH call f (wkArgs ty tys) ts d n m hp fr (lentHs hp all ts):=rfl
def callI (b:Bool)(x y:Option St):Option St:=if b=true then x else y
@[simp] theorem callI_true (x y:Option St):callI true x y=x:=rfl
@[simp] theorem callI_false (x y:Option St):callI false x y=y:=rfl
def valE [Globals] (call:CallF)(ty:Tys)(p:Option (FuncId × List C))(args:List Operand)(tys:List TypeId)(d n:Nat)(m:List (Nat × T))(hp:Heap)(fr:List Nat):Option St:=match p with
 | none=>none
 | some (f,caps)=>callI (Globals.ix f) (fndE (args.map (opd (tmk n m))) caps d n m hp fr)
  (((args.map (opd (tmk n m))).mapM (dataT hp)).bind fun as=>(call f (wkArgs ty tys as++caps.map .c)).bind fun r=>takeE d (addObs hp d 0 r.2) r n m hp fr ((args.map (opd (tmk n m))).flatMap (hsT hp)))
@[simp] theorem valE_some [Globals] (f:FuncId)(caps:List C)(args:List Operand)(tys:List TypeId):valE call ty (some (f,caps)) args tys d n m hp fr=callI (Globals.ix f) (fndE (args.map (opd (tmk n m))) caps d n m hp fr)
  (((args.map (opd (tmk n m))).mapM (dataT hp)).bind fun as=>(call f (wkArgs ty tys as++caps.map .c)).bind fun r=>takeE d (addObs hp d 0 r.2) r n m hp fr ((args.map (opd (tmk n m))).flatMap (hsT hp))):=rfl
@[simp] theorem fnOf_lit (f:FuncId):fnOf (.c (.lit (.func (.func f) #[] #[])))=some (f,[]):=rfl
@[simp] theorem fnOf_fn (f:FuncId)(cs:List C):fnOf (.c (.fn f cs))=some (f,cs):=rfl
@[simp] theorem evOp_value [Globals] (x:Operand)(args:Array Operand)(tys:Array TypeId):evOp call ty { dst:=some d,op:=.call { callee:=.value x,args:=args,argTypes:=tys },type:=t,pos:=pos,after:=after,guard:=g } (mk n m hp fr) =
  lendE call ty (lendV x) (args.toList.map (opd (tmk n m))) tys.toList d n m hp fr (valE call ty (fnOf (opd (tmk n m) x)) args.toList tys.toList d n m hp fr):=by
 unfold evOp;simp only[mk_tm,mk_hp];have hlv:lendOf { callee:=.value x,args:=args,argTypes:=tys }=lendV x:=by cases x<;>rfl
 rw[hlv]
 cases hlx:lendV x with
 | some q=>
  obtain⟨f,all⟩:=q;exact evL1_mk rfl f all _
 | none=>
 simp only[lendE_none]
 cases hf:fnOf (opd (tmk n m) x) with
 | none=>rfl
 | some p=>
  obtain⟨f,caps⟩:=p;simp only[valE_some]
  cases hi:Globals.ix f with
  | true=>
   simp only[callI_true,if_true];simp only[evP,hf,hi,if_true]
   cases caps with
   | cons c cs=>rfl
   | nil=>
    simp only[fndE,fndA];generalize args.toList.map (opd (tmk n m))=A
    split
    ·split
     ·simp only[Option.bind_some,putP_mk]
     ·rename_i hA
      split
      ·exact (hA _ _ rfl).elim
      ·rfl
    ·rename_i hni;exact absurd hi hni
  | false=>
   simp only[callI_false,Bool.false_eq_true,if_false]
   cases (args.toList.map (opd (tmk n m))).mapM (dataT hp) with
   | none=>rfl
   | some as=>
    simp only[Option.bind_some,callTys]
    cases call f (wkArgs ty tys.toList as++caps.map .c) with
    | none=>rfl
    | some r=>
     simp only[Option.bind_some,takeIn,mk_hp,mk_tm,mk_fr,takeE]
     cases addObs hp d 0 r.2 with
     | none=>rfl
     | some hp'=>simp only[mk,tmk_set]
def frzE (h:Nat)(o:Option Ob)(n:Nat)(m:List (Nat × T))(hp:Heap)(fr:List Nat):St:=match o with
 | none=>mk n m hp fr
 | some o=>if o.free=true then mk n (m.map fun p=>(p.1,p.2.frz h o)) ((hdel hp h).map fun p=>(p.1,p.2.frz h o)) (fr.filter (· != h)) else mk n m hp fr
@[simp] theorem frzE_some (h:Nat)(o:Ob):frzE h (some o) n m hp fr=if o.free=true then mk n (m.map fun p=>(p.1,p.2.frz h o)) ((hdel hp h).map fun p=>(p.1,p.2.frz h o)) (fr.filter (· != h)) else mk n m hp fr:=rfl
@[simp] theorem freeze_mk (h:Nat):freeze h (mk n m hp fr)=frzE h (unL (lentNm h) (hget hp h)) n m hp fr:=by
 unfold freeze frzE;simp only[mk]
 cases lentNm h with
 | true=>rfl
 | false=>
 rw[if_neg Bool.false_ne_true,unL_false]
 cases hget hp h with
 | none=>rfl
 | some o=>
  simp only
  split
  ·rw[tmk_map (T.frz h o) rfl]
  ·rfl
@[simp] theorem freezes_nil (s:St):freezes [] s=s:=rfl
@[simp] theorem freezes_cons (h:Nat)(l:List Nat)(s:St):freezes (h::l) s=freezes l (freeze h s):=rfl
def capH:T→List Nat
 | .c (.ref h _ _)=>[h]
 | .c (.ptr h _ _)=>[h]
 | _=>[]
@[simp] theorem capH_ptr (h i off:Nat):capH (.c (.ptr h i off))=[h]:=rfl
@[simp] theorem capHs_nil [Globals] (tm:List T):capHs tm []=[]:=rfl
@[simp] theorem capHs_cons [Globals] (tm:List T)(x:Operand)(xs:List Operand):capHs tm (x::xs)=capH (opd tm x)++capHs tm xs:=rfl
@[simp] theorem capC_c (x:C):capC (.c x)=if x.free=true then some x else none:=rfl
@[simp] theorem fnT_cons (f:FuncId)(c:C)(cs:List C):fnT f (c::cs)=.c (.fn f (c::cs)):=rfl
def mkFE [Globals] (f:FuncId)(caps:List Operand)(d:Nat)(s:St):Option St:=(caps.mapM fun x=>capC (opd s.tm x)).bind fun cs=>putP s (some d) (fnT f cs,none)
@[simp] theorem mkFE_mk [Globals] (f:FuncId)(caps:List Operand):mkFE f caps d (mk n m hp fr)=(caps.mapM fun x=>capC (opd (tmk n m) x)).bind fun cs=>some (mk n (tput m d (fnT f cs)) hp fr):=by
 unfold mkFE;simp only[mk_tm,putP_mk]
def mifE (k:Option K)(u:TypeId)(x:T)(d n:Nat)(m:List (Nat × T))(hp:Heap)(fr:List Nat):Option St:=match k,x with
 | some .struct,.agg cs=>if cs.all C.isLit=true then some (mk n (tput m d (.c (.lit (.iface u (.agg (cs.map C.val).toArray))))) hp fr) else none
 | _,_=>none
@[simp] theorem mifE_agg (u:TypeId)(cs:List C):mifE (some .struct) u (.agg cs) d n m hp fr=if cs.all C.isLit=true then some (mk n (tput m d (.c (.lit (.iface u (.agg (cs.map C.val).toArray))))) hp fr) else none:=rfl
@[simp] theorem mifE_c (k:Option K)(u:TypeId)(x:C):mifE k u (.c x) d n m hp fr=none:=by cases k with | none=>rfl | some k=>cases k<;>rfl
@[simp] theorem val_lit (v:Value):C.val (.lit v)=v:=rfl
@[simp] theorem evOp_makeInterface [Globals] (u:TypeId)(x:Operand):evOp call ty { dst:=some d,op:=.makeInterface u x,type:=t,pos:=pos,after:=after,guard:=g } (mk n m hp fr)=mifE ((ty u).map Ty.k) u (opd (tmk n m) x) d n m hp fr:=by
 rw[evOp_P rfl];simp only[evP,mk_tm,mk_hp];generalize opd (tmk n m) x=A
 cases (ty u).map Ty.k with
 | none=>rfl
 | some k=>
  cases k with
  | struct=>
   cases A with
   | agg cs=>
    simp only[mifE_agg]
    split
    ·rw[Option.bind_some,putP_mk]
    ·rfl
   | _=>rfl
  | _=>rfl
@[simp] theorem evOp_makeFunc [Globals] (f:FuncId)(caps:Array Operand):evOp call ty { dst:=some d,op:=.makeFunc (.func f) #[] caps,type:=t,pos:=pos,after:=after,guard:=g } (mk n m hp fr) =
  mkFE f caps.toList d (freezes (capHs (tmk n m) caps.toList) (mk n m hp fr)):=by
 unfold evOp mkFE;simp only[mk_tm,evP]
 cases (caps.toList.mapM fun x=>capC (opd (freezes (capHs (tmk n m) caps.toList) (mk n m hp fr)).tm x))<;>simp
def rngE (k:Option K)(x:T)(d n:Nat)(m:List (Nat × T))(hp:Heap)(fr:List Nat):Option St:=match k,x with
 | some .str,.c (.lit (.string q))=>some (mk n (tput m d (.itr q 0)) hp fr)
 | _,_=>none
@[simp] theorem rngE_some (q:ByteArray):rngE (some .str) (.c (.lit (.string q))) d n m hp fr=some (mk n (tput m d (.itr q 0)) hp fr):=rfl
@[simp] theorem evOp_range [Globals] (u:TypeId)(x:Operand):evOp call ty { dst:=some d,op:=.range u x,type:=t,pos:=pos,after:=after,guard:=g } (mk n m hp fr)=rngE ((ty u).map Ty.k) (opd (tmk n m) x) d n m hp fr:=by
 unfold evOp evR0 rngE;simp only[mk_tm,mk_hp,mk_fr];generalize opd (tmk n m) x=X;generalize (ty u).map Ty.k=y
 cases X with
 | c X=>cases X with
  | lit v=>cases v with
   | string q=>cases y with
    | none=>rfl
    | some k=>cases k<;>first | rfl | simp only[mk,tmk_set]
   | _=>cases y with
    | none=>rfl
    | some k=>cases k<;>rfl
  | _=>cases y with
    | none=>rfl
    | some k=>cases k<;>rfl
 | _=>cases y with
    | none=>rfl
    | some k=>cases k<;>rfl
def nxtE (k:Nat)(x:T)(isS:Bool)(d n:Nat)(m:List (Nat × T))(hp:Heap)(fr:List Nat):Option St:=match x,isS with
 | .itr q pos,true=>if pos<q.size then some (mk n (tput (tput (m.map fun p=>(p.1,p.2.noI)) k (.itr q (pos+decW q pos))) d (.tup [.c (.lit (.bool true)),.c (.lit (.int .i64 pos)),.c (.lit (.int .i32 (decR q pos)))])) hp fr)
  else some (mk n (tput m d (.tup [.c (.lit (.bool false))])) hp fr)
 | _,_=>none
@[simp] theorem nxtE_itr (k:Nat)(q:ByteArray)(pos:Nat):nxtE k (.itr q pos) true d n m hp fr=if pos<q.size then some (mk n (tput (tput (m.map fun p=>(p.1,p.2.noI)) k (.itr q (pos+decW q pos))) d (.tup [.c (.lit (.bool true)),.c (.lit (.int .i64 pos)),.c (.lit (.int .i32 (decR q pos)))])) hp fr)
  else some (mk n (tput m d (.tup [.c (.lit (.bool false))])) hp fr):=rfl
@[simp] theorem evOp_next [Globals] (k:Nat)(hk:k<n)(isS:Bool):evOp call ty { dst:=some d,op:=.next (.tmp k) isS,type:=t,pos:=pos,after:=after,guard:=g } (mk n m hp fr)=nxtE k (tget m k) isS d n m hp fr:=by
 unfold evOp evI nxtE;simp only[mk_tm,mk_hp,mk_fr,tmk_get,if_pos hk]
 cases tget m k with
 | itr q pos=>cases isS with
  | true=>simp only[mk,tmk_set,tmk_map T.noI rfl]
  | false=>rfl
 | _=>cases isS<;>rfl
def storeE (p:T)(sz:Option Nat)(cs:Option (List C))(n:Nat)(m:List (Nat × T))(hp:Heap)(fr:List Nat):Option St:=match p,sz,cs with
 | .c (.ptr h i off),some z,some cs=>(hget hp h).bind fun o=>if fr.contains h=false∧cs.length=z∧(o.box=true∨cs.all C.free=true) then (storeO o i off cs).map fun o=>mk n m (hput hp h o) fr else none
 | _,_,_=>none
@[simp] theorem evS1_mk [Globals] (u:TypeId)(p x:Operand):evS1 ty u p x (mk n m hp fr)=storeE (opd (tmk n m) p) ((ty u).map Ty.size) (opd (tmk n m) x).cells n m hp fr:=by
 unfold evS1;simp only[mk_tm,mk_hp,mk_fr];generalize opd (tmk n m) p=X;generalize (opd (tmk n m) x).cells=Y
 cases X with
 | c X=>cases X with
  | ptr h i off=>
   cases ty u with
   | none=>rfl
   | some y=>cases Y with
    | none=>rfl
    | some cs=>
     simp only[Option.map_some,storeE]
     cases hget hp h with
     | none=>rfl
     | some o=>rfl
  | _=>rfl
 | _=>rfl
@[simp] theorem evOp_store [Globals] (u:TypeId)(p x:Operand):evOp call ty { dst:=none,op:=.store u p x,type:=t,pos:=pos,after:=after,guard:=g } (mk n m hp fr)=evS1 ty u p x (loose (rowPtr hp (opd (tmk n m) p)) (opd (tmk n m) x).cells (mk n m hp fr)):=rfl
@[simp] theorem loose_false (cs:Option (List C))(s:St):loose false cs s=s:=rfl
@[simp] theorem rowPtr_ptr (h i o:Nat):rowPtr hp (.c (.ptr h i o))=(hget hp h).any fun o=>!o.box:=by
 simp only[rowPtr]
 cases hget hp h<;>rfl
theorem over_all (a b:List C)(h:a.length=b.length):over a 0 b=b:=by
 induction a generalizing b with
 | nil=>cases b with
  | nil=>rfl
  | cons x b=>cases h
 | cons y a ih=>cases b with
  | nil=>cases h
  | cons x b=>
   have h:a.length=b.length:=by simpa using h
   show x::over a 0 b=x::b;rw[ih b h]
@[simp] theorem evOp_append [Globals] (b x:Operand)(u v:TypeId):evOp call ty { dst:=some d,op:=.call { callee:=.builtin .append,args:=#[b,x],argTypes:=#[u,v] },type:=t,pos:=pos,after:=after,guard:=g } (mk n m hp fr) =
  appQ ty d b x u v (if nilLit (opd (tmk n m) b)=true then evict d (mk n m hp fr) else mk n m hp fr):=rfl
@[simp] theorem appA_mk [Globals] (b x:Operand)(u v:TypeId):appQ ty d b x u v (mk n m hp fr)=appB (((ty v).map Ty.k).any K.isInt) ty d b x u v (loose (!freeSrc hp (opd (tmk n m) x)) ((srcOf hp (opd (tmk n m) x)).map List.flatten) (mk n m hp fr)):=by
 unfold appQ appB evA1;simp only[mk_tm,mk_hp]
 cases hk:(ty v).map Ty.k with
 | none=>rfl
 | some k=>cases k<;>rfl
@[simp] theorem appB_true [Globals] (b x:Operand)(u v:TypeId)(s:St):appB true ty d b x u v s=evZ ty d b x u s:=rfl
def appE (el:Option (TypeId × Nat))(by0:Option (Nat × Option Nat))(isInt:Option Bool)(src:Option (List (List C)))(ssz:Option Nat)(free:Bool)(base:T)(d n:Nat)(m:List (Nat × T))(hp:Heap)(fr:List Nat):Option St:=
 match el,isInt,src,by0 with
 | some (e,sz),some uk,some new,some (bytes,z)=>
   if uk=false∧ssz.getD sz=sz∧(free=true∨new.all (fun e=>e.all C.free)=true)∧z=some sz∧0<bytes then baseE e sz new bytes base d n m hp fr else none
 | _,_,_,_=>none
@[simp] theorem appE_some (e sz bytes:Nat)(uk free:Bool)(z ssz:Option Nat)(new:List (List C))(base:T):appE (some (e,sz)) (some (bytes,z)) (some uk) (some new) ssz free base d n m hp fr =
 if uk=false∧ssz.getD sz=sz∧(free=true∨new.all (fun e=>e.all C.free)=true)∧z=some sz∧0<bytes then baseE e sz new bytes base d n m hp fr else none:=rfl
@[simp] theorem appB_false [Globals] (b x:Operand)(u v:TypeId):appB false ty d b x u v (mk n m hp fr)=appE (Vabs.elemOf ty u) ((Vabs.elemOf ty u).bind fun p=>(ty p.1).map fun y=>(y.bytes,y.zero.map List.length)) (((ty v).map Ty.k).map K.isInt) (srcOf hp (opd (tmk n m) x)) (srcSz hp (opd (tmk n m) x)) (freeSrc hp (opd (tmk n m) x)) (opd (tmk n m) b) d n m hp fr:=by
 unfold appB evA2 appE;simp only[mk_tm,mk_hp,mk_fr];generalize opd (tmk n m) b=Bs;generalize srcOf hp (opd (tmk n m) x)=S
 cases Vabs.elemOf ty u with
 | none=>rfl
 | some p=>
  obtain⟨e,sz⟩:=p
  cases (ty v).map Ty.k with
  | none=>rfl
  | some uk=>cases S with
   | none=>rfl
   | some new=>
    simp only[Option.map_some,Option.bind_some]
    cases ty e with
    | none=>rfl
    | some y=>
     simp only[Option.map_some];refine ite_congr rfl (fun _=>?_) (fun _=>rfl);unfold baseE
     cases Bs with
     | c X=>cases X with
      | lit w=>cases w with
       | slice a l c=>
        cases a with
        | none=>cases l with
         | zero=>cases c with
          | zero=>
           simp only;refine ite_congr rfl (fun _=>?_) (fun _=>rfl)
           cases hget hp d with
           | none=>simp only[mk,tmk_set,newE]
           | some o=>rfl
          | succ c=>rfl
         | succ l=>rfl
        | some a=>rfl
       | _=>rfl
      | ref h off len=>
       simp only
       cases hget hp h with
       | none=>rfl
       | some o=>
        simp only[Option.bind_some];refine ite_congr rfl (fun _=>?_) (fun _=>rfl);simp only[mk];rw[tmk_map (T.kill h) rfl,tmk_set]
      | _=>rfl
     | _=>rfl
@[simp] theorem nilLit_ref (h o l:Nat):nilLit (.c (.ref h o l))=false:=rfl
@[simp] theorem nilLit_nil:nilLit (.c (.lit (.slice none 0 0)))=true:=rfl
@[simp] theorem srcOf_ref (h off len:Nat):srcOf hp (.c (.ref h off len))=(hget hp h).bind fun o=>if off+len≤o.es.length then some ((o.es.drop off).take len) else none:=by
 simp only[srcOf]
 cases hget hp h<;>rfl
@[simp] theorem freeSrc_ref (h off len:Nat):freeSrc hp (.c (.ref h off len))=(hget hp h).any Ob.free:=by
 simp only[freeSrc]
 cases hget hp h<;>rfl
@[simp] theorem freeSrc_lit (v:Value):freeSrc hp (.c (.lit v))=true:=rfl
@[simp] theorem srcSz_ref (h off len:Nat):srcSz hp (.c (.ref h off len))=(hget hp h).map Ob.sz:=rfl
@[simp] theorem srcSz_str (s:ByteArray):srcSz hp (.c (.lit (.string s)))=some 1:=rfl
@[simp] theorem isInt_int (k:IntKind):K.isInt (.int k)=true:=rfl
@[simp] theorem isInt_slice (e:TypeId):K.isInt (.slice e)=false:=rfl
@[simp] theorem isInt_str:K.isInt .str=false:=rfl
@[simp] theorem evOp_buildSlice [Globals] (u:TypeId)(len:Nat)(parts:Array (Nat × Operand)):evOp call ty { dst:=some d,op:=.buildSlice u len parts,type:=t,pos:=pos,after:=after,guard:=g } (mk n m hp fr) =
  (Vabs.elemOf ty u).bind fun p=>(((ty p.1).bind Ty.zero).bind lits).bind fun zs=>if zs.length=p.2∧len*p.2≤16777216 then
   (fills (fun i=>some (i*p.2,p.2)) (repeated len zs) (parts.toList.map fun q=>(q.1,opd (tmk n m) q.2))).bind fun cs=>newE (hget hp d) (mk n (tput m d (.c (.ref d 0 len))) (hput hp d ⟨false,cs.all C.free,p.1,p.2,chunks p.2 len cs⟩) fr) else none:=by
 rw[evOp_P rfl];simp only[evP,mk_tm,mk_hp]
 cases Vabs.elemOf ty u with
 | none=>rfl
 | some p=>
  obtain⟨e,sz⟩:=p;simp only[Option.bind_some]
  cases ty e with
  | none=>rfl
  | some y=>
   simp only[Option.bind_some]
   cases y.zero with
   | none=>rfl
   | some z=>
    simp only[Option.bind_some]
    cases lits z with
    | none=>rfl
    | some zs=>
     simp only[Option.bind_some]
     by_cases hc:zs.length=sz∧len*sz≤16777216
     ·rw[if_pos hc,if_pos hc]
      cases fills (fun i=>some (i*sz,sz)) (repeated len zs) (parts.toList.map fun q=>(q.1,opd (tmk n m) q.2)) with
      | none=>rfl
      | some cs=>simp
     ·rw[if_neg hc,if_neg hc]; rfl
@[simp] theorem evOp_build [Globals] (u:TypeId)(parts:Array (Nat × Operand)):evOp call ty { dst:=some d,op:=.build u parts,type:=t,pos:=pos,after:=after,guard:=g } (mk n m hp fr) =
  ((ty u).bind fun y=>buildT ty y (parts.toList.map fun q=>(q.1,opd (tmk n m) q.2))).map fun cs=>mk n (tput m d (.agg cs)) hp fr:=by
 rw[evOp_P rfl];simp only[evP,mk_tm,mk_hp]
 cases ty u with
 | none=>rfl
 | some y=>
  simp only[Option.bind_some,buildT]
  cases y.k with
  | struct=>cases y.zero with
   | none=>rfl
   | some z=>
    simp only
    cases lits z with
    | none=>rfl
    | some zs=>
     simp only
     by_cases hc:y.fields.all (fun f=>(ty f.2).isSome)=true
     ·rw[if_pos hc,if_pos hc]
      cases fills (placeOf ty y) zs (parts.toList.map fun q=>(q.1,opd (tmk n m) q.2))<;>simp
     ·rw[if_neg hc,if_neg hc]; rfl
  | array k e=>cases y.zero with
   | none=>rfl
   | some z=>
    simp only
    cases lits z with
    | none=>rfl
    | some zs=>cases ty e with
     | none=>rfl
     | some ey=>
      simp only
      cases fills (fun i=>some (i*ey.size,ey.size)) zs (parts.toList.map fun q=>(q.1,opd (tmk n m) q.2))<;>simp
  | _=>rfl
@[simp] theorem evOp_slice [Globals] (u:TypeId)(x:Operand)(lo hi:Option Operand):evOp call ty { dst:=some d,op:=.slice u x lo hi none,type:=t,pos:=pos,after:=after,guard:=g } (mk n m hp fr) =
  (lenT hp (opd (tmk n m) x)).bind fun (k:Nat)=>(boundO k k (hi.map (opd (tmk n m)))).bind fun h=>(boundO h 0 (lo.map (opd (tmk n m)))).bind fun l=>(sliceT ty u hp (opd (tmk n m) x) l h).map fun v=>mk n (tput m d v) hp fr:=by
 rw[evOp_P rfl];have hbo:∀ (k r:Nat) (o:Option Operand),boundOf (tmk n m) k r o=boundO k r (o.map (opd (tmk n m))):=fun k r o=>by
  cases o with
  | none=>rfl
  | some o=>rfl
 simp only[evP,mk_tm,mk_hp,hbo]
 cases lenT hp (opd (tmk n m) x) with
 | none=>rfl
 | some k=>
  simp only[Option.bind_some]
  cases boundO k k (hi.map (opd (tmk n m))) with
  | none=>rfl
  | some h=>
   simp only[Option.bind_some]
   cases boundO h 0 (lo.map (opd (tmk n m))) with
   | none=>rfl
   | some l=>
    simp only[Option.bind_some]
    cases sliceT ty u hp (opd (tmk n m) x) l h<;>simp
@[simp] theorem boundO_none (k r:Nat):boundO k r none=some r:=rfl
attribute [simp] fills over repeated chunks lits isCellB lenT sliceT storeO
@[simp] theorem evZ_mk [Globals] (b x:Operand)(u:TypeId):evZ ty d b x u (mk n m hp fr)=if nilLit (opd (tmk n m) b)=true then (Vabs.elemOf ty u).bind fun p=>(intE (opd (tmk n m) x)).bind fun k=>(((ty p.1).bind Ty.zero).bind lits).bind fun zs=>((ty p.1).map Ty.bytes).bind fun (by0:Nat)=>
  if zs.length=p.2∧0<by0∧0<k∧k.toNat*by0≤140737488355328 then newE (hget hp d) (mk n (tput m d (.c (.ref d 0 k.toNat))) (hput hp d ⟨false,true,p.1,p.2,List.replicate k.toNat zs⟩) fr) else none else none:=by
 unfold evZ;simp only[mk_tm,mk_hp,mk_fr];generalize opd (tmk n m) b=Bs
 by_cases hn:nilLit Bs=true
 ·rw[if_pos hn];have hB:Bs=.c (.lit (.slice none 0 0)):=by
   unfold nilLit at hn
   split at hn
   ·rfl
   ·cases hn
  subst hB
  cases Vabs.elemOf ty u with
  | none=>rfl
  | some p=>
   obtain⟨e,sz⟩:=p;simp only[Option.bind_some,intE]
   cases opd (tmk n m) x with
   | c X=>cases X with
    | lit v=>cases v with
     | int k i=>
      simp only[Option.bind_some]
      cases ty e with
      | none=>rfl
      | some y=>
       simp only[Option.bind_some,Option.map_some]
       cases y.zero with
       | none=>rfl
       | some z=>
        simp only[Option.bind_some]
        cases lits z with
        | none=>rfl
        | some zs=>
         simp only[Option.bind_some];refine ite_congr rfl (fun _=>?_) (fun _=>rfl)
         cases hget hp d with
         | none=>simp only[mk,tmk_set,newE]
         | some o=>rfl
     | _=>rfl
    | _=>rfl
   | _=>rfl
 ·rw[if_neg hn]
  cases Vabs.elemOf ty u with
  | none=>rfl
  | some p=>
   cases Bs with
   | c X=>cases X with
    | lit v=>cases v with
     | slice a l c=>cases a with
      | none=>cases l with
       | zero=>cases c with
        | zero=>exact absurd rfl hn
        | succ c=>rfl
       | succ l=>rfl
      | some a=>rfl
     | _=>rfl
    | _=>rfl
   | _=>rfl
end
end Go.Vabs

/- A library: operations told by words of their own, so that what a walk comes to is told in one way; loops as functions. No condition. -/
import Derived.Test.YtadllpehekphmaaDoorVidA
set_option linter.unusedSimpArgs false
set_option linter.unusedVariables false
namespace Go.Vabs
open Go.Vid
def iadd (k:IntKind)(a b:Int):Int:=k.wrap (a+b)
def isub (k:IntKind)(a b:Int):Int:=k.wrap (a-b)
def imul (k:IntKind)(a b:Int):Int:=k.wrap (a*b)
def iquo (k:IntKind)(a b:Int):Int:=k.wrap (a.tdiv b)
def irem (a b:Int):Int:=a.tmod b
def ineg (k:IntKind)(a:Int):Int:=k.wrap (0-a)
def iandn (k:IntKind)(a b:Int):Int:=k.wrap (BitVec.ofInt k.bits a &&& ~~~ BitVec.ofInt k.bits b).toNat
def ishl (k:IntKind)(a b:Int):Int:=k.wrap (a*2 ^ (min b.toNat k.bits))
def ishr (k:IntKind)(a b:Int):Int:=a.fdiv (2 ^ (min b.toNat k.bits))
def iconv (k:IntKind)(a:Int):Int:=k.wrap a
def ilt (a b:Int):Bool:=decide (a<b)
def ile (a b:Int):Bool:=decide (a≤b)
def ieq (a b:Int):Bool:=decide (a=b)
def imin (a b:Int):Int:=min a b
def beq2 (a b:Bool):Bool:=a==b
def bnot (a:Bool):Bool:=!a
def seq (a b:ByteArray):Bool:=a.toList==b.toList
def lenN {α:Type}(l:List α):Nat:=l.length
def lenI {α:Type}(l:List α):Int:=l.length
def sizI (s:ByteArray):Int:=s.size
def natI (i:Int):Nat:=i.toNat
def getI {α:Type}(l:List α)(i:Int):Option α:=if 0≤i then l[i.toNat]? else none
def nthI {α:Type}(l:List α)(i:Int):Option α:=l[i.toNat]?
def inI (n:Nat)(i:Int):Bool:=decide (0≤i∧i.toNat<n)
def getB (s:ByteArray)(i:Int):Option Int:=if 0≤i then (s[i.toNat]?).map fun b=>(b.toNat:Int) else none
def capN (n bytes:Nat):Bool:=decide (n*bytes≤140737488355328)
def cutOk (n:Nat)(lo hi:Int):Bool:=decide (0≤lo∧lo≤hi∧hi≤n)
def addOk (a b:ByteArray):Bool:=decide (a.size+b.size≤9223372036854775807)
def Is {α:Sort _}(x y:α):Prop:=x=y
theorem Is.out {α:Sort _}{x y:α}(h:Is x y):x=y:=h
@[simp] theorem bnot_true:bnot true=false:=rfl
@[simp] theorem bnot_false:bnot false=true:=rfl
inductive Lk {α:Type} (x:α):Type where
 | mk
section
variable {call:CallF} {ty:Tys} {kp:Nat→Option (List Nat)} {dst:Option Nat} {d n:Nat} {m:List (Nat × T)} {hp:Heap} {fr:List Nat}
def Br {α:Type}(b:Bool)(x y:α)(_:Lk x)(_:Lk y):α:=if b=true then x else y
section
variable {α β:Type} {x y:α}
@[simp] theorem Br_true (hx:Lk x)(hy:Lk y):Br true x y hx hy=x:=rfl
@[simp] theorem Br_false (hx:Lk x)(hy:Lk y):Br false x y hx hy=y:=rfl
@[simp] theorem Br_bnot (b:Bool)(hx:Lk x)(hy:Lk y):Br (bnot b) x y hx hy=Br b y x .mk .mk:=by cases b<;>rfl
@[simp] theorem Br_bind (b:Bool)(x y:Option α)(hx:Lk x)(hy:Lk y)(f:α→Option β):(Br b x y hx hy).bind f=Br b (x.bind f) (y.bind f) .mk .mk:=by cases b<;>rfl
@[simp] theorem Br_map (b:Bool)(x y:Option α)(hx:Lk x)(hy:Lk y)(f:α→β):(Br b x y hx hy).map f=Br b (x.map f) (y.map f) .mk .mk:=by cases b<;>rfl
end
def evK [Globals] (call:CallF)(ty:Tys)(kp:Nat→Option (List Nat))(c:Code)(_:Lk c)(s:St):Option (Ex × St):=evCode call ty kp c s
def evL [Globals] (call:CallF)(ty:Tys)(kp:Nat→Option (List Nat))(c:Code)(_:Lk c)(s:St):Option (Ex × St):=evLoop call ty kp c s
def evO [Globals] (call:CallF)(ty:Tys)(ops:Array Oper)(_:Lk ops)(l:List Oper)(_:Lk l)(s:St):Option St:=evOps call ty ops l s
def evOU [Globals] (call:CallF)(ty:Tys)(U:List Nat)(l:List Oper)(_:Lk l)(s:St):Option St:=evOpsU call ty U l s
def evR [Globals] (call:CallF)(ty:Tys)(u:Option (List Nat))(l:List Oper)(_:Lk l)(s:St):Option (Ex × St):=evRg call ty u l.toArray s
def evOP [Globals] (call:CallF)(ty:Tys)(ops:Array Oper)(_:Lk ops)(l:List Oper)(_:Lk l)(s:St):Option (Ex × St):=evOpsP call ty ops l s
def pkK [Globals] (call:CallF)(ty:Tys)(ops:Array Oper)(_:Lk ops)(l:List Oper)(_:Lk l):(Nat × List C) ⊕ St→Option (Ex × St)
 | .inl p=>some (.pan p.1 p.2,deadS)
 | .inr s=>evOpsP call ty ops l s
def pkP [Globals] (call:CallF)(ty:Tys)(ops:Array Oper)(_:Lk ops)(l:List Oper)(_:Lk l)(o:Oper)(_:Lk o)(d:Option Nat)(args:List T)(tys:List TypeId)(n:Nat)(m:List (Nat × T))(hp:Heap)(fr:List Nat)(p:Pk):Option (Ex × St):=match p,d with
 | .no,_=>(evOp call ty o (mk n m hp fr)).bind (evOpsP call ty ops l)
 | .pan x,_=>panX (panOf (opd (tmk n m) x))
 | .call f all,some d=>(lnpH call f (wkArgs ty tys) args d n m hp fr (lentHs hp all args)).bind (pkK call ty ops .mk l .mk)
 | _,_=>none
def pkV [Globals] (p:Option (FuncId × Bool)):Pk:=match p with
 | some (f,all)=>if Globals.pn f=true then .call f all else .no
 | none=>.no
def chkIf (b:Bool)(x:Option St)(_:Lk x):Option St:=if b=true then x else none
def offT [Globals] (h n:Nat)(m:List (Nat × T)):List Nat→Bool
 | []=>true
 | r::U=>!(opd (tmk n m) (.tmp r)).hds.contains h&&offT h n m U
def offH (h:Nat):Heap→Bool
 | []=>true
 | p::l=>!p.2.hds.contains h&&offH h l
theorem offT_eq [Globals] (h n:Nat)(m:List (Nat × T)):∀ U:List Nat,offT h n m U=U.all (fun r=>!(opd (tmk n m) (.tmp r)).hds.contains h)
 | []=>rfl
 | r::U=>by rw[offT,offT_eq h n m U]; rfl
theorem offH_eq (h:Nat):∀ l:Heap,offH h l=l.all (fun p=>!p.2.hds.contains h)
 | []=>rfl
 | p::l=>by rw[offH,offH_eq h l]; rfl
@[simp] theorem offT_nil [Globals] (h n:Nat)(m:List (Nat × T)):offT h n m []=true:=Eq.trans rfl rfl
@[simp] theorem offT_cons [Globals] (h n:Nat)(m:List (Nat × T))(r:Nat)(U:List Nat):offT h n m (r::U)=(!(opd (tmk n m) (.tmp r)).hds.contains h&&offT h n m U):=Eq.trans rfl rfl
@[simp] theorem offH_nil (h:Nat):offH h []=true:=Eq.trans rfl rfl
@[simp] theorem offH_cons (h k:Nat)(o:Ob)(l:Heap):offH h ((k,o)::l)=(!o.hds.contains h&&offH h l):=Eq.trans rfl rfl
def chkR [Globals] (ty:Tys)(U:List Nat)(t src:T)(u:TypeId)(n:Nat)(m:List (Nat × T))(hp:Heap):Bool:=match t with
 | .c (.ref h _ _)=>U.all (fun r=>!(opd (tmk n m) (.tmp r)).hds.contains h)&&hp.all (fun p=>!p.2.hds.contains h)&&freeSrc hp src&&notInt ty u
 | _=>false
def kS [Globals] (call:CallF)(ty:Tys)(kp:Nat→Option (List Nat))(c:Code)(_:Lk c)(r:Ex × St):Option (Ex × St):=contS call ty kp c r
def condK (t:T)(x y:Option (Ex × St))(_:Lk x)(_:Lk y):Option (Ex × St):=condE t x y
def guardK (t:T)(want:Bool)(no yes sk:Option St)(_:Lk no)(_:Lk yes)(_:Lk sk):Option St:=guardE t want no yes sk
def dstAt:List Oper→Nat→Option Nat
 | [],_=>none
 | o::_,0=>o.dst
 | _::l,j+1=>dstAt l j
theorem dstAt_eq:∀ (l:List Oper) (j:Nat),dstAt l j=(l[j]?).bind (·.dst)
 | [],_=>rfl
 | _::_,0=>rfl
 | _::l,j+1=>dstAt_eq l j
section
variable {c:Code} {s:St}
@[simp] theorem evK_skip [Globals] (h:Lk Code.skip):evK call ty kp .skip h s=some (.norm,s):=evCode_skip s
@[simp] theorem evK_exit [Globals] (id:Nat)(h:Lk (Code.exit id)):evK call ty kp (.exit id) h s=some (.exit id,tidy (kp (20000+id)) s):=evCode_exit id s
@[simp] theorem evK_ret [Globals] (h:Lk Code.ret):evK call ty kp .ret h s=some (.ret,tidy (kp 9999) s):=evCode_ret s
@[simp] theorem evK_region [Globals] (id:Nat)(l:List Oper)(b:Bool)(h:Lk (Code.region id l.toArray b)):evK call ty kp (.region id l.toArray b) h s=evR call ty (kp (30000+id)) l .mk (enter l (tidy (kp id) s)):=evCode_region id l.toArray b s
@[simp] theorem evR_none [Globals] (l:List Oper)(h:Lk l):evR call ty none l h s=(evO call ty l.toArray .mk l .mk s).map fun s=>(.norm,s):=Eq.trans rfl rfl
@[simp] theorem evR_some [Globals] (U:List Nat)(l:List Oper)(h:Lk l):evR call ty (some U) l h s=Br (isP U) (evOP call ty l.toArray .mk l .mk s) ((evOU call ty U l .mk s).map fun s=>(.norm,s)) .mk .mk:=by
 show (if isP U=true then _ else _)=_
 cases isP U<;>rfl
@[simp] theorem isP_cons (u:Nat)(U:List Nat):isP (u::U)=(u==1000000):=rfl
@[simp] theorem evOP_nil [Globals] (ops:Array Oper)(h1:Lk ops)(h2:Lk ([]:List Oper)):evOP call ty ops h1 [] h2 s=some (.norm,s):=Eq.trans rfl rfl
@[simp] theorem pkK_inl [Globals] (ops:Array Oper)(l:List Oper)(h1:Lk ops)(h2:Lk l)(p:Nat × List C):pkK call ty ops h1 l h2 (.inl p)=some (.pan p.1 p.2,deadS):=Eq.trans rfl rfl
@[simp] theorem pkK_inr [Globals] (ops:Array Oper)(l:List Oper)(h1:Lk ops)(h2:Lk l)(s:St):pkK call ty ops h1 l h2 (.inr s)=evOP call ty ops .mk l .mk s:=Eq.trans rfl rfl
@[simp] theorem kS_pan [Globals] (h:Lk c)(u:Nat)(cs:List C):kS call ty kp c h (.pan u cs,s)=some (.pan u cs,s):=rfl
@[simp] theorem panX_some (p:Nat × List C):panX (some p)=some (.pan p.1 p.2,deadS):=rfl
@[simp] theorem panOf_iface (u:TypeId)(vs:List Value):panOf (.c (.lit (.iface u (.agg vs.toArray))))=some (u,vs.map .lit):=rfl
@[simp] theorem evOP_panic [Globals] (ops:Array Oper)(x:Operand)(t:TypeId)(pos:String)(after:Array Edge)(dst:Option Nat)(l:List Oper)(h1:Lk ops)(h2:Lk ({ dst:=dst,op:=.panic x,type:=t,pos:=pos,after:=after,guard:=none }::l)):
  evOP call ty ops h1 ({ dst:=dst,op:=.panic x,type:=t,pos:=pos,after:=after,guard:=none }::l) h2 s=panX (panOf (opd s.tm x)):=Eq.trans rfl rfl
@[simp] theorem pkP_no [Globals] (ops:Array Oper)(l:List Oper)(o:Oper)(d:Option Nat)(args:List T)(tys:List TypeId)(n:Nat)(m:List (Nat × T))(hp:Heap)(fr:List Nat)(h1:Lk ops)(h2:Lk l)(h3:Lk o):
  pkP call ty ops h1 l h2 o h3 d args tys n m hp fr .no=(evOp call ty o (mk n m hp fr)).bind (evOP call ty ops .mk l .mk):=Eq.trans rfl rfl
@[simp] theorem pkP_call [Globals] (ops:Array Oper)(l:List Oper)(o:Oper)(d:Nat)(f:FuncId)(all:Bool)(args:List T)(tys:List TypeId)(n:Nat)(m:List (Nat × T))(hp:Heap)(fr:List Nat)(h1:Lk ops)(h2:Lk l)(h3:Lk o):
  pkP call ty ops h1 l h2 o h3 (some d) args tys n m hp fr (.call f all)=(lnpH call f (wkArgs ty tys) args d n m hp fr (lentHs hp all args)).bind (pkK call ty ops .mk l .mk):=Eq.trans rfl rfl
@[simp] theorem pkV_none [Globals]:pkV none=.no:=rfl
@[simp] theorem pkV_some [Globals] (f:FuncId)(all:Bool):pkV (some (f,all))=if Globals.pn f=true then .call f all else .no:=rfl
@[simp] theorem evOP_value [Globals] (ops:Array Oper)(x:Operand)(args:Array Operand)(tys:Array TypeId)(t:TypeId)(pos:String)(after:Array Edge)(dst:Option Nat)(l:List Oper)(n:Nat)(m:List (Nat × T))(hp:Heap)(fr:List Nat)(h1:Lk ops)(h2:Lk ({ dst:=dst,op:=.call { callee:=.value x,args:=args,argTypes:=tys },type:=t,pos:=pos,after:=after,guard:=none }::l)):
  evOP call ty ops h1 ({ dst:=dst,op:=.call { callee:=.value x,args:=args,argTypes:=tys },type:=t,pos:=pos,after:=after,guard:=none }::l) h2 (mk n m hp fr) =
   pkP call ty ops .mk l .mk { dst:=dst,op:=.call { callee:=.value x,args:=args,argTypes:=tys },type:=t,pos:=pos,after:=after,guard:=none } .mk dst (args.toList.map (opd (tmk n m))) tys.toList n m hp fr (pkV (lendV x)):=by
 show evOpsP call ty ops _ _=_;rw[evOpsP];have hp1:pkOf { dst:=dst,op:=.call { callee:=.value x,args:=args,argTypes:=tys },type:=t,pos:=pos,after:=after,guard:=none }=pkV (lendV x):=by
  have hlv:lendOf { callee:=.value x,args:=args,argTypes:=tys }=lendV x:=by cases x<;>rfl
  unfold pkOf;simp only[hlv]
  cases lendV x with
  | none=>rfl
  | some q=>rfl
 simp only[guardOf,hp1]
 cases pkV (lendV x) with
 | no=>rfl
 | pan x=>rfl
 | call f all=>
  cases dst with
  | none=>rfl
  | some d=>
   simp only[pkP,opArgs,evLP_mk,mk_tm,mk_hp];show Option.bind (lnpH call f (wkArgs ty tys.toList) _ d n m hp fr _) _=Option.bind _ _;refine congrArg (Option.bind _) (funext fun q=>?_)
   cases q<;>rfl
theorem evOP_plain [Globals] {o:Oper}(ops:Array Oper)(l:List Oper){h1:Lk ops}{h2:Lk (o::l)}(hg:o.guard=none)(ho:pkOf o=.no):evOP call ty ops h1 (o::l) h2 s=(evOp call ty o s).bind (evOP call ty ops .mk l .mk):=by
 show evOpsP call ty ops (o::l) s=_;rw[evOpsP];simp only[guardOf,hg,ho];rfl
@[simp] theorem evOP_move [Globals] (ops:Array Oper)(x:Operand)(t:TypeId)(pos:String)(after:Array Edge)(dst:Option Nat)(l:List Oper)(h1:Lk ops)(h2:Lk ({ dst:=dst,op:=.move x,type:=t,pos:=pos,after:=after,guard:=none }::l)):evOP call ty ops h1 ({ dst:=dst,op:=.move x,type:=t,pos:=pos,after:=after,guard:=none }::l) h2 s=(evOp call ty { dst:=dst,op:=.move x,type:=t,pos:=pos,after:=after,guard:=none } s).bind (evOP call ty ops .mk l .mk):=evOP_plain ops l rfl rfl
@[simp] theorem evOP_assign [Globals] (ops:Array Oper)(x:Operand)(t:TypeId)(pos:String)(after:Array Edge)(dst:Option Nat)(l:List Oper)(h1:Lk ops)(h2:Lk ({ dst:=dst,op:=.assign x,type:=t,pos:=pos,after:=after,guard:=none }::l)):evOP call ty ops h1 ({ dst:=dst,op:=.assign x,type:=t,pos:=pos,after:=after,guard:=none }::l) h2 s=(evOp call ty { dst:=dst,op:=.assign x,type:=t,pos:=pos,after:=after,guard:=none } s).bind (evOP call ty ops .mk l .mk):=evOP_plain ops l rfl rfl
@[simp] theorem evOP_alloc [Globals] (ops:Array Oper)(e:TypeId)(t:TypeId)(pos:String)(after:Array Edge)(dst:Option Nat)(l:List Oper)(h1:Lk ops)(h2:Lk ({ dst:=dst,op:=.alloc e,type:=t,pos:=pos,after:=after,guard:=none }::l)):evOP call ty ops h1 ({ dst:=dst,op:=.alloc e,type:=t,pos:=pos,after:=after,guard:=none }::l) h2 s=(evOp call ty { dst:=dst,op:=.alloc e,type:=t,pos:=pos,after:=after,guard:=none } s).bind (evOP call ty ops .mk l .mk):=evOP_plain ops l rfl rfl
@[simp] theorem evOP_build [Globals] (ops:Array Oper)(u:TypeId)(ps:Array (Nat × Operand))(t:TypeId)(pos:String)(after:Array Edge)(dst:Option Nat)(l:List Oper)(h1:Lk ops)(h2:Lk ({ dst:=dst,op:=.build u ps,type:=t,pos:=pos,after:=after,guard:=none }::l)):evOP call ty ops h1 ({ dst:=dst,op:=.build u ps,type:=t,pos:=pos,after:=after,guard:=none }::l) h2 s=(evOp call ty { dst:=dst,op:=.build u ps,type:=t,pos:=pos,after:=after,guard:=none } s).bind (evOP call ty ops .mk l .mk):=evOP_plain ops l rfl rfl
@[simp] theorem evOP_buildSlice [Globals] (ops:Array Oper)(u:TypeId)(k:Nat)(ps:Array (Nat × Operand))(t:TypeId)(pos:String)(after:Array Edge)(dst:Option Nat)(l:List Oper)(h1:Lk ops)(h2:Lk ({ dst:=dst,op:=.buildSlice u k ps,type:=t,pos:=pos,after:=after,guard:=none }::l)):evOP call ty ops h1 ({ dst:=dst,op:=.buildSlice u k ps,type:=t,pos:=pos,after:=after,guard:=none }::l) h2 s=(evOp call ty { dst:=dst,op:=.buildSlice u k ps,type:=t,pos:=pos,after:=after,guard:=none } s).bind (evOP call ty ops .mk l .mk):=evOP_plain ops l rfl rfl
@[simp] theorem evOP_load [Globals] (ops:Array Oper)(u:TypeId)(x:Operand)(t:TypeId)(pos:String)(after:Array Edge)(dst:Option Nat)(l:List Oper)(h1:Lk ops)(h2:Lk ({ dst:=dst,op:=.load u x,type:=t,pos:=pos,after:=after,guard:=none }::l)):evOP call ty ops h1 ({ dst:=dst,op:=.load u x,type:=t,pos:=pos,after:=after,guard:=none }::l) h2 s=(evOp call ty { dst:=dst,op:=.load u x,type:=t,pos:=pos,after:=after,guard:=none } s).bind (evOP call ty ops .mk l .mk):=evOP_plain ops l rfl rfl
@[simp] theorem evOP_store [Globals] (ops:Array Oper)(u:TypeId)(x y:Operand)(t:TypeId)(pos:String)(after:Array Edge)(dst:Option Nat)(l:List Oper)(h1:Lk ops)(h2:Lk ({ dst:=dst,op:=.store u x y,type:=t,pos:=pos,after:=after,guard:=none }::l)):evOP call ty ops h1 ({ dst:=dst,op:=.store u x y,type:=t,pos:=pos,after:=after,guard:=none }::l) h2 s=(evOp call ty { dst:=dst,op:=.store u x y,type:=t,pos:=pos,after:=after,guard:=none } s).bind (evOP call ty ops .mk l .mk):=evOP_plain ops l rfl rfl
@[simp] theorem evOP_nilCheck [Globals] (ops:Array Oper)(x:Operand)(t:TypeId)(pos:String)(after:Array Edge)(dst:Option Nat)(l:List Oper)(h1:Lk ops)(h2:Lk ({ dst:=dst,op:=.nilCheck x,type:=t,pos:=pos,after:=after,guard:=none }::l)):evOP call ty ops h1 ({ dst:=dst,op:=.nilCheck x,type:=t,pos:=pos,after:=after,guard:=none }::l) h2 s=(evOp call ty { dst:=dst,op:=.nilCheck x,type:=t,pos:=pos,after:=after,guard:=none } s).bind (evOP call ty ops .mk l .mk):=evOP_plain ops l rfl rfl
@[simp] theorem evOP_binOp [Globals] (ops:Array Oper)(b:BinOp)(u:TypeId)(x y:Operand)(v:TypeId)(t:TypeId)(pos:String)(after:Array Edge)(dst:Option Nat)(l:List Oper)(h1:Lk ops)(h2:Lk ({ dst:=dst,op:=.binOp b u x y v,type:=t,pos:=pos,after:=after,guard:=none }::l)):evOP call ty ops h1 ({ dst:=dst,op:=.binOp b u x y v,type:=t,pos:=pos,after:=after,guard:=none }::l) h2 s=(evOp call ty { dst:=dst,op:=.binOp b u x y v,type:=t,pos:=pos,after:=after,guard:=none } s).bind (evOP call ty ops .mk l .mk):=evOP_plain ops l rfl rfl
@[simp] theorem evOP_makeInterface [Globals] (ops:Array Oper)(u:TypeId)(x:Operand)(t:TypeId)(pos:String)(after:Array Edge)(dst:Option Nat)(l:List Oper)(h1:Lk ops)(h2:Lk ({ dst:=dst,op:=.makeInterface u x,type:=t,pos:=pos,after:=after,guard:=none }::l)):evOP call ty ops h1 ({ dst:=dst,op:=.makeInterface u x,type:=t,pos:=pos,after:=after,guard:=none }::l) h2 s=(evOp call ty { dst:=dst,op:=.makeInterface u x,type:=t,pos:=pos,after:=after,guard:=none } s).bind (evOP call ty ops .mk l .mk):=evOP_plain ops l rfl rfl
@[simp] theorem evOP_fieldAddr [Globals] (ops:Array Oper)(u:TypeId)(x:Operand)(f:Nat)(t:TypeId)(pos:String)(after:Array Edge)(dst:Option Nat)(l:List Oper)(h1:Lk ops)(h2:Lk ({ dst:=dst,op:=.fieldAddr u x f,type:=t,pos:=pos,after:=after,guard:=none }::l)):evOP call ty ops h1 ({ dst:=dst,op:=.fieldAddr u x f,type:=t,pos:=pos,after:=after,guard:=none }::l) h2 s=(evOp call ty { dst:=dst,op:=.fieldAddr u x f,type:=t,pos:=pos,after:=after,guard:=none } s).bind (evOP call ty ops .mk l .mk):=evOP_plain ops l rfl rfl
@[simp] theorem evOP_append [Globals] (ops:Array Oper)(as:Array Operand)(ts:Array TypeId)(t:TypeId)(pos:String)(after:Array Edge)(dst:Option Nat)(l:List Oper)(h1:Lk ops)(h2:Lk ({ dst:=dst,op:=.call { callee:=.builtin .append,args:=as,argTypes:=ts },type:=t,pos:=pos,after:=after,guard:=none }::l)):evOP call ty ops h1 ({ dst:=dst,op:=.call { callee:=.builtin .append,args:=as,argTypes:=ts },type:=t,pos:=pos,after:=after,guard:=none }::l) h2 s=(evOp call ty { dst:=dst,op:=.call { callee:=.builtin .append,args:=as,argTypes:=ts },type:=t,pos:=pos,after:=after,guard:=none } s).bind (evOP call ty ops .mk l .mk):=evOP_plain ops l rfl (by unfold pkOf; rfl)
@[simp] theorem evOU_nil [Globals] (U:List Nat)(h2:Lk ([]:List Oper)):evOU call ty U [] h2 s=some s:=Eq.trans rfl rfl
@[simp] theorem chkIf_true (x:Option St)(h:Lk x):chkIf true x h=x:=Eq.trans rfl rfl
@[simp] theorem evK_seq [Globals] (a b:Code)(h:Lk (Code.seq a b)):evK call ty kp (.seq a b) h s=(evK call ty kp a .mk s).bind (kS call ty kp b .mk):=evCode_seq a b s
@[simp] theorem evK_block [Globals] (id:Nat)(h:Lk (Code.block id c)):evK call ty kp (.block id c) h s=(evK call ty kp c .mk s).bind (contB id):=evCode_block id c s
@[simp] theorem evK_loop [Globals] (h:Lk (Code.loop c)):evK call ty kp (.loop c) h s=evL call ty kp c .mk s:=evCode_loop c s
@[simp] theorem evK_cond [Globals] (x:Operand)(a b:Code)(h:Lk (Code.cond x a b)):evK call ty kp (.cond x a b) h s=condK (opd s.tm x) (evK call ty kp a .mk s) (evK call ty kp b .mk s) .mk .mk:=evCode_cond x a b s
@[simp] theorem condK_lit (b:Bool)(x y:Option (Ex × St))(hx:Lk x)(hy:Lk y):condK (.c (.lit (.bool b))) x y hx hy=Br b x y .mk .mk:=rfl
@[simp] theorem kS_norm [Globals] (h:Lk c):kS call ty kp c h (.norm,s)=evK call ty kp c .mk s:=rfl
@[simp] theorem kS_exit [Globals] (id:Nat)(h:Lk c):kS call ty kp c h (.exit id,s)=some (.exit id,s):=rfl
@[simp] theorem kS_ret [Globals] (h:Lk c):kS call ty kp c h (.ret,s)=some (.ret,s):=rfl
@[simp] theorem evO_nil [Globals] (ops:Array Oper)(h1:Lk ops)(h2:Lk ([]:List Oper)):evO call ty ops h1 [] h2 s=some s:=rfl
@[simp] theorem evO_cons [Globals] (ops:Array Oper)(op:Op)(t:TypeId)(pos:String)(after:Array Edge)(l:List Oper)(h1:Lk ops)(h2:Lk ({ dst:=dst,op:=op,type:=t,pos:=pos,after:=after,guard:=none }::l)):
  evO call ty ops h1 ({ dst:=dst,op:=op,type:=t,pos:=pos,after:=after,guard:=none }::l) h2 s=(evOp call ty { dst:=dst,op:=op,type:=t,pos:=pos,after:=after,guard:=none } s).bind (evO call ty ops .mk l .mk):=evOps_cons ops dst op t pos after l s
@[simp] theorem evOU_cons [Globals] (U:List Nat)(op:Op)(t:TypeId)(pos:String)(after:Array Edge)(l:List Oper)(h2:Lk ({ dst:=dst,op:=op,type:=t,pos:=pos,after:=after,guard:=none }::l)):
  evOU call ty U ({ dst:=dst,op:=op,type:=t,pos:=pos,after:=after,guard:=none }::l) h2 s=chkIf (chk ty U { dst:=dst,op:=op,type:=t,pos:=pos,after:=after,guard:=none } s) ((evOp call ty { dst:=dst,op:=op,type:=t,pos:=pos,after:=after,guard:=none } s).bind (evOU call ty U l .mk)) .mk:=Eq.trans rfl rfl
def offM [Globals] (h n:Nat)(m:List (Nat × T)):List Nat→Bool
 | []=>true
 | r::U=>(decide (r<400000)||!(opd (tmk n m) (.tmp (r-400000))).hds.contains h)&&offM h n m U
@[simp] theorem offM_nil [Globals] (h n:Nat)(m:List (Nat × T)):offM h n m []=true:=Eq.trans rfl rfl
@[simp] theorem offM_cons [Globals] (h n:Nat)(m:List (Nat × T))(r:Nat)(U:List Nat):offM h n m (r::U)=((decide (r<400000)||!(opd (tmk n m) (.tmp (r-400000))).hds.contains h)&&offM h n m U):=Eq.trans rfl rfl
theorem offM_eq [Globals] (h n:Nat)(m:List (Nat × T))(U:List Nat):offM h n m U=U.all (fun r=>decide (r<400000)||!(opd (tmk n m) (.tmp (r-400000))).hds.contains h):=by
 induction U with
 | nil=>exact rfl
 | cons r U ih=>rw[List.all_cons,← ih]; exact Eq.trans (offM_cons ..) rfl
@[simp] theorem isT_nil:isT []=false:=rfl
@[simp] theorem isT_cons (r:Nat)(U:List Nat):isT (r::U)=(decide (400000≤r)||isT U):=by simp only[isT,List.any_cons]
def chkM [Globals] (ty:Tys)(U:List Nat)(t src:T)(u:TypeId)(n:Nat)(m:List (Nat × T))(hp:Heap):Bool:=match t with
 | .c (.ref h _ _)=>offM h n m U&&freeSrc hp src&&notInt ty u
 | _=>false
@[simp] theorem chkM_ref [Globals] (U:List Nat)(h off len:Nat)(src:T)(u:TypeId)(n:Nat)(m:List (Nat × T))(hp:Heap):chkM ty U (.c (.ref h off len)) src u n m hp=(offM h n m U&&freeSrc hp src&&notInt ty u):=Eq.trans rfl rfl
def chkB [Globals] (b:Bool)(ty:Tys)(U:List Nat)(t src:T)(u:TypeId)(n:Nat)(m:List (Nat × T))(hp:Heap):Bool:=match b with
 | true=>chkM ty U t src u n m hp
 | false=>chkR ty U t src u n m hp
@[simp] theorem chkB_true [Globals] (U:List Nat)(t src:T)(u:TypeId)(n:Nat)(m:List (Nat × T))(hp:Heap):chkB true ty U t src u n m hp=chkM ty U t src u n m hp:=Eq.trans rfl rfl
@[simp] theorem chkB_false [Globals] (U:List Nat)(t src:T)(u:TypeId)(n:Nat)(m:List (Nat × T))(hp:Heap):chkB false ty U t src u n m hp=chkR ty U t src u n m hp:=Eq.trans rfl rfl
@[simp] theorem chk_append [Globals] (U:List Nat)(t:TypeId)(pos:String)(after:Array Edge)(b x:Operand)(u v:TypeId)(n:Nat)(m:List (Nat × T))(hp:Heap)(fr:List Nat)(d:Nat):
  chk ty U { dst:=some d,op:=.call { callee:=.builtin .append,args:=#[b,x],argTypes:=#[u,v] },type:=t,pos:=pos,after:=after,guard:=none } (mk n m hp fr)=chkB (isT U) ty U (opd (tmk n m) b) (opd (tmk n m) x) v n m hp:=by
 show (if isT U=true then chkT ty U b x v (mk n m hp fr) else chkA ty U b x v (mk n m hp fr))=_
 cases isT U with
 | false=>exact Eq.trans rfl rfl
 | true=>
  show chkT ty U b x v (mk n m hp fr)=chkM ty U (opd (tmk n m) b) (opd (tmk n m) x) v n m hp;unfold chkT chkM;simp only[mk_tm,mk_hp,offM_eq];generalize opd (tmk n m) b=X
  cases X with
  | c c0=>cases c0<;>rfl
  | _=>rfl
@[simp] theorem chkR_ref [Globals] (U:List Nat)(h off len:Nat)(src:T)(u:TypeId)(n:Nat)(m:List (Nat × T))(hp:Heap):
  chkR ty U (.c (.ref h off len)) src u n m hp=(offT h n m U&&offH h hp&&freeSrc hp src&&notInt ty u):=by
 rw[offT_eq,offH_eq];rfl
def freeO (o:Option Ob):Bool:=match o with
 | some o=>o.free
 | none=>false
@[simp] theorem freeO_some (o:Ob):freeO (some o)=o.free:=rfl
def safeC (hp:Heap)(hs:List Nat):T→Bool
 | .c (.ptr h _ _)=>freeO (hget hp h)&&!hs.contains h
 | _=>false
@[simp] theorem safeC_ptr (hp:Heap)(hs:List Nat)(h i off:Nat):safeC hp hs (.c (.ptr h i off))=(freeO (hget hp h)&&!hs.contains h):=rfl
def safeU (n:Nat)(m:List (Nat × T))(hp:Heap)(hs:List Nat):List Nat→Bool
 | []=>true
 | r::U=>(decide (r<300000)||(decide (r-300000<n)&&safeC hp hs (tget m (r-300000))))&&safeU n m hp hs U
@[simp] theorem safeU_nil (n:Nat)(m:List (Nat × T))(hp:Heap)(hs:List Nat):safeU n m hp hs []=true:=rfl
@[simp] theorem safeU_cons (n:Nat)(m:List (Nat × T))(hp:Heap)(hs:List Nat)(r:Nat)(U:List Nat):safeU n m hp hs (r::U)=((decide (r<300000)||(decide (r-300000<n)&&safeC hp hs (tget m (r-300000))))&&safeU n m hp hs U):=rfl
theorem ldSafe_mk (n:Nat)(m:List (Nat × T))(hp:Heap)(fr hs:List Nat)(k:Nat):ldSafe (mk n m hp fr) hs k=(decide (k<n)&&safeC hp hs (tget m k)):=by
 unfold ldSafe;simp only[mk_tm,tmk_get,mk_hp]
 by_cases h:k<n
 ·simp only[if_pos h,h,decide_true,Bool.true_and]
  cases tget m k with
  | c x=>cases x<;>rfl
  | _=>rfl
 ·simp[h]
theorem safeU_eq (n:Nat)(m:List (Nat × T))(hp:Heap)(fr:List Nat)(hs:List Nat)(U:List Nat):safeU n m hp hs U=U.all fun r=>decide (r<300000)||ldSafe (mk n m hp fr) hs (r-300000):=by
 induction U with
 | nil=>exact rfl
 | cons r U ih=>
  rw[List.all_cons,← ih,ldSafe_mk];exact Eq.trans (safeU_cons ..) rfl
def chkV (p:Option (FuncId × Bool))(U:List Nat)(ts:List T)(n:Nat)(m:List (Nat × T))(hp:Heap):Bool:=match p with
 | none=>true
 | some (_,all)=>safeU n m hp (lentHs hp all ts) U
@[simp] theorem chkV_none (U:List Nat)(ts:List T)(n:Nat)(m:List (Nat × T))(hp:Heap):chkV none U ts n m hp=true:=rfl
@[simp] theorem chkV_some (f:FuncId)(all:Bool)(U:List Nat)(ts:List T)(n:Nat)(m:List (Nat × T))(hp:Heap):chkV (some (f,all)) U ts n m hp=safeU n m hp (lentHs hp all ts) U:=rfl
@[simp] theorem chk_value [Globals] (U:List Nat)(t:TypeId)(pos:String)(after:Array Edge)(f:Operand)(as:Array Operand)(ts:Array TypeId)(n:Nat)(m:List (Nat × T))(hp:Heap)(fr:List Nat):
  chk ty U { dst:=dst,op:=.call { callee:=.value f,args:=as,argTypes:=ts },type:=t,pos:=pos,after:=after,guard:=none } (mk n m hp fr)=chkV (lendV f) U (as.toList.map (opd (tmk n m))) n m hp:=by
 have hlv:lendOf { callee:=.value f,args:=as,argTypes:=ts }=lendV f:=by cases f<;>rfl
 unfold chk chkL lnd;simp only[apArgs,stOf,hlv]
 cases lendV f with
 | none=>rfl
 | some q=>exact (safeU_eq n m hp fr _ U).symm
@[simp] theorem chk_move [Globals] (U:List Nat)(t:TypeId)(pos:String)(after:Array Edge)(x:Operand):chk ty U { dst:=dst,op:=.move x,type:=t,pos:=pos,after:=after,guard:=none } s=true:=Eq.trans rfl rfl
@[simp] theorem chk_assign [Globals] (U:List Nat)(t:TypeId)(pos:String)(after:Array Edge)(x:Operand):chk ty U { dst:=dst,op:=.assign x,type:=t,pos:=pos,after:=after,guard:=none } s=true:=Eq.trans rfl rfl
@[simp] theorem chk_load [Globals] (U:List Nat)(t:TypeId)(pos:String)(after:Array Edge)(u:TypeId)(x:Operand):chk ty U { dst:=dst,op:=.load u x,type:=t,pos:=pos,after:=after,guard:=none } s=true:=Eq.trans rfl rfl
@[simp] theorem chk_fieldAddr [Globals] (U:List Nat)(t:TypeId)(pos:String)(after:Array Edge)(u:TypeId)(x:Operand)(f:Nat):chk ty U { dst:=dst,op:=.fieldAddr u x f,type:=t,pos:=pos,after:=after,guard:=none } s=true:=Eq.trans rfl rfl
def anyS (U:List Nat):Bool:=U.any fun r=>decide (100000≤r)
@[simp] theorem anyS_nil:anyS []=false:=rfl
@[simp] theorem anyS_cons (r:Nat)(U:List Nat):anyS (r::U)=(decide (100000≤r)||anyS U):=rfl
def offS [Globals] (h n:Nat)(m:List (Nat × T))(U:List Nat):Bool:=U.all fun r=>decide (r<100000)||!(opd (tmk n m) (.tmp (r-100000))).hds.contains h
@[simp] theorem offS_nil [Globals] (h n:Nat)(m:List (Nat × T)):offS h n m []=true:=rfl
@[simp] theorem offS_cons [Globals] (h n:Nat)(m:List (Nat × T))(r:Nat)(U:List Nat):offS h n m (r::U)=((decide (r<100000)||!(opd (tmk n m) (.tmp (r-100000))).hds.contains h)&&offS h n m U):=rfl
def boxQ (o:Option Ob):Bool:=match o with
 | some o=>o.box
 | none=>false
@[simp] theorem boxQ_some (o:Ob):boxQ (some o)=o.box:=rfl
def chkSI [Globals] (b:Bool)(A:T)(U:List Nat)(n:Nat)(m:List (Nat × T))(hp:Heap):Bool:=match b with
 | false=>true
 | true=>match A with
  | .c (.ptr h _ _)=>boxQ (hget hp h)&&offH h hp&&offS h n m U
  | _=>false
@[simp] theorem chkSI_false [Globals] (A:T)(U:List Nat)(n:Nat)(m:List (Nat × T))(hp:Heap):chkSI false A U n m hp=true:=rfl
@[simp] theorem chkSI_ptr [Globals] (h i off:Nat)(U:List Nat)(n:Nat)(m:List (Nat × T))(hp:Heap):chkSI true (.c (.ptr h i off)) U n m hp=(boxQ (hget hp h)&&offH h hp&&offS h n m U):=rfl
@[simp] theorem chk_store [Globals] (U:List Nat)(t:TypeId)(pos:String)(after:Array Edge)(u:TypeId)(x y:Operand)(n:Nat)(m:List (Nat × T))(hp:Heap)(fr:List Nat):chk ty U { dst:=none,op:=.store u x y,type:=t,pos:=pos,after:=after,guard:=none } (mk n m hp fr)=chkSI (anyS U) (opd (tmk n m) x) U n m hp:=by
 have h0:chk ty U { dst:=none,op:=.store u x y,type:=t,pos:=pos,after:=after,guard:=none } (mk n m hp fr)=chkS U x (mk n m hp fr):=rfl;rw[h0];unfold chkS chkSI anyS;simp only[mk_tm,mk_hp]
 cases U.any fun r=>decide (100000≤r) with
 | false=>rfl
 | true=>
  simp only[Bool.not_true,Bool.false_or];generalize opd (tmk n m) x=A
  cases A with
  | c X=>
   cases X with
   | ptr h i off=>
    simp only[offH_eq];rfl
   | _=>rfl
  | _=>rfl
@[simp] theorem chk_nilCheck [Globals] (U:List Nat)(t:TypeId)(pos:String)(after:Array Edge)(x:Operand):chk ty U { dst:=dst,op:=.nilCheck x,type:=t,pos:=pos,after:=after,guard:=none } s=true:=Eq.trans rfl rfl
@[simp] theorem chk_buildSlice [Globals] (U:List Nat)(t:TypeId)(pos:String)(after:Array Edge)(u:TypeId)(k:Nat)(ps:Array (Nat × Operand)):chk ty U { dst:=dst,op:=.buildSlice u k ps,type:=t,pos:=pos,after:=after,guard:=none } s=true:=Eq.trans rfl rfl
@[simp] theorem chk_build [Globals] (U:List Nat)(t:TypeId)(pos:String)(after:Array Edge)(u:TypeId)(ps:Array (Nat × Operand)):chk ty U { dst:=dst,op:=.build u ps,type:=t,pos:=pos,after:=after,guard:=none } s=true:=Eq.trans rfl rfl
attribute [simp] notInt
def guardW [Globals] (call:CallF)(ty:Tys)(ops:Array Oper)(_:Lk ops)(dst:Option Nat)(op:Op)(t:TypeId)(pos:String)(after:Array Edge)(j:Nat)(want:Bool)(l:List Oper)(_:Lk l)(n:Nat)(m:List (Nat × T))(hp:Heap)(fr:List Nat)(o:Option Nat):Option St:=
 guardJ call ty ops dst op t pos after j want l n m hp fr o
@[simp] theorem evO_guard [Globals] (l0:List Oper)(op:Op)(t:TypeId)(pos:String)(after:Array Edge)(j:Nat)(want:Bool)(l:List Oper)(h1:Lk l0.toArray)(h2:Lk ({ dst:=dst,op:=op,type:=t,pos:=pos,after:=after,guard:=some (j,want) }::l)):
  evO call ty l0.toArray h1 ({ dst:=dst,op:=op,type:=t,pos:=pos,after:=after,guard:=some (j,want) }::l) h2 (mk n m hp fr)=guardW call ty l0.toArray .mk dst op t pos after j want l .mk n m hp fr (dstAt l0 j):=by
 rw[dstAt_eq];have h:=evOps_guard (call:=call) (ty:=ty) l0.toArray dst op t pos after j want l n m hp fr;simp only[List.getElem?_toArray] at h;exact h
@[simp] theorem guardW_some [Globals] (ops:Array Oper)(h1:Lk ops)(op:Op)(t:TypeId)(pos:String)(after:Array Edge)(j:Nat)(want:Bool)(l:List Oper)(h2:Lk l):
  guardW call ty ops h1 dst op t pos after j want l h2 n m hp fr (some d)=if d<n then guardK (tget m d) want (evO call ty ops .mk l .mk (putT (mk n (tput m d (.c (.lit (.bool (!want))))) hp fr) dst (.tup [])))
   ((evOp call ty { dst:=dst,op:=op,type:=t,pos:=pos,after:=after,guard:=some (j,want) } (mk n (tput m d (.c (.lit (.bool want)))) hp fr)).bind (evO call ty ops .mk l .mk)) (evO call ty ops .mk l .mk (putT (mk n m hp fr) dst (.tup []))) .mk .mk .mk else none:=rfl
@[simp] theorem guardK_true (b:Bool)(no yes sk:Option St)(h1:Lk no)(h2:Lk yes)(h3:Lk sk):guardK (.c (.lit (.bool b))) true no yes sk h1 h2 h3=Br b yes no .mk .mk:=rfl
@[simp] theorem guardK_false (b:Bool)(no yes sk:Option St)(h1:Lk no)(h2:Lk yes)(h3:Lk sk):guardK (.c (.lit (.bool b))) false no yes sk h1 h2 h3=Br b no yes .mk .mk:=by cases b<;>rfl
@[simp] theorem guardK_tup (ts:List T)(want:Bool)(no yes sk:Option St)(h1:Lk no)(h2:Lk yes)(h3:Lk sk):guardK (.tup ts) want no yes sk h1 h2 h3=sk:=rfl
@[simp high] theorem pickE_lit' (b:Bool) (x y:Option St):pickE (.c (.lit (.bool b))) x y=Br b x y .mk .mk:=rfl
@[simp] theorem dstAt_zero (op:Op)(t:TypeId)(pos:String)(after:Array Edge)(g:Option (Nat × Bool))(l:List Oper):dstAt ({ dst:=dst,op:=op,type:=t,pos:=pos,after:=after,guard:=g }::l) 0=dst:=rfl
@[simp] theorem dstAt_succ (o:Oper)(l:List Oper)(j:Nat):dstAt (o::l) (j+1)=dstAt l j:=rfl
end
end
@[simp] theorem lenN_nil {α:Type}:lenN ([]:List α)=0:=rfl
@[simp] theorem lenN_cons {α:Type}(x:α)(l:List α):lenN (x::l)=lenN l+1:=rfl
@[simp] theorem lenN_replicate {α:Type}(n:Nat)(x:α):lenN (List.replicate n x)=n:=by simp[lenN]
@[simp] theorem natI_zero:natI 0=0:=rfl
@[simp] theorem lenN_cast {α:Type}(l:List α):((lenN l:Nat):Int)=lenI l:=rfl
section
variable {call:CallF} {ty:Tys} {k:IntKind} {a b:Int} {t:TypeId} {d n:Nat} {m:List (Nat × T)} {hp:Heap} {fr:List Nat} {α:Type} {f:α→List C} {l l':List α} {e sz z:Nat}
@[simp high] theorem bin_add':bin ty .add t (.int k a) (.int k b)=some (.int k (iadd k a b)):=by simp[bin,intOp,iadd]
@[simp high] theorem bin_sub':bin ty .sub t (.int k a) (.int k b)=some (.int k (isub k a b)):=by simp[bin,intOp,isub]
@[simp high] theorem bin_mul':bin ty .mul t (.int k a) (.int k b)=some (.int k (imul k a b)):=by simp[bin,intOp,imul]
@[simp high] theorem bin_eql':bin ty .eql t (.int k a) (.int k b)=some (.bool (ieq a b)):=by simp[bin,intOp,ieq]<;>rfl
@[simp high] theorem bin_neq':bin ty .neq t (.int k a) (.int k b)=some (.bool (bnot (ieq a b))):=by
 simp only[bin,intOp,ieq,bnot,ite_true];rw[show (a != b)=!(a==b) from rfl];congr 3
 first | done | exact Bool.eq_iff_iff.2 (by simp)
@[simp high] theorem bin_lss':bin ty .lss t (.int k a) (.int k b)=some (.bool (ilt a b)):=by simp[bin,intOp,ilt]
@[simp high] theorem bin_leq':bin ty .leq t (.int k a) (.int k b)=some (.bool (ile a b)):=by simp[bin,intOp,ile]
@[simp high] theorem bin_gtr':bin ty .gtr t (.int k a) (.int k b)=some (.bool (ilt b a)):=by simp[bin,intOp,ilt]
@[simp high] theorem bin_geq':bin ty .geq t (.int k a) (.int k b)=some (.bool (ile b a)):=by simp[bin,intOp,ile]
@[simp high] theorem bin_quo' (h:b≠0):bin ty .quo t (.int k a) (.int k b)=some (.int k (iquo k a b)):=by simp[bin,intOp,h,iquo]
@[simp high] theorem bin_rem' (h:b≠0):bin ty .rem t (.int k a) (.int k b)=some (.int k (irem a b)):=by simp[bin,intOp,h,irem]
@[simp] theorem bin_rem0:bin ty .rem t (.int k a) (.int k b)=Br (ieq b 0) none (some (.int k (irem a b))) .mk .mk:=by simp[bin,intOp,ieq,irem,Br]
@[simp] theorem bin_shl' {k':IntKind}:bin ty .shl t (.int k a) (.int k' b)=Br (ilt b 0) none (some (.int k (ishl k a b))) .mk .mk:=by simp[bin,ilt,ishl,Br]
@[simp] theorem bin_shr' {k':IntKind}:bin ty .shr t (.int k a) (.int k' b)=Br (ilt b 0) none (some (.int k (ishr k a b))) .mk .mk:=by simp[bin,ilt,ishr,Br]
@[simp] theorem bin_andNot':bin ty .andNot t (.int k a) (.int k b)=some (.int k (iandn k a b)):=by simp[bin,intOp,bitsOp,iandn]
@[simp high] theorem un_not' (x:Bool):un .not (.bool x)=some (.bool (bnot x)):=rfl
@[simp high] theorem un_neg':un .neg (.int k a)=some (.int k (ineg k a)):=rfl
@[simp] theorem bin_sadd (x y:ByteArray):bin ty .add t (.string x) (.string y)=Br (addOk x y) (some (.string (x++y))) none .mk .mk:=by simp[bin,strOp,addOk,Br]
@[simp] theorem bin_seq (x y:ByteArray):bin ty .eql t (.string x) (.string y)=some (.bool (seq x y)):=rfl
@[simp] theorem bin_sne (x y:ByteArray):bin ty .neq t (.string x) (.string y)=some (.bool (bnot (seq x y))):=rfl
@[simp high] theorem convE_int' (a k b:IntKind) (x:Int):convE (some (.int a)) (some (.int k)) (.c (.lit (.int b x)))=some (.c (.lit (.int k (iconv k x)))):=rfl
@[simp high] theorem minE_int' (k k':IntKind) (a b:Int):minE (.c (.lit (.int k a))) (.c (.lit (.int k' b)))=if k=k' then some (.c (.lit (.int k (imin a b)))) else none:=rfl
section
variable {ty:Tys}
@[simp] theorem wkArgs_nil (as:List T):wkArgs ty [] as=as:=by cases as<;>rfl
@[simp] theorem wkArgs_nil' (ts:List TypeId):wkArgs ty ts []=[]:=by cases ts<;>rfl
@[simp] theorem wkArgs_cons (t:TypeId)(ts:List TypeId)(a:T)(as:List T):wkArgs ty (t::ts) (a::as)=nilsT (layOf ty 5 t) a::wkArgs ty ts as:=rfl
@[simp] theorem nilsT_c (zs:List (Option Nat))(x:C):nilsT zs (.c x)=.c x:=rfl
@[simp] theorem nilsT_agg (zs:List (Option Nat))(cs:List C):nilsT zs (.agg cs)=.agg (nilsL zs cs):=rfl
@[simp] theorem nilsL_cons (z:Option Nat)(zs:List (Option Nat))(c:C)(cs:List C):nilsL (z::zs) (c::cs)=nilsC z c::nilsL zs cs:=rfl
@[simp] theorem nilsL_nil' (zs:List (Option Nat)):nilsL zs []=[]:=by cases zs<;>rfl
@[simp] theorem nilsC_nil (z:Nat):nilsC (some z) (.lit (.slice none 0 0))=.sl z []:=rfl
@[simp] theorem nilsC_int (z:Option Nat)(k:IntKind)(x:Int):nilsC z (.lit (.int k x))=.lit (.int k x):=by cases z<;>rfl
@[simp] theorem nilsC_str (z:Option Nat)(x:ByteArray):nilsC z (.lit (.string x))=.lit (.string x):=by cases z<;>rfl
@[simp] theorem nilsC_sls {α:Type}(z:Option Nat)(n:Nat)(f:α→List C)(l:List α):nilsC z (sls n f l)=sls n f l:=by cases z<;>rfl
theorem nilsL_id:∀ (zs:List (Option Nat)) (cs:List C),(∀ c∈cs,∀ z,nilsC z c=c)→nilsL zs cs=cs
 | [],cs,_=>by cases cs<;>rfl
 | z::zs,[],_=>rfl
 | z::zs,c::cs,h=>by rw[nilsL_cons,h c List.mem_cons_self z,nilsL_id zs cs fun c hc=>h c (List.mem_cons_of_mem _ hc)]
@[simp] theorem nilsL_Name (zs:List (Option Nat))(x:Name):nilsL zs x.cells=x.cells:=nilsL_id _ _ (by simp[Name.cells])
@[simp] theorem nilsL_Aig (zs:List (Option Nat))(x:Aig):nilsL zs x.cells=x.cells:=nilsL_id _ _ (by simp[Aig.cells])
end
section
variable {call:CallF} {ty:Tys} {d n:Nat} {m:List (Nat × T)} {hp:Heap} {fr:List Nat} {t:TypeId} {pos:String} {after:Array Edge} {g:Option (Nat × Bool)}
def zOk (n:Int)(bytes:Nat):Bool:=decide (0<n∧n.toNat*bytes≤140737488355328)
@[simp high] theorem evZ_mk' [Globals] (b x:Operand) (u:TypeId):evZ ty d b x u (mk n m hp fr)=if nilLit (opd (tmk n m) b)=true then (Vabs.elemOf ty u).bind fun p=>(intE (opd (tmk n m) x)).bind fun k=>(((ty p.1).bind Ty.zero).bind lits).bind fun zs=>((ty p.1).map Ty.bytes).bind fun (by0:Nat)=>
  if zs.length=p.2∧0<by0 then Br (zOk k by0) (newE (hget hp d) (mk n (tput m d (.c (.ref d 0 (natI k)))) (hput hp d ⟨false,true,p.1,p.2,List.replicate (natI k) zs⟩) fr)) none .mk .mk else none else none:=by
 rw[evZ_mk];refine ite_congr rfl (fun _=>?_) (fun _=>rfl);congr; funext p; congr; funext k; congr; funext zs; congr; funext by0;unfold Br zOk natI
 by_cases h1:zs.length=p.2∧0<by0
 ·simp only[h1.1,h1.2,true_and,and_self,if_true,decide_eq_true_eq]
 ·have:¬ (zs.length=p.2∧0<by0∧0<k∧k.toNat*by0≤140737488355328):=fun h=>h1 ⟨h.1,h.2.1⟩;simp only[h1,this,if_false]
end
def boolB (k:Option K)(op:BinOp)(a b:Bool):Option Value:=match k with
 | some .bool=>boolOp op a b
 | _=>none
@[simp] theorem eqV_int (k k1 k2:IntKind)(m n:Int):eqV (.int k) (.int k1 m) (.int k2 n)=if k1=k2 then some (ieq m n) else none:=by
 show (if k1=k2 then some (m==n) else none)=_
 split
 ·congr 1
 ·rfl
@[simp] theorem eqV_str (a b:ByteArray):eqV .str (.string a) (.string b)=some (seq a b):=rfl
section
variable {ty:Tys} {t:TypeId} {a b:Bool}
@[simp] theorem bin_bool (op:BinOp)(h:op=.eql∨op=.neq):bin ty op t (.bool a) (.bool b)=boolB ((ty t).map Ty.k) op a b:=by rcases h with rfl | rfl<;>rfl
@[simp] theorem boolB_eql:boolB (some .bool) .eql a b=some (.bool (beq2 a b)):=rfl
@[simp] theorem boolB_neq:boolB (some .bool) .neq a b=some (.bool (bnot (beq2 a b))):=rfl
end
def cut {α:Type}(l:List α)(a b:Int):List α:=(l.drop a.toNat).take (b.toNat-a.toNat)
def cutB (s:ByteArray)(a b:Int):ByteArray:=s.extract a.toNat b.toNat
def bnd (d:Int):Option T→Option Int
 | none=>some d
 | some x=>intE x
@[simp] theorem bnd_none (d:Int):bnd d none=some d:=rfl
@[simp] theorem bnd_some (d:Int)(k:IntKind)(i:Int):bnd d (some (.c (.lit (.int k i))))=some i:=rfl
theorem bnd_boundO (k r:Nat)(hr:r≤k)(x:Option T):boundO k r x=(bnd r x).bind fun i=>if 0≤i∧i.toNat≤k then some i.toNat else none:=by
 cases x with
 | none=>simp[hr]
 | some x=>
  cases x with
  | c c=>cases c with
   | lit v=>cases v<;>rfl
   | _=>rfl
  | _=>rfl
section
variable {call:CallF} {ty:Tys} {d n:Nat} {m:List (Nat × T)} {hp:Heap} {fr:List Nat} {t:TypeId} {pos:String} {after:Array Edge} {g:Option (Nat × Bool)} {α:Type} {f:α→List C} {l:List α} {sz:Nat}
def slcT (ty:Tys)(u:TypeId)(hp:Heap)(X:T)(lo hi:Option T):Option T:=(lenT hp X).bind fun k=>(boundO k k hi).bind fun h=>(boundO h 0 lo).bind fun l=>sliceT ty u hp X l h
@[simp high] theorem evOp_slice' [Globals] (u:TypeId) (x:Operand) (lo hi:Option Operand):evOp call ty { dst:=some d,op:=.slice u x lo hi none,type:=t,pos:=pos,after:=after,guard:=g } (mk n m hp fr) =
  (slcT ty u hp (opd (tmk n m) x) (lo.map (opd (tmk n m))) (hi.map (opd (tmk n m)))).map fun v=>mk n (tput m d v) hp fr:=by
 rw[evOp_slice];unfold slcT
 cases lenT hp (opd (tmk n m) x) with
 | none=>rfl
 | some k=>
  simp only[Option.bind_some]
  cases boundO k k (hi.map (opd (tmk n m))) with
  | none=>rfl
  | some h=>
   simp only[Option.bind_some]
   cases boundO h 0 (lo.map (opd (tmk n m))) with
   | none=>rfl
   | some l=>simp only[Option.bind_some]
theorem boundO_bnd (k:Nat)(lo hi:Option T)(F:Nat→Nat→Option T):((boundO k k hi).bind fun h=>(boundO h 0 lo).bind fun l=>F l h)=(bnd 0 lo).bind fun a=>(bnd k hi).bind fun b=>if 0≤a∧a≤b∧b≤k then F a.toNat b.toNat else none:=by
 have h0:∀ h:Nat,boundO h 0 lo=(bnd 0 lo).bind fun i=>if 0≤i∧i.toNat≤h then some i.toNat else none:=fun h=>bnd_boundO h 0 (Nat.zero_le _) lo
 simp only[h0,bnd_boundO k k (Nat.le_refl _)]
 cases bnd 0 lo with
 | none=>
  cases bnd k hi with
  | none=>rfl
  | some b=>simp only[Option.bind_some,Option.bind_none]; split<;>rfl
 | some a=>
  cases bnd k hi with
  | none=>rfl
  | some b=>
   simp only[Option.bind_some]
   by_cases h1:0≤b∧b.toNat≤k
   ·rw[if_pos h1,Option.bind_some]
    by_cases h2:0≤a∧a.toNat≤b.toNat
    ·rw[if_pos h2,if_pos ⟨h2.1,by omega,by omega⟩]; rfl
    ·rw[if_neg h2,if_neg (fun h=>h2 ⟨h.1,by omega⟩)]; rfl
   ·rw[if_neg h1,if_neg (fun h=>h1 ⟨by omega,by omega⟩)]; rfl
@[simp] theorem slcT_sls (u:TypeId)(lo hi:Option T):slcT ty u hp (.c (sls sz f l)) lo hi=(bnd 0 lo).bind fun a=>(bnd (lenI l) hi).bind fun b=>(Vabs.elemOf ty u).bind fun p=>if p.2=sz then Br (cutOk (lenN l) a b) (some (.c (sls sz f (cut l a b)))) none .mk .mk else none:=by
 unfold slcT;rw[sls_lenT,Option.bind_some,boundO_bnd];congr; funext a; congr; funext b;have:sliceT ty u hp (.c (sls sz f l)) a.toNat b.toNat=(Vabs.elemOf ty u).bind fun p=>if p.2=sz then some (.c (sls sz f (cut l a b))) else none:=by
  show (match Vabs.elemOf ty u with | some (_,z)=>if z=sz then some (T.c (.sl sz (((cm f l).drop a.toNat).take (b.toNat-a.toNat)))) else none | none=>none)=_
  cases Vabs.elemOf ty u with
  | none=>rfl
  | some p=>simp only[Option.bind_some,cm_drop,cm_take]; rfl
 rw[this];unfold Br cutOk
 cases Vabs.elemOf ty u with
 | none=>simp
 | some p=>simp only[Option.bind_some,decide_eq_true_eq]; unfold lenN; by_cases h1:p.2=sz<;>simp[h1]
@[simp] theorem slcT_nil (u:TypeId)(lo hi:Option T):slcT ty u hp (.c (.lit (.slice none 0 0))) lo hi=(bnd 0 lo).bind fun a=>(bnd 0 hi).bind fun b=>(Vabs.elemOf ty u).bind fun _=>Br (cutOk 0 a b) (some (.c (.lit (.slice none 0 0)))) none .mk .mk:=by
 unfold slcT;rw[show lenT hp (.c (.lit (.slice none 0 0)))=some 0 from rfl,Option.bind_some,boundO_bnd];congr; funext a; congr; funext b;have:sliceT ty u hp (.c (.lit (.slice none 0 0))) a.toNat b.toNat=(Vabs.elemOf ty u).bind fun _=>some (.c (.lit (.slice none 0 0))):=by
  simp only[sliceT]
  cases Vabs.elemOf ty u<;>rfl
 rw[this];unfold Br cutOk
 cases Vabs.elemOf ty u with
 | none=>simp
 | some p=>simp only[Option.bind_some,decide_eq_true_eq]
@[simp] theorem slcT_ref (u:TypeId)(h off len:Nat)(lo hi:Option T):slcT ty u hp (.c (.ref h off len)) lo hi=(bnd 0 lo).bind fun a=>(bnd len hi).bind fun b=>(Vabs.elemOf ty u).bind fun p=>(hget hp h).bind fun o=>if p.2=o.sz then Br (cutOk len a b) (some (.c (.ref h (off+natI a) (natI b-natI a)))) none .mk .mk else none:=by
 unfold slcT;rw[show lenT hp (.c (.ref h off len))=some len from rfl,Option.bind_some,boundO_bnd];congr; funext a; congr; funext b;have:sliceT ty u hp (.c (.ref h off len)) a.toNat b.toNat=(Vabs.elemOf ty u).bind fun p=>(hget hp h).bind fun o=>if p.2=o.sz then some (.c (.ref h (off+natI a) (natI b-natI a))) else none:=by
  simp only[sliceT]
  cases Vabs.elemOf ty u with
  | none=>rfl
  | some p=>cases hget hp h<;>rfl
 rw[this];unfold Br cutOk
 cases Vabs.elemOf ty u with
 | none=>simp
 | some p=>
  cases hget hp h with
  | none=>simp
  | some o=>simp only[Option.bind_some,decide_eq_true_eq]; by_cases h1:p.2=o.sz<;>simp[h1]
@[simp] theorem slcT_str (u:TypeId)(s:ByteArray)(lo hi:Option T):slcT ty u hp (.c (.lit (.string s))) lo hi=(bnd 0 lo).bind fun a=>(bnd (sizI s) hi).bind fun b=>if (ty u).map Ty.k=some .str then Br (cutOk s.size a b) (some (.c (.lit (.string (cutB s a b))))) none .mk .mk else none:=by
 unfold slcT;rw[show lenT hp (.c (.lit (.string s)))=some s.size from rfl,Option.bind_some,boundO_bnd];congr; funext a; congr; funext b;have:sliceT ty u hp (.c (.lit (.string s))) a.toNat b.toNat=if (ty u).map Ty.k=some .str then some (.c (.lit (.string (cutB s a b)))) else none:=by
  simp only[sliceT]
  split
  ·rename_i h; rw[if_pos h]; rfl
  ·rename_i h; rw[if_neg h]
 rw[this];unfold Br cutOk
 by_cases h1:(ty u).map Ty.k=some .str<;>simp[h1]
end
def strAt (k:Option K)(s:ByteArray)(i:Int):Option T:=match k with
 | some .str=>(getB s i).map fun b=>.c (.lit (.int .u8 b))
 | _=>none
section
variable {ty:Tys}
@[simp] theorem strAt_str (s:ByteArray)(i:Int):strAt (some .str) s i=(getB s i).map fun b=>.c (.lit (.int .u8 b)):=rfl
@[simp] theorem atE_str (y:Option Ty)(s:ByteArray)(i:Int):atE ty y (.c (.lit (.string s))) i=strAt (y.map Ty.k) s i:=by
 simp only[atE,strAt]
 cases y.map Ty.k with
 | none=>rfl
 | some k=>
  cases k with
  | str=>
   unfold getB;simp only
   split
   ·rw[Option.map_map]; rfl
   ·rfl
  | _=>rfl
@[simp high] theorem lenStr_lit' (s:ByteArray):lenStr (.c (.lit (.string s)))=some s.size:=rfl
@[simp] theorem size_cast (s:ByteArray):((s.size:Nat):Int)=sizI s:=rfl
end
@[simp high] theorem sls_len':lenS (.c (sls sz f l))=some (lenN l):=sls_len
@[simp high] theorem sls_ix' (e:TypeId) (z:Nat) (i:Int):ixE hp (some (e,z)) (.c (sls sz f l)) i=if z=sz then (getI l i).map fun x=>.c (.fptr (f x) 0) else none:=by
 rw[sls_ix];unfold getI
 by_cases h1:z=sz<;>by_cases h2:0≤i<;>simp[h1,h2]
@[simp] theorem ixF_sls (p:TypeId × Nat)(ar:Option (Nat × Nat))(i:Int):ixF hp (some p) ar (.c (sls sz f l)) i=ixE hp (some p) (.c (sls sz f l)) i:=rfl
@[simp high] theorem ixA_fptr' (n z off:Nat) (cs:List C) (i:Int):ixA (some (n,z)) (.c (.fptr cs off)) i=Br (inI n i) (some (.c (.fptr cs (off+natI i*z)))) none .mk .mk:=by
 rw[ixA_fptr];unfold Br inI natI
 by_cases h1:0≤i∧i.toNat<n<;>simp[h1]
@[simp high] theorem ixE_ref' (e:TypeId) (z h off len:Nat) (i:Int):ixE hp (some (e,z)) (.c (.ref h off len)) i=(hget hp h).bind fun ob=>if z=ob.sz then (Br (inI len i) (some (.c (.ptr h (off+natI i) 0))) none .mk .mk) else none:=by
 rw[ixE_ref];congr;funext ob;unfold inI natI Br
 by_cases h1:z=ob.sz<;>simp[h1]
@[simp high] theorem cm_natI (i:Int):(cm f l)[natI i]?=(nthI l i).map f:=by simp[natI,nthI]
def frzW (h:Nat)(o:Ob)(q len:Nat):C:=C.frz h o (.ref q 0 len)
@[simp high] theorem frz_ref' (h q len:Nat):C.frz h (rowO e sz f l) (.ref q 0 len)=if q=h then Br (decide (len=lenN l)) (sls sz f l) (frzW h (rowO e sz f l) q len) .mk .mk else .ref q 0 len:=by
 by_cases hl:len=lenN l
 ·subst hl;rw[frz_ref];have:(cm f l).length=lenN l:=cm_length;simp only[rowO_es,rowO_sz,List.drop_zero,Nat.zero_add,this,Nat.le_refl,if_true,decide_true,Br_true];rw[← this,List.take_length];rfl
 ·by_cases hq:q=h
  ·simp only[hl,hq,decide_false,Br_false,if_true,frzW]
  ·rw[frz_ref,if_neg hq,if_neg hq]
def dataW (hp:Heap)(q off len:Nat)(o:Ob):Option C:=if o.box=true then none else if off+len≤o.es.length then (if o.free=true then some (.sl o.sz ((o.es.drop off).take len)) else (((o.es.drop off).take len).mapM fun (e:List C)=>e.mapM (dataC hp q)).map fun es=>.sl o.sz es) else none
@[simp high] theorem data_ref' (q h off len:Nat):dataC hp (q+1) (.ref h off len)=(hget hp h).bind (dataW hp q off len):=data_ref ..
def dataW0 (hp:Heap)(q off len:Nat)(o:Ob):Option C:=dataW hp q off len o
@[simp] theorem dataW_row (q len:Nat):dataW hp q 0 len (rowO e sz f l)=Br (decide (len=lenN l)) (some (sls sz f l)) (dataW0 hp q 0 len (rowO e sz f l)) .mk .mk:=by
 by_cases hl:len=lenN l
 ·subst hl;have:(cm f l).length=lenN l:=cm_length;simp only[dataW,rowO_box,rowO_es,rowO_sz,rowO_free,List.drop_zero,Nat.zero_add,this,Nat.le_refl,if_true,Bool.false_eq_true,if_false,decide_true,Br_true];rw[← this,List.take_length];rfl
 ·simp only[hl,decide_false,Br_false,dataW0]
def srcW (off len:Nat)(o:Ob):Option (List (List C)):=if off+len≤o.es.length then some ((o.es.drop off).take len) else none
@[simp high] theorem srcOf_ref' (h off len:Nat):srcOf hp (.c (.ref h off len))=(hget hp h).bind (srcW off len):=srcOf_ref ..
def srcW0 (off len:Nat)(o:Ob):Option (List (List C)):=srcW off len o
@[simp] theorem srcW_row (len:Nat):srcW 0 len (rowO e sz f l)=Br (decide (len=lenN l)) (some (cm f l)) (srcW0 0 len (rowO e sz f l)) .mk .mk:=by
 by_cases hl:len=lenN l
 ·subst hl;have:(cm f l).length=lenN l:=cm_length;simp only[srcW,rowO_es,List.drop_zero,Nat.zero_add,this,Nat.le_refl,if_true,decide_true,Br_true];rw[← this,List.take_length]
 ·simp only[hl,decide_false,Br_false,srcW0]
def baseW (e sz:Nat)(new:List (List C))(bytes h off len d n:Nat)(m:List (Nat × T))(hp:Heap)(fr:List Nat)(o:Ob):Option St:=
  if o.box=false∧o.elem=e∧o.sz=sz∧o.free=true∧fr.contains h=false∧off+len≤o.es.length∧(len+new.length)*bytes≤140737488355328 then
   some (mk n (tput (m.map fun p=>(p.1,p.2.kill h)) d (.c (.ref h 0 (len+new.length)))) (hput (hp.map fun p=>(p.1,p.2.killF h)) h ⟨false,true,e,sz,(o.es.drop off).take len++new⟩) fr)
  else none
@[simp high] theorem baseE_ref' (bytes h off len:Nat) (new:List (List C)):baseE e sz new bytes (.c (.ref h off len)) d n m hp fr=(hget hp h).bind (baseW e sz new bytes h off len d n m hp fr):=rfl
def baseW0 (e sz:Nat)(new:List (List C))(bytes h off len d n:Nat)(m:List (Nat × T))(hp:Heap)(fr:List Nat)(o:Ob):Option St:=baseW e sz new bytes h off len d n m hp fr o
@[simp] theorem baseW_row (bytes h len:Nat):baseW e sz (cm f l') bytes h 0 len d n m hp fr (rowO e sz f l)=Br (decide (len=lenN l)&&!fr.contains h)
  (Br (capN (lenN (l++l')) bytes) (some (mk n (tput (m.map fun p=>(p.1,p.2.kill h)) d (.c (.ref h 0 (lenN (l++l'))))) (hput (hp.map fun p=>(p.1,p.2.killF h)) h (rowO e sz f (l++l'))) fr)) none .mk .mk)
  (baseW0 e sz (cm f l') bytes h 0 len d n m hp fr (rowO e sz f l)) .mk .mk:=by
 by_cases hl:len=lenN l
 ·subst hl
  cases hf:fr.contains h with
  | true=>simp only[decide_true,Bool.not_true,Bool.and_false,Br_false,baseW0]
  | false=>
   have h1:(cm f l).length=lenN l:=cm_length;have h2:(cm f l').length=lenN l':=cm_length;have h3:lenN l+lenN l'=lenN (l++l'):=by simp[lenN]
   simp only[baseW,rowO_box,rowO_es,rowO_sz,rowO_free,rowO_elem,List.drop_zero,Nat.zero_add,h1,h2,h3,Nat.le_refl,true_and,hf,capN,Br,decide_eq_true_eq,decide_true,Bool.not_false,Bool.and_self,if_true];rw[← h1,List.take_length,cm_append];rfl
 ·simp only[hl,decide_false,Bool.false_and,Br_false,baseW0]
@[simp] theorem baseW_empty (bytes h:Nat):baseW e sz (cm f l') bytes h 0 0 d n m hp fr ⟨false,true,e,sz,[]⟩=Br (!fr.contains h)
  (Br (capN (lenN l') bytes) (some (mk n (tput (m.map fun p=>(p.1,p.2.kill h)) d (.c (.ref h 0 (lenN l')))) (hput (hp.map fun p=>(p.1,p.2.killF h)) h (rowO e sz f l')) fr)) none .mk .mk)
  (baseW0 e sz (cm f l') bytes h 0 0 d n m hp fr ⟨false,true,e,sz,[]⟩) .mk .mk:=by
 have h0:=baseW_row (l:=([]:List α)) (l':=l') (f:=f) (e:=e) (sz:=sz) (d:=d) (n:=n) (m:=m) (hp:=hp) (fr:=fr) bytes h 0;rw[List.nil_append,lenN_nil,decide_eq_true (rfl:(0:Nat)=0),Bool.true_and] at h0;exact h0
@[simp high] theorem baseE_nil' (bytes:Nat):baseE e sz (cm f l) bytes (.c (.lit (.slice none 0 0))) d n m hp fr=Br (capN (lenN l) bytes) (newE (hget hp d) (mk n (tput m d (.c (.ref d 0 (lenN l)))) (hput hp d (rowO e sz f l)) fr)) none .mk .mk:=by
 have h1:(cm f l).length=lenN l:=cm_length;rw[baseE_nil,h1];simp only[capN,Br,decide_eq_true_eq];rfl
def expW (h off len:Nat)(fr seen:List Nat)(obs:List Ob)(o:Ob):Option (C × List Nat × List Ob):=
 if o.box||!o.free||off+len > o.es.length then none else
   if seen.contains h then none else
   if fr.contains h then some (.sl o.sz ((o.es.drop off).take len),seen,obs)
   else some (.ref obs.length 0 len,h::seen,obs++[{ o with es:=(o.es.drop off).take len }])
@[simp] theorem expC_ref' (y:Option (TypeId × Nat))(h off len:Nat)(seen:List Nat)(obs:List Ob):expC hp fr y (.ref h off len) seen obs=(hget hp h).bind (expW h off len fr seen obs):=by
 have:nilZ y (.ref h off len)=none:=by cases y<;>rfl
 simp only[expC,this]
 cases hget hp h<;>rfl
def leN (a b:Nat):Bool:=decide (a≤b)
def fst (n:Nat){α:Type}(l:List α):List α:=l.take n
@[simp] theorem fst_zero {α:Type}(l:List α):fst 0 l=[]:=rfl
@[simp] theorem leN_zero (n:Nat):leN 0 n=true:=by simp[leN]
def expV (h len:Nat)(fr seen:List Nat)(obs:List Ob)(e sz:Nat){α:Type}(f:α→List C)(l:List α)(whole:Bool):Option (C × List Nat × List Ob):=match whole with
 | true=>if seen.contains h=true then none else if fr.contains h=true then some (sls sz f l,seen,obs) else some (.ref obs.length 0 (lenN l),h::seen,obs++[rowO e sz f l])
 | false=>Br (leN len (lenN l)) (if seen.contains h=true then none else if fr.contains h=true then some (sls sz f (fst len l),seen,obs) else some (.ref obs.length 0 len,h::seen,obs++[rowO e sz f (fst len l)])) none .mk .mk
theorem expW_row0 (h len:Nat)(seen:List Nat)(obs:List Ob):expW h 0 len fr seen obs (rowO e sz f l)=expV h len fr seen obs e sz f l false:=by
 have h1:(cm f l).length=lenN l:=cm_length;simp only[expV,leN,Br,fst,decide_eq_true_eq]
 by_cases hl:len≤lenN l
 ·rw[if_pos hl];have hn:¬ (0+len > lenN l):=by omega
  simp only[expW,rowO_box,rowO_es,rowO_sz,rowO_free,List.drop_zero,h1,hn,decide_false,Bool.not_true,Bool.or_false,Bool.false_eq_true,if_false,cm_take];rfl
 ·rw[if_neg hl];have hn:(0+len > lenN l):=by omega
  simp only[expW,rowO_box,rowO_es,rowO_free,h1,hn,decide_true,Bool.not_true,Bool.or_true,if_true]
@[simp] theorem expW_zero (h:Nat)(seen:List Nat)(obs:List Ob):expW h 0 0 fr seen obs (rowO e sz f l)=expV h 0 fr seen obs e sz f l false:=expW_row0 h 0 seen obs
@[simp] theorem expW_row (h:Nat)(seen:List Nat)(obs:List Ob)(l':List α):expW h 0 (lenN l') fr seen obs (rowO e sz f l)=Br (decide (lenN l'=lenN l)) (expV h (lenN l) fr seen obs e sz f l true) (expV h (lenN l') fr seen obs e sz f l false) .mk .mk:=by
 by_cases hl:lenN l'=lenN l
 ·rw[hl,expW_row0];simp only[expV,leN,Nat.le_refl,decide_true,Br_true,fst];rw[show List.take (lenN l) l=l from List.take_length]
 ·rw[expW_row0];simp only[hl,decide_false,Br_false]
@[simp] theorem expV_true (h len:Nat)(seen:List Nat)(obs:List Ob):expV h len fr seen obs e sz f l true=if seen.contains h=true then none else if fr.contains h=true then some (sls sz f l,seen,obs) else some (.ref obs.length 0 (lenN l),h::seen,obs++[rowO e sz f l]):=rfl
@[simp] theorem expV_false (h len:Nat)(seen:List Nat)(obs:List Ob):expV h len fr seen obs e sz f l false=Br (leN len (lenN l)) (if seen.contains h=true then none else if fr.contains h=true then some (sls sz f (fst len l),seen,obs) else some (.ref obs.length 0 len,h::seen,obs++[rowO e sz f (fst len l)])) none .mk .mk:=rfl
end
section
variable {b f:Bool} {e sz off len:Nat} {es:List (List C)} {hp:Heap} {q:Nat}
def storeX (o:Ob)(i off:Nat)(cs e:List C):Option Ob:=if off+cs.length≤e.length then some { o with es:=o.es.set i (over e off cs),free:=o.free&&cs.all C.free } else none
def storeY (o:Ob)(i off:Nat)(cs:List C):Option Ob:=storeO o i off cs
@[simp high] theorem storeE_ptr' {n:Nat} {m:List (Nat × T)} {fr:List Nat} (h i off z:Nat) (cs:List C):storeE (.c (.ptr h i off)) (some z) (some cs) n m hp fr=(hget hp h).bind fun o=>if fr.contains h=false∧cs.length=z∧(o.box=true∨cs.all C.free=true) then (storeY o i off cs).map fun o=>mk n m (hput hp h o) fr else none:=rfl
@[simp] theorem storeY_bind (o:Ob)(i off:Nat)(cs:List C):storeY o i off cs=(o.es[i]?).bind (storeX o i off cs):=by
 unfold storeY storeO
 cases o.es[i]?<;>rfl
@[simp] theorem storeX_mk (i:Nat)(cs x:List C):storeX ⟨b,f,e,sz,es⟩ i off cs x=if off+cs.length≤x.length then some ⟨b,f&&cs.all C.free,e,sz,es.set i (over x off cs)⟩ else none:=rfl
end
section
variable {hp:Heap} {fr:List Nat} {ty:Tys} {n:Nat} {m:List (Nat × T)}
abbrev Lz:=Option (TypeId × Nat)
@[simp] theorem exp1_c (zs:List Lz)(x:C)(seen:List Nat)(obs:List Ob):exp1 hp fr zs (.c x) seen obs=(expC hp fr (zs.headD none) x seen obs).map fun p=>(.c p.1,p.2.1,p.2.2):=by
 simp only[exp1]
 cases expC hp fr (zs.headD none) x seen obs<;>rfl
@[simp] theorem exp1_agg' (zs:List Lz)(cs:List C)(seen:List Nat)(obs:List Ob):exp1 hp fr zs (.agg cs) seen obs=(expL hp fr zs cs seen obs).map fun p=>(.agg p.1,p.2.1,p.2.2):=by
 simp only[exp1]
 cases expL hp fr zs cs seen obs<;>rfl
@[simp] theorem expL_nil' (zs:List Lz)(seen:List Nat)(obs:List Ob):expL hp fr zs [] seen obs=some ([],seen,obs):=by cases zs<;>rfl
theorem expL_cons0 (zs:List Lz)(c:C)(cs:List C)(seen:List Nat)(obs:List Ob):expL hp fr zs (c::cs) seen obs=(expC hp fr (zs.headD none) c seen obs).bind fun p=>(expL hp fr zs.tail cs p.2.1 p.2.2).map fun q=>(p.1::q.1,q.2.1,q.2.2):=by
 rw[expL]
 cases expC hp fr (zs.headD none) c seen obs with
 | none=>rfl
 | some p=>
  simp only[Option.bind_some]
  cases expL hp fr zs.tail cs p.2.1 p.2.2<;>rfl
@[simp] theorem expL_cons' (z:Lz)(zs:List Lz)(c:C)(cs:List C)(seen:List Nat)(obs:List Ob):expL hp fr (z::zs) (c::cs) seen obs=(expC hp fr z c seen obs).bind fun p=>(expL hp fr zs cs p.2.1 p.2.2).map fun q=>(p.1::q.1,q.2.1,q.2.2):=expL_cons0 ..
@[simp] theorem expC_int (z:Lz)(k:IntKind)(x:Int)(seen:List Nat)(obs:List Ob):expC hp fr z (.lit (.int k x)) seen obs=some (.lit (.int k x),seen,obs):=by cases z<;>rfl
@[simp] theorem expC_bool (z:Lz)(x:Bool)(seen:List Nat)(obs:List Ob):expC hp fr z (.lit (.bool x)) seen obs=some (.lit (.bool x),seen,obs):=by cases z<;>rfl
@[simp] theorem expC_str (z:Lz)(x:ByteArray)(seen:List Nat)(obs:List Ob):expC hp fr z (.lit (.string x)) seen obs=some (.lit (.string x),seen,obs):=by cases z<;>rfl
@[simp] theorem expC_nil (e sz:Nat)(seen:List Nat)(obs:List Ob):expC hp fr (some (e,sz)) (.lit (.slice none 0 0)) seen obs=some (.ref obs.length 0 0,seen,obs++[⟨false,true,e,sz,[]⟩]):=rfl
@[simp] theorem expTs_nil (zss:List (List Lz))(seen:List Nat)(obs:List Ob):expTs hp fr zss [] seen obs=some ([],seen,obs):=by cases zss<;>rfl
theorem expTs_cons0 (zss:List (List Lz))(t:T)(ts:List T)(seen:List Nat)(obs:List Ob):expTs hp fr zss (t::ts) seen obs=(exp1 hp fr (zss.headD []) t seen obs).bind fun p=>(expTs hp fr zss.tail ts p.2.1 p.2.2).map fun q=>(p.1::q.1,q.2.1,q.2.2):=by
 rw[expTs]
 cases exp1 hp fr (zss.headD []) t seen obs with
 | none=>rfl
 | some p=>
  simp only[Option.bind_some]
  cases expTs hp fr zss.tail ts p.2.1 p.2.2<;>rfl
@[simp] theorem expTs_cons (zs:List Lz)(zss:List (List Lz))(t:T)(ts:List T)(seen:List Nat)(obs:List Ob):expTs hp fr (zs::zss) (t::ts) seen obs=(exp1 hp fr zs t seen obs).bind fun p=>(expTs hp fr zss ts p.2.1 p.2.2).map fun q=>(p.1::q.1,q.2.1,q.2.2):=expTs_cons0 ..
def outM (ty:Tys)(us:List TypeId)(hp:Heap)(fr:List Nat)(ts:Option (List T)):Option (T × List Ob):=match ts with
 | some [t]=>(exp1 hp fr ((us.map (layE ty 5)).headD []) t [] []).map fun p=>(p.1,p.2.2)
 | some ts=>(expTs hp fr (us.map (layE ty 5)) ts [] []).map fun p=>(.tup p.1,p.2.2)
 | none=>none
@[simp] theorem outM_one (u:TypeId)(us:List TypeId)(t:T):outM ty (u::us) hp fr (some [t])=(exp1 hp fr (layE ty 5 u) t [] []).map fun p=>(p.1,p.2.2):=rfl
@[simp] theorem outM_more (us:List TypeId)(a b:T)(ts:List T):outM ty us hp fr (some (a::b::ts))=(expTs hp fr (us.map (layE ty 5)) (a::b::ts) [] []).map fun p=>(.tup p.1,p.2.2):=rfl
@[simp] theorem outR_M [Globals] (rs:List ResultVar)(us:List TypeId):outR ty rs us (mk n m hp fr)=outM ty us hp fr (rs.mapM (resT ty (mk n m hp fr))):=by
 unfold outR outM;simp only[mk_hp,mk_fr]
 cases rs.mapM (resT ty (mk n m hp fr)) with
 | none=>rfl
 | some x=>
  cases x with
  | nil=>simp
  | cons t ts=>
   cases ts with
   | nil=>
    simp only
    cases exp1 hp fr ((us.map (layE ty 5)).headD []) t [] []<;>rfl
   | cons t' ts=>
    simp only
    cases expTs hp fr (us.map (layE ty 5)) (t::t'::ts) [] []<;>rfl
@[simp] theorem resT_tmp [Globals] (i:Nat):resT ty (mk n m hp fr) (.tmp i)=some (opd (tmk n m) (.tmp i)):=rfl
@[simp] theorem resT_cell [Globals] (i:Nat)(t:TypeId):resT ty (mk n m hp fr) (.cell i t)=(deref hp (opd (tmk n m) (.tmp i))).bind fun p=>loadAt ty t p.1 p.2:=by
 simp only[resT,mk_hp,mk_tm]
 cases deref hp (opd (tmk n m) (.tmp i))<;>rfl
end
section
variable {e sz bytes h off len d n:Nat} {m:List (Nat × T)} {hp:Heap} {fr:List Nat} {o:Ob} {base:T} {r:List (List C)}
end
def loopF {ι ρ:Type}(body:ι→Option (ι ⊕ ρ))(i:ι):Option ρ:=
 match body i with
 | none=>none
 | some (.inl j)=>loopF body j
 | some (.inr r)=>some r
 partial_fixpoint
theorem loopF_eq {ι ρ:Type}(body:ι→Option (ι ⊕ ρ))(i:ι):loopF body i=(body i).bind fun y=>match y with
  | .inl j=>loopF body j
  | .inr r=>some r:=by
 rw[loopF]
 cases body i with
 | none=>rfl
 | some y=>cases y<;>rfl
section
variable {call:CallF} {ty:Tys} {kp:Nat→Option (List Nat)}
end
section
variable {call:CallF} {ty:Tys} {kp:Nat→Option (List Nat)}
theorem eL [Globals] {ι ρ:Type}{c:Code}(inv:ι→St)(out:ρ→Ex × St)(body:ι→Option (ι ⊕ ρ)){i:ι}{r:ρ}(h:loopF body i=some r)
  (step:∀ (i:ι) (y:ι ⊕ ρ) (L:St→Option (Ex × St)) (res:Option (Ex × St)),body i=some y→(∀ j s,y=.inl j→tidy (kp (headOf c)) s=inv j→L s=res)→(∀ r,y=.inr r→some (out r)=res)→Is ((evK call ty kp c .mk (inv i)).bind (contG L)) res)
  {s:St} (hl:Lk c) (hs:tidy (kp (headOf c)) s=inv i):evL call ty kp c hl s=some (out r):=by
 show evLoop call ty kp c s=some (out r);refine loopF.partial_correctness body (fun i r=>∀ s:St,tidy (kp (headOf c)) s=inv i→evLoop call ty kp c s=some (out r)) ?_ i r h s hs;clear h hs;intro g ih i r h s hs;have h:∃ y,body i=some y∧(match y with | .inl j=>g j | .inr r=>some r)=some r:=by
  cases hb:body i with
  | none=>rw[hb] at h; cases h
  | some y=>refine⟨y,rfl,?_⟩; rw[hb] at h; cases y<;>exact h
 obtain⟨y,hy,hr⟩:=h;have hst:=step i y (fun s=>evLoop call ty kp c s) (some (out r)) hy ?_ ?_
 ·rw[evLoop_step,hs];have:=hst.out;rw[← this];show _=(evCode call ty kp c (inv i)).bind _
  cases evCode call ty kp c (inv i) with
  | none=>rfl
  | some p=>
   obtain⟨e,s⟩:=p
   cases e<;>rfl
 ·rintro j s rfl hj;exact ih j r hr s hj
 ·rintro r' rfl;injection hr with hr;rw[hr]
theorem iC {α:Type}{b:Bool}{x y r:α}(h:(if b=true then x else y)=r):(b=true∧x=r)∨(b=false∧y=r):=by
 cases b
 ·exact .inr ⟨rfl,h⟩
 ·exact .inl ⟨rfl,h⟩
theorem bS {α β:Type}{x:Option α}{f:α→Option β}{r:β}(h:x.bind f=some r):∃ v,x=some v∧f v=some r:=Option.bind_eq_some_iff.1 h
theorem ev_run' [Globals] [Prims] {P : Program} {K : Nat → Option (Nat → Option (List Nat))} {f : FuncId} {args : List T} {r : T × List Ob} {fn : Func} {c : Code} {rs : List ResultVar} {us : List TypeId} {n : Nat} (hf : P.funcs[f]? = some fn) (hK : K f = some kp) (hb : fn.body = some c) (hr : fn.results.toList = rs) (hu : fn.resultTypes.toList = us) (ht : fn.ntmps = n) (hn : (fn.name == "runtime.NumGoroutine") = false) (hlo : lentOf args = []) (hm : marked args = false) (ha : args.length ≤ n)
  (h:Is ((evK (evCall P ty K) ty kp c .mk (mk n (args.zipIdx.map fun p=>(p.2,p.1)) [] [])).bind (retE ty rs us)) (some r)):evCall P ty K f args=some r:=ev_run hf hK hb hr hu ht hn hlo hm ha h
end
@[simp] theorem sizI_lit (l:List UInt8):sizI (ByteArray.mk l.toArray)=(l.length:Int):=rfl
def bytesOf (q:ByteArray):List Int:=q.data.toList.map fun b=>(b.toNat:Int)
def ofN (n:Nat):Int:=n
def isAt (q:ByteArray)(pos:Nat):Bool:=decide (pos<q.size)
def tabI {α:Type}(l:List α)(i:Int):Option α:=l[natI i]?
section
open Go.Vid
variable {n d:Nat} {m:List (Nat × T)} {hp:Heap} {fr:List Nat}
theorem byteEs_eq (q:ByteArray):byteEs q=cm byteF (bytesOf q):=by
 simp only[byteEs,cm,bytesOf,List.map_map];rfl
theorem bytesOf_len (q:ByteArray):lenN (bytesOf q)=q.size:=by
 have:q.data.size=q.size:=rfl;simp[lenN,bytesOf,this]
@[simp high] theorem strE_some' (e:TypeId) (q:ByteArray):strE (some (.int .u8)) e (.c (.lit (.string q))) d n m hp fr=newE (hget hp d) (mk n (tput m d (.c (.ref d 0 (lenN (bytesOf q))))) (hput hp d (rowO e 1 byteF (bytesOf q))) fr):=by
 rw[strE_some,byteEs_eq,bytesOf_len];rfl
@[simp] theorem bytesE_cm (l:List Int):bytesE (cm byteF l)=some (strOf l):=by
 have:∀ l:List Int,(cm byteF l).mapM byteOf=some l:=by
  intro l
  induction l with
  | nil=>rfl
  | cons x l ih=>
   show (byteF x::cm byteF l).mapM byteOf=_;rw[List.mapM_cons,ih];rfl
 rw[bytesE,this];rfl
@[simp] theorem bytesT_sls (l:List Int):bytesT hp (.c (sls 1 byteF l))=some (strOf l):=by
 show (if 1=1 then bytesE (cm byteF l) else none)=_;rw[if_pos rfl,bytesE_cm]
@[simp] theorem bytesT_ref (h off len:Nat):bytesT hp (.c (.ref h off len))=(hget hp h).bind fun o=>if o.sz=1∧off+len≤o.es.length then bytesE ((o.es.drop off).take len) else none:=by
 simp only[bytesT]
 cases hget hp h<;>rfl
@[simp high] theorem nxtE_itr' (k:Nat) (q:ByteArray) (pos:Nat):nxtE k (.itr q pos) true d n m hp fr=Br (isAt q pos) (some (mk n (tput (tput (m.map fun p=>(p.1,p.2.noI)) k (.itr q (pos+decW q pos))) d (.tup [.c (.lit (.bool true)),.c (.lit (.int .i64 (ofN pos))),.c (.lit (.int .i32 (decR q pos)))])) hp fr))
  (some (mk n (tput m d (.tup [.c (.lit (.bool false))])) hp fr)) .mk .mk:=by
 rw[nxtE_itr];unfold isAt Br
 by_cases h:pos<q.size
 ·rw[if_pos h,decide_eq_true h]; rfl
 ·rw[if_neg h,decide_eq_false h]; rfl
def tabBV (l:List Int):List Value:=l.map (Value.int .u8)
def tabPV (l:List (Int × Int)):List Value:=l.flatMap fun p=>[.int .u8 p.1,.int .u8 p.2]
def tabBC (l:List Int):List C:=(tabBV l).map .lit
def tabPC (l:List (Int × Int)):List C:=(tabPV l).map .lit
theorem opd_tabBV [Globals] {tm:List T}{g:Nat}{l:List Int}(h:Globals.gl g=some (tabBV l)):opd tm (.global g)=.c (.fptr (tabBC l) 0):=by
 simp only[opd,h];rw[if_pos]
 ·rfl
 ·rw[List.all_eq_true];intro v hv;obtain⟨x,_,rfl⟩:=List.mem_map.1 hv;rfl
theorem opd_tabPV [Globals] {tm:List T}{g:Nat}{l:List (Int × Int)}(h:Globals.gl g=some (tabPV l)):opd tm (.global g)=.c (.fptr (tabPC l) 0):=by
 simp only[opd,h];rw[if_pos]
 ·rfl
 ·rw[List.all_eq_true];intro v hv;obtain⟨x,_,hv⟩:=List.mem_flatMap.1 hv;simp at hv
  rcases hv with rfl | rfl<;>rfl
def ldE (ty:Tys)(u:TypeId)(p:Option (List C × Nat))(d n:Nat)(m:List (Nat × T))(hp:Heap)(fr:List Nat):Option St:=p.bind fun p=>(loadAt ty u p.1 p.2).map fun v=>mk n (tput m d v) hp fr
@[simp] theorem ldE_some (ty:Tys)(u:TypeId)(cs:List C)(off:Nat):ldE ty u (some (cs,off)) d n m hp fr=(loadAt ty u cs off).map fun v=>mk n (tput m d v) hp fr:=rfl
@[simp] theorem ldE_map {α:Type}(ty:Tys)(u:TypeId)(x:Option α)(f:α→List C × Nat):ldE ty u (x.map f) d n m hp fr=x.bind fun a=>ldE ty u (some (f a)) d n m hp fr:=by cases x<;>rfl
@[simp high] theorem evOp_load' [Globals] {call:CallF} {ty:Tys} {t:TypeId} {pos:String} {after:Array Edge} {g:Option (Nat × Bool)} (u:TypeId) (x:Operand):evOp call ty { dst:=some d,op:=.load u x,type:=t,pos:=pos,after:=after,guard:=g } (mk n m hp fr) =
  ldE ty u (deref hp (opd (tmk n m) x)) d n m hp fr:=evOp_load u x
theorem loadAt_tabBC {ty:Tys}{u:TypeId}{y:Ty}(hu:ty u=some y)(ha:y.isAgg=false)(l:List Int)(i:Int):loadAt ty u (tabBC l) (natI i)=(tabI l i).map fun x=>.c (.lit (.int .u8 x)):=by
 unfold loadAt tabI tabBC tabBV;rw[hu];simp only[ha,Bool.false_eq_true,if_false,List.getElem?_map,Option.map_map];rfl
theorem tabPC_get (l:List (Int × Int)):∀ k:Nat,(if k*2+2≤(tabPC l).length then some (T.agg (((tabPC l).drop (k*2)).take 2)) else none)=(l[k]?).map fun p=>T.agg [.lit (.int .u8 p.1),.lit (.int .u8 p.2)]:=by
 induction l with
 | nil=>intro k; rw[if_neg (by simp[tabPC,tabPV])]; rfl
 | cons p l ih=>
  intro k;have hl:(tabPC (p::l)).length=(tabPC l).length+2:=by simp[tabPC,tabPV]
  cases k with
  | zero=>rw[if_pos (by rw[hl]; omega)]; rfl
  | succ k=>
   have:=ih k;rw[hl];have hd:(tabPC (p::l)).drop ((k+1)*2)=(tabPC l).drop (k*2):=by
    rw[Nat.add_mul,Nat.one_mul,← List.drop_drop];have:(tabPC (p::l)).drop (k*2+2)=(tabPC l).drop (k*2):=rfl;rw[List.drop_drop];exact this
   rw[hd,List.getElem?_cons_succ,← this]
   by_cases h:k*2+2≤(tabPC l).length
   ·rw[if_pos h,if_pos (by omega)]
   ·rw[if_neg h,if_neg (by omega)]
theorem loadAt_tabPC {ty:Tys}{u:TypeId}{y:Ty}(hu:ty u=some y)(ha:y.isAgg=true)(hs:y.size=2)(l:List (Int × Int))(i:Int):loadAt ty u (tabPC l) (natI i*2)=(tabI l i).map fun p=>.agg [.lit (.int .u8 p.1),.lit (.int .u8 p.2)]:=by
 unfold loadAt tabI;rw[hu];simp only[ha,if_true,hs];exact tabPC_get l (natI i)
end
end Go.Vabs

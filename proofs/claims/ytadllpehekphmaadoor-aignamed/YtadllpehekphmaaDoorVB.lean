/- A library: the abstract interpreter of the model's code. No condition. -/
import Derived.Test.YtadllpehekphmaaDoorVA
set_option linter.unusedSimpArgs false
set_option linter.unusedVariables false
namespace Go.Vabs
inductive K where
 | int (k:IntKind)
 | bool
 | str
 | slice (e:TypeId)
 | struct
 | array (n:Nat) (e:TypeId)
 | other
 deriving DecidableEq
def K.isInt:K→Bool
 | .int _=>true
 | _=>false
structure Ty where
 k:K
 size:Nat
 bytes:Nat
 zero:Option (List Value)
 fields:List (Nat × TypeId)
def K.of:TypeDesc→K
 | .int k=>.int k
 | .bool=>.bool
 | .string=>.str
 | .slice e=>.slice e
 | .struct _=>.struct
 | .array n e=>.array n e
 | _=>.other
def Ty.of (P:Program)(t:TypeId):Option Ty:=
 match P.info? t,P.underlying t with
 | some i,some d=>some { k:=K.of d,size:=i.size,bytes:=i.bytes,zero:=i.zero.map fun v=>v.cells.toList,fields:=match d with | .struct fs=>fs.toList.map fun f=>(f.offset,f.type) | _=>[] }
 | _,_=>none
abbrev Tys:=Nat→Option Ty
def Ty.isAgg (y:Ty):Bool:=match y.k with
 | .struct=>true
 | .array _ _=>true
 | _=>false
def elemOf (ty:Tys)(t:TypeId):Option (TypeId × Nat):=match ty t with
 | some y=>match y.k with
  | .slice e=>match ty e with
   | some z=>some (e,z.size)
   | none=>none
  | _=>none
 | none=>none
def isCellB:Value→Bool
 | .agg _ | .tuple _=>false
 | _=>true
def tOf:Value→T
 | .agg cs=>if cs.toList.all isCellB then .agg (cs.toList.map .lit) else .junk
 | .tuple _=>.junk
 | v=>.c (.lit v)
def T.noI:T→T
 | .itr _ _=>.junk
 | t=>t
def opd [Globals] (tm:List T):Operand→T
 | .tmp t=>((tm[t]?).getD .junk).noI
 | .const v=>tOf v
 | .global g=>match Globals.gl g with
  | some cs=>if cs.all isCellB then .c (.fptr (cs.map .lit) 0) else .junk
  | none=>.junk
 | .func f=>.c (.lit (.func (.func f) #[] #[]))
def bitsOp (op:BinOp)(k:IntKind)(a b:Int):Option Value:=
 match op with
 | .and=>some (.int k (k.wrap (BitVec.ofInt k.bits a &&& BitVec.ofInt k.bits b).toNat))
 | .or=>some (.int k (k.wrap (BitVec.ofInt k.bits a ||| BitVec.ofInt k.bits b).toNat))
 | .xor=>some (.int k (k.wrap (BitVec.ofInt k.bits a ^^^ BitVec.ofInt k.bits b).toNat))
 | .andNot=>some (.int k (k.wrap (BitVec.ofInt k.bits a &&& ~~~ BitVec.ofInt k.bits b).toNat))
 | _=>none
def intOp (op:BinOp)(k:IntKind)(a b:Int):Option Value:=
 match op with
 | .add=>some (.int k (k.wrap (a+b)))
 | .sub=>some (.int k (k.wrap (a-b)))
 | .mul=>some (.int k (k.wrap (a*b)))
 | .quo=>if b=0 then none else some (.int k (k.wrap (a.tdiv b)))
 | .rem=>if b=0 then none else some (.int k (a.tmod b))
 | .eql=>some (.bool (a==b))
 | .neq=>some (.bool (a != b))
 | .lss=>some (.bool (decide (a<b)))
 | .leq=>some (.bool (decide (a≤b)))
 | .gtr=>some (.bool (decide (a > b)))
 | .geq=>some (.bool (decide (a≥b)))
 | .shl | .shr=>none
 | op=>bitsOp op k a b
def strOp (op:BinOp)(a b:ByteArray):Option Value:=
 match op with
 | .add=>if a.size+b.size≤9223372036854775807 then some (.string (a++b)) else none
 | .eql=>some (.bool (a.toList==b.toList))
 | .neq=>some (.bool (!(a.toList==b.toList)))
 | _=>none
def boolOp (op:BinOp)(a b:Bool):Option Value:=
 match op with
 | .eql=>some (.bool (a==b))
 | .neq=>some (.bool (!(a==b)))
 | _=>none
def bin (ty:Tys)(op:BinOp)(t:TypeId)(x y:Value):Option Value:=
 match x,y with
 | .int k a,.int k' b=>
  match op with
  | .shl=>if b<0 then none else some (.int k (k.wrap (a*2 ^ (min b.toNat k.bits))))
  | .shr=>if b<0 then none else some (.int k (a.fdiv (2 ^ (min b.toNat k.bits))))
  | op=>if k=k' then intOp op k a b else none
 | .string a,.string b=>strOp op a b
 | .bool a,.bool b=>match (ty t).map Ty.k with
  | some .bool=>boolOp op a b
  | _=>none
 | _,_=>none
def un (op:UnOp)(x:Value):Option Value:=
 match op,x with
 | .neg,.int k n=>some (.int k (k.wrap (0-n)))
 | .xor,.int k n=>bitsOp .xor k (if k.signed then -1 else k.max) n
 | .not,.bool b=>some (.bool (!b))
 | _,_=>none
def loadAt (ty:Tys)(t:TypeId)(cs:List C)(off:Nat):Option T:=match ty t with
 | some y=>if y.isAgg then (if off+y.size≤cs.length then some (.agg ((cs.drop off).take y.size)) else none) else (cs[off]?).map .c
 | none=>none
def deref (hp:Heap):T→Option (List C × Nat)
 | .c (.ptr h i off)=>match hget hp h with
  | some o=>match o.es[i]? with
   | some e=>some (e,off)
   | none=>none
  | none=>none
 | .c (.fptr cs off)=>some (cs,off)
 | _=>none
def over {α:Type}:List α→Nat→List α→List α
 | [],_,_=>[]
 | c::cs,0,[]=>c::cs
 | _::cs,0,d::ds=>d::over cs 0 ds
 | c::cs,n+1,ds=>c::over cs n ds
def fills (place:Nat→Option (Nat × Nat))(cs:List C):List (Nat × T)→Option (List C)
 | []=>some cs
 | (i,t)::rest=>match place i,t.cells with
  | some (off,size),some ds=>if ds.length=size∧off+size≤cs.length then fills place (over cs off ds) rest else none
  | _,_=>none
def placeOf (ty:Tys)(y:Ty)(i:Nat):Option (Nat × Nat):=match y.fields[i]? with
 | some (off,ft)=>(ty ft).map fun (fy:Ty)=>(off,fy.size)
 | none=>none
def lits (vs:List Value):Option (List C):=if vs.all isCellB then some (vs.map .lit) else none
def repeated (n:Nat)(z:List C):List C:=(List.replicate n z).flatten
def chunks (sz:Nat):Nat→List C→List (List C)
 | 0,_=>[]
 | n+1,cs=>cs.take sz::chunks sz n (cs.drop sz)
def boundOf [Globals] (tm:List T)(n:Nat)(d:Nat):Option Operand→Option Nat
 | none=>some d
 | some x=>match opd tm x with
  | .c (.lit (.int _ i))=>if 0≤i∧i.toNat≤n then some i.toNat else none
  | _=>none
def sliceT (ty:Tys)(t:TypeId)(hp:Heap)(x:T)(lo hi:Nat):Option T:=
 match x with
 | .c (.lit (.string s))=>match (ty t).map Ty.k with
  | some .str=>some (.c (.lit (.string (s.extract lo hi))))
  | _=>none
 | .c (.lit (.slice none 0 0))=>match elemOf ty t with
  | some (_,_)=>some (.c (.lit (.slice none 0 0)))
  | none=>none
 | .c (.sl sz es)=>match elemOf ty t with
  | some (_,z)=>if z=sz then some (.c (.sl sz ((es.drop lo).take (hi-lo)))) else none
  | none=>none
 | .c (.ref h off len)=>match elemOf ty t,hget hp h with
  | some (_,z),some o=>if z=o.sz then some (.c (.ref h (off+lo) (hi-lo))) else none
  | _,_=>none
 | _=>none
def lenT (hp:Heap):T→Option Nat
 | .c (.lit (.string s))=>some s.size
 | .c (.lit (.slice _ n _))=>some n
 | .c (.sl _ es)=>some es.length
 | .c (.ref _ _ len)=>some len
 | _=>none
def lenS:T→Option Nat
 | .c (.lit (.slice _ n _))=>some n
 | .c (.sl _ es)=>some es.length
 | .c (.ref _ _ len)=>some len
 | _=>none
def lenStr:T→Option Nat
 | .c (.lit (.string s))=>some s.size
 | _=>none
theorem lenS_T {hp:Heap}{x:T}{n:Nat}(h:lenS x=some n):lenT hp x=some n∧∀ b,x≠.c (.lit (.string b)):=by
 unfold lenS at h
 split at h
 ·exact⟨h,fun b=>by simp⟩
 ·exact⟨h,fun b=>by simp⟩
 ·exact⟨h,fun b=>by simp⟩
 ·cases h
theorem lenStr_T {hp:Heap}{x:T}{n:Nat}(h:lenStr x=some n):lenT hp x=some n∧∃ b,x=.c (.lit (.string b)):=by
 unfold lenStr at h
 split at h
 ·exact⟨h,_,rfl⟩
 ·cases h
def dataC (hp:Heap):Nat→C→Option C
 | n+1,.ref h off len=>match hget hp h with
  | some o=>
   if o.box then none else
   if off+len≤o.es.length then
    if o.free then some (.sl o.sz ((o.es.drop off).take len))
    else match ((o.es.drop off).take len).mapM fun e=>e.mapM (dataC hp n) with
     | some es=>some (.sl o.sz es)
     | none=>none
   else none
  | none=>none
 | 0,.ref _ _ _=>none
 | _,.ptr _ _ _=>none
 | _,c=>some c
def dataT (hp:Heap):T→Option T
 | .c x=>(dataC hp 3 x).map .c
 | .agg cs=>(cs.mapM (dataC hp 3)).map .agg
 | _=>none
def hsC (hp:Heap):Nat→C→List Nat
 | n+1,.ref h _ _=>h::(match hget hp h with
  | some o=>if o.free then [] else o.es.flatMap fun e=>e.flatMap (hsC hp n)
  | none=>[])
 | 0,.ref h _ _=>[h]
 | _,_=>[]
def hsT (hp:Heap):T→List Nat
 | .c x=>hsC hp 3 x
 | .agg cs=>cs.flatMap (hsC hp 3)
 | _=>[]
def C.isLit:C→Bool
 | .lit _=>true
 | _=>false
def C.val:C→Value
 | .lit v=>v
 | _=>undef
def T.flat1:T→Bool
 | .c x=>x.isLit
 | .agg cs=>cs.all C.isLit
 | _=>true
def T.flat:T→Bool
 | .tup ts=>ts.all T.flat1
 | t=>t.flat1
def C.shift (f:Nat→Nat):C→C
 | .ref h off len=>.ref (f h) off len
 | .ptr h i off=>.ptr (f h) i off
 | c=>c
def T.shift1 (f:Nat→Nat):T→T
 | .c x=>.c (x.shift f)
 | .agg cs=>.agg (cs.map (C.shift f))
 | _=>.junk
def T.shift (f:Nat→Nat):T→T
 | .tup ts=>.tup (ts.map (T.shift1 f))
 | t=>t.shift1 f
def layE (ty:Tys):Nat→TypeId→List (Option (TypeId × Nat))
 | 0,_=>[]
 | n+1,t=>match ty t with
  | some y=>match y.k with
   | .slice e=>[(ty e).map fun z=>(e,z.size)]
   | .struct=>y.fields.flatMap fun f=>layE ty n f.2
   | .array k e=>(List.replicate k (layE ty n e)).flatten
   | _=>List.replicate y.size none
  | none=>[]
def nilZ:Option (TypeId × Nat)→C→Option (TypeId × Nat)
 | some z,.lit (.slice none 0 0)=>some z
 | _,_=>none
def expC (hp:Heap)(fr:List Nat)(z:Option (TypeId × Nat))(c:C)(seen:List Nat)(obs:List Ob):Option (C × List Nat × List Ob):=
 match nilZ z c with
 | some q=>some (.ref obs.length 0 0,seen,obs++[⟨false,true,q.1,q.2,[]⟩])
 | none=>match c with
 | .ref h off len=>match hget hp h with
  | some o=>if o.box||!o.free||off+len > o.es.length then none else
   if seen.contains h then none else
   if fr.contains h then some (.sl o.sz ((o.es.drop off).take len),seen,obs)
   else some (.ref obs.length 0 len,h::seen,obs++[{ o with es:=(o.es.drop off).take len }])
  | none=>none
 | .ptr _ _ _=>none
 | c=>some (c,seen,obs)
def expL (hp:Heap)(fr:List Nat):List (Option (TypeId × Nat))→List C→List Nat→List Ob→Option (List C × List Nat × List Ob)
 | _,[],seen,obs=>some ([],seen,obs)
 | zs,c::cs,seen,obs=>match expC hp fr (zs.headD none) c seen obs with
  | some (c',seen,obs)=>match expL hp fr zs.tail cs seen obs with
   | some (cs',seen,obs)=>some (c'::cs',seen,obs)
   | none=>none
  | none=>none
def exp1 (hp:Heap)(fr:List Nat)(zs:List (Option (TypeId × Nat))):T→List Nat→List Ob→Option (T × List Nat × List Ob)
 | .c x,seen,obs=>match expC hp fr (zs.headD none) x seen obs with
  | some (c,seen,obs)=>some (.c c,seen,obs)
  | none=>none
 | .agg cs,seen,obs=>match expL hp fr zs cs seen obs with
  | some (cs,seen,obs)=>some (.agg cs,seen,obs)
  | none=>none
 | .junk,seen,obs=>some (.junk,seen,obs)
 | _,_,_=>none
def expTs (hp:Heap)(fr:List Nat):List (List (Option (TypeId × Nat)))→List T→List Nat→List Ob→Option (List T × List Nat × List Ob)
 | _,[],seen,obs=>some ([],seen,obs)
 | zss,t::ts,seen,obs=>match exp1 hp fr (zss.headD []) t seen obs with
  | some (t',seen,obs)=>match expTs hp fr zss.tail ts seen obs with
   | some (ts',seen,obs)=>some (t'::ts',seen,obs)
   | none=>none
  | none=>none
def resT [Globals] (ty:Tys)(s:St):ResultVar→Option T
 | .tmp t=>some (opd s.tm (.tmp t))
 | .cell a t=>match deref s.hp (opd s.tm (.tmp a)) with
  | some (cs,off)=>loadAt ty t cs off
  | none=>none
def outT [Globals] (ty:Tys)(fn:Func)(s:St):Option (T × List Ob):=
 match fn.results.toList.mapM (resT ty s) with
 | some [t]=>match exp1 s.hp s.fr ((fn.resultTypes.toList.map (layE ty 5)).headD []) t [] [] with
  | some (t,_,obs)=>some (t,obs)
  | none=>none
 | some ts=>match expTs s.hp s.fr (fn.resultTypes.toList.map (layE ty 5)) ts [] [] with
  | some (ts,_,obs)=>some (.tup ts,obs)
  | none=>none
 | none=>none
def C.hds:C→List Nat
 | .ref h _ _=>[h]
 | .ptr h _ _=>[h]
 | _=>[]
def Ob.hds (o:Ob):List Nat:=if o.free then [] else o.es.flatMap fun e=>e.flatMap C.hds
def lentH (box:Bool)(j:Nat):Nat:=(if box then 9000 else 9001)+10000*j
def ixOf:List Nat→Nat→Option Nat
 | [],_=>none
 | k::l,h=>if k=h then some 0 else (ixOf l h).map (·+1)
def obT (o:Ob):T:=.tup [.c (.lit (.bool o.box)),.c (.lit (.bool o.free)),.c (.lit (.int .i64 o.elem)),.c (.sl o.sz o.es)]
def tOb:T→Option Ob
 | .tup [.c (.lit (.bool b)),.c (.lit (.bool f)),.c (.lit (.int .i64 e)),.c (.sl sz es)]=>some ⟨b,f,e.toNat,sz,es⟩
 | _=>none
def lentOf (args:List T):List Ob:=args.filterMap tOb
def realOf (args:List T):List T:=args.filter fun t=>(tOb t).isNone
def namesFrom:Nat→List Ob→List Nat
 | _,[]=>[]
 | i,o::os=>lentH o.box i::namesFrom (i+1) os
def lentHp:Nat→List Ob→Heap
 | _,[]=>[]
 | i,o::os=>(lentH o.box i,o)::lentHp (i+1) os
def Ob.shift (f:Nat→Nat)(o:Ob):Ob:=if o.free then o else { o with es:=o.es.map fun e=>e.map (C.shift f) }
def xpC (hp:Heap)(fr nms:List Nat)(z:Option (TypeId × Nat))(c:C)(seen:List Nat)(obs:List Ob):Option (C × List Nat × List Ob):=
 match nilZ z c with
 | some q=>some (.ref (nms.length+obs.length) 0 0,seen,obs++[⟨false,true,q.1,q.2,[]⟩])
 | none=>match c with
 | .ref h off len=>match hget hp h with
  | some o=>if o.box||!o.free||off+len > o.es.length then none else
   if seen.contains h then none else
   if fr.contains h then some (.sl o.sz ((o.es.drop off).take len),seen,obs)
   else match ixOf nms h with
    | some j=>some (.ref j off len,seen,obs)
    | none=>some (.ref (nms.length+obs.length) 0 len,h::seen,obs++[{ o with es:=(o.es.drop off).take len }])
  | none=>none
 | .ptr h i off=>if fr.contains h then none else (ixOf nms h).map fun j=>(.ptr j i off,seen,obs)
 | c=>some (c,seen,obs)
def xpL (hp:Heap)(fr nms:List Nat):List (Option (TypeId × Nat))→List C→List Nat→List Ob→Option (List C × List Nat × List Ob)
 | _,[],seen,obs=>some ([],seen,obs)
 | zs,c::cs,seen,obs=>match xpC hp fr nms (zs.headD none) c seen obs with
  | some (c',seen,obs)=>match xpL hp fr nms zs.tail cs seen obs with
   | some (cs',seen,obs)=>some (c'::cs',seen,obs)
   | none=>none
  | none=>none
def xp1 (hp:Heap)(fr nms:List Nat)(zs:List (Option (TypeId × Nat))):T→List Nat→List Ob→Option (T × List Nat × List Ob)
 | .c x,seen,obs=>match xpC hp fr nms (zs.headD none) x seen obs with
  | some (c,seen,obs)=>some (.c c,seen,obs)
  | none=>none
 | .agg cs,seen,obs=>match xpL hp fr nms zs cs seen obs with
  | some (cs,seen,obs)=>some (.agg cs,seen,obs)
  | none=>none
 | .junk,seen,obs=>some (.junk,seen,obs)
 | _,_,_=>none
def xpTs (hp:Heap)(fr nms:List Nat):List (List (Option (TypeId × Nat)))→List T→List Nat→List Ob→Option (List T × List Nat × List Ob)
 | _,[],seen,obs=>some ([],seen,obs)
 | zss,t::ts,seen,obs=>match xp1 hp fr nms (zss.headD []) t seen obs with
  | some (t',seen,obs)=>match xpTs hp fr nms zss.tail ts seen obs with
   | some (ts',seen,obs)=>some (t'::ts',seen,obs)
   | none=>none
  | none=>none
def zRef:C→Option (TypeId × Nat)→Option (TypeId × Nat)
 | .ref _ _ _,z=>z
 | _,_=>none
def zRefs:List C→List (Option (TypeId × Nat))→List (Option (TypeId × Nat))
 | c::cs,zs=>zRef c (zs.headD none)::zRefs cs zs.tail
 | [],_=>[]
def xpO (ty:Tys)(hp:Heap)(fr nms:List Nat):List Nat→List Ob→List Nat→List Ob→Option (List Ob × List Nat × List Ob)
 | k::ks,o0::os,seen,obs=>
  if o0.box then match hget hp k,fr.contains k,o0.es with
   | some o,false,[c0]=>match o.es with
    | [cs]=>match xpL hp fr nms (zRefs c0 (layE ty 5 o0.elem)) cs seen obs with
     | some (cs',seen,obs)=>match xpO ty hp fr nms ks os seen obs with
      | some (os',seen,obs)=>some ({ o with free:=cs'.all C.free,es:=[cs'] }::os',seen,obs)
      | none=>none
     | none=>none
    | _=>none
   | _,_,_=>none
  else match xpO ty hp fr nms ks os seen obs with
   | some (os',seen,obs)=>match hget hp k,fr.contains k with
    | some o,false=>if o.free&&!o.box then some (o::os',seen,obs) else none
    | _,_=>some (⟨false,true,o0.elem,o0.sz,[]⟩::os',seen,obs)
   | none=>none
 | _,_,seen,obs=>some ([],seen,obs)
def xpR (ty:Tys)(hp:Heap)(fr nms:List Nat)(zss:List (List (Option (TypeId × Nat)))):List T→Option (T × List Nat × List Ob)
 | [t]=>xp1 hp fr nms (zss.headD []) t [] []
 | ts=>match xpTs hp fr nms zss ts [] [] with
  | some (ts,seen,obs)=>some (.tup ts,seen,obs)
  | none=>none
def outL [Globals] (ty:Tys)(fn:Func)(obs0:List Ob)(s:St):Option (T × List Ob):=
 match fn.results.toList.mapM (resT ty s) with
 | some ts=>match xpR ty s.hp s.fr (namesFrom 0 obs0) (fn.resultTypes.toList.map (layE ty 5)) ts with
  | some (t,seen,obs)=>match xpO ty s.hp s.fr (namesFrom 0 obs0) (namesFrom 0 obs0) obs0 seen obs with
   | some (os,_,obs)=>some (t,os++obs)
   | none=>none
  | none=>none
 | none=>none
def C.frz (h:Nat)(o:Ob):C→C
 | .ref k off len=>if k=h then (if off+len≤o.es.length then .sl o.sz ((o.es.drop off).take len) else .junk) else .ref k off len
 | .ptr k i off=>if k=h then (match o.es[i]? with | some e=>.fptr e off | none=>.junk) else .ptr k i off
 | c=>c
def T.frz1 (h:Nat)(o:Ob):T→T
 | .c x=>.c (x.frz h o)
 | .agg cs=>.agg (cs.map (C.frz h o))
 | _=>.junk
def T.frz (h:Nat)(o:Ob):T→T
 | .tup ts=>.tup (ts.map (T.frz1 h o))
 | .itr q pos=>.itr q pos
 | t=>t.frz1 h o
def Ob.frz (x:Ob)(h:Nat)(o:Ob):Ob:=if x.free then x else { x with es:=x.es.map fun e=>e.map (C.frz h o) }
def Ob.killF (h:Nat)(x:Ob):Ob:=if x.free then x else x.kill h
def evict0 (h:Nat)(s:St):St:=
 match hget s.hp h with
 | none=>s
 | some o=>
  if o.free&&!o.box then { tm:=s.tm.map (T.frz h o),hp:=(hdel s.hp h).map (fun p=>(p.1,p.2.frz h o)),fr:=s.fr.filter (· != h) }
  else { tm:=s.tm.map (T.kill h),hp:=(hdel s.hp h).map (fun p=>(p.1,p.2.killF h)),fr:=s.fr.filter (· != h) }
def evict (h:Nat)(s:St):St:=if lentNm h then s else evict0 h s
def freeze (h:Nat)(s:St):St:=
 match (if lentNm h then none else hget s.hp h) with
 | none=>s
 | some o=>if o.free then { tm:=s.tm.map (T.frz h o),hp:=(hdel s.hp h).map (fun p=>(p.1,p.2.frz h o)),fr:=s.fr.filter (· != h) } else s
def freezes:List Nat→St→St
 | [],s=>s
 | h::l,s=>freezes l (freeze h s)
def evicts:List Nat→St→St
 | [],s=>s
 | h::l,s=>evicts l (evict h s)
def nilConst:Operand→Bool
 | .const (.slice none 0 0)=>true
 | _=>false
def makes:Op→Bool
 | .move x | .assign x=>nilConst x
 | .alloc _ | .box _ _ | .buildSlice _ _ _ | .makeSlice _ _ _ | .convert _ _ _=>true
 | .call c=>match c.callee with
  | .builtin _=>false
  | _=>true
 | _=>false
def sites (ops:List Oper):List Nat:=ops.filterMap fun o=>if makes o.op then o.dst else none
def siteOf (k:Nat):Nat:=k % 10000
def toEvict (ops:List Oper)(hp:Heap):List Nat:=(hp.map Prod.fst).filter fun k=>(sites ops).contains (siteOf k)
def enter (ops:List Oper)(s:St):St:=evicts (toEvict ops s.hp) s
def putT (s:St)(dst:Option Nat)(t:T):St:=match dst with
 | some d=>{ s with tm:=s.tm.set d t }
 | none=>s
def arrOf (ty:Tys)(t:TypeId):Option (Nat × Nat):=match ty t with
 | some y=>match y.k with
  | .array n e=>(ty e).map fun ey=>(n,ey.size)
  | _=>none
 | none=>none
def arrAddr (ty:Tys)(t:TypeId)(p:T)(i:Int):Option T:=match arrOf ty t,p with
 | some (n,z),.c (.ptr h j off)=>if 0≤i∧i.toNat<n then some (.c (.ptr h j (off+i.toNat*z))) else none
 | some (n,z),.c (.fptr cs off)=>if 0≤i∧i.toNat<n then some (.c (.fptr cs (off+i.toNat*z))) else none
 | _,_=>none
def fnOf:T→Option (FuncId × List C)
 | .c (.lit (.func (.func f) a b))=>if a.isEmpty&&b.isEmpty then some (f,[]) else none
 | .c (.fn f cs)=>some (f,cs)
 | _=>none
def fnT (f:FuncId)(cs:List C):T:=match cs with
 | []=>.c (.lit (.func (.func f) #[] #[]))
 | cs=>.c (.fn f cs)
def capC:T→Option C
 | .c x=>if x.free then some x else none
 | _=>none
def findB (q:ByteArray)(n:Int):Int:=match (List.range q.size).find? fun i=>q[i]! == n.toNat.toUInt8 with
 | some i=>i
 | none=>-1
def byteEs (q:ByteArray):List (List C):=q.data.toList.map fun b=>[.lit (.int .u8 b.toNat)]
def byteOf:List C→Option Int
 | [.lit (.int .u8 n)]=>some n
 | _=>none
def strOf (ns:List Int):ByteArray:=ns.foldl (fun r n=>r.push (UInt8.ofNat n.toNat)) ByteArray.empty
def bytesE (es:List (List C)):Option ByteArray:=(es.mapM byteOf).map strOf
def bytesT (hp:Heap):T→Option ByteArray
 | .c (.lit (.slice none 0 0))=>some ByteArray.empty
 | .c (.sl sz es)=>if sz=1 then bytesE es else none
 | .c (.ref h off len)=>match hget hp h with
  | some o=>if o.sz=1∧off+len≤o.es.length then bytesE ((o.es.drop off).take len) else none
  | none=>none
 | _=>none
def decR (q:ByteArray)(pos:Nat):Int:=(Utf8.decode q pos).1
def decW (q:ByteArray)(pos:Nat):Nat:=(Utf8.decode q pos).2
def eqV (k:K)(a b:Value):Option Bool:=match k,a,b with
 | .int _,.int k1 m,.int k2 n=>if k1=k2 then some (m==n) else none
 | .str,.string a,.string b=>some (a.toList==b.toList)
 | .bool,.bool a,.bool b=>some (a==b)
 | _,_,_=>none
def eqF (ty:Tys)(cs ds:List C):List (Nat × TypeId)→Option Bool
 | []=>some true
 | (off,ft)::l=>match (ty ft).map Ty.k,cs[off]?,ds[off]? with
  | some k,some (.lit a),some (.lit b)=>(eqV k a b).bind fun r=>(eqF ty cs ds l).map fun q=>r&&q
  | _,_,_=>none
def eqAgg [Globals] (ty:Tys)(op:BinOp)(t:TypeId)(cs ds:List C):Option Value:=if Globals.eq t then match ty t with
  | some y=>match y.k,op with
   | .struct,.eql=>(eqF ty cs ds y.fields).map .bool
   | .struct,.neq=>(eqF ty cs ds y.fields).map fun b=>.bool (!b)
   | _,_=>none
  | none=>none
 else none
def evP [Globals] (ty:Tys)(o:Oper)(tm:List T)(hp:Heap):Option (T × Option Ob):=
 match o.op with
 | .move x | .assign x=>
  if nilConst x then match elemOf ty o.type with
   | some (e,sz)=>match o.dst with
    | some d=>some (.c (.ref d 0 0),some ⟨false,true,e,sz,[]⟩)
    | none=>none
   | none=>some (.c (.lit (.slice none 0 0)),none)
  else some (opd tm x,none)
 | .alloc e=>match ty e,o.dst with
  | some y,some d=>match y.zero with
   | some z=>match lits z with
    | some cs=>some (.c (.ptr d 0 0),some ⟨true,true,e,cs.length,[cs]⟩)
    | none=>none
   | none=>none
  | _,_=>none
 | .box e x=>match (opd tm x).cells,o.dst with
  | some cs,some d=>some (.c (.ptr d 0 0),some ⟨true,cs.all C.free,e,cs.length,[cs]⟩)
  | _,_=>none
 | .build t parts=>match ty t with
  | some y=>match y.k,y.zero with
   | .struct,some z=>match lits z with
    | some zs=>if y.fields.all (fun f=>(ty f.2).isSome) then (fills (placeOf ty y) zs (parts.toList.map fun p=>(p.1,opd tm p.2))).map fun cs=>(.agg cs,none) else none
    | none=>none
   | .array _ e,some z=>match lits z,ty e with
    | some zs,some ey=>(fills (fun i=>some (i*ey.size,ey.size)) zs (parts.toList.map fun p=>(p.1,opd tm p.2))).map fun cs=>(.agg cs,none)
    | _,_=>none
   | _,_=>none
  | none=>none
 | .buildSlice t len parts=>match elemOf ty t,o.dst with
  | some (e,sz),some d=>match ty e with
   | some y=>match y.zero with
    | some z=>match lits z with
     | some zs=>
      if zs.length=sz∧len*sz≤16777216 then
       match fills (fun i=>some (i*sz,sz)) (repeated len zs) (parts.toList.map fun p=>(p.1,opd tm p.2)) with
       | some cs=>some (.c (.ref d 0 len),some ⟨false,cs.all C.free,e,sz,chunks sz len cs⟩)
       | none=>none
      else none
     | none=>none
    | none=>none
   | none=>none
  | _,_=>none
 | .makeSlice t l c=>match elemOf ty t,o.dst,opd tm l,opd tm c with
  | some (e,sz),some d,.c (.lit (.int _ nl)),.c (.lit (.int _ nc))=>match ty e with
   | some y=>match y.zero with
    | some z=>match lits z with
     | some zs=>
      if zs.length=sz∧0≤nl∧nl≤nc∧(y.bytes:Int)*nc≤281474976710656∧nc≤9223372036854775807 then
       some (.c (.ref d 0 nl.toNat),some ⟨false,true,e,sz,List.replicate nc.toNat zs⟩)
      else none
     | none=>none
    | none=>none
   | none=>none
  | _,_,_,_=>none
 | .pick c x y=>match opd tm c with
  | .c (.lit (.bool b))=>if b then some (opd tm x,none) else some (opd tm y,none)
  | _=>none
 | .load t a=>match deref hp (opd tm a) with
  | some (cs,off)=>(loadAt ty t cs off).map fun v=>(v,none)
  | none=>none
 | .nilCheck x=>match opd tm x with
  | .c (.ptr h i off)=>some (.c (.ptr h i off),none)
  | .c (.fptr cs off)=>some (.c (.fptr cs off),none)
  | _=>none
 | .binOp op t x y _=>match opd tm x,opd tm y with
  | .c (.lit a),.c (.lit b)=>(bin ty op t a b).map fun v=>(.c (.lit v),none)
  | .agg cs,.agg ds=>(eqAgg ty op t cs ds).map fun v=>(.c (.lit v),none)
  | _,_=>none
 | .unOp op _ x=>match opd tm x with
  | .c (.lit a)=>(un op a).map fun v=>(.c (.lit v),none)
  | _=>none
 | .convert src dst x=>match (ty src).map Ty.k,(ty dst).map Ty.k,opd tm x with
  | some (.int _),some (.int k),.c (.lit (.int _ n))=>some (.c (.lit (.int k (k.wrap n))),none)
  | some .str,some .str,.c (.lit (.string s))=>some (.c (.lit (.string s)),none)
  | some (.slice e),some .str,_=>match (ty e).map Ty.k,bytesT hp (opd tm x) with
   | some (.int .u8),some b=>some (.c (.lit (.string b)),none)
   | _,_=>none
  | some .str,some (.slice e),.c (.lit (.string q))=>match (ty e).map Ty.k,o.dst with
   | some (.int .u8),some d=>some (.c (.ref d 0 q.size),some ⟨false,true,e,1,byteEs q⟩)
   | _,_=>none
  | _,_,_=>none
 | .makeInterface u x=>match (ty u).map Ty.k,opd tm x with
  | some .struct,.agg cs=>if cs.all C.isLit then some (.c (.lit (.iface u (.agg (cs.map C.val).toArray))),none) else none
  | _,_=>none
 | .makeFunc (.func f) first caps=>if first.isEmpty then (caps.toList.mapM fun x=>capC (opd tm x)).map fun cs=>(fnT f cs,none) else none
 | .fieldAddr t x f=>match ty t with
  | some y=>match y.k,y.fields[f]? with
   | .struct,some (fo,ft)=>match (ty ft).map Ty.size,opd tm x with
    | some (_+1),.c (.ptr h i off)=>some (.c (.ptr h i (off+fo)),none)
    | some (_+1),.c (.fptr cs off)=>some (.c (.fptr cs (off+fo)),none)
    | _,_=>none
   | _,_=>none
  | none=>none
 | .field t x f=>match ty t with
  | some y=>match y.k,y.fields[f]?,opd tm x with
   | .struct,some (fo,ft),.agg cs=>(loadAt ty ft cs fo).map fun v=>(v,none)
   | _,_,_=>none
  | none=>none
 | .indexAddr t x ix=>match opd tm ix with
  | .c (.lit (.int _ i))=>match opd tm x,elemOf ty t with
   | .c (.sl sz es),some (_,z)=>if z=sz∧0≤i then (match es[i.toNat]? with | some e=>some (.c (.fptr e 0),none) | none=>none) else none
   | .c (.ref h off len),some (_,z)=>match hget hp h with
    | some ob=>if z=ob.sz∧0≤i∧i.toNat<len then some (.c (.ptr h (off+i.toNat) 0),none) else none
    | none=>none
   | p,_=>(arrAddr ty t p i).map fun v=>(v,none)
  | _=>none
 | .index t x ix=>match opd tm ix,opd tm x with
  | .c (.lit (.int _ i)),.c (.lit (.string s))=>match (ty t).map Ty.k with
   | some .str=>if 0≤i then (match s[i.toNat]? with | some b=>some (.c (.lit (.int .u8 b.toNat)),none) | none=>none) else none
   | _=>none
  | .c (.lit (.int _ i)),.agg cs=>match ty t with
   | some y=>match y.k with
    | .array n e=>match ty e with
     | some ey=>if 0≤i∧i.toNat<n then (loadAt ty e cs (i.toNat*ey.size)).map fun v=>(v,none) else none
     | none=>none
    | _=>none
   | none=>none
  | _,_=>none
 | .slice t x lo hi none=>match lenT hp (opd tm x) with
  | some n=>match boundOf tm n n hi with
   | some h=>match boundOf tm h 0 lo with
    | some l=>(sliceT ty t hp (opd tm x) l h).map fun v=>(v,none)
    | none=>none
   | none=>none
  | none=>none
 | .extract t i=>match opd tm t with
  | .tup ts=>match ts[i]? with
   | some t=>some (t,none)
   | none=>none
  | _=>none
 | .call c=>match c.callee with
  | .builtin .len=>match c.args.toList.map (opd tm),c.argTypes.toList with
   | [x],[t]=>match (ty t).map Ty.k with
    | some (.slice _)=>(lenS x).map fun (n:Nat)=>(.c (.lit (.int .i64 n)),none)
    | some .str=>(lenStr x).map fun (n:Nat)=>(.c (.lit (.int .i64 n)),none)
    | _=>none
   | _,_=>none
  | .builtin .cap=>match c.args.toList.map (opd tm),c.argTypes.toList with
   | [.c (.lit (.slice none 0 0))],[t]=>match (ty t).map Ty.k with
    | some (.slice _)=>some (.c (.lit (.int .i64 0)),none)
    | _=>none
   | _,_=>none
  | .builtin .max=>match c.args.toList.map (opd tm) with
   | [.c (.lit (.int k a)),.c (.lit (.int k' b))]=>if k=k' then some (.c (.lit (.int k (max a b))),none) else none
   | _=>none
  | .builtin .min=>match c.args.toList.map (opd tm) with
   | [.c (.lit (.int k a)),.c (.lit (.int k' b))]=>if k=k' then some (.c (.lit (.int k (min a b))),none) else none
   | _=>none
  | .value x=>match fnOf (opd tm x) with
   | some (f,[])=>if Globals.ix f then (match c.args.toList.map (opd tm) with
     | [.c (.lit (.string q)),.c (.lit (.int .u8 n))]=>some (.c (.lit (.int .i64 (findB q n))),none)
     | _=>none) else none
   | _=>none
  | _=>none
 | _=>none
def putP (s:St)(dst:Option Nat)(r:T × Option Ob):Option St:=match r.2,dst with
 | none,some d=>some { tm:=s.tm.set d r.1,hp:=s.hp,fr:=s.fr }
 | none,none=>some s
 | some o,some d=>match hget s.hp d with
  | none=>some { tm:=s.tm.set d r.1,hp:=hput s.hp d o,fr:=s.fr }
  | some _=>none
 | some _,none=>none
def refsOf (cs:List C):List Nat:=cs.filterMap fun c=>match c with
 | .ref h _ _=>some h
 | .ptr h _ _=>some h
 | _=>none
def storeO (o:Ob)(i off:Nat)(cs:List C):Option Ob:=match o.es[i]? with
 | some e=>if off+cs.length≤e.length then some { o with es:=o.es.set i (over e off cs),free:=o.free&&cs.all C.free } else none
 | none=>none
def rowPtr (hp:Heap):T→Bool
 | .c (.ptr h _ _)=>match hget hp h with
  | some o=>!o.box
  | none=>false
 | _=>false
def loose (c:Bool)(cs:Option (List C))(s:St):St:=if c then (match cs with
  | some cs=>evicts (refsOf cs) s
  | none=>s) else s
def evS1 [Globals] (ty:Tys)(t:TypeId)(a x:Operand)(s:St):Option St:=
 match opd s.tm a,ty t,(opd s.tm x).cells with
 | .c (.ptr h i off),some y,some cs=>match hget s.hp h with
  | some o=>if s.fr.contains h=false∧cs.length=y.size∧(o.box=true∨cs.all C.free=true) then (storeO o i off cs).map fun o=>{ tm:=s.tm,hp:=hput s.hp h o,fr:=s.fr } else none
  | none=>none
 | _,_,_=>none
def evS [Globals] (ty:Tys)(t:TypeId)(a x:Operand)(s:St):Option St:=evS1 ty t a x (loose (rowPtr s.hp (opd s.tm a)) (opd s.tm x).cells s)
def srcOf (hp:Heap):T→Option (List (List C))
 | .c (.lit (.slice none 0 0))=>some []
 | .c (.lit (.string s))=>some (s.data.toList.map fun b=>[.lit (.int .u8 b.toNat)])
 | .c (.sl _ es)=>some es
 | .c (.ref h off len)=>match hget hp h with
  | some o=>if off+len≤o.es.length then some ((o.es.drop off).take len) else none
  | none=>none
 | _=>none
def freeSrc (hp:Heap):T→Bool
 | .c (.ref h _ _)=>match hget hp h with
  | some o=>o.free
  | none=>false
 | _=>true
def srcSz (hp:Heap):T→Option Nat
 | .c (.lit (.slice none 0 0))=>none
 | .c (.lit (.string s))=>some 1
 | .c (.sl sz es)=>some sz
 | .c (.ref h _ _)=>(hget hp h).map Ob.sz
 | _=>none
def evA2 [Globals] (ty:Tys)(d:Nat)(b x:Operand)(t u:TypeId)(s:St):Option St:=
 match Vabs.elemOf ty t,(ty u).map Ty.k,srcOf s.hp (opd s.tm x) with
 | some (e,sz),some uk,some new=>match ty e with
  | some y=>
   if uk.isInt=false∧(srcSz s.hp (opd s.tm x)).getD sz=sz∧(freeSrc s.hp (opd s.tm x)=true∨new.all (fun e=>e.all C.free)=true)∧y.zero.map List.length=some sz∧0<y.bytes then
    match opd s.tm b with
    | .c (.lit (.slice none 0 0))=>
     if new.length*y.bytes≤140737488355328 then match hget s.hp d with
      | none=>some { tm:=s.tm.set d (.c (.ref d 0 new.length)),hp:=hput s.hp d ⟨false,true,e,sz,new⟩,fr:=s.fr }
      | some _=>none
     else none
    | .c (.ref h off len)=>match hget s.hp h with
     | some o=>
      if o.box=false∧o.elem=e∧o.sz=sz∧o.free=true∧s.fr.contains h=false∧off+len≤o.es.length∧(len+new.length)*y.bytes≤140737488355328 then
       some { tm:=(s.tm.map (T.kill h)).set d (.c (.ref h 0 (len+new.length))),hp:=hput (s.hp.map fun p=>(p.1,p.2.killF h)) h ⟨false,true,e,sz,(o.es.drop off).take len++new⟩,fr:=s.fr }
      else none
     | none=>none
    | _=>none
   else none
  | none=>none
 | _,_,_=>none
def evZ [Globals] (ty:Tys)(d:Nat)(b x:Operand)(t:TypeId)(s:St):Option St:=
 match Vabs.elemOf ty t,opd s.tm b,opd s.tm x with
 | some (e,sz),.c (.lit (.slice none 0 0)),.c (.lit (.int _ n))=>match ty e with
  | some y=>match y.zero with
   | some z=>match lits z with
    | some zs=>
     if zs.length=sz∧0<y.bytes∧0<n∧n.toNat*y.bytes≤140737488355328 then match hget s.hp d with
      | none=>some { tm:=s.tm.set d (.c (.ref d 0 n.toNat)),hp:=hput s.hp d ⟨false,true,e,sz,List.replicate n.toNat zs⟩,fr:=s.fr }
      | some _=>none
     else none
    | none=>none
   | none=>none
  | none=>none
 | _,_,_=>none
def evA1 [Globals] (ty:Tys)(d:Nat)(b x:Operand)(t u:TypeId)(s:St):Option St:=
 match (ty u).map Ty.k with
 | some (.int _)=>evZ ty d b x t s
 | _=>evA2 ty d b x t u s
def nilLit:T→Bool
 | .c (.lit (.slice none 0 0))=>true
 | _=>false
def evA [Globals] (ty:Tys)(dst:Option Nat)(args:List Operand)(tys:List TypeId)(s:St):Option St:=
 match args,tys,dst with
 | [b,x],[t,u],some d=>
  let s1:=if nilLit (opd s.tm b) then evict d s else s
  evA1 ty d b x t u (loose (!freeSrc s1.hp (opd s1.tm x)) ((srcOf s1.hp (opd s1.tm x)).map List.flatten) s1)
 | _,_,_=>none
inductive Ex where
 | norm
 | exit (id:Nat)
 | ret
 | pan (t:Nat) (cs:List C)
def marked:List T→Bool
 | .tup []::_=>true
 | _=>false
def panR (t:Nat)(cs:List C):T × List Ob:=(.tup [.c (.lit (.int .i64 t)),.agg cs],[])
def okR (r:T × List Ob):T × List Ob:=(.tup [r.1],r.2)
def unR:T × List Ob→Option ((Nat × List C) ⊕ (T × List Ob))
 | (.tup [t],os)=>some (.inr (t,os))
 | (.tup [.c (.lit (.int .i64 t)),.agg cs],_)=>some (.inl (t.toNat,cs))
 | _=>none
def panV (t:Nat)(cs:List C):Value:=.iface t (.agg (cs.map C.val).toArray)
def guardOf (ops:Array Oper)(tm:List T)(o:Oper):Option Bool:=
 match o.guard with
 | none=>some true
 | some (j,want)=>match (ops[j]?).bind (·.dst) with
  | some d=>match tm[d]? with
   | some (.c (.lit (.bool b)))=>some (b==want)
   | some (.tup _)=>some false
   | _=>none
  | none=>none
def addObs (hp:Heap)(d:Nat):Nat→List Ob→Option Heap
 | _,[]=>some hp
 | i,o::os=>match hget hp (d+10000*i) with
  | none=>addObs (hput hp (d+10000*i) o) d (i+1) os
  | some _=>none
def fput:List Nat→Nat→List Nat
 | [],k=>[k]
 | k'::l,k=>if k=k' then k'::l else if k<k' then k::k'::l else k'::fput l k
def fputs:List Nat→List Nat→List Nat
 | fr,[]=>fr
 | fr,k::ks=>fputs (fput fr k) ks
def takeIn (s:St)(dst:Option Nat)(hs:List Nat)(r:T × List Ob):Option St:=
 match dst with
 | none=>none
 | some d=>match addObs s.hp d 0 r.2 with
  | some hp=>some { tm:=s.tm.set d (r.1.shift fun i=>d+10000*i),hp:=hp,fr:=if r.2.isEmpty&&r.1.flat then s.fr else fputs s.fr (hs.filter fun h=>(hget s.hp h).isSome) }
  | none=>none
abbrev CallF:=FuncId→List T→Option (T × List Ob)
def layOf (ty:Tys):Nat→TypeId→List (Option Nat)
 | 0,_=>[]
 | n+1,t=>match ty t with
  | some y=>match y.k with
   | .slice e=>[(ty e).map Ty.size]
   | .struct=>y.fields.flatMap fun f=>layOf ty n f.2
   | .array k e=>(List.replicate k (layOf ty n e)).flatten
   | _=>List.replicate y.size none
  | none=>[]
def nilsC:Option Nat→C→C
 | some s,.lit (.slice none 0 0)=>.sl s []
 | _,c=>c
def nilsL:List (Option Nat)→List C→List C
 | z::zs,c::cs=>nilsC z c::nilsL zs cs
 | _,cs=>cs
def nilsT (l:List (Option Nat)):T→T
 | .c x=>.c x
 | .agg cs=>.agg (nilsL l cs)
 | t=>t
def wkArgs (ty:Tys):List TypeId→List T→List T
 | t::ts,a::as=>nilsT (layOf ty 5 t) a::wkArgs ty ts as
 | _,as=>as
def callTys (o:Oper):List TypeId:=match o.op with
 | .call c=>c.argTypes.toList
 | _=>[]
def capHs [Globals] (tm:List T)(caps:List Operand):List Nat:=caps.flatMap fun x=>match opd tm x with
 | .c (.ref h _ _)=>[h]
 | .c (.ptr h _ _)=>[h]
 | _=>[]
def evI (it:Operand)(isS:Bool)(dst:Option Nat)(s:St):Option St:=match it with
 | .tmp k=>match s.tm[k]?,isS,dst with
  | some (.itr q pos),true,some d=>
   if pos<q.size then some { tm:=((s.tm.map T.noI).set k (.itr q (pos+decW q pos))).set d (.tup [.c (.lit (.bool true)),.c (.lit (.int .i64 pos)),.c (.lit (.int .i32 (decR q pos)))]),hp:=s.hp,fr:=s.fr }
   else some { tm:=s.tm.set d (.tup [.c (.lit (.bool false))]),hp:=s.hp,fr:=s.fr }
  | _,_,_=>none
 | _=>none
def evR0 (ty:Tys)(t:TypeId)(x:T)(dst:Option Nat)(s:St):Option St:=match x,(ty t).map Ty.k,dst with
 | .c (.lit (.string q)),some .str,some d=>some { tm:=s.tm.set d (.itr q 0),hp:=s.hp,fr:=s.fr }
 | _,_,_=>none
def evW [Globals] (ty:Tys)(o:Oper)(t:TypeId)(x:Operand)(s:St):Option St:=match (ty t).map Ty.k with
 | some (.slice e)=>match (ty e).map Ty.k,opd s.tm x,o.dst with
  | some (.int .u8),.c (.ref h off len),some d=>match hget s.hp h with
   | some ob=>if s.fr.contains h=false∧0<len then some { tm:=s.tm.set d (.c (.ref h off len)),hp:=hput s.hp h ob,fr:=s.fr } else none
   | none=>none
  | _,_,_=>none
 | _=>(evP ty o s.tm s.hp).bind (putP s o.dst)
def lendOf [Globals] (c:Call):Option (FuncId × Bool):=match c.callee with
 | .value (.func f)=>(Globals.ld f).map fun b=>(f,b)
 | _=>none
def lentC (all:Bool):C→List Nat
 | .ref h _ _=>if all then [h] else []
 | .ptr h _ _=>[h]
 | _=>[]
def lentT (all:Bool):T→List Nat
 | .c x=>lentC all x
 | .agg cs=>cs.flatMap (lentC all)
 | _=>[]
def once:List Nat→List Nat→List Nat
 | seen,[]=>seen
 | seen,h::l=>if seen.contains h then once seen l else once (seen++[h]) l
def obHds (hp:Heap)(h:Nat):List Nat:=match hget hp h with
 | some o=>o.hds
 | none=>[]
def lentMore (hp:Heap)(r:List Nat):List Nat:=once r (r.flatMap (obHds hp))
def lentHs (hp:Heap)(all:Bool)(ts:List T):List Nat:=lentMore hp (lentMore hp (once [] (ts.flatMap (lentT all))))
def lentObs (hp:Heap)(fr hs:List Nat):List Nat→Option (List Ob)
 | []=>some []
 | h::l=>match hget hp h with
  | some o=>if fr.contains h=false∧o.hds.all hs.contains=true then (lentObs hp fr hs l).map (o::·) else none
  | none=>none
def nmOf (hs nms:List Nat)(h:Nat):Nat:=((ixOf hs h).bind (nms[·]?)).getD 0
def handC (hp:Heap)(hs nms:List Nat):C→Option C
 | .ptr h i off=>if hs.contains h then some (.ptr (nmOf hs nms h) i off) else none
 | .ref h off len=>if hs.contains h then some (.ref (nmOf hs nms h) off len) else dataC hp 3 (.ref h off len)
 | c=>some c
def handT (hp:Heap)(hs nms:List Nat):T→Option T
 | .c x=>(handC hp hs nms x).map .c
 | .agg cs=>(cs.mapM (handC hp hs nms)).map .agg
 | _=>none
def dhsC (hp:Heap)(hs:List Nat):C→List Nat
 | .ref h off len=>if hs.contains h then [] else hsC hp 3 (.ref h off len)
 | _=>[]
def dhsT (hp:Heap)(hs:List Nat):T→List Nat
 | .c x=>dhsC hp hs x
 | .agg cs=>cs.flatMap (dhsC hp hs)
 | _=>[]
def backH (hs:List Nat)(d i:Nat):Nat:=(hs[i]?).getD (d+10000*(i-hs.length))
def putL:Heap→List Nat→List Ob→Heap
 | hp,h::hs,o::os=>putL (hput hp h o) hs os
 | hp,_,_=>hp
def killS:List Nat→St→St
 | [],s=>s
 | h::l,s=>killS l { tm:=s.tm.map (T.kill h),hp:=s.hp.map fun p=>(p.1,p.2.killF h),fr:=s.fr }
def rowsOf (hp:Heap)(hs:List Nat):List Nat:=hs.filter fun h=>match hget hp h with
 | some o=>!o.box
 | none=>false
def takeL (s:St)(d:Nat)(hs dhs:List Nat)(r:T × List Ob):Option St:=
 match addObs (putL (killS (rowsOf s.hp hs) s).hp hs (r.2.map (Ob.shift (backH hs d)))) d 0 ((r.2.drop hs.length).map (Ob.shift (backH hs d))) with
 | some hp=>some { tm:=(killS (rowsOf s.hp hs) s).tm.set d (r.1.shift (backH hs d)),hp:=hp,fr:=fputs s.fr (dhs.filter fun h=>(hget s.hp h).isSome) }
 | none=>none
def evL2 [Globals] (call:CallF)(ty:Tys)(o:Oper)(f:FuncId)(d:Nat)(ts:List T)(hs:List Nat)(s:St):Option St:=
 match lentObs s.hp s.fr hs hs with
 | none=>none
 | some obs=>match ts.mapM (handT s.hp hs (namesFrom 0 obs)) with
  | none=>none
  | some args=>
   if (!hs.isEmpty&&(ts.flatMap (dhsT s.hp hs)).all fun h=>!hs.contains h)=true then
    match call f (wkArgs ty (callTys o) args++obs.map fun ob=>obT (ob.shift (nmOf hs (namesFrom 0 obs)))) with
    | none=>none
    | some r=>takeL s d hs (ts.flatMap (dhsT s.hp hs)) r
   else none
def evL1 [Globals] (call:CallF)(ty:Tys)(o:Oper)(f:FuncId)(all:Bool)(ts:List T)(s:St):Option St:=match o.dst with
 | some d=>evL2 call ty o f d ts (lentHs s.hp all ts) s
 | none=>none
def evLP [Globals] (call:CallF)(ty:Tys)(o:Oper)(f:FuncId)(d:Nat)(ts:List T)(hs:List Nat)(s:St):Option ((Nat × List C) ⊕ St):=
 match lentObs s.hp s.fr hs hs with
 | none=>none
 | some obs=>match ts.mapM (handT s.hp hs (namesFrom 0 obs)) with
  | none=>none
  | some args=>
   if (!hs.isEmpty&&(ts.flatMap (dhsT s.hp hs)).all fun h=>!hs.contains h)=true then
    match (call f (.tup []::(wkArgs ty (callTys o) args++obs.map fun ob=>obT (ob.shift (nmOf hs (namesFrom 0 obs)))))).bind unR with
    | none=>none
    | some (.inl p)=>some (.inl p)
    | some (.inr r)=>(takeL s d hs (ts.flatMap (dhsT s.hp hs)) r).map .inr
   else none
def evOp [Globals] (call:CallF)(ty:Tys)(o:Oper)(s:St):Option St:=
 match o.op with
 | .store t a x=>if o.dst.isNone then evS ty t a x s else none
 | .range t x=>evR0 ty t (opd s.tm x) o.dst s
 | .next it isS=>evI it isS o.dst s
 | .convert a b x=>if a=b then evW ty o a x s else (evP ty o s.tm s.hp).bind (putP s o.dst)
 | .makeFunc fn first caps=>(evP ty o (freezes (capHs s.tm caps.toList) s).tm (freezes (capHs s.tm caps.toList) s).hp).bind (putP (freezes (capHs s.tm caps.toList) s) o.dst)
 | .call c=>
  match lendOf c with
  | some (f,all)=>evL1 call ty o f all (c.args.toList.map (opd s.tm)) s
  | none=>match c.callee with
  | .value x=>match fnOf (opd s.tm x) with
   | none=>none
   | some (f,caps)=>if Globals.ix f then (evP ty o s.tm s.hp).bind (putP s o.dst) else
    match (c.args.toList.map (opd s.tm)).mapM (dataT s.hp) with
    | none=>none
    | some args=>match call f (wkArgs ty (callTys o) args++caps.map .c) with
     | none=>none
     | some r=>takeIn s o.dst ((c.args.toList.map (opd s.tm)).flatMap (hsT s.hp)) r
  | .builtin .append=>evA ty o.dst c.args.toList c.argTypes.toList s
  | _=>(evP ty o s.tm s.hp).bind (putP s o.dst)
 | _=>(evP ty o s.tm s.hp).bind (putP s o.dst)
def evOps [Globals] (call:CallF)(ty:Tys)(ops:Array Oper):List Oper→St→Option St
 | [],s=>some s
 | o::l,s=>
  match guardOf ops s.tm o with
  | none=>none
  | some false=>evOps call ty ops l (putT s o.dst (.tup []))
  | some true=>match evOp call ty o s with
   | none=>none
   | some s=>evOps call ty ops l s
def opArgs (o:Oper):List Operand:=match o.op with
 | .call c=>c.args.toList
 | _=>[]
inductive Pk where
 | no
 | pan (x:Operand)
 | call (f:FuncId) (all:Bool)
def pkOf [Globals] (o:Oper):Pk:=match o.op with
 | .panic x=>.pan x
 | .call c=>match lendOf c with
  | some (f,all)=>if Globals.pn f then .call f all else .no
  | none=>match c.callee,c.args.toList with
   | .builtin .panic,[x]=>.pan x
   | _,_=>.no
 | _=>.no
def Pk.may:Pk→Bool
 | .no=>false
 | _=>true
def deadS:St:={ tm:=[],hp:=[],fr:=[] }
def panOf:T→Option (Nat × List C)
 | .c (.lit (.iface t (.agg vs)))=>some (t,vs.toList.map .lit)
 | _=>none
def panX:Option (Nat × List C)→Option (Ex × St)
 | some (t,cs)=>some (.pan t cs,deadS)
 | none=>none
def evOpsP [Globals] (call:CallF)(ty:Tys)(ops:Array Oper):List Oper→St→Option (Ex × St)
 | [],s=>some (.norm,s)
 | o::l,s=>
  match guardOf ops s.tm o with
  | none=>none
  | some false=>evOpsP call ty ops l (putT s o.dst (.tup []))
  | some true=>match pkOf o with
   | .no=>(evOp call ty o s).bind (evOpsP call ty ops l)
   | .pan x=>panX (panOf (opd s.tm x))
   | .call f all=>match o.dst with
    | none=>none
    | some d=>(evLP call ty o f d ((opArgs o).map (opd s.tm)) (lentHs s.hp all ((opArgs o).map (opd s.tm))) s).bind fun r=>match r with
     | .inl p=>panX (some p)
     | .inr s=>evOpsP call ty ops l s
def T.hds1:T→List Nat
 | .c x=>x.hds
 | .agg cs=>cs.flatMap C.hds
 | _=>[]
def T.hds:T→List Nat
 | .tup ts=>ts.flatMap T.hds1
 | t=>t.hds1
def keepAt (ks:List Nat)(tm:List T):List T:=tm.mapIdx fun i t=>if ks.contains i then t else .junk
def apArgs (o:Oper):Option (Nat × Operand × Operand × TypeId × TypeId):=match o.op with
 | .call c=>match c.callee,c.args.toList,c.argTypes.toList,o.dst with
  | .builtin .append,[b,x],[t,u],some d=>some (d,b,x,t,u)
  | _,_,_,_=>none
 | _=>none
def notInt (ty:Tys)(u:TypeId):Bool:=match (ty u).map Ty.k with
 | some (.int _)=>false
 | _=>true
def chkA [Globals] (ty:Tys)(U:List Nat)(b x:Operand)(u:TypeId)(s:St):Bool:=match opd s.tm b with
 | .c (.ref h _ _)=>U.all (fun r=>!(opd s.tm (.tmp r)).hds.contains h)&&s.hp.all (fun p=>!p.2.hds.contains h)&&freeSrc s.hp (opd s.tm x)&&notInt ty u
 | _=>false
def isT (U:List Nat):Bool:=U.any fun r=>decide (400000≤r)
def chkT [Globals] (ty:Tys)(U:List Nat)(b x:Operand)(u:TypeId)(s:St):Bool:=match opd s.tm b with
 | .c (.ref h _ _)=>U.all (fun r=>decide (r<400000)||!(opd s.tm (.tmp (r-400000))).hds.contains h)&&freeSrc s.hp (opd s.tm x)&&notInt ty u
 | _=>false
def stOf (o:Oper):Option (TypeId × Operand × Operand):=match o.op,o.dst with
 | .store t a x,none=>some (t,a,x)
 | _,_=>none
def chkS [Globals] (U:List Nat)(a:Operand)(s:St):Bool:=!U.any (fun r=>decide (100000≤r))||(match opd s.tm a with
 | .c (.ptr h _ _)=>(match hget s.hp h with
   | some o=>o.box
   | none=>false)&&s.hp.all (fun p=>!p.2.hds.contains h)&&U.all (fun r=>decide (r<100000)||!(opd s.tm (.tmp (r-100000))).hds.contains h)
 | _=>false)
def lnd [Globals] (o:Oper):Option (FuncId × Bool):=match o.op with
 | .call c=>lendOf c
 | _=>none
def ldSafe (s:St)(hs:List Nat)(k:Nat):Bool:=match s.tm[k]? with
 | some (.c (.ptr h _ _))=>(match hget s.hp h with
  | some o=>o.free
  | none=>false)&&!hs.contains h
 | _=>false
def chkL [Globals] (U:List Nat)(o:Oper)(s:St):Bool:=match lnd o with
 | none=>true
 | some (_,all)=>U.all fun r=>decide (r<300000)||ldSafe s (lentHs s.hp all ((opArgs o).map (opd s.tm))) (r-300000)
def chk [Globals] (ty:Tys)(U:List Nat)(o:Oper)(s:St):Bool:=match apArgs o with
 | some (_,b,x,_,u)=>if isT U then chkT ty U b x u s else chkA ty U b x u s
 | none=>match stOf o with
  | some (_,a,_)=>chkS U a s
  | none=>chkL U o s
def evOpsU [Globals] (call:CallF)(ty:Tys)(U:List Nat):List Oper→St→Option St
 | [],s=>some s
 | o::l,s=>if o.guard.isNone&&chk ty U o s then (evOp call ty o s).bind (evOpsU call ty U l) else none
def hnext (hp:Heap)(l:List Nat):List Nat:=l++l.flatMap fun h=>match hget hp h with
 | some o=>o.hds
 | none=>[]
def tidy1 (live:List Nat)(tm:List T)(s:St):St:=
 if tm.all (fun t=>t.hds.all live.contains)&&s.hp.all (fun p=>!live.contains p.1||p.2.hds.all live.contains)&&s.hp.all (fun p=>!lentNm p.1||live.contains p.1) then { tm:=tm,hp:=s.hp.filter fun p=>live.contains p.1,fr:=s.fr.filter live.contains } else { tm:=tm,hp:=s.hp,fr:=s.fr }
def rowRefs (hp:Heap):List Nat:=hp.flatMap fun p=>if p.2.box||p.2.free then [] else p.2.es.flatMap fun e=>e.flatMap C.hds
def Ob.lift (o:Ob):Ob:=if o.box||o.free then o else { o with free:=o.es.all fun e=>e.all C.free }
def settle (s:St):St:={ tm:=s.tm,hp:=s.hp.map fun p=>(p.1,p.2.lift),fr:=s.fr }
def nil1 (h j e sz:Nat)(s:St):St:=match hget s.hp h with
 | some o=>match o.es with
  | [cs]=>if o.box=true∧s.fr.contains h=false∧lentNm h=false∧isNilC cs[j]?=true∧(hget s.hp (h+10000*(1000+j))).isNone=true then
    { tm:=s.tm,hp:=hput (hput s.hp h { o with free:=false,es:=[cs.set j (.ref (h+10000*(1000+j)) 0 0)] }) (h+10000*(1000+j)) ⟨false,true,e,sz,[]⟩,fr:=s.fr } else s
  | _=>s
 | none=>s
where
 isNilC:Option C→Bool
  | some (.lit (.slice none 0 0))=>true
  | _=>false
def nils:List Nat→St→St
 | m::h::j::e::sz::ks,s=>if m=2000000∧h<m then nils ks (nil1 h j e sz s) else s
 | _,s=>s
def unNil:List Nat→List Nat
 | m::h::j::e::sz::ks=>if m=2000000∧h<m then unNil ks else m::h::j::e::sz::ks
 | ks=>ks
def tidy:Option (List Nat)→St→St
 | none,s=>s
 | some ks,s=>settleR (tidyK (unNil ks) (nils ks s))
where
 settleR (s:St):St:=settle (evicts (rowRefs s.hp) s)
 tidyK (ks:List Nat) (s:St):St:=tidy1 (hnext s.hp (hnext s.hp ((s.hp.map Prod.fst).filter lentNm++(keepAt ks s.tm).flatMap T.hds))) (keepAt ks s.tm) s
def evReg [Globals] (call:CallF)(ty:Tys)(u:Option (List Nat))(ops:Array Oper)(s:St):Option St:=match u with
 | none=>evOps call ty ops ops.toList s
 | some U=>evOpsU call ty U ops.toList s
def isP (U:List Nat):Bool:=U.head?==some 1000000
def evRg [Globals] (call:CallF)(ty:Tys)(u:Option (List Nat))(ops:Array Oper)(s:St):Option (Ex × St):=match u with
 | none=>(evOps call ty ops ops.toList s).map fun s=>(.norm,s)
 | some U=>if isP U then evOpsP call ty ops ops.toList s else (evOpsU call ty U ops.toList s).map fun s=>(.norm,s)
def headOf:Code→Nat
 | .region r _ _=>r
 | .seq a _=>headOf a
 | .block _ a=>headOf a
 | .loop a=>headOf a
 | _=>0
mutual
def evCode [Globals] (call:CallF)(ty:Tys)(kp:Nat→Option (List Nat))(c:Code)(s:St):Option (Ex × St):=
 match c with
 | .skip=>some (.norm,s)
 | .label _=>some (.norm,s)
 | .region id ops _=>evRg call ty (kp (30000+id)) ops (enter ops.toList (tidy (kp id) s))
 | .seq a b=>do
  let r ← evCode call ty kp a s
  match r.1 with
  | .norm=>evCode call ty kp b r.2
  | e=>some (e,r.2)
 | .cond c x y=>
  match opd s.tm c with
  | .c (.lit (.bool b))=>if b then evCode call ty kp x s else evCode call ty kp y s
  | _=>none
 | .block id c=>do
  let r ← evCode call ty kp c s
  match r.1 with
  | .exit id'=>if id'=id then some (.norm,r.2) else some (.exit id',r.2)
  | e=>some (e,r.2)
 | .loop c=>evLoop call ty kp c s
 | .exit id=>some (.exit id,tidy (kp (20000+id)) s)
 | .ret=>some (.ret,tidy (kp 9999) s)
 | _=>none
 partial_fixpoint
def evLoop [Globals] (call:CallF)(ty:Tys)(kp:Nat→Option (List Nat))(c:Code)(s:St):Option (Ex × St):=do
 let r ← evCode call ty kp c (tidy (kp (headOf c)) s)
 match r.1 with
 | .norm=>evLoop call ty kp c r.2
 | e=>some (e,r.2)
 partial_fixpoint
end
def evFn0 [Globals] [Prims] (P:Program)(ty:Tys)(K:Nat→Option (Nat→Option (List Nat)))(call:CallF)(f:FuncId)(args:List T):Option (T × List Ob):=
 match K f with
 | none=>Prims.pr f args
 | some kp=>
 match P.funcs[f]? with
 | none=>none
 | some fn=>
  match fn.body with
  | none=>none
  | some c => if fn.name == "runtime.NumGoroutine" then none else
   if (lentOf args).isEmpty then
    match evCode call ty kp c { tm:=args++List.replicate (fn.ntmps-args.length) .junk,hp:=[],fr:=[] } with
    | none=>none
    | some r=>match r.1 with
     | .exit _=>none
     | .pan _ _=>none
     | _=>outT ty fn r.2
   else
    match evCode call ty kp c { tm:=realOf args++List.replicate (fn.ntmps-(realOf args).length) .junk,hp:=lentHp 0 (lentOf args),fr:=[] } with
    | none=>none
    | some r=>match r.1 with
     | .exit _=>none
     | .pan _ _=>none
     | _=>outL ty fn (lentOf args) r.2
def evFnP [Globals] (P:Program)(ty:Tys)(K:Nat→Option (Nat→Option (List Nat)))(call:CallF)(f:FuncId)(args:List T):Option (T × List Ob):=
 match K f with
 | none=>none
 | some kp=>
 match P.funcs[f]? with
 | none=>none
 | some fn=>
  match fn.body with
  | none=>none
  | some c => if (fn.name == "runtime.NumGoroutine" || (lentOf args).isEmpty) then none else
    match evCode call ty kp c { tm:=realOf args++List.replicate (fn.ntmps-(realOf args).length) .junk,hp:=lentHp 0 (lentOf args),fr:=[] } with
    | none=>none
    | some r=>match r.1 with
     | .exit _=>none
     | .pan t cs=>some (panR t cs)
     | _=>(outL ty fn (lentOf args) r.2).map okR
def evFn [Globals] [Prims] (P:Program)(ty:Tys)(K:Nat→Option (Nat→Option (List Nat)))(call:CallF)(f:FuncId)(args:List T):Option (T × List Ob):=
 if marked args then evFnP P ty K call f args.tail else evFn0 P ty K call f args
def evCallN [Globals] [Prims] (P:Program)(ty:Tys)(K:Nat→Option (Nat→Option (List Nat))):Nat→CallF
 | 0=>fun _ _=>none
 | n+1=>evFn P ty K (evCallN P ty K n)
open Classical in
noncomputable def evCall [Globals] [Prims] (P:Program) (ty:Tys) (K:Nat→Option (Nat→Option (List Nat))):CallF:=fun f args=>if h:∃ n r,evCallN P ty K n f args=some r then evCallN P ty K h.choose f args else none
end Go.Vabs

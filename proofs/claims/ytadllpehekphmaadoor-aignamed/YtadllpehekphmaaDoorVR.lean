/- A library: operations of the abstract interpreter that may come up in either order. No condition. -/
import Derived.Test.YtadllpehekphmaaDoorVQ
set_option linter.unusedSimpArgs false
set_option linter.unusedVariables false
namespace Go.Vabs
open Go.RowKit
def Ext (hp hp':Heap):Prop:=∀ k o,hget hp k=some o→hget hp' k=some o
structure Closed (tm:List T) (hp:Heap):Prop where
 tm:∀ t∈tm,∀ k∈t.hds1,∃ o,hget hp k=some o
 hp:∀ k o,hget hp k=some o→∀ e∈o.es,∀ c∈e,∀ k'∈c.hds,∃ o',hget hp k'=some o'
section
variable {w0:World} {B:Bs} {f0 fz:Nat→Prop} {ρ:Nat→Option Loc} {s:St} {tmv:Array Value} {w:World}
theorem RepC.hds {v:Value}{c:C}(h:RepC w fz ρ v c):∀ k∈c.hds,∃ l,ρ k=some l:=by
 intro k hk
 cases h with
 | frz hq=>cases hq<;>simp[C.hds] at hk
 | nil h e=>simp[C.hds] at hk; subst hk; exact⟨_,e⟩
 | ref h off len b base cap sz a e hc ha hs=>simp[C.hds] at hk; subst hk; exact⟨_,e⟩
 | ptr h i off b base cap sz e=>simp[C.hds] at hk; subst hk; exact⟨_,e⟩
theorem RepL.hds {vs:List Value}{cs:List C}(h:RepL w fz ρ vs cs):∀ c∈cs,∀ k∈c.hds,∃ l,ρ k=some l:=by
 intro c hc k hk;obtain⟨i,hi⟩:=List.mem_iff_getElem?.1 hc;have hil:=(List.getElem?_eq_some_iff.1 hi).1;have h1:=h.1;exact (h.2 i (vs[i]'(by omega)) c (List.getElem?_eq_getElem _) hi).hds k hk
theorem Rel.closed [Globals] (h:Rel w0 B f0 fz ρ s tmv w):Closed s.tm s.hp where
 tm:=fun t ht k hk=>by
  obtain⟨i,hi⟩:=List.mem_iff_getElem?.1 ht;obtain⟨v,_,hr⟩:=h.tmp i t hi;have:∃ l,ρ k=some l:=by
   cases t with
   | c x=>exact RepC.hds hr k hk
   | agg cs=>
    obtain⟨vs,_,hr⟩:=hr;obtain⟨c,hc,hk⟩:=List.mem_flatMap.1 hk;exact hr.hds c hc k hk
   | tup _=>simp[T.hds1] at hk
   | itr _ _=>simp[T.hds1] at hk
   | junk=>simp[T.hds1] at hk
  obtain⟨l,hl⟩:=this;exact h.dom1 k l hl
 hp:=fun k o ho e he c hc k' hk'=>by
  obtain⟨l,hl,hO⟩:=h.obj k o ho;obtain⟨i,hi⟩:=List.mem_iff_getElem?.1 he;obtain⟨j,hj⟩:=List.mem_iff_getElem?.1 hc
  cases l with
  | nil=>have:=hO.2.2.1; rw[this] at he; cases he
  | «at» b base cap sz=>
   obtain⟨_,_,_,_,cc,fr,_,_,_,hcell⟩:=hO;obtain⟨v,_,hr⟩:=hcell i j e c hi hj;obtain⟨l',hl'⟩:=hr.hds k' hk';exact h.dom1 k' l' hl'
end
section
variable {ty:Tys} {o:Oper} {tm tm':List T} {hp hp':Heap}
theorem deref_congr {t:T}(h:∀ k∈t.hds1,hget hp' k=hget hp k):deref hp' t=deref hp t:=by
 cases t with
 | c x=>
  cases x with
  | ptr k i off=>simp only[deref,h k (by simp[T.hds1,C.hds])]
  | _=>rfl
 | _=>rfl
theorem sliceT_congr {t:TypeId}{x:T}{l h':Nat}(h:∀ k∈x.hds1,hget hp' k=hget hp k):sliceT ty t hp' x l h'=sliceT ty t hp x l h':=by
 cases x with
 | c x=>
  cases x with
  | ref k off len=>simp only[sliceT,h k (by simp[T.hds1,C.hds])]
  | lit v=>cases v<;>first | rfl | (unfold sliceT; split<;>first | rfl | (rename_i h; cases h; rfl) | (split<;>simp_all))
  | _=>rfl
 | _=>rfl
theorem bytesT_congr {x:T}(h:∀ k∈x.hds1,hget hp' k=hget hp k):bytesT hp' x=bytesT hp x:=by
 cases x with
 | c x=>
  cases x with
  | ref k off len=>simp only[bytesT,h k (by simp[T.hds1,C.hds])]
  | lit v=>cases v<;>first | rfl | (unfold bytesT; split<;>first | rfl | (rename_i h; cases h; rfl) | (split<;>simp_all))
  | _=>rfl
 | _=>rfl
theorem lenT_congr {x:T}:lenT hp' x=lenT hp x:=by
 unfold lenT;rfl
theorem boundOf_congr [Globals] {n d:Nat}{x:Option Operand}(h:∀ y∈x,opd tm' y=opd tm y):boundOf tm' n d x=boundOf tm n d x:=by
 cases x with
 | none=>rfl
 | some y=>simp only[boundOf,h y rfl]
theorem evP_congr [Globals] (h1:∀ x∈o.op.operands.toList,opd tm' x=opd tm x)(h2:∀ x∈o.op.operands.toList,∀ k∈(opd tm x).hds1,hget hp' k=hget hp k):evP ty o tm' hp'=evP ty o tm hp:=by
 unfold evP
 cases ho:o.op with
 | move x=>simp only[h1 x (by simp[ho,Op.operands])]
 | assign x=>simp only[h1 x (by simp[ho,Op.operands])]
 | alloc e=>rfl
 | box e x=>simp only[h1 x (by simp[ho,Op.operands])]
 | build t parts=>
  have:(parts.toList.map fun p=>(p.1,opd tm' p.2))=parts.toList.map fun p=>(p.1,opd tm p.2):=List.map_congr_left fun p hp=>by rw[h1 p.2 (by rw[ho]; simp only[Op.operands,List.toList_toArray]; exact List.mem_map.2 ⟨p,hp,rfl⟩)]
  simp only[this]
 | buildSlice t n parts=>
  have:(parts.toList.map fun p=>(p.1,opd tm' p.2))=parts.toList.map fun p=>(p.1,opd tm p.2):=List.map_congr_left fun p hp=>by rw[h1 p.2 (by rw[ho]; simp only[Op.operands,List.toList_toArray]; exact List.mem_map.2 ⟨p,hp,rfl⟩)]
  simp only[this]
 | pick c x y=>simp only[h1 c (by simp[ho,Op.operands]),h1 x (by simp[ho,Op.operands]),h1 y (by simp[ho,Op.operands])]
 | makeSlice t l c=>simp only[h1 l (by simp[ho,Op.operands]),h1 c (by simp[ho,Op.operands])]
 | load t x=>simp only[h1 x (by simp[ho,Op.operands]),deref_congr (h2 x (by simp[ho,Op.operands]))]
 | nilCheck x=>simp only[h1 x (by simp[ho,Op.operands])]
 | binOp op t x y u=>simp only[h1 x (by simp[ho,Op.operands]),h1 y (by simp[ho,Op.operands])]
 | unOp op t x=>simp only[h1 x (by simp[ho,Op.operands])]
 | convert a b x=>simp only[h1 x (by simp[ho,Op.operands]),bytesT_congr (h2 x (by simp[ho,Op.operands]))]
 | makeFunc fn first caps=>
  have:∀ l:List Operand,(∀ x∈l,x∈caps.toList)→(l.mapM fun x=>capC (opd tm' x))=l.mapM fun x=>capC (opd tm x):=by
   intro l hl
   induction l with
   | nil=>rfl
   | cons x l ih=>rw[List.mapM_cons,List.mapM_cons,ih (fun y hy=>hl y (List.mem_cons_of_mem _ hy)),h1 x (by rw[ho]; simp only[Op.operands,Array.toList_append]; exact List.mem_append_right _ (hl x List.mem_cons_self))]
  cases fn<;>first | rfl | simp only[this _ (fun _ h=>h)]
 | makeInterface t x=>simp only[h1 x (by simp[ho,Op.operands])]
 | fieldAddr t x f=>simp only[h1 x (by simp[ho,Op.operands])]
 | field t x f=>simp only[h1 x (by simp[ho,Op.operands])]
 | indexAddr t x ix=>
  simp only[h1 x (by simp[ho,Op.operands]),h1 ix (by simp[ho,Op.operands])]
  split
  ·split
   ·rfl
   ·rename_i k off len e z hx he;have:=h2 x (by simp[ho,Op.operands]) k (by rw[hx]; simp[T.hds1,C.hds]);simp only[this]
   ·rfl
  ·rfl
 | index t x ix=>simp only[h1 x (by simp[ho,Op.operands]),h1 ix (by simp[ho,Op.operands])]
 | slice t x lo hi mx=>
  cases mx with
  | some m=>rfl
  | none=>
   have hlo:∀ n d,boundOf tm' n d lo=boundOf tm n d lo:=fun n d=>boundOf_congr (fun y hy=>h1 y (by rw[ho]; have:lo=some y:=hy; simp[Op.operands,this]));have hhi:∀ n d,boundOf tm' n d hi=boundOf tm n d hi:=fun n d=>boundOf_congr (fun y hy=>h1 y (by rw[ho]; have:hi=some y:=hy; simp[Op.operands,this]));simp only[h1 x (by simp[ho,Op.operands]),lenT_congr (hp':=hp') (hp:=hp),hlo,hhi,sliceT_congr (h2 x (by simp[ho,Op.operands]))]
 | extract x i=>simp only[h1 x (by simp[ho,Op.operands])]
 | call c=>
  have:c.args.toList.map (opd tm')=c.args.toList.map (opd tm):=List.map_congr_left fun x hx=>h1 x (by rw[ho]; simp only[Op.operands,Call.operands,Array.toList_append]; exact List.mem_append_right _ hx);simp only[this]
  cases hc:c.callee with
  | value x=>simp only[h1 x (by rw[ho]; simp[Op.operands,Call.operands,hc])]
  | invoke _ _=>rfl
  | builtin b=>cases b<;>rfl
 | _=>rfl
end
section
variable {hp hp':Heap}
theorem dataC_congr (hc:∀ k o,hget hp k=some o→∀ e∈o.es,∀ c∈e,∀ k'∈C.hds c,∃ o',hget hp k'=some o')(hx:Ext hp hp'):∀ (n:Nat) (c:C),(∀ k∈c.hds,∃ o,hget hp k=some o)→dataC hp' n c=dataC hp n c∧hsC hp' n c=hsC hp n c
 | 0,c,h=>by cases c<;>exact⟨rfl,rfl⟩
 | n+1,c,h=>by
  cases c with
  | ref k off len=>
   obtain⟨o,ho⟩:=h k (by simp[C.hds]);have ho':=hx k o ho;have ih:∀ e∈o.es,∀ c∈e,dataC hp' n c=dataC hp n c∧hsC hp' n c=hsC hp n c:=fun e he c hcc=>dataC_congr hc hx n c (hc k o ho e he c hcc);simp only[dataC,hsC,ho,ho'];refine⟨?_,?_⟩
   ·have:(((o.es.drop off).take len).mapM fun e=>e.mapM (dataC hp' n))=((o.es.drop off).take len).mapM fun e=>e.mapM (dataC hp n):=by
     have gen:∀ l:List (List C),(∀ e∈l,e∈o.es)→(l.mapM fun e=>e.mapM (dataC hp' n))=l.mapM fun e=>e.mapM (dataC hp n):=by
      intro l hl
      induction l with
      | nil=>rfl
      | cons e l ihl=>
       have h1:e.mapM (dataC hp' n)=e.mapM (dataC hp n):=by
        have gen2:∀ m:List C,(∀ c∈m,c∈e)→m.mapM (dataC hp' n)=m.mapM (dataC hp n):=by
         intro m hm
         induction m with
         | nil=>rfl
         | cons c m ihm=>rw[List.mapM_cons,List.mapM_cons,(ih e (hl e List.mem_cons_self) c (hm c List.mem_cons_self)).1,ihm (fun c' h'=>hm c' (List.mem_cons_of_mem _ h'))]
        exact gen2 e (fun _ h=>h)
       rw[List.mapM_cons,List.mapM_cons,h1,ihl (fun e' h'=>hl e' (List.mem_cons_of_mem _ h'))]
     exact gen _ (fun e he=>List.mem_of_mem_drop (List.mem_of_mem_take he))
    rw[this]
   ·congr 1
    split
    ·rfl
    ·have gen:∀ l:List (List C),(∀ e∈l,e∈o.es)→(l.flatMap fun e=>e.flatMap (hsC hp' n))=l.flatMap fun e=>e.flatMap (hsC hp n):=by
      intro l hl
      induction l with
      | nil=>rfl
      | cons e l ihl=>
       have h1:e.flatMap (hsC hp' n)=e.flatMap (hsC hp n):=by
        have gen2:∀ m:List C,(∀ c∈m,c∈e)→m.flatMap (hsC hp' n)=m.flatMap (hsC hp n):=by
         intro m hm
         induction m with
         | nil=>rfl
         | cons c m ihm=>rw[List.flatMap_cons,List.flatMap_cons,(ih e (hl e List.mem_cons_self) c (hm c List.mem_cons_self)).2,ihm (fun c' h'=>hm c' (List.mem_cons_of_mem _ h'))]
        exact gen2 e (fun _ h=>h)
       rw[List.flatMap_cons,List.flatMap_cons,h1,ihl (fun e' h'=>hl e' (List.mem_cons_of_mem _ h'))]
     exact gen _ (fun _ h=>h)
  | _=>exact⟨rfl,rfl⟩
theorem dataT_congr (hc:∀ k o,hget hp k=some o→∀ e∈o.es,∀ c∈e,∀ k'∈C.hds c,∃ o',hget hp k'=some o')(hx:Ext hp hp')(t:T)(h:∀ k∈t.hds1,∃ o,hget hp k=some o):dataT hp' t=dataT hp t∧hsT hp' t=hsT hp t:=by
 cases t with
 | c x=>exact⟨by simp only[dataT,(dataC_congr hc hx 3 x h).1],(dataC_congr hc hx 3 x h).2⟩
 | agg cs=>
  have gen:∀ m:List C,(∀ c∈m,∀ k∈c.hds,∃ o,hget hp k=some o)→m.mapM (dataC hp' 3)=m.mapM (dataC hp 3)∧m.flatMap (hsC hp' 3)=m.flatMap (hsC hp 3):=by
   intro m hm
   induction m with
   | nil=>exact⟨rfl,rfl⟩
   | cons c m ihm=>
    obtain⟨h1,h2⟩:=dataC_congr hc hx 3 c (hm c List.mem_cons_self);obtain⟨h3,h4⟩:=ihm (fun c' h'=>hm c' (List.mem_cons_of_mem _ h'));exact⟨by rw[List.mapM_cons,List.mapM_cons,h1,h3],by rw[List.flatMap_cons,List.flatMap_cons,h2,h4]⟩
  obtain⟨h1,h2⟩:=gen cs (fun c hcc k hk=>h k (List.mem_flatMap.2 ⟨c,hcc,hk⟩));exact⟨by simp only[dataT,h1],h2⟩
 | _=>exact⟨rfl,rfl⟩
end
structure Eff where
 t:T
 news:List (Nat × Ob)
 frs:List Nat
def numbered (d:Nat):Nat→List Ob→List (Nat × Ob)
 | _,[]=>[]
 | i,o::os=>(d+10000*i,o)::numbered d (i+1) os
def puts (hp:Heap):List (Nat × Ob)→Heap
 | []=>hp
 | (k,o)::l=>puts (hput hp k o) l
def freshAll (hp:Heap):List (Nat × Ob)→Bool
 | []=>true
 | (k,o)::l=>(hget hp k).isNone&&freshAll (hput hp k o) l
def isFn [Globals] (o:Oper)(tm:List T):Option (Option (FuncId × List C)):=match o.op with
 | .call c=>match c.callee with
  | .value x=>match fnOf (opd tm x) with
   | none=>some none
   | some (f,caps)=>if Globals.ix f then none else some (some (f,caps))
  | _=>none
 | _=>none
def callArgs (o:Oper):List Operand:=match o.op with
 | .call c=>c.args.toList
 | _=>[]
def classC [Globals] (o:Oper):Bool:=match o.op with
 | .store _ _ _=>false
 | .range _ _=>false
 | .next _ _=>false
 | .makeFunc _ _ caps=>caps.isEmpty
 | .convert a b _=>!(a==b)
 | .call c=>match c.callee with
  | .builtin .append=>false
  | _=>(lendOf c).isNone
 | _=>true
def eff [Globals] (call:CallF)(ty:Tys)(ops:Array Oper)(o:Oper)(tm:List T)(hp:Heap):Option Eff:=
 match guardOf ops tm o with
 | none=>none
 | some false=>some ⟨.tup [],[],[]⟩
 | some true=>match isFn o tm with
  | some none=>none
  | some (some (f,caps))=>match ((callArgs o).map (opd tm)).mapM (dataT hp) with
   | none=>none
   | some args=>match call f (wkArgs ty (callTys o) args++caps.map .c),o.dst with
    | some r,some d=>some ⟨r.1.shift fun i=>d+10000*i,numbered d 0 r.2,if r.2.isEmpty&&r.1.flat then [] else (((callArgs o).map (opd tm)).flatMap (hsT hp)).filter fun h=>(hget hp h).isSome⟩
    | _,_=>none
  | none=>match evP ty o tm hp,o.dst with
   | some (t,none),_=>some ⟨t,[],[]⟩
   | some (t,some ob),some d=>some ⟨t,[(d,ob)],[]⟩
   | _,_=>none
def app (s:St)(dst:Option Nat)(e:Eff):Option St:=if freshAll s.hp e.news then some { tm:=(putT s dst e.t).tm,hp:=puts s.hp e.news,fr:=fputs s.fr e.frs } else none
def step [Globals] (call:CallF)(ty:Tys)(ops:Array Oper)(o:Oper)(s:St):Option St:=
 match guardOf ops s.tm o with
 | none=>none
 | some false=>some (putT s o.dst (.tup []))
 | some true=>evOp call ty o s
theorem evOps_step [Globals] {call:CallF}{ty:Tys}{ops:Array Oper}{o:Oper}{l:List Oper}{s:St}:evOps call ty ops (o::l) s=(step call ty ops o s).bind (evOps call ty ops l):=by
 simp only[evOps,step]
 cases hg:guardOf ops s.tm o with
 | none=>rfl
 | some b=>
  cases b with
  | false=>rfl
  | true=>
   simp only
   cases evOp call ty o s with
   | none=>rfl
   | some s1=>rfl
theorem addObs_puts {d:Nat}:∀ {os:List Ob} {i:Nat} {hp:Heap},addObs hp d i os=if freshAll hp (numbered d i os) then some (puts hp (numbered d i os)) else none
 | [],i,hp=>by simp[addObs,freshAll,numbered,puts]
 | o::os,i,hp=>by
  simp only[addObs,freshAll,numbered,puts]
  cases h:hget hp (d+10000*i) with
  | none=>simp only[Option.isNone_none,Bool.true_and]; exact addObs_puts
  | some _=>simp
theorem step_eff [Globals] {call:CallF}{ty:Tys}{ops:Array Oper}{o:Oper}{s:St}(hc:classC o=true):step call ty ops o s=(eff call ty ops o s.tm s.hp).bind (app s o.dst):=by
 unfold step eff
 cases hg:guardOf ops s.tm o with
 | none=>rfl
 | some b=>
  cases b with
  | false=>
   simp only[Option.bind_some,app,freshAll,if_true,puts,fputs];unfold putT
   cases o.dst<;>rfl
  | true=>
   have viaP:(evP ty o s.tm s.hp).bind (putP s o.dst)=(match evP ty o s.tm s.hp,o.dst with
     | some (t,none),_=>some (⟨t,[],[]⟩:Eff)
     | some (t,some ob),some d=>some ⟨t,[(d,ob)],[]⟩
     | _,_=>none).bind (app s o.dst):=by
    cases he:evP ty o s.tm s.hp with
    | none=>simp
    | some r=>
     obtain⟨t,oo⟩:=r
     cases oo with
     | none=>
      simp only[Option.bind_some,app,freshAll,if_true,puts,fputs,putP,putT]
      cases o.dst<;>rfl
     | some ob=>
      cases hd:o.dst with
      | none=>rfl
      | some d=>
       simp only[Option.bind_some,app,freshAll,puts,fputs,putP,putT]
       split<;>rename_i hh<;>simp[hh]
   simp only;unfold evOp isFn callArgs
   cases ho:o.op with
   | store t x y=>rw[classC,ho] at hc; cases hc
   | range t x=>rw[classC,ho] at hc; cases hc
   | next it b=>rw[classC,ho] at hc; cases hc
   | convert a b x=>
    rw[classC,ho] at hc;have:¬ a=b:=by simpa using hc
    simp only[if_neg this];exact viaP
   | makeFunc fn first caps=>
    rw[classC,ho] at hc;have:caps.toList=[]:=by simpa using hc
    simp only[this,capHs,List.flatMap_nil,freezes];exact viaP
   | call c=>
    have hlc:lendOf c=none:=by
     simp only[classC,ho] at hc
     cases hcal:c.callee with
     | value x=>
      simp only[hcal] at hc;simpa using hc
     | invoke _ _=>simp[lendOf,hcal]
     | builtin b=>simp[lendOf,hcal]
    simp only[hlc]
    cases hcal:c.callee with
    | value x=>
     simp only
     cases hf:fnOf (opd s.tm x) with
     | none=>rfl
     | some p=>
      obtain⟨f,caps⟩:=p;simp only
      by_cases hi:Globals.ix f=true
      ·simp only[if_pos hi];exact viaP
      ·simp only[if_neg hi]
       cases hm:(c.args.toList.map (opd s.tm)).mapM (dataT s.hp) with
       | none=>rfl
       | some args=>
        simp only
        cases hr:call f (wkArgs ty (callTys o) args++caps.map .c) with
        | none=>rfl
        | some r=>
         cases hd:o.dst with
         | none=>rfl
         | some d=>
          simp only[takeIn,addObs_puts,Option.bind_some,app,putT]
          split
          ·rename_i hp hif
           split at hif
           ·rename_i hfr;injection hif with hif;subst hif;simp only[hfr,if_true];congr 1;congr 1
            split<;>rfl
           ·cases hif
          ·rename_i hif
           split at hif
           ·cases hif
           ·rename_i hfr;simp[hfr]
    | invoke _ _=>exact viaP
    | builtin b=>
     cases b with
     | append=>rw[classC,ho] at hc; simp[hcal] at hc
     | _=>exact viaP
   | _=>exact viaP
end Go.Vabs

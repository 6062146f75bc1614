/- A library: an append beside operations that don't know of its block. No condition. -/
import Derived.Test.YtadllpehekphmaaDoorVS
set_option linter.unusedSimpArgs false
set_option linter.unusedVariables false
namespace Go.Vabs
open Go.RowKit
theorem C.hds_has {h:Nat}{c:C}(hc:h∉c.hds):c.has h=false:=by
 cases c<;>simp_all [C.hds,C.has]
 all_goals exact fun e=>hc e.symm
theorem C.kill_id {h:Nat}{c:C}(hc:h∉c.hds):c.kill h=c:=by simp[C.kill,C.hds_has hc]
theorem C.frz_id {h:Nat}{o:Ob}{c:C}(hc:h∉c.hds):c.frz h o=c:=by
 cases c with
 | ref k off len=>
  simp only[C.frz];rw[if_neg (fun e=>hc (by subst e; simp[C.hds]))]
 | ptr k i off=>
  simp only[C.frz];rw[if_neg (fun e=>hc (by subst e; simp[C.hds]))]
 | _=>rfl
theorem map_id_of {α:Type}{f:α→α}{l:List α}(h:∀ x∈l,f x=x):l.map f=l:=by
 induction l with
 | nil=>rfl
 | cons a l ih=>rw[List.map_cons,h a List.mem_cons_self,ih (fun x hx=>h x (List.mem_cons_of_mem _ hx))]
theorem T.kill1_id {h:Nat}{t:T}(ht:h∉t.hds1)(hn:(∀ ts,t≠.tup ts)∧t.noI=t):t.kill1 h=t:=by
 cases t with
 | c x=>simp only[T.kill1,C.kill_id (show h∉x.hds from ht)]
 | agg cs=>simp only[T.kill1]; rw[map_id_of (fun c hc=>C.kill_id (fun hk=>ht (List.mem_flatMap.2 ⟨c,hc,hk⟩)))]
 | tup ts=>exact absurd rfl (hn.1 ts)
 | itr _ _=>cases hn.2
 | junk=>rfl
theorem T.frz1_id {h:Nat}{o:Ob}{t:T}(ht:h∉t.hds1)(hn:(∀ ts,t≠.tup ts)∧t.noI=t):t.frz1 h o=t:=by
 cases t with
 | c x=>simp only[T.frz1,C.frz_id (show h∉x.hds from ht)]
 | agg cs=>simp only[T.frz1]; rw[map_id_of (fun c hc=>C.frz_id (fun hk=>ht (List.mem_flatMap.2 ⟨c,hc,hk⟩)))]
 | tup ts=>exact absurd rfl (hn.1 ts)
 | itr _ _=>cases hn.2
 | junk=>rfl
def T.flatTup:T→Prop
 | .tup ts=>∀ t∈ts,(∀ us,t≠.tup us)∧t.noI=t
 | _=>True
theorem T.kill_id {h:Nat}{t:T}(ht:h∉t.hds)(hf:t.flatTup):t.kill h=t:=by
 cases t with
 | c x=>simp only[T.kill,C.kill_id (show h∉x.hds from ht)]
 | agg cs=>simp only[T.kill]; rw[map_id_of (fun c hc=>C.kill_id (fun hk=>ht (List.mem_flatMap.2 ⟨c,hc,hk⟩)))]
 | tup ts=>
  simp only[T.kill];rw[map_id_of (fun t htt=>T.kill1_id (fun hk=>ht (List.mem_flatMap.2 ⟨t,htt,hk⟩)) (hf t htt))]
 | itr _ _=>rfl
 | junk=>rfl
theorem T.frz_id {h:Nat}{o:Ob}{t:T}(ht:h∉t.hds)(hf:t.flatTup):t.frz h o=t:=by
 cases t with
 | c x=>exact T.frz1_id (t:=.c x) ht ⟨by simp,rfl⟩
 | agg cs=>exact T.frz1_id (t:=.agg cs) ht ⟨by simp,rfl⟩
 | tup ts=>
  simp only[T.frz];rw[map_id_of (fun t htt=>T.frz1_id (fun hk=>ht (List.mem_flatMap.2 ⟨t,htt,hk⟩)) (hf t htt))]
 | itr _ _=>rfl
 | junk=>rfl
def Ob.no (h:Nat)(o:Ob):Prop:=∀ e∈o.es,∀ c∈e,h∉c.hds
theorem Ob.killF_id {h:Nat}{o:Ob}(ho:o.no h):o.killF h=o:=by
 unfold Ob.killF
 split
 ·rfl
 ·unfold Ob.kill;rw[map_id_of (fun e he=>map_id_of (fun c hc=>C.kill_id (ho e he c hc)))]
theorem Ob.frz_id {h:Nat}{x o:Ob}(ho:x.no h):x.frz h o=x:=by
 unfold Ob.frz
 split
 ·rfl
 ·rw[map_id_of (fun e he=>map_id_of (fun c hc=>C.frz_id (ho e he c hc)))]
section
variable {w0:World} {B:Bs} {f0 fz:Nat→Prop} {ρ:Nat→Option Loc} {s:St} {tmv:Array Value} {w:World}
theorem Rep1.hds {t:T}{v:Value}(h:Rep1 w fz ρ v t):(∀ k∈t.hds1,∃ l,ρ k=some l)∧(∀ us,t≠.tup us)∧t.noI=t:=by
 cases t with
 | c x=>exact⟨fun k hk=>RepC.hds h k hk,by simp,rfl⟩
 | agg cs=>
  obtain⟨vs,_,hr⟩:=h;refine⟨fun k hk=>?_,by simp,rfl⟩;obtain⟨c,hc,hk⟩:=List.mem_flatMap.1 hk;exact hr.hds c hc k hk
 | tup _=>exact h.elim
 | itr _ _=>exact h.elim
 | junk=>exact⟨by simp[T.hds1],by simp,rfl⟩
theorem RepT.hds {t:T}{v:Value}(h:RepT w fz ρ v t):(∀ k∈t.hds,∃ l,ρ k=some l)∧t.flatTup:=by
 cases t with
 | c x=>exact⟨fun k hk=>RepC.hds h k hk,trivial⟩
 | agg cs=>
  obtain⟨vs,_,hr⟩:=h;refine⟨fun k hk=>?_,trivial⟩;obtain⟨c,hc,hk⟩:=List.mem_flatMap.1 hk;exact hr.hds c hc k hk
 | tup ts=>
  obtain⟨vs,_,hs,hr⟩:=h;refine⟨fun k hk=>?_,fun t ht=>?_⟩
  ·obtain⟨t,ht,hk⟩:=List.mem_flatMap.1 hk;obtain⟨i,hi⟩:=List.mem_iff_getElem?.1 ht;obtain⟨v',_,h1⟩:=hr i t hi;exact h1.hds.1 k hk
  ·obtain⟨i,hi⟩:=List.mem_iff_getElem?.1 ht;obtain⟨v',_,h1⟩:=hr i t hi;exact h1.hds.2
 | itr _ _=>exact⟨by simp[T.hds,T.hds1],trivial⟩
 | junk=>exact⟨by simp[T.hds,T.hds1],trivial⟩
theorem Good.dom [Globals] (hg:Good w0 B f0 s):∀ t∈s.tm,(∀ k∈t.hds,∃ o,hget s.hp k=some o)∧t.flatTup:=by
 obtain⟨fz,ρ,tm,w,hrel⟩:=hg;intro t ht;obtain⟨i,hi⟩:=List.mem_iff_getElem?.1 ht;obtain⟨v,_,hr⟩:=hrel.tmp i t hi;refine⟨fun k hk=>?_,hr.hds.2⟩;obtain⟨l,hl⟩:=hr.hds.1 k hk;exact hrel.dom1 k l hl
theorem Good.closed [Globals] (hg:Good w0 B f0 s):Closed s.tm s.hp:=by
 obtain⟨fz,ρ,tm,w,hrel⟩:=hg;exact hrel.closed
def Bs.un (B:Bs):Bs:=⟨B.n,B.L,fun _=>none⟩
theorem Good.un [Globals] (hg:Good w0 B f0 s):Good w0 B.un f0 s:=by
 obtain⟨fz,ρ,tm,w,h⟩:=hg;exact⟨fz,ρ,tm,w,{ size:=h.size,tmp:=h.tmp,dom1:=h.dom1,obj:=h.obj,inj:=h.inj,own:=h.own,fzl:=h.fzl,fz0:=h.fz0,fz1:=h.fz1,below:=⟨h.below.os,h.below.tape,h.below.output,h.below.size,h.below.block⟩,frd:=h.frd,glz:=h.glz,itr:=h.itr,boxes:=fun k l hk=>by cases hk }⟩
theorem Good.evict0 [Globals] (hg:Good w0 B f0 s)(h:Nat):Good w0 B.un f0 (evict0 h s):=by
 obtain⟨fz,ρ,tm,w,hrel⟩:=hg.un;obtain⟨fz',ρ',hr,_⟩:=evict0_sound h (fun l hl=>by cases hl) hrel;exact⟨fz',ρ',tm,w,hr⟩
end
section
variable {P:Program} {ty:Tys} {call:CallF} {w0:World} {B:Bs} {f0:Nat→Prop} {ops:Array Oper} {y:Oper} {s s1:St} {h:Nat} {o0:Ob}
structure Apart (ops:Array Oper) (y:Oper) (h:Nat) (s:St):Prop where
 rd:∀ r∈readsOf ops y,∀ t,s.tm[r]?=some t→h∉t.hds
 hp:∀ k o,hget s.hp k=some o→o.no h
theorem evict_get (hap:∀ k o,hget s.hp k=some o→o.no h)(hh:hget s.hp h=some o0)(k:Nat):hget (evict0 h s).hp k=if k=h then none else hget s.hp k:=by
 have via:∀ f:Ob→Ob,(∀ o,o.no h→f o=o)→hget ((hdel s.hp h).map fun p=>(p.1,f p.2)) k=if k=h then none else hget s.hp k:=fun f hf=>by
  rw[hget_map f]
  split
  ·rename_i e;rw[e,hget_hdel];rfl
  ·rename_i e;rw[hget_hdel_ne _ _ _ e]
   cases hk:hget s.hp k with
   | none=>rfl
   | some o=>simp only[Option.map_some,hf o (hap k o hk)]
 unfold evict0;rw[hh];simp only
 split
 ·exact via (fun x=>x.frz h o0) (fun o ho=>Ob.frz_id ho)
 ·exact via (fun x=>x.killF h) (fun o ho=>Ob.killF_id ho)
theorem evict_len:(evict0 h s).tm.length=s.tm.length:=by
 unfold evict0
 split
 ·rfl
 ·split<;>simp
theorem evict_rd [Globals] (hg:Good w0 B f0 s)(hap:Apart ops y h s)(hh:hget s.hp h=some o0):∀ r∈readsOf ops y,(evict0 h s).tm[r]?=s.tm[r]?:=by
 intro r hr;unfold evict0;rw[hh];simp only
 split
 ·rw[List.getElem?_map]
  cases ht:s.tm[r]? with
  | none=>rfl
  | some t=>simp only[Option.map_some,T.frz_id (hap.rd r hr t ht) (hg.dom t (List.mem_of_getElem? ht)).2]
 ·rw[List.getElem?_map]
  cases ht:s.tm[r]? with
  | none=>rfl
  | some t=>simp only[Option.map_some,T.kill_id (hap.rd r hr t ht) (hg.dom t (List.mem_of_getElem? ht)).2]
theorem eff_apart [Globals] (hg:Good w0 B f0 s)(hap:Apart ops y h s)(hh:hget s.hp h=some o0)
  (htm:∀ r∈readsOf ops y,s1.tm[r]?=s.tm[r]?) (hhp:∀ k,k≠h→hget s1.hp k=hget s.hp k):eff call ty ops y s1.tm s1.hp=eff call ty ops y (evict0 h s).tm (evict0 h s).hp:=by
 refine eff_congr (hg.evict0 h).closed (fun k o hk=>?_) (fun r hr=>?_)
 ·rw[evict_get hap.hp hh] at hk
  split at hk
  ·cases hk
  ·rename_i e;rw[hhp k e,hk]
 ·rw[htm r hr,evict_rd hg hap hh r hr]
theorem freshAll_iff:∀ (l:List (Nat × Ob)) (hp:Heap),freshAll hp l=true↔(∀ p∈l,hget hp p.1=none)∧(l.map Prod.fst).Nodup
 | [],hp=>by simp[freshAll]
 | (k,o)::l,hp=>by
  simp only[freshAll,Bool.and_eq_true,Option.isNone_iff_eq_none];rw[freshAll_iff l (hput hp k o)];simp only[List.mem_cons,forall_eq_or_imp,List.map_cons,List.nodup_cons]
  constructor
  ·rintro⟨h1,h2,h3⟩;refine⟨⟨h1,fun p hp'=>?_⟩,fun hk=>?_,h3⟩
   ·have:=h2 p hp'
    by_cases e:p.1=k
    ·rw[e,hget_hput] at this; cases this
    ·rwa [hgN _ _ _ _ e] at this
   ·obtain⟨p,hp',e⟩:=List.mem_map.1 hk;have:=h2 p hp';rw[e,hget_hput] at this
    cases this
  ·rintro⟨⟨h1,h2⟩,h3,h4⟩;refine⟨h1,fun p hp'=>?_,h4⟩;have e:p.1≠k:=fun e=>h3 (List.mem_map.2 ⟨p,hp',e⟩);rw[hgN _ _ _ _ e];exact h2 p hp'
theorem puts_dom:∀ (l:List (Nat × Ob)) (hp:Heap) (k:Nat) (o:Ob),hget (puts hp l) k=some o→k∈l.map Prod.fst∨hget hp k=some o
 | [],_,_,_,h=>.inr h
 | (k',o')::l,hp,k,o,h=>by
  simp only[puts] at h
  rcases puts_dom l _ k o h with h | h
  ·exact .inl (List.mem_cons_of_mem _ h)
  ·by_cases e:k=k'
   ·exact .inl (by simp[e])
   ·rw[hgN _ _ _ _ e] at h;exact .inr h
theorem puts_mem:∀ (l:List (Nat × Ob)) (hp:Heap),(l.map Prod.fst).Nodup→∀ p∈l,hget (puts hp l) p.1=some p.2
 | [],_,_,p,h=>by cases h
 | (k',o')::l,hp,hn,p,h=>by
  simp only[List.map_cons,List.nodup_cons] at hn;simp only[puts]
  rcases List.mem_cons.1 h with rfl | h
  ·rw[puts_get l _ k' (fun q hq e=>hn.1 (List.mem_map.2 ⟨q,hq,e⟩)),hget_hput]
  ·exact puts_mem l _ hn.2 p h
theorem eff_no [Globals] (hty:∀ t y,ty t=some y→Ty.of P t=some y)(hcall:call.ok P)(hB:B.n≤w0.heap.size)(hc:classC y=true)(hg:Good w0 B f0 s)(hap:Apart ops y h s)(hh:hget s.hp h=some o0)
  {e:Eff} (he:eff call ty ops y (evict0 h s).tm (evict0 h s).hp=some e) (hfr:freshAll s.hp e.news=true):
  (∀ d,y.dst=some d→d<s.tm.length→h∉e.t.hds∧e.t.flatTup)∧(∀ p∈e.news,p.1≠h∧p.2.no h)∧h∉e.frs:=by
 have hget':=evict_get hap.hp hh;obtain⟨hn1,hn2⟩:=(freshAll_iff _ _).1 hfr;have hkeys:∀ p∈e.news,p.1≠h:=fun p hp e'=>by
  have:=hn1 p hp;rw[e',hh] at this
  cases this
 have hfr0:freshAll (evict0 h s).hp e.news=true:=(freshAll_iff _ _).2 ⟨fun p hp=>by
  rw[hget']
  split
  ·rfl
  ·exact hn1 p hp,hn2⟩
 have hst:step call ty ops y (evict0 h s)=some { tm:=(putT (evict0 h s) y.dst e.t).tm,hp:=puts (evict0 h s).hp e.news,fr:=fputs (evict0 h s).fr e.frs }:=by
  rw[step_eff hc,he,Option.bind_some];unfold app;rw[if_pos hfr0]
 have hg':=step_good (B:=B.un) hty hcall hB (hg.evict0 h) hst;have hno:hget (puts (evict0 h s).hp e.news) h=none:=by
  cases hk:hget (puts (evict0 h s).hp e.news) h with
  | none=>rfl
  | some o=>
   rcases puts_dom _ _ _ _ hk with hk | hk
   ·obtain⟨p,hp,e'⟩:=List.mem_map.1 hk;exact absurd e' (hkeys p hp)
   ·rw[hget' h,if_pos rfl] at hk
    cases hk
 refine⟨fun d hd hlt=>?_,fun p hp=>⟨hkeys p hp,fun el hel c hcc hk=>?_⟩,?_⟩
 ·have hmem:e.t∈(putT (evict0 h s) y.dst e.t).tm:=by
   unfold putT;rw[hd];simp only;have:d<(evict0 h s).tm.length:=by rw[evict_len]; exact hlt
   exact List.mem_iff_getElem?.2 ⟨d,by rw[List.getElem?_set_self this]⟩
  have:=hg'.dom e.t hmem;refine⟨fun hk=>?_,this.2⟩;obtain⟨o,ho⟩:=this.1 h hk;simp only at ho;rw[hno] at ho
  cases ho
 ·obtain⟨o,ho⟩:=hg'.closed.hp p.1 p.2 (puts_mem _ _ hn2 p hp) el hel c hcc h hk;rw[hno] at ho
  cases ho
 ·intro hk;unfold eff at he;have hz:hget (evict0 h s).hp h=none:=by rw[hget' h,if_pos rfl]
  split at he
  ·cases he
  ·injection he with he; subst he; cases hk
  ·split at he
   ·cases he
   ·split at he
    ·cases he
    ·split at he
     ·injection he with he;subst he;simp only at hk
      split at hk
      ·cases hk
      ·have:=(List.mem_filter.1 hk).2;rw[hz] at this
       cases this
     ·cases he
   ·split at he
    ·injection he with he; subst he; cases hk
    ·injection he with he; subst he; cases hk
    ·cases he
end
end Go.Vabs
namespace Go.Vabs
open Go.RowKit
def effA (ty:Tys)(t u:TypeId)(bT xT:T)(hp:Heap)(fr:List Nat):Option (Nat × T × Ob):=
 match Vabs.elemOf ty t,(ty u).map Ty.k,srcOf hp xT with
 | some (e,sz),some uk,some new=>match ty e with
  | some y=>
   if uk.isInt=false∧(srcSz hp xT).getD sz=sz∧(freeSrc hp xT=true∨new.all (fun e=>e.all C.free)=true)∧y.zero.map List.length=some sz∧0<y.bytes then
    match bT with
    | .c (.ref h off len)=>
     match hget hp h with
     | some o=>
      if o.box=false∧o.elem=e∧o.sz=sz∧o.free=true∧fr.contains h=false∧off+len≤o.es.length∧(len+new.length)*y.bytes≤140737488355328 then
       some (h,.c (.ref h 0 (len+new.length)),⟨false,true,e,sz,(o.es.drop off).take len++new⟩)
      else none
     | none=>none
    | _=>none
   else none
  | none=>none
 | _,_,_=>none
def appA (s:St)(d:Nat)(r:Nat × T × Ob):St:={ tm:=(s.tm.map (T.kill r.1)).set d r.2.1,hp:=hput (s.hp.map fun p=>(p.1,p.2.killF r.1)) r.1 r.2.2,fr:=s.fr }
section
variable {call:CallF} {ty:Tys} {ops:Array Oper} {U:List Nat} {o:Oper} {s:St} {d:Nat} {b x:Operand} {t u:TypeId}
theorem evA_strict0 [Globals] (ho:apArgs o=some (d,b,x,t,u)){h off len:Nat}(hb:opd s.tm b=.c (.ref h off len))(hfs:freeSrc s.hp (opd s.tm x)=true)(hni:notInt ty u=true):evOp call ty o s=(effA ty t u (opd s.tm b) (opd s.tm x) s.hp s.fr).map (appA s d):=by
 unfold apArgs at ho
 split at ho
 ·rename_i c hop
  split at ho
  ·rename_i b x t u d hcal hargs htys hd;simp only[Option.some.injEq,Prod.mk.injEq] at ho;obtain⟨e1,e2,e3,e4,e5⟩:=ho;subst e1 e2 e3 e4 e5;unfold evOp;rw[hop];have hlc:lendOf c=none:=by unfold lendOf; rw[hcal]
   simp only[hlc];rw[hcal];simp only;unfold evA;rw[hargs,htys,hd];simp only[hb,nilLit,Bool.false_eq_true,if_false,hfs,Bool.not_true,loose];unfold evA1
   split
   ·rename_i hk;simp[notInt,hk] at hni
   ·unfold evA2 effA;rw[hb]
    cases e1:elemOf ty t with
    | none=>rfl
    | some p=>
     obtain⟨e,sz⟩:=p
     cases e2:(ty u).map Ty.k with
     | none=>rfl
     | some uk=>
      cases e3:srcOf s.hp (opd s.tm x) with
      | none=>rfl
      | some new=>
       simp only
       cases e4:ty e with
       | none=>rfl
       | some y=>
        simp only
        split
        ·cases e5:hget s.hp h with
         | none=>rfl
         | some o=>
          simp only
          split<;>rfl
        ·rfl
  ·cases ho
 ·cases ho
theorem evA_strict [Globals] (ho:apArgs o=some (d,b,x,t,u))(hc:chkA ty U b x u s=true):evOp call ty o s=(effA ty t u (opd s.tm b) (opd s.tm x) s.hp s.fr).map (appA s d):=by
 unfold chkA at hc
 split at hc
 ·rename_i h off len hb;simp only[Bool.and_eq_true] at hc;exact evA_strict0 ho hb hc.1.2 hc.2
 ·cases hc
theorem chkT_facts [Globals] (hc:chkT ty U b x u s=true):∃ h off len,opd s.tm b=.c (.ref h off len)∧(∀ k,k+400000∈U→h∉(opd s.tm (.tmp k)).hds)∧freeSrc s.hp (opd s.tm x)=true∧notInt ty u=true:=by
 unfold chkT at hc
 split at hc
 ·rename_i h off len hb;simp only[Bool.and_eq_true] at hc;refine⟨h,off,len,hb,fun k hk=>?_,hc.1.2,hc.2⟩;have:=List.all_eq_true.1 hc.1.1 _ hk;simp only[Bool.or_eq_true,decide_eq_true_iff,Nat.add_sub_cancel] at this;have:=this.resolve_left (by omega);simpa using this
 ·cases hc
theorem srcOf_congr {hp hp':Heap}{xT:T}(h:∀ k∈xT.hds1,hget hp' k=hget hp k):srcOf hp' xT=srcOf hp xT∧srcSz hp' xT=srcSz hp xT∧freeSrc hp' xT=freeSrc hp xT:=by
 cases xT with
 | c c=>
  cases c with
  | ref k off len=>
   have:=h k (by simp[T.hds1,C.hds]);simp only[srcOf,srcSz,freeSrc,this,and_self]
  | lit v=>cases v<;>first | exact⟨rfl,rfl,rfl⟩ | (refine⟨?_,?_,rfl⟩<;>(first | (unfold srcOf; split<;>first | rfl | (rename_i h; cases h; rfl) | simp_all) | (unfold srcSz; split<;>first | rfl | (rename_i h; cases h; rfl) | simp_all)))
  | _=>exact⟨rfl,rfl,rfl⟩
 | _=>exact⟨rfl,rfl,rfl⟩
theorem effA_congr {hp hp':Heap}{fr fr':List Nat}{bT xT:T}(h1:∀ k∈xT.hds1,hget hp' k=hget hp k)(h2:∀ k∈bT.hds1,hget hp' k=hget hp k∧fr'.contains k=fr.contains k):effA ty t u bT xT hp' fr'=effA ty t u bT xT hp fr:=by
 obtain⟨e1,e2,e3⟩:=srcOf_congr h1;unfold effA;rw[e1,e2,e3]
 split
 ·split
  ·split
   ·split
    ·rename_i h off len;obtain⟨e4,e5⟩:=h2 h (by simp[T.hds1,C.hds]);rw[e4,e5]
    ·rfl
   ·rfl
  ·rfl
 ·rfl
theorem effA_base {hp:Heap}{fr:List Nat}{bT xT:T}{r:Nat × T × Ob}(h:effA ty t u bT xT hp fr=some r):∃ off len o0,bT=.c (.ref r.1 off len)∧hget hp r.1=some o0∧o0.free=true∧o0.box=false∧r.1∉fr∧(∃ n,r.2.1=.c (.ref r.1 0 n)):=by
 unfold effA at h
 split at h
 ·rename_i e sz uk new e1 e2 e3
  split at h
  ·rename_i y e4
   split at h
   ·rename_i hcnd
    split at h
    ·rename_i hd off len
     split at h
     ·rename_i o0 e5
      split at h
      ·rename_i hc2;injection h with h;subst h;obtain⟨c1,c2,c3,c4,c5,c6,c7⟩:=hc2;refine⟨off,len,o0,rfl,e5,c4,c1,by simpa using c5,⟨_,rfl⟩⟩
      ·cases h
     ·cases h
    ·cases h
   ·cases h
  ·cases h
 ·cases h
end
end Go.Vabs

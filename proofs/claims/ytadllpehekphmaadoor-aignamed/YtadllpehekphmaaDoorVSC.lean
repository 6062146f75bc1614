/- A library: an append and an operation that doesn't know of its block may come up in either order. No condition. -/
import Derived.Test.YtadllpehekphmaaDoorVSA
set_option linter.unusedSimpArgs false
set_option linter.unusedVariables false
namespace Go.Vabs
open Go.RowKit
def indepU [Globals] (ops:Array Oper)(U:List Nat)(x y:Oper):Bool:=!isT U&&((apArgs x).isSome&&x.guard.isNone&&classC y&&dstOk y&&awayFrom ops x y&&awayFrom ops y x&&(readsOf ops y).all fun r=>U.contains r)
theorem mem_hput {l:Heap}{k:Nat}{o:Ob}{p:Nat × Ob}(h:p∈hput l k o):p=(k,o)∨p∈l:=by
 induction l with
 | nil=>simp[hput] at h; exact .inl h
 | cons a l ih=>
  obtain⟨k',o'⟩:=a;simp only[hput] at h
  split at h
  ·rcases List.mem_cons.1 h with h | h
   ·exact .inl h
   ·exact .inr (List.mem_cons_of_mem _ h)
  ·split at h
   ·rcases List.mem_cons.1 h with h | h
    ·exact .inl h
    ·exact .inr h
   ·rcases List.mem_cons.1 h with h | h
    ·exact .inr (h▸List.mem_cons_self)
    ·rcases ih h with h | h
     ·exact .inl h
     ·exact .inr (List.mem_cons_of_mem _ h)
theorem hput_mem {l:Heap}{k:Nat}{o:Ob}{p:Nat × Ob}(h:p∈l)(hn:hget l k=none):p∈hput l k o:=by
 induction l with
 | nil=>cases h
 | cons a l ih=>
  obtain⟨k',o'⟩:=a;simp only[hget] at hn
  split at hn
  ·cases hn
  ·rename_i hne;simp only[hput];rw[if_neg (fun e=>hne e.symm)]
   split
   ·exact List.mem_cons_of_mem _ h
   ·rcases List.mem_cons.1 h with h | h
    ·exact h▸List.mem_cons_self
    ·exact List.mem_cons_of_mem _ (ih h hn)
theorem mem_puts:∀ {l:List (Nat × Ob)} {hp:Heap} {p:Nat × Ob},p∈puts hp l→p∈l∨p∈hp
 | [],_,_,h=>.inr h
 | (k,o)::l,hp,p,h=>by
  simp only[puts] at h
  rcases mem_puts h with h | h
  ·exact .inl (List.mem_cons_of_mem _ h)
  ·rcases mem_hput h with h | h
   ·exact .inl (h▸List.mem_cons_self)
   ·exact .inr h
theorem puts_keep:∀ {l:List (Nat × Ob)} {hp:Heap} {p:Nat × Ob},p∈hp→freshAll hp l=true→p∈puts hp l
 | [],_,_,h,_=>h
 | (k,o)::l,hp,p,h,hf=>by
  simp only[freshAll,Bool.and_eq_true,Option.isNone_iff_eq_none] at hf;exact puts_keep (l:=l) (hp:=hput hp k o) (hput_mem h hf.1) hf.2
theorem hput_map (f:Ob→Ob)(l:Heap)(k:Nat)(o:Ob):(hput l k o).map (fun p=>(p.1,f p.2))=hput (l.map fun p=>(p.1,f p.2)) k (f o):=by
 induction l with
 | nil=>rfl
 | cons a l ih=>
  obtain⟨k',o'⟩:=a;simp only[hput,List.map_cons]
  split
  ·simp
  ·split
   ·simp
   ·simp[ih]
theorem puts_map (f:Ob→Ob):∀ (l:List (Nat × Ob)) (hp:Heap),(∀ p∈l,f p.2=p.2)→(puts hp l).map (fun p=>(p.1,f p.2))=puts (hp.map fun p=>(p.1,f p.2)) l
 | [],_,_=>rfl
 | (k,o)::l,hp,h=>by
  simp only[puts];rw[puts_map f l _ (fun p hp'=>h p (List.mem_cons_of_mem _ hp')),hput_map,h (k,o) List.mem_cons_self]
section
variable {P:Program} {ty:Tys} {call:CallF} {w0:World} {B:Bs} {f0:Nat→Prop} {ops:Array Oper} {U:List Nat} {x y:Oper} {s s1 s2:St} {h:Nat} {o0:Ob}
theorem C.free_hds {c:C}(h:c.free=true):c.hds=[]:=by
 cases c<;>first | rfl | cases h
theorem Good.no [Globals] (hg:Good w0 B f0 s){k:Nat}{o:Ob}(hk:hget s.hp k=some o)(hn:h∉o.hds):o.no h:=by
 obtain⟨fz,ρ,tm,w,hrel⟩:=hg;intro e he c hc hh
 cases hf:o.free with
 | true=>
  obtain⟨l,_,hO⟩:=hrel.obj k o hk;rw[C.free_hds (hO.2.1 hf e he c hc)] at hh
  cases hh
 | false=>
  apply hn;unfold Ob.hds;rw[hf];exact List.mem_flatMap.2 ⟨e,he,List.mem_flatMap.2 ⟨c,hc,hh⟩⟩
theorem chk_apart [Globals] (hg:Good w0 B f0 s){b xx:Operand}{u:TypeId}{off len:Nat}(hb:opd s.tm b=.c (.ref h off len))(hc:chkA ty U b xx u s=true)(hU:∀ r∈readsOf ops y,r∈U):Apart ops y h s:=by
 unfold chkA at hc;rw[hb] at hc;simp only[Bool.and_eq_true] at hc;obtain⟨⟨⟨h1,h2⟩,_⟩,_⟩:=hc;refine⟨fun r hr t ht hk=>?_,fun k o hk=>hg.no hk (fun hh=>?_)⟩
 ·have:=List.all_eq_true.1 h1 r (hU r hr);simp only[opd,ht,Option.getD_some,noI_hds] at this;simp[hk] at this
 ·have:=List.all_eq_true.1 h2 (k,o) (hget_mem hk);simp[hh] at this
theorem app_comm {d:Nat}{r:Nat × T × Ob}{e:Eff}(hyd:∀ d',y.dst=some d'→d'≠d)(hkey:∀ p∈e.news,p.1≠r.1∧p.2.no r.1)(ht:∀ d',y.dst=some d'→d'<s.tm.length→r.1∉e.t.hds∧e.t.flatTup):
  ({ tm:=(putT (appA s d r) y.dst e.t).tm,hp:=puts (appA s d r).hp e.news,fr:=fputs (appA s d r).fr e.frs }:St)=appA { tm:=(putT s y.dst e.t).tm,hp:=puts s.hp e.news,fr:=fputs s.fr e.frs } d r:=by
 unfold appA;congr 1
 ·unfold putT
  cases hd:y.dst with
  | none=>rfl
  | some d'=>
   simp only;rw[List.map_set,List.set_comm _ _ (Ne.symm (hyd d' hd))]
   by_cases hlt:d'<s.tm.length
   ·rw[T.kill_id (ht d' hd hlt).1 (ht d' hd hlt).2]
   ·congr 1;rw[List.set_eq_of_length_le (i:=d') (by simpa using Nat.le_of_not_lt hlt),List.set_eq_of_length_le (i:=d') (by simpa using Nat.le_of_not_lt hlt)]
 ·simp only;rw[puts_map (Ob.killF r.1) e.news s.hp (fun p hp=>Ob.killF_id (hkey p hp).2),← puts_hput _ _ _ _ (fun p hp=>(hkey p hp).1)]
theorem ap_facts {d:Nat}{b xx:Operand}{t u:TypeId}(ho:apArgs x=some (d,b,xx,t,u)):x.dst=some d∧b∈x.op.operands.toList∧xx∈x.op.operands.toList:=by
 have hsub:=callArgs_sub x;unfold apArgs at ho
 split at ho
 ·rename_i c hop
  split at ho
  ·rename_i b x' t u d hcal hargs htys hd;simp only[Option.some.injEq,Prod.mk.injEq] at ho;obtain⟨e1,e2,e3,e4,e5⟩:=ho;subst e1 e2 e3 e4 e5;have hca:callArgs x=[b,x']:=by unfold callArgs; rw[hop]; exact hargs
   exact⟨hd,hsub _ (by rw[hca]; simp),hsub _ (by rw[hca]; simp)⟩
  ·cases ho
 ·cases ho
theorem away_ne {d d':Nat}(h:awayFrom ops x y=true)(hx:x.dst=some d)(hy:y.dst=some d'):d≠d':=by
 unfold awayFrom at h;rw[hx] at h;simp only[Bool.and_eq_true,Bool.not_eq_true',beq_eq_false_iff_ne] at h;exact fun e=>h.2 (by rw[hy,e])
theorem away_rd {d:Nat}(h:awayFrom ops x y=true)(hx:x.dst=some d):∀ i∈readsOf ops y,i≠d:=by
 unfold awayFrom at h;rw[hx] at h;simp only[Bool.and_eq_true,Bool.not_eq_true',beq_eq_false_iff_ne] at h;intro i hi e;subst e;have:=h.1;simp at this;exact this hi
theorem putT_get {t:T}{dst:Option Nat}{i:Nat}(h:∀ d,dst=some d→i≠d):(putT s dst t).tm[i]?=s.tm[i]?:=by
 unfold putT
 cases dst with
 | none=>rfl
 | some d=>simp only; rw[List.getElem?_set_ne (Ne.symm (h d rfl))]
theorem step_none [Globals] (h:x.guard=none):step call ty ops x s=evOp call ty x s:=by
 unfold step guardOf;rw[h]
theorem appA_get {d:Nat}{r:Nat × T × Ob}(hap:∀ k o,hget s.hp k=some o→o.no r.1)(k:Nat)(hk:k≠r.1):hget (appA s d r).hp k=hget s.hp k:=by
 unfold appA;simp only;rw[hgN _ _ _ _ hk,hget_map (Ob.killF r.1)]
 cases h:hget s.hp k with
 | none=>rfl
 | some o=>simp only[Option.map_some,Ob.killF_id (hap k o h)]
theorem appA_rd [Globals] {d:Nat}{r:Nat × T × Ob}(hg:Good w0 B f0 s)(hap:Apart ops y r.1 s)(hd:∀ i∈readsOf ops y,i≠d):∀ i∈readsOf ops y,(appA s d r).tm[i]?=s.tm[i]?:=by
 intro i hi;unfold appA;simp only;rw[List.getElem?_set_ne (Ne.symm (hd i hi)),List.getElem?_map]
 cases ht:s.tm[i]? with
 | none=>rfl
 | some t=>simp only[Option.map_some,T.kill_id (hap.rd i hi t ht) (hg.dom t (List.mem_of_getElem? ht)).2]
theorem srcs_known [Globals] (hc:Closed s.tm s.hp){news:List (Nat × Ob)}(hf:freshAll s.hp news=true)(z:Operand):∀ k∈(opd s.tm z).hds1,hget (puts s.hp news) k=hget s.hp k:=by
 intro k hk;obtain⟨o,ho⟩:=opd_dom hc z k hk;refine puts_get _ _ _ (fun p hp e=>?_);have:=((freshAll_iff _ _).1 hf).1 p hp;rw[e,ho] at this
 cases this
theorem swapA [Globals] (hty:∀ t y,ty t=some y→Ty.of P t=some y)(hcall:call.ok P)(hB:B.n≤w0.heap.size)(hg:Good w0 B f0 s)(hi:indepU ops U x y=true)(hck:chk ty U x s=true)(h1:step call ty ops x s=some s1)(h2:step call ty ops y s1=some s2):
  ∃ s1',step call ty ops y s=some s1'∧chk ty U x s1'=true∧step call ty ops x s1'=some s2:=by
 simp only[indepU,Bool.and_eq_true,Option.isNone_iff_eq_none,Bool.not_eq_true'] at hi;obtain⟨hT,⟨⟨⟨⟨⟨hax,hgx⟩,hcy⟩,hdy⟩,haxy⟩,hayx⟩,hU⟩:=hi;obtain⟨⟨d,b,xx,t,u⟩,hap⟩:=Option.isSome_iff_exists.1 hax;obtain⟨hxd,hbm,hxm⟩:=ap_facts hap;have hck':chkA ty U b xx u s=true:=by unfold chk at hck; rw[hap] at hck; simpa only[hT,Bool.false_eq_true,if_false] using hck
 rw[step_none hgx,evA_strict hap hck',Option.map_eq_some_iff] at h1;obtain⟨r,hr,rfl⟩:=h1;obtain⟨off,len,o0,hb,hh,hf,hbx,hnfr,_⟩:=effA_base hr;have hUm:∀ i∈readsOf ops y,i∈U:=fun i hi=>by simpa using List.all_eq_true.1 hU i hi
 have hA:Apart ops y r.1 s:=chk_apart hg hb hck' hUm;rw[step_eff hcy,Option.bind_eq_some_iff] at h2;obtain⟨e,he,ha⟩:=h2;unfold app at ha
 split at ha
 ·rename_i hfr1;injection ha with ha;subst ha;have he0:eff call ty ops y (evict0 r.1 s).tm (evict0 r.1 s).hp=some e:=by
   rw[← he];exact (eff_apart hg hA hh (appA_rd hg hA (away_rd haxy hxd)) (fun k hk=>appA_get hA.hp k hk)).symm
  have hes:eff call ty ops y s.tm s.hp=some e:=by
   rw[← he0];exact eff_apart hg hA hh (fun _ _=>rfl) (fun _ _=>rfl)
  obtain⟨hk1,hk2⟩:=(freshAll_iff _ _).1 hfr1;have hfr:freshAll s.hp e.news=true:=(freshAll_iff _ _).2 ⟨fun p hp=>by
   have h3:=hk1 p hp
   by_cases ek:p.1=r.1
   ·rw[ek] at h3;unfold appA at h3;simp only[hget_hput] at h3
    cases h3
   ·rwa [appA_get hA.hp _ ek] at h3,hk2⟩
  obtain⟨n1,n2,n3⟩:=eff_no hty hcall hB hcy hg hA hh he0 hfr;have hops:∀ z∈x.op.operands.toList,opd (putT s y.dst e.t).tm z=opd s.tm z:=opd_congr (ops:=ops) (fun i hi=>putT_get (fun d' hd'=>away_rd hayx hd' i hi));refine⟨{ tm:=(putT s y.dst e.t).tm,hp:=puts s.hp e.news,fr:=fputs s.fr e.frs },?_,?_⟩
  ·rw[step_eff hcy,hes,Option.bind_some];unfold app;rw[if_pos hfr]
  ·have hck2:chkA ty U b xx u { tm:=(putT s y.dst e.t).tm,hp:=puts s.hp e.news,fr:=fputs s.fr e.frs }=true:=by
    have hck3:=hck';unfold chkA at hck3 ⊢;simp only[hops b hbm,hops xx hxm,(srcOf_congr (srcs_known hg.closed hfr xx)).2.2];rw[hb] at hck3 ⊢;simp only[Bool.and_eq_true] at hck3 ⊢;obtain⟨⟨⟨c1,c2⟩,c3⟩,c4⟩:=hck3;refine⟨⟨⟨List.all_eq_true.2 (fun i hi=>?_),List.all_eq_true.2 (fun p hp=>?_)⟩,c3⟩,c4⟩
    ·have c5:=List.all_eq_true.1 c1 i hi
     by_cases hyd:y.dst=some i
     ·by_cases hlt:i<s.tm.length
      ·have:(putT s y.dst e.t).tm[i]?=some e.t:=by
        unfold putT; rw[hyd]; simp only; rw[List.getElem?_set_self hlt]
       simp only[opd,this,Option.getD_some,noI_hds];simpa using (n1 i hyd hlt).1
      ·have:(putT s y.dst e.t).tm[i]?=s.tm[i]?:=by
        unfold putT; rw[hyd]; simp only; rw[List.set_eq_of_length_le (by simpa using Nat.le_of_not_lt hlt)]
       simp only[opd,this] at c5 ⊢;exact c5
     ·have:(putT s y.dst e.t).tm[i]?=s.tm[i]?:=putT_get (fun d' hd' ee=>hyd (by rw[hd',ee]));simp only[opd,this] at c5 ⊢;exact c5
    ·rcases mem_puts hp with hp | hp
     ·have h4:=(n2 p hp).2;simp only[Bool.not_eq_true',List.contains_eq_mem,decide_eq_false_iff_not];unfold Ob.hds
      split
      ·simp
      ·intro hk;obtain⟨el,hel,hk⟩:=List.mem_flatMap.1 hk;obtain⟨c,hc,hk⟩:=List.mem_flatMap.1 hk;exact h4 el hel c hc hk
     ·exact List.all_eq_true.1 c2 p hp
   refine⟨by unfold chk; rw[hap]; simpa only[hT,Bool.false_eq_true,if_false] using hck2,?_⟩;rw[step_none hgx,evA_strict hap hck2];simp only[hops b hbm,hops xx hxm];rw[effA_congr (hp:=s.hp) (fr:=s.fr) (srcs_known hg.closed hfr xx) (fun k hk=>⟨srcs_known hg.closed hfr b k hk,by
    rw[hb] at hk;simp only[T.hds1,C.hds,List.mem_singleton] at hk;subst hk;have e1:s.fr.contains r.1=false:=by simpa using hnfr
    rw[e1];have:r.1∉fputs s.fr e.frs:=fun hm=>by
     rcases mem_fputs.1 hm with hm | hm
     ·exact n3 hm
     ·exact hnfr hm
    simpa using this⟩),hr,Option.map_some]
   congr 1;exact (app_comm (fun d' hd' ee=>away_ne haxy hxd hd' ee.symm) (fun p hp=>n2 p hp) n1).symm
 ·cases ha
theorem swapB [Globals] (hty:∀ t y,ty t=some y→Ty.of P t=some y)(hcall:call.ok P)(hB:B.n≤w0.heap.size)(hg:Good w0 B f0 s)(hi:indepU ops U x y=true)(hj:∀ d,y.dst=some d→d∈U→opd s.tm (.tmp d)=.junk)
  (h1:step call ty ops y s=some s1) (hck:chk ty U x s1=true) (h2:step call ty ops x s1=some s2):
  chk ty U x s=true∧∃ s1',step call ty ops x s=some s1'∧step call ty ops y s1'=some s2:=by
 simp only[indepU,Bool.and_eq_true,Option.isNone_iff_eq_none,Bool.not_eq_true'] at hi;obtain⟨hT,⟨⟨⟨⟨⟨hax,hgx⟩,hcy⟩,hdy⟩,haxy⟩,hayx⟩,hU⟩:=hi;obtain⟨⟨d,b,xx,t,u⟩,hap⟩:=Option.isSome_iff_exists.1 hax;obtain⟨hxd,hbm,hxm⟩:=ap_facts hap;rw[step_eff hcy,Option.bind_eq_some_iff] at h1;obtain⟨e,hes,ha⟩:=h1;unfold app at ha
 split at ha
 ·rename_i hfr;injection ha with ha;subst ha;have hops:∀ z∈x.op.operands.toList,opd (putT s y.dst e.t).tm z=opd s.tm z:=opd_congr (ops:=ops) (fun i hi=>putT_get (fun d' hd'=>away_rd hayx hd' i hi));have hck1:chkA ty U b xx u { tm:=(putT s y.dst e.t).tm,hp:=puts s.hp e.news,fr:=fputs s.fr e.frs }=true:=by unfold chk at hck; rw[hap] at hck; simpa only[hT,Bool.false_eq_true,if_false] using hck
  rw[step_none hgx,evA_strict hap hck1,Option.map_eq_some_iff] at h2;obtain⟨r,hr1,rfl⟩:=h2;simp only[hops b hbm,hops xx hxm] at hr1;obtain⟨off,len,o0,hb,hh1,hf,hbx,hnfr1,_⟩:=effA_base hr1;have hkb:=srcs_known hg.closed hfr b;have hh:hget s.hp r.1=some o0:=by rw[← hkb r.1 (by rw[hb]; simp[T.hds1,C.hds])]; exact hh1
  have hnfr:r.1∉s.fr:=fun hm=>hnfr1 (mem_fputs.2 (.inr hm));have hck':chkA ty U b xx u s=true:=by
   have hck3:=hck1;unfold chkA at hck3 ⊢;simp only[hops b hbm,hops xx hxm,(srcOf_congr (srcs_known hg.closed hfr xx)).2.2] at hck3;rw[hb] at hck3 ⊢;simp only[Bool.and_eq_true] at hck3 ⊢;obtain⟨⟨⟨c1,c2⟩,c3⟩,c4⟩:=hck3;refine⟨⟨⟨List.all_eq_true.2 (fun i hi=>?_),List.all_eq_true.2 (fun p hp=>List.all_eq_true.1 c2 p (puts_keep hp hfr))⟩,c3⟩,c4⟩
   by_cases hyd:y.dst=some i
   ·rw[hj i hyd hi];simp[T.hds,T.hds1]
   ·have c5:=List.all_eq_true.1 c1 i hi;have:(putT s y.dst e.t).tm[i]?=s.tm[i]?:=putT_get (fun d' hd' ee=>hyd (by rw[hd',ee]));simp only[opd,this] at c5 ⊢;exact c5
  have hr:effA ty t u (opd s.tm b) (opd s.tm xx) s.hp s.fr=some r:=by
   rw[← hr1];refine (effA_congr (srcs_known hg.closed hfr xx) (fun k hk=>⟨hkb k hk,?_⟩)).symm;rw[hb] at hk;simp only[T.hds1,C.hds,List.mem_singleton] at hk;subst hk;have e1:s.fr.contains r.1=false:=by simpa using hnfr
   rw[e1];simpa using hnfr1
  have hUm:∀ i∈readsOf ops y,i∈U:=fun i hi=>by simpa using List.all_eq_true.1 hU i hi
  have hA:Apart ops y r.1 s:=chk_apart hg hb hck' hUm;have he0:eff call ty ops y (evict0 r.1 s).tm (evict0 r.1 s).hp=some e:=by
   rw[← hes];exact (eff_apart hg hA hh (fun _ _=>rfl) (fun _ _=>rfl)).symm
  have hex:eff call ty ops y (appA s d r).tm (appA s d r).hp=some e:=by
   rw[← he0];exact eff_apart hg hA hh (appA_rd hg hA (away_rd haxy hxd)) (fun k hk=>appA_get hA.hp k hk)
  obtain⟨n1,n2,n3⟩:=eff_no hty hcall hB hcy hg hA hh he0 hfr;obtain⟨hk1,hk2⟩:=(freshAll_iff _ _).1 hfr;have hfrx:freshAll (appA s d r).hp e.news=true:=(freshAll_iff _ _).2 ⟨fun p hp=>by
   rw[appA_get hA.hp _ (n2 p hp).1];exact hk1 p hp,hk2⟩
  refine⟨by unfold chk; rw[hap]; simpa only[hT,Bool.false_eq_true,if_false] using hck',appA s d r,?_,?_⟩
  ·rw[step_none hgx,evA_strict hap hck',hr,Option.map_some]
  ·rw[step_eff hcy,hex,Option.bind_some];unfold app;rw[if_pos hfrx];congr 1;exact app_comm (fun d' hd' ee=>away_ne haxy hxd hd' ee.symm) (fun p hp=>n2 p hp) n1
 ·cases ha
end
#print axioms swapA
#print axioms swapB
end Go.Vabs
namespace Go.Vabs
open Go.RowKit
def indepS [Globals] (ops:Array Oper)(U:List Nat)(x y:Oper):Bool:=(stOf x).isSome&&x.guard.isNone&&classC y&&dstOk y&&awayFrom ops y x&&U.any (fun r=>decide (100000≤r))&&(readsOf ops y).all fun r=>U.contains (r+100000)
def effS (ty:Tys)(t:TypeId)(A X:T)(hp:Heap)(fr:List Nat):Option (Nat × Ob):=match A,ty t,X.cells with
 | .c (.ptr h i off),some y,some cs=>match hget hp h with
  | some o=>if fr.contains h=false∧cs.length=y.size∧(o.box=true∨cs.all C.free=true) then (storeO o i off cs).map fun o'=>(h,o') else none
  | none=>none
 | _,_,_=>none
def stA (s:St)(p:Nat × Ob):St:={ tm:=s.tm,hp:=hput s.hp p.1 p.2,fr:=s.fr }
section
variable {P:Program} {ty:Tys} {call:CallF} {w0:World} {B:Bs} {f0:Nat→Prop} {ops:Array Oper} {U:List Nat} {x y:Oper} {s s1 s2:St} {h:Nat} {t:TypeId} {a xx:Operand}
theorem apArgs_st (ho:stOf x=some (t,a,xx)):apArgs x=none:=by
 unfold stOf at ho
 split at ho
 ·rename_i h1 h2;unfold apArgs;rw[h1]
 ·cases ho
theorem chk_st [Globals] (ho:stOf x=some (t,a,xx)):chk ty U x s=chkS U a s:=by
 unfold chk;rw[apArgs_st ho,ho]
theorem st_facts (ho:stOf x=some (t,a,xx)):x.op=.store t a xx∧x.dst=none∧a∈x.op.operands.toList∧xx∈x.op.operands.toList:=by
 unfold stOf at ho
 split at ho
 ·rename_i h1 h2;simp only[Option.some.injEq,Prod.mk.injEq] at ho;obtain⟨rfl,rfl,rfl⟩:=ho;refine⟨h1,h2,?_,?_⟩<;>rw[h1]<;>simp[Op.operands]
 ·cases ho
theorem chkS_facts [Globals] (hU:U.any (fun r=>decide (100000≤r))=true)(hc:chkS U a s=true):∃ h i off o,opd s.tm a=.c (.ptr h i off)∧hget s.hp h=some o∧o.box=true∧(∀ p∈s.hp,h∉p.2.hds)∧∀ r,r+100000∈U→h∉(opd s.tm (.tmp r)).hds:=by
 unfold chkS at hc;rw[hU,Bool.not_true,Bool.false_or] at hc
 split at hc
 ·rename_i h i off ha;simp only[Bool.and_eq_true,List.all_eq_true,Bool.or_eq_true,decide_eq_true_eq,Bool.not_eq_true',List.contains_eq_mem,decide_eq_false_iff_not] at hc;obtain⟨⟨h1,h2⟩,h3⟩:=hc
  split at h1
  ·rename_i o ho;refine⟨h,i,off,o,ha,ho,h1,h2,fun r hr=>?_⟩;have:=h3 _ hr;rw[Nat.add_sub_cancel] at this;exact this.resolve_left (by omega)
  ·cases h1
 ·cases hc
theorem chkS_of [Globals] {i off:Nat}{o:Ob}(ha:opd s.tm a=.c (.ptr h i off))(ho:hget s.hp h=some o)(hb:o.box=true)(h2:∀ p∈s.hp,h∉p.2.hds)(h3:∀ r,r+100000∈U→h∉(opd s.tm (.tmp r)).hds):chkS U a s=true:=by
 unfold chkS;rw[ha];simp only[ho,hb,Bool.true_and,Bool.or_eq_true,Bool.and_eq_true,List.all_eq_true,decide_eq_true_eq,Bool.not_eq_true',List.contains_eq_mem,decide_eq_false_iff_not];refine .inr ⟨h2,fun r hr=>?_⟩
 by_cases hlt:r<100000
 ·exact .inl hlt
 ·exact .inr (h3 (r-100000) (by rw[Nat.sub_add_cancel (by omega)]; exact hr))
theorem evS_strict [Globals] (ho:stOf x=some (t,a,xx))(hU:U.any (fun r=>decide (100000≤r))=true)(hc:chkS U a s=true):evOp call ty x s=(effS ty t (opd s.tm a) (opd s.tm xx) s.hp s.fr).map (stA s):=by
 obtain⟨h,i,off,o,ha,hh,hb,_,_⟩:=chkS_facts hU hc;obtain⟨h1,h2,_,_⟩:=st_facts ho;unfold evOp;rw[h1];simp only[h2,Option.isNone_none,if_true];unfold evS;have hl:rowPtr s.hp (opd s.tm a)=false:=by rw[ha]; simp[rowPtr,hh,hb]
 rw[hl];simp only[loose,Bool.false_eq_true,if_false];unfold evS1 effS;rw[ha]
 cases ty t with
 | none=>rfl
 | some y=>
  cases (opd s.tm xx).cells with
  | none=>rfl
  | some cs=>
   simp only[hh]
   split
   ·cases storeO o i off cs<;>rfl
   ·rfl
theorem effS_congr {A X:T}{hp hp':Heap}{fr fr':List Nat}(h:∀ k∈A.hds1,hget hp' k=hget hp k∧fr'.contains k=fr.contains k):effS ty t A X hp' fr'=effS ty t A X hp fr:=by
 unfold effS
 split
 ·rename_i k i off _ _ _ _;obtain⟨h1,h2⟩:=h k (by simp[T.hds1,C.hds]);simp only[h1,h2]
 ·rfl
theorem effS_at {i off:Nat}{A X:T}{hp:Heap}{fr:List Nat}{p:Nat × Ob}(hA:A=.c (.ptr h i off))(he:effS ty t A X hp fr=some p):p.1=h∧fr.contains h=false:=by
 subst hA;unfold effS at he
 split at he
 ·rename_i k i' off' y cs e1 e2 e3;injection e1 with e1;injection e1 with e1;subst e1
  split at he
  ·split at he
   ·rename_i hc;rw[Option.map_eq_some_iff] at he;obtain⟨o',_,rfl⟩:=he;exact⟨rfl,hc.1⟩
   ·cases he
  ·cases he
 ·cases he
theorem chkS_apart [Globals] (hg:Good w0 B f0 s)(h2:∀ p∈s.hp,h∉p.2.hds)(h3:∀ r,r+100000∈U→h∉(opd s.tm (.tmp r)).hds)(hU:∀ r∈readsOf ops y,r+100000∈U):Apart ops y h s:=by
 refine⟨fun r hr t ht hk=>?_,fun k o hk=>hg.no hk (h2 _ (hget_mem hk))⟩;have:=h3 r (hU r hr);simp only[opd,ht,Option.getD_some,noI_hds] at this;exact this hk
theorem swapSA [Globals] (hty:∀ t y,ty t=some y→Ty.of P t=some y)(hcall:call.ok P)(hB:B.n≤w0.heap.size)(hg:Good w0 B f0 s)(hi:indepS ops U x y=true)(hck:chk ty U x s=true)(h1:step call ty ops x s=some s1)(h2:step call ty ops y s1=some s2):
  ∃ s1',step call ty ops y s=some s1'∧chk ty U x s1'=true∧step call ty ops x s1'=some s2:=by
 simp only[indepS,Bool.and_eq_true,Option.isNone_iff_eq_none] at hi;obtain⟨⟨⟨⟨⟨⟨hax,hgx⟩,hcy⟩,hdy⟩,hayx⟩,hany⟩,hU⟩:=hi;obtain⟨⟨t,a,xx⟩,hst⟩:=Option.isSome_iff_exists.1 hax;obtain⟨hop,hxd,ham,hxm⟩:=st_facts hst;rw[chk_st hst] at hck;obtain⟨h,i,off,o,ha,hh,hb,hno,hnt⟩:=chkS_facts hany hck;rw[step_none hgx,evS_strict hst hany hck,Option.map_eq_some_iff] at h1;obtain⟨p,hp,rfl⟩:=h1;obtain⟨hp1,hnfr⟩:=effS_at ha hp;have hUm:∀ r∈readsOf ops y,r+100000∈U:=fun r hr=>by simpa using List.all_eq_true.1 hU r hr
 have hA:Apart ops y h s:=chkS_apart hg hno hnt hUm;rw[step_eff hcy,Option.bind_eq_some_iff] at h2;obtain⟨e,he,hap⟩:=h2;unfold app at hap
 split at hap
 ·rename_i hfr1;injection hap with hap;subst hap;have hst':∀ k,k≠h→hget (stA s p).hp k=hget s.hp k:=fun k hk=>by unfold stA; simp only; rw[hp1]; exact hgN _ _ _ _ hk
  have he0:eff call ty ops y (evict0 h s).tm (evict0 h s).hp=some e:=by
   rw[← he];exact (eff_apart (s1:=stA s p) hg hA hh (fun _ _=>rfl) hst').symm
  have hes:eff call ty ops y s.tm s.hp=some e:=by
   rw[← he0];exact eff_apart hg hA hh (fun _ _=>rfl) (fun _ _=>rfl)
  obtain⟨hk1,hk2⟩:=(freshAll_iff _ _).1 hfr1;have hfr:freshAll s.hp e.news=true:=(freshAll_iff _ _).2 ⟨fun q hq=>by
   have h3:=hk1 q hq
   by_cases ek:q.1=h
   ·rw[ek] at h3;unfold stA at h3;simp only[hp1,hget_hput] at h3
    cases h3
   ·rwa [hst' _ ek] at h3,hk2⟩
  obtain⟨n1,n2,n3⟩:=eff_no hty hcall hB hcy hg hA hh he0 hfr;have hops:∀ z∈x.op.operands.toList,opd (putT s y.dst e.t).tm z=opd s.tm z:=opd_congr (ops:=ops) (fun i hi=>putT_get (fun d' hd'=>away_rd hayx hd' i hi));have hgh:hget (puts s.hp e.news) h=hget s.hp h:=puts_get _ _ _ (fun q hq=>(n2 q hq).1);refine⟨{ tm:=(putT s y.dst e.t).tm,hp:=puts s.hp e.news,fr:=fputs s.fr e.frs },?_,?_⟩
  ·rw[step_eff hcy,hes,Option.bind_some];unfold app;rw[if_pos hfr]
  ·have hck2:chkS U a { tm:=(putT s y.dst e.t).tm,hp:=puts s.hp e.news,fr:=fputs s.fr e.frs }=true:=by
    refine chkS_of (i:=i) (off:=off) (o:=o) (by simp only; rw[hops a ham]; exact ha) (by simp only; rw[hgh]; exact hh) hb (fun q hq=>?_) (fun r hr=>?_)
    ·rcases mem_puts hq with hq | hq
     ·have h4:=(n2 q hq).2;unfold Ob.hds
      split
      ·simp
      ·intro hk;obtain⟨el,hel,hk⟩:=List.mem_flatMap.1 hk;obtain⟨c,hc,hk⟩:=List.mem_flatMap.1 hk;exact h4 el hel c hc hk
     ·exact hno q hq
    ·by_cases hyd:y.dst=some r
     ·by_cases hlt:r<s.tm.length
      ·have:(putT s y.dst e.t).tm[r]?=some e.t:=by
        unfold putT; rw[hyd]; simp only; rw[List.getElem?_set_self hlt]
       simp only[opd,this,Option.getD_some,noI_hds];exact (n1 r hyd hlt).1
      ·have:(putT s y.dst e.t).tm[r]?=s.tm[r]?:=by
        unfold putT; rw[hyd]; simp only; rw[List.set_eq_of_length_le (by simpa using Nat.le_of_not_lt hlt)]
       have h5:=hnt r hr;simp only[opd,this] at h5 ⊢;exact h5
     ·have:(putT s y.dst e.t).tm[r]?=s.tm[r]?:=putT_get (fun d' hd' ee=>hyd (by rw[hd',ee]));have h5:=hnt r hr;simp only[opd,this] at h5 ⊢;exact h5
   refine⟨by rw[chk_st hst]; exact hck2,?_⟩;rw[step_none hgx,evS_strict hst hany hck2];simp only[hops a ham,hops xx hxm];rw[effS_congr (hp:=s.hp) (fr:=s.fr) (fun k hk=>by
    rw[ha] at hk;simp only[T.hds1,C.hds,List.mem_singleton] at hk;subst hk;refine⟨hgh,?_⟩;rw[hnfr];have:k∉fputs s.fr e.frs:=fun hm=>by
     rcases mem_fputs.1 hm with hm | hm
     ·exact n3 hm
     ·have:s.fr.contains k=true:=by simpa using hm
      rw[hnfr] at this
      cases this
    simpa using this),hp,Option.map_some]
   unfold stA;simp only[Option.some.injEq];rw[puts_hput _ _ _ _ (fun q hq=>by rw[hp1]; exact (n2 q hq).1)];unfold putT
   cases y.dst<;>rfl
 ·cases hap
theorem swapSB [Globals] (hty:∀ t y,ty t=some y→Ty.of P t=some y)(hcall:call.ok P)(hB:B.n≤w0.heap.size)(hg:Good w0 B f0 s)(hi:indepS ops U x y=true)(hj:∀ d,y.dst=some d→d+100000∈U→opd s.tm (.tmp d)=.junk)
  (h1:step call ty ops y s=some s1) (hck:chk ty U x s1=true) (h2:step call ty ops x s1=some s2):
  chk ty U x s=true∧∃ s1',step call ty ops x s=some s1'∧step call ty ops y s1'=some s2:=by
 simp only[indepS,Bool.and_eq_true,Option.isNone_iff_eq_none] at hi;obtain⟨⟨⟨⟨⟨⟨hax,hgx⟩,hcy⟩,hdy⟩,hayx⟩,hany⟩,hU⟩:=hi;obtain⟨⟨t,a,xx⟩,hst⟩:=Option.isSome_iff_exists.1 hax;obtain⟨hop,hxd,ham,hxm⟩:=st_facts hst;rw[chk_st hst] at hck;rw[step_eff hcy,Option.bind_eq_some_iff] at h1;obtain⟨e,hes,hap⟩:=h1;unfold app at hap
 split at hap
 ·rename_i hfr;injection hap with hap;subst hap;have hops:∀ z∈x.op.operands.toList,opd (putT s y.dst e.t).tm z=opd s.tm z:=opd_congr (ops:=ops) (fun i hi=>putT_get (fun d' hd'=>away_rd hayx hd' i hi));obtain⟨h,i,off,o,ha1,hh1,hb,hno1,hnt1⟩:=chkS_facts hany hck;have ha:opd s.tm a=.c (.ptr h i off):=by rw[← hops a ham]; exact ha1
  have hkb:=srcs_known hg.closed hfr a;have hh:hget s.hp h=some o:=by rw[← hkb h (by rw[ha]; simp[T.hds1,C.hds])]; exact hh1
  have hno:∀ q∈s.hp,h∉q.2.hds:=fun q hq=>hno1 q (puts_keep hq hfr);have hnt:∀ r,r+100000∈U→h∉(opd s.tm (.tmp r)).hds:=fun r hr=>by
   by_cases hyd:y.dst=some r
   ·rw[hj r hyd hr];simp[T.hds,T.hds1]
   ·have:(putT s y.dst e.t).tm[r]?=s.tm[r]?:=putT_get (fun d' hd' ee=>hyd (by rw[hd',ee]));have h5:=hnt1 r hr;simp only[opd,this] at h5 ⊢;exact h5
  have hck':chkS U a s=true:=chkS_of ha hh hb hno hnt;rw[step_none hgx,evS_strict hst hany hck,Option.map_eq_some_iff] at h2;obtain⟨p,hp,rfl⟩:=h2;simp only[hops a ham,hops xx hxm] at hp;obtain⟨hp1,hnfr1⟩:=effS_at ha hp;have hnfr:s.fr.contains h=false:=by
   have:h∉s.fr:=fun hm=>by
    have:(fputs s.fr e.frs).contains h=true:=by simpa using mem_fputs.2 (.inr hm)
    rw[hnfr1] at this
    cases this
   simpa using this
  have hp0:effS ty t (opd s.tm a) (opd s.tm xx) s.hp s.fr=some p:=by
   rw[← hp];refine (effS_congr (fun k hk=>⟨hkb k hk,?_⟩)).symm;rw[ha] at hk;simp only[T.hds1,C.hds,List.mem_singleton] at hk;subst hk;rw[hnfr];exact hnfr1
  have hUm:∀ r∈readsOf ops y,r+100000∈U:=fun r hr=>by simpa using List.all_eq_true.1 hU r hr
  have hA:Apart ops y h s:=chkS_apart hg hno hnt hUm;have hst':∀ k,k≠h→hget (stA s p).hp k=hget s.hp k:=fun k hk=>by unfold stA; simp only; rw[hp1]; exact hgN _ _ _ _ hk
  have he0:eff call ty ops y (evict0 h s).tm (evict0 h s).hp=some e:=by
   rw[← hes];exact (eff_apart hg hA hh (fun _ _=>rfl) (fun _ _=>rfl)).symm
  have hex:eff call ty ops y (stA s p).tm (stA s p).hp=some e:=by
   rw[← he0];exact eff_apart (s1:=stA s p) hg hA hh (fun _ _=>rfl) hst'
  obtain⟨n1,n2,n3⟩:=eff_no hty hcall hB hcy hg hA hh he0 hfr;obtain⟨hk1,hk2⟩:=(freshAll_iff _ _).1 hfr;have hfrx:freshAll (stA s p).hp e.news=true:=(freshAll_iff _ _).2 ⟨fun q hq=>by
   rw[hst' _ (n2 q hq).1];exact hk1 q hq,hk2⟩
  refine⟨by rw[chk_st hst]; exact hck',stA s p,?_,?_⟩
  ·rw[step_none hgx,evS_strict hst hany hck',hp0,Option.map_some]
  ·rw[step_eff hcy,hex,Option.bind_some];unfold app;rw[if_pos hfrx];congr 1;unfold stA;simp only;rw[puts_hput _ _ _ _ (fun q hq=>by rw[hp1]; exact (n2 q hq).1)];unfold putT
   cases y.dst<;>rfl
 ·cases hap
end
end Go.Vabs

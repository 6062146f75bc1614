/- A library: every order of a region comes to the same. No condition. -/
import Derived.Test.YtadllpehekphmaaDoorVR
set_option linter.unusedSimpArgs false
set_option linter.unusedVariables false
namespace Go.Vabs
open Go.RowKit
def readsOf (ops:Array Oper)(o:Oper):List Nat:=
 (o.op.operands.toList.filterMap fun x=>match x with | .tmp t=>some t | _=>none)++(match o.guard with | some (j,_)=>(((ops[j]?).bind (·.dst)).toList) | none=>[])
def dstOk (o:Oper):Bool:=match o.dst with
 | some d=>decide (d<10000)
 | none=>true
def awayFrom (ops:Array Oper)(x y:Oper):Bool:=match x.dst with
 | some d=>!(readsOf ops y).contains d&&!(y.dst==some d)
 | none=>true
def indep [Globals] (ops:Array Oper)(x y:Oper):Bool:=classC x&&classC y&&dstOk x&&dstOk y&&awayFrom ops x y&&awayFrom ops y x
theorem fput_comm (l:List Nat)(a b:Nat):fput (fput l a) b=fput (fput l b) a:=by
 by_cases hab:a=b
 ·rw[hab]
 induction l with
 | nil=>
  simp only[fput]
  rcases Nat.lt_or_gt_of_ne hab with h | h
  ·simp[hab,Ne.symm hab,h,Nat.lt_asymm h]
  ·simp[hab,Ne.symm hab,h,Nat.lt_asymm h]
 | cons c l ih=>
  simp only[fput]
  by_cases e1:a=c
  ·subst e1;simp only[if_true,fput,if_neg (Ne.symm hab)]
   by_cases l2:b<a
   ·simp[l2,fput,hab,Nat.lt_asymm l2]
   ·simp[l2,fput]
  ·by_cases e2:b=c
   ·subst e2;simp only[if_neg e1,if_true,fput]
    by_cases l1:a<b
    ·simp[l1,fput,Ne.symm hab,Nat.lt_asymm l1]
    ·simp[l1,fput,e1]
   ·simp only[if_neg e1,if_neg e2]
    by_cases l1:a<c<;>by_cases l2:b<c
    ·simp only[if_pos l1,if_pos l2,fput,if_neg hab,if_neg (Ne.symm hab)]
     rcases Nat.lt_or_gt_of_ne hab with h | h
     ·simp[h,Nat.lt_asymm h,l1,l2,e1,e2]
     ·simp[h,Nat.lt_asymm h,l1,l2,e1,e2]
    ·have h3:a<b:=by omega
     simp[l1,l2,fput,hab,Ne.symm hab,h3,Nat.lt_asymm h3,e1,e2]
    ·have h3:b<a:=by omega
     simp[l1,l2,fput,hab,Ne.symm hab,h3,Nat.lt_asymm h3,e1,e2]
    ·simp[l1,l2,fput,e1,e2,ih]
theorem fputs_fput (X:List Nat):∀ (l:List Nat) (a:Nat),fputs (fput l a) X=fput (fputs l X) a:=by
 induction X with
 | nil=>intro l a; rfl
 | cons x X ih=>intro l a; simp only[fputs]; rw[fput_comm,ih]
theorem fputs_comm (X Y:List Nat)(l:List Nat):fputs (fputs l X) Y=fputs (fputs l Y) X:=by
 induction Y generalizing l with
 | nil=>rfl
 | cons y Y ih=>simp only[fputs]; rw[← fputs_fput,ih]
theorem puts_get:∀ (l:List (Nat × Ob)) (hp:Heap) (k:Nat),(∀ p∈l,p.1≠k)→hget (puts hp l) k=hget hp k
 | [],_,_,_=>rfl
 | (k',o)::l,hp,k,h=>by
  simp only[puts];rw[puts_get l _ k (fun p hp'=>h p (List.mem_cons_of_mem _ hp'))];exact hgN _ _ _ _ (Ne.symm (h (k',o) List.mem_cons_self))
theorem freshAll_congr:∀ (l:List (Nat × Ob)) (hp hp':Heap),(∀ p∈l,hget hp' p.1=hget hp p.1)→freshAll hp' l=freshAll hp l
 | [],_,_,_=>rfl
 | (k,o)::l,hp,hp',h=>by
  simp only[freshAll];rw[h (k,o) List.mem_cons_self,freshAll_congr l (hput hp k o) (hput hp' k o) (fun p hp''=>by
   by_cases e:p.1=k
   ·rw[e,hget_hput,hget_hput]
   ·rw[hgN _ _ _ _ e,hgN _ _ _ _ e]; exact h p (List.mem_cons_of_mem _ hp''))]
theorem puts_hput:∀ (X:List (Nat × Ob)) (hp:Heap) (k:Nat) (o:Ob),(∀ p∈X,p.1≠k)→puts (hput hp k o) X=hput (puts hp X) k o
 | [],_,_,_,_=>rfl
 | (k',o')::X,hp,k,o,h=>by
  simp only[puts];rw[hput_comm _ _ _ _ _ (Ne.symm (h (k',o') List.mem_cons_self)),puts_hput X _ k o (fun p hp'=>h p (List.mem_cons_of_mem _ hp'))]
theorem puts_comm (X:List (Nat × Ob)):∀ (Y:List (Nat × Ob)) (hp:Heap),(∀ p∈X,∀ q∈Y,p.1≠q.1)→puts (puts hp X) Y=puts (puts hp Y) X
 | [],_,_=>rfl
 | (k,o)::Y,hp,h=>by
  simp only[puts];rw[← puts_hput X hp k o (fun p hp'=>h p hp' (k,o) List.mem_cons_self),puts_comm X Y _ (fun p hp' q hq=>h p hp' q (List.mem_cons_of_mem _ hq))]
theorem puts_ext:∀ (l:List (Nat × Ob)) (hp:Heap),freshAll hp l=true→Ext hp (puts hp l)
 | [],_,_=>fun _ _ h=>h
 | (k,o)::l,hp,h=>by
  simp only[freshAll,Bool.and_eq_true,Option.isNone_iff_eq_none] at h;intro k' o' hk';refine puts_ext l (hput hp k o) h.2 k' o' ?_;rw[hgN _ _ _ _ (fun e=>by rw[e,h.1] at hk'; cases hk')];exact hk'
section
variable {call:CallF} {ty:Tys} {ops:Array Oper} {o x y:Oper} {tm tm':List T} {hp hp':Heap}
theorem opd_congr [Globals] (h:∀ t∈readsOf ops o,tm'[t]?=tm[t]?):∀ x∈o.op.operands.toList,opd tm' x=opd tm x:=by
 intro x hx
 cases x with
 | tmp t=>
  simp only[opd];rw[h t (List.mem_append_left _ (List.mem_filterMap.2 ⟨.tmp t,hx,rfl⟩))]
 | _=>rfl
theorem guardOf_congr (h:∀ t∈readsOf ops o,tm'[t]?=tm[t]?):guardOf ops tm' o=guardOf ops tm o:=by
 unfold guardOf
 cases hg:o.guard with
 | none=>rfl
 | some p=>
  obtain⟨j,want⟩:=p;simp only
  cases hd:(ops[j]?).bind (·.dst) with
  | none=>rfl
  | some d=>
   simp only;rw[h d (List.mem_append_right _ (by rw[hg]; simp[hd]))]
theorem hsC_dom (hc:Closed tm hp):∀ (n:Nat) (c:C),(∀ k∈c.hds,∃ o,hget hp k=some o)→∀ k∈hsC hp n c,∃ o,hget hp k=some o
 | 0,c,h,k,hk=>by
  cases c with
  | ref h' off len=>simp only[hsC,List.mem_singleton] at hk; subst hk; exact h k (by simp[C.hds])
  | _=>simp[hsC] at hk
 | n+1,c,h,k,hk=>by
  cases c with
  | ref h' off len=>
   obtain⟨o,ho⟩:=h h' (by simp[C.hds]);simp only[hsC,ho,List.mem_cons] at hk
   rcases hk with rfl | hk
   ·exact⟨o,ho⟩
   ·split at hk
    ·simp at hk
    ·obtain⟨e,he,hk⟩:=List.mem_flatMap.1 hk;obtain⟨c',hc',hk⟩:=List.mem_flatMap.1 hk;exact hsC_dom hc n c' (hc.hp h' o ho e he c' hc') k hk
  | _=>simp[hsC] at hk
theorem hsT_dom (hc:Closed tm hp)(t:T)(h:∀ k∈t.hds1,∃ o,hget hp k=some o):∀ k∈hsT hp t,∃ o,hget hp k=some o:=by
 intro k hk
 cases t with
 | c x=>exact hsC_dom hc 3 x h k hk
 | agg cs=>
  obtain⟨c,hcc,hk⟩:=List.mem_flatMap.1 hk;exact hsC_dom hc 3 c (fun k' hk'=>h k' (List.mem_flatMap.2 ⟨c,hcc,hk'⟩)) k hk
 | _=>simp[hsT] at hk
theorem tOf_hds (v:Value):(tOf v).hds1=[]:=by
 cases v with
 | agg cs=>
  simp only[tOf]
  split
  ·simp only[T.hds1]
   induction cs.toList with
   | nil=>rfl
   | cons a l ih=>simp[C.hds,ih]
  ·rfl
 | _=>rfl
theorem noI_hds (t:T):t.noI.hds=t.hds:=by cases t<;>rfl
theorem noI_hds1 (t:T):t.noI.hds1=t.hds1:=by cases t<;>rfl
theorem isFn_congr [Globals] (h:∀ x∈o.op.operands.toList,opd tm' x=opd tm x):isFn o tm'=isFn o tm:=by
 unfold isFn
 cases ho:o.op with
 | call c=>
  simp only
  cases hc:c.callee with
  | value x=>simp only[h x (by rw[ho]; simp[Op.operands,Call.operands,hc])]
  | _=>rfl
 | _=>rfl
theorem opd_dom [Globals] (hc:Closed tm hp)(x:Operand):∀ k∈(opd tm x).hds1,∃ o,hget hp k=some o:=by
 intro k hk
 cases x with
 | tmp t=>
  simp only[opd,noI_hds1] at hk
  cases ht:tm[t]? with
  | none=>rw[ht] at hk; simp[T.hds1] at hk
  | some y=>rw[ht,Option.getD_some] at hk; exact hc.tm y (List.mem_of_getElem? ht) k hk
 | const v=>simp only[opd,tOf_hds] at hk; simp at hk
 | global g=>
  simp only[opd] at hk
  split at hk
  ·split at hk<;>simp[T.hds1,C.hds] at hk
  ·simp[T.hds1] at hk
 | func _=>simp[opd,T.hds1,C.hds] at hk
theorem callArgs_sub (o:Oper):∀ x∈callArgs o,x∈o.op.operands.toList:=by
 intro x hx;unfold callArgs at hx
 split at hx
 ·rename_i c ho;rw[ho];simp only[Op.operands,Call.operands,Array.toList_append];exact List.mem_append_right _ hx
 ·simp at hx
theorem eff_congr [Globals] (hc:Closed tm hp)(hx:Ext hp hp')(h:∀ t∈readsOf ops o,tm'[t]?=tm[t]?):eff call ty ops o tm' hp'=eff call ty ops o tm hp:=by
 have h1:=opd_congr h;unfold eff;rw[guardOf_congr h];have hsame:∀ x∈o.op.operands.toList,∀ k∈(opd tm x).hds1,hget hp' k=hget hp k:=fun x hxx k hk=>by
  obtain⟨ob,hob⟩:=opd_dom hc x k hk;rw[hob,hx k ob hob]
 rw[evP_congr h1 hsame,isFn_congr h1];have hmap:(callArgs o).map (opd tm')=(callArgs o).map (opd tm):=List.map_congr_left fun x hxx=>h1 x (callArgs_sub o x hxx);rw[hmap];have gen:∀ l:List T,(∀ t∈l,∀ k∈t.hds1,∃ o,hget hp k=some o)→l.mapM (dataT hp')=l.mapM (dataT hp)∧(l.flatMap (hsT hp')).filter (fun h=>(hget hp' h).isSome)=(l.flatMap (hsT hp)).filter fun h=>(hget hp h).isSome:=by
  intro l hl
  induction l with
  | nil=>exact⟨rfl,rfl⟩
  | cons t l ih=>
   obtain⟨e1,e2⟩:=dataT_congr hc.hp hx t (hl t List.mem_cons_self);obtain⟨e3,e4⟩:=ih (fun t' ht'=>hl t' (List.mem_cons_of_mem _ ht'));refine⟨by rw[List.mapM_cons,List.mapM_cons,e1,e3],?_⟩;rw[List.flatMap_cons,List.flatMap_cons,List.filter_append,List.filter_append,e4,e2];congr 1;refine List.filter_congr (fun k hk=>?_);obtain⟨ob,hob⟩:=hsT_dom hc t (hl t List.mem_cons_self) k hk;rw[hob,hx k ob hob]
 obtain⟨e1,e2⟩:=gen ((callArgs o).map (opd tm)) (fun t ht=>by
  obtain⟨x,_,rfl⟩:=List.mem_map.1 ht;exact opd_dom hc x)
 rw[e1,e2]
theorem numbered_key {d:Nat}:∀ {os:List Ob} {i:Nat} {p:Nat × Ob},p∈numbered d i os→p.1 % 10000=d % 10000
 | [],_,_,h=>by simp[numbered] at h
 | o::os,i,p,h=>by
  simp only[numbered,List.mem_cons] at h
  rcases h with rfl | h
  ·simp only;omega
  ·exact numbered_key h
theorem eff_news [Globals] {e:Eff}(h:eff call ty ops o tm hp=some e):∀ p∈e.news,∃ d,o.dst=some d∧p.1 % 10000=d % 10000:=by
 unfold eff at h
 split at h
 ·cases h
 ·injection h with h; subst h; simp
 ·split at h
  ·cases h
  ·split at h
   ·cases h
   ·split at h
    ·rename_i r d hr hd;injection h with h;subst h;intro p hp;exact⟨d,hd,numbered_key hp⟩
    ·cases h
  ·split at h
   ·injection h with h; subst h; simp
   ·rename_i t ob d he hd;injection h with h;subst h;intro p hp;simp only[List.mem_singleton] at hp;subst hp;exact⟨d,hd,rfl⟩
   ·cases h
theorem swap [Globals] {s s1 s2:St}(hcl:Closed s.tm s.hp)(hi:indep ops x y=true)(h1:step call ty ops x s=some s1)(h2:step call ty ops y s1=some s2):∃ s1',step call ty ops y s=some s1'∧step call ty ops x s1'=some s2:=by
 simp only[indep,Bool.and_eq_true] at hi;obtain⟨⟨⟨⟨⟨hcx,hcy⟩,hdx⟩,hdy⟩,haxy⟩,hayx⟩:=hi;rw[step_eff hcx,Option.bind_eq_some_iff] at h1;obtain⟨ex,hex,hax⟩:=h1;rw[step_eff hcy,Option.bind_eq_some_iff] at h2;obtain⟨ey,hey,hay⟩:=h2;unfold app at hax hay
 split at hax
 ·rename_i hfx;injection hax with hax;subst hax
  split at hay
  ·rename_i hfy;injection hay with hay;subst hay;have away:∀ (p q:Oper) (t:T),awayFrom ops p q=true→∀ i∈readsOf ops q,(putT s p.dst t).tm[i]?=s.tm[i]?:=fun p q t hpq i hiq=>by
    unfold awayFrom at hpq;unfold putT
    cases hd:p.dst with
    | none=>rfl
    | some d=>
     simp only[hd,Bool.and_eq_true,Bool.not_eq_true'] at hpq;simp only;rw[List.getElem?_set_ne];intro e;subst e;have:=hpq.1;simp at this;exact this hiq
   have hey':eff call ty ops y s.tm s.hp=some ey:=by
    rw[← hey];exact (eff_congr hcl (puts_ext _ _ hfx) (away x y ex.t haxy)).symm
   have hkeys:∀ p∈ex.news,∀ q∈ey.news,p.1≠q.1:=fun p hp q hq e=>by
    obtain⟨d1,h1,h2⟩:=eff_news hex p hp;obtain⟨d2,h3,h4⟩:=eff_news hey' q hq;have hdx':(d1:Nat)<10000:=by unfold dstOk at hdx; rw[h1] at hdx; exact of_decide_eq_true hdx
    have hdy':(d2:Nat)<10000:=by unfold dstOk at hdy; rw[h3] at hdy; exact of_decide_eq_true hdy
    unfold awayFrom at haxy;rw[h1] at haxy;simp only[Bool.and_eq_true,Bool.not_eq_true',beq_eq_false_iff_ne] at haxy;apply haxy.2;rw[h3];rw[e] at h2;have:(d2:Nat)=d1:=by rw[← Nat.mod_eq_of_lt hdx',← Nat.mod_eq_of_lt hdy',← h2,← h4]
    rw[this]
   have hfy':freshAll s.hp ey.news=true:=by
    rw[← freshAll_congr ey.news s.hp (puts s.hp ex.news) (fun q hq=>puts_get _ _ _ (fun p hp=>hkeys p hp q hq))];exact hfy
   refine⟨{ tm:=(putT s y.dst ey.t).tm,hp:=puts s.hp ey.news,fr:=fputs s.fr ey.frs },?_,?_⟩
   ·rw[step_eff hcy,hey',Option.bind_some];unfold app;rw[if_pos hfy']
   ·rw[step_eff hcx];simp only;rw[eff_congr hcl (puts_ext _ _ hfy') (away y x ey.t hayx),hex,Option.bind_some];unfold app;simp only;rw[if_pos (by rw[freshAll_congr ex.news s.hp (puts s.hp ey.news) (fun p hp=>puts_get _ _ _ (fun q hq=>Ne.symm (hkeys p hp q hq)))]; exact hfx)];congr 1;rw[puts_comm ey.news ex.news s.hp (fun p hp q hq=>Ne.symm (hkeys q hq p hp)),fputs_comm ey.frs ex.frs];congr 1;unfold putT
    cases hd1:x.dst with
    | none=>cases hd2:y.dst<;>rfl
    | some d1=>
     cases hd2:y.dst with
     | none=>rfl
     | some d2=>
      simp only;refine List.set_comm _ _ ?_;intro e;unfold awayFrom at haxy;rw[hd1] at haxy;simp only[Bool.and_eq_true,Bool.not_eq_true',beq_eq_false_iff_ne] at haxy;apply haxy.2;rw[hd2,e]
  ·cases hay
 ·cases hax
end
section
variable {P:Program} {ty:Tys} {kp:Nat→Option (List Nat)} {K:Nat→Option (Nat→Option (List Nat))} {call:CallF} {w0:World} {B:Bs} {f0:Nat→Prop} {ops:Array Oper}
def Good [Globals] (w0:World)(B:Bs)(f0:Nat→Prop)(s:St):Prop:=∃ fz ρ tm w,Rel w0 B f0 fz ρ s tm w
theorem exists_of_wp {o:Oper}{a:Act}{w:World}{next:Act→World→Prop}(h:o.wp P a w next (fun _ _ _=>False)):∃ a' w',next a' w':=by
 unfold Oper.wp Oper.upon at h
 split at h
 ·exact⟨_,_,h⟩
 ·exact⟨_,_,h⟩
 ·exact⟨_,_,h⟩
 ·obtain⟨e,w',fr,hR,_⟩:=h []
  cases e with
  | returned v=>exact⟨_,_,hR⟩
  | panicked c=>exact hR.elim
  | outgrown=>obtain⟨_,_,hq⟩:=hR; exact hq.elim
 ·obtain⟨v,w',hR,_⟩:=h default [];exact⟨_,_,hR⟩
 ·exact h.elim
 ·exact h.elim
theorem step_good [Globals] (hty:∀ t y,ty t=some y→Ty.of P t=some y)(hcall:call.ok P)(hB:B.n≤w0.heap.size){o:Oper}{s s':St}(hg:Good w0 B f0 s)(h:step call ty ops o s=some s'):Good w0 B f0 s':=by
 obtain⟨fz,ρ,tm,w,hrel⟩:=hg;unfold step at h
 split at h
 ·cases h
 ·injection h with h;subst h;unfold putT
  cases o.dst with
  | none=>exact⟨fz,ρ,tm,w,hrel⟩
  | some d=>exact⟨fz,ρ,tm.setIfInBounds d undef,w,hrel.put d (t:=.tup []) ⟨#[],rfl,rfl,fun i t h=>by simp at h⟩ rfl⟩
 ·obtain⟨a',w',fz',ρ',hR⟩:=exists_of_wp (evOp_sound (P:=P) (a:=⟨tm,[]⟩) (next:=fun a' w'=>∃ fz' ρ',Rel w0 B f0 fz' ρ' s' a'.tmps w') (Q:=fun _ _ _=>False) hty hcall hB hrel h (fun fz' ρ' tm' w' hr=>⟨fz',ρ',hr⟩));exact⟨fz',ρ',a'.tmps,w',hR⟩
theorem moveFront [Globals] (hty:∀ t y,ty t=some y→Ty.of P t=some y)(hcall:call.ok P)(hB:B.n≤w0.heap.size){i:Oper}{R:List Oper}{s':St}:∀ {A:List Oper} {s:St},Good w0 B f0 s→(∀ x∈A,indep ops x i=true) →
  evOps call ty ops (A++i::R) s=some s'→evOps call ty ops (i::(A++R)) s=some s'
 | [],s,_,_,h=>h
 | x::A,s,hg,hi,h=>by
  rw[List.cons_append,evOps_step,Option.bind_eq_some_iff] at h;obtain⟨s1,h1,h2⟩:=h;have h3:=moveFront hty hcall hB (step_good hty hcall hB hg h1) (fun y hy=>hi y (List.mem_cons_of_mem _ hy)) h2;rw[evOps_step,Option.bind_eq_some_iff] at h3;obtain⟨s2,h4,h5⟩:=h3;obtain⟨fz,ρ,tm,w,hrel⟩:=hg;obtain⟨s1',h6,h7⟩:=swap hrel.closed (hi x List.mem_cons_self) h1 h4;rw[evOps_step,h6,Option.bind_some,List.cons_append,evOps_step,h7,Option.bind_some];exact h5
end
end Go.Vabs

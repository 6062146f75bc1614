/- A library: a call to which something is lent, and a load from a variable that isn't, may come up in either order. No condition. -/
import Derived.Test.YtadllpehekphmaaDoorVSC
set_option linter.unusedSimpArgs false
set_option linter.unusedVariables false
namespace Go.Vabs
open Go.RowKit
section
variable {P:Program} {ty:Tys} {call:CallF} {w0:World} {B:Bs} {f0:Nat→Prop} {ops:Array Oper} {U:List Nat} {x y:Oper} {s s1 s2:St} {h:Nat}
def St.put (s:St)(d:Nat)(v:T):St:={ tm:=s.tm.set d v,hp:=s.hp,fr:=s.fr }
theorem killS_put {v:T}(hv:∀ h,v.kill h=v){d:Nat}:∀ (l:List Nat) (s:St),killS l (s.put d v)=(killS l s).put d v
 | [],s=>rfl
 | h::l,s=>by
  simp only[killS];rw[← killS_put hv l];simp only[St.put,List.map_set,hv]
theorem takeL_put {v:T}(hv:∀ h,v.kill h=v){d dy:Nat}(hd:d≠dy){hs dhs:List Nat}{r:T × List Ob}:takeL (s.put dy v) d hs dhs r=(takeL s d hs dhs r).map (St.put · dy v):=by
 unfold takeL;rw[show rowsOf (s.put dy v).hp hs=rowsOf s.hp hs from rfl,killS_put hv];have e1:((killS (rowsOf s.hp hs) s).put dy v).hp=(killS (rowsOf s.hp hs) s).hp:=rfl;have e2:((killS (rowsOf s.hp hs) s).put dy v).tm=(killS (rowsOf s.hp hs) s).tm.set dy v:=rfl;have e3:(s.put dy v).hp=s.hp:=rfl;have e4:(s.put dy v).fr=s.fr:=rfl;rw[e1,e2,e3,e4]
 cases addObs (putL (killS (rowsOf s.hp hs) s).hp hs (r.2.map (Ob.shift (backH hs d)))) d 0 ((r.2.drop hs.length).map (Ob.shift (backH hs d))) with
 | none=>rfl
 | some hp=>
  simp only[Option.map_some,St.put];rw[List.set_comm _ _ (Ne.symm hd)]
theorem evL2_put [Globals] {v:T}(hv:∀ h,v.kill h=v){d dy:Nat}(hd:d≠dy){f:FuncId}{ts:List T}{hs:List Nat}:evL2 call ty x f d ts hs (s.put dy v)=(evL2 call ty x f d ts hs s).map (St.put · dy v):=by
 unfold evL2;rw[show (s.put dy v).hp=s.hp from rfl,show (s.put dy v).fr=s.fr from rfl]
 cases lentObs s.hp s.fr hs hs with
 | none=>rfl
 | some obs=>
  simp only
  cases ts.mapM (handT s.hp hs (namesFrom 0 obs)) with
  | none=>rfl
  | some args=>
   simp only
   split
   ·cases call f (wkArgs ty (callTys x) args++obs.map fun ob=>obT (ob.shift (nmOf hs (namesFrom 0 obs)))) with
    | none=>rfl
    | some r=>exact takeL_put hv hd
   ·rfl
theorem lnd_op [Globals] {p:FuncId × Bool}(h:lnd x=some p):∃ c,x.op=.call c∧lendOf c=some p∧opArgs x=c.args.toList:=by
 unfold lnd at h
 split at h
 ·rename_i c ho;exact⟨c,ho,h,by unfold opArgs; rw[ho]⟩
 ·cases h
theorem evOp_lnd [Globals] {f:FuncId}{all:Bool}{d:Nat}(h:lnd x=some (f,all))(hd:x.dst=some d):evOp call ty x s=evL2 call ty x f d ((opArgs x).map (opd s.tm)) (lentHs s.hp all ((opArgs x).map (opd s.tm))) s:=by
 obtain⟨c,ho,hl,ha⟩:=lnd_op h;rw[ha];unfold evOp;rw[ho];simp only[hl,evL1,hd]
def ldK (o:Oper):Option (TypeId × Nat × Nat):=match o.op,o.dst with
 | .load t (.tmp k),some d=>some (t,k,d)
 | _,_=>none
def loadV [Globals] (ty:Tys)(t:TypeId)(k:Nat)(s:St):Option T:=match deref s.hp (opd s.tm (.tmp k)) with
 | some (cs,off)=>loadAt ty t cs off
 | none=>none
theorem evOp_ld [Globals] {t:TypeId}{k d:Nat}(h:ldK y=some (t,k,d)):evOp call ty y s=(loadV ty t k s).map (s.put d):=by
 unfold ldK at h
 split at h
 ·rename_i t' k' d' ho hd;simp only[Option.some.injEq,Prod.mk.injEq] at h;obtain⟨rfl,rfl,rfl⟩:=h;unfold evOp;rw[ho];simp only[evP,ho,loadV]
  cases deref s.hp (opd s.tm (.tmp k')) with
  | none=>rfl
  | some p=>
   simp only
   cases loadAt ty t' p.1 p.2 with
   | none=>rfl
   | some v=>simp only[Option.map_some,Option.bind_some,putP,hd,St.put]
 ·cases h
def indepL [Globals] (ops:Array Oper)(U:List Nat)(x y:Oper):Bool:=(lnd x).isSome&&x.guard.isNone&&y.guard.isNone&&(match ldK y,x.dst with
 | some (_,k,d),some dx=>U.contains (k+300000)&&(dx != d)&&(dx != k)&&!U.contains (d+300000)&&!(readsOf ops x).contains d
 | _,_=>false)
theorem indepL_facts [Globals] (h:indepL ops U x y=true):∃ f all t k d dx,lnd x=some (f,all)∧x.guard=none∧y.guard=none∧ldK y=some (t,k,d)∧x.dst=some dx∧k+300000∈U∧dx≠d∧dx≠k∧d+300000∉U∧d∉readsOf ops x:=by
 unfold indepL at h;simp only[Bool.and_eq_true,Option.isNone_iff_eq_none] at h;obtain⟨⟨⟨h1,h2⟩,h3⟩,h4⟩:=h;obtain⟨⟨f,all⟩,hl⟩:=Option.isSome_iff_exists.1 h1
 split at h4
 ·rename_i t k d dx hy hx;simp only[Bool.and_eq_true,bne_iff_ne,Bool.not_eq_true',List.contains_iff_mem] at h4;obtain⟨⟨⟨⟨g1,g2⟩,g3⟩,g4⟩,g5⟩:=h4;exact⟨f,all,t,k,d,dx,hl,h2,h3,hy,hx,g1,g2,g3,by simpa using g4,by simpa using g5⟩
 ·cases h4
theorem ldSafe_facts {hs:List Nat}{k:Nat}(h:ldSafe s hs k=true):∃ h i off o,s.tm[k]?=some (.c (.ptr h i off))∧hget s.hp h=some o∧o.free=true∧h∉hs:=by
 unfold ldSafe at h
 split at h
 ·rename_i h' i off ht;simp only[Bool.and_eq_true,Bool.not_eq_true'] at h;obtain⟨h1,h2⟩:=h
  split at h1
  ·rename_i o ho;exact⟨h',i,off,o,ht,ho,h1,by simpa using h2⟩
  ·cases h1
 ·cases h
theorem killS_keep {k i off:Nat}{o:Ob}(hf:o.free=true):∀ (l:List Nat) (s:St),h∉l→s.tm[k]?=some (.c (.ptr h i off))→hget s.hp h=some o→(killS l s).tm[k]?=some (.c (.ptr h i off))∧hget (killS l s).hp h=some o
 | [],s,_,ht,ho=>⟨ht,ho⟩
 | h'::l,s,hn,ht,ho=>by
  simp only[killS];refine killS_keep hf l _ (fun hm=>hn (List.mem_cons_of_mem _ hm)) ?_ ?_
  ·rw[List.getElem?_map,ht];have:(C.ptr h i off).kill h'=.ptr h i off:=by
    unfold C.kill C.has;rw[if_neg (by simpa using fun e=>hn (by rw[e]; exact List.mem_cons_self))]
   simp only[Option.map_some,T.kill,T.kill1,this]
  ·rw[hget_map,ho];simp only[Option.map_some,Ob.killF,hf,if_true]
theorem putL_off:∀ (hs:List Nat) (os:List Ob) (hp:Heap),h∉hs→hget (putL hp hs os) h=hget hp h
 | [],os,hp,_=>by cases os<;>rfl
 | k::hs,[],hp,_=>rfl
 | k::hs,o::os,hp,hn=>by
  simp only[putL];rw[putL_off hs os _ (fun hm=>hn (List.mem_cons_of_mem _ hm)),hgN _ _ _ _ (fun e=>hn (by rw[e]; exact List.mem_cons_self))]
theorem loadV_behind [Globals] {f:FuncId}{all:Bool}{t:TypeId}{k dx:Nat}(hx:lnd x=some (f,all))(hd:x.dst=some dx)(hk:dx≠k)(hs:ldSafe s (lentHs s.hp all ((opArgs x).map (opd s.tm))) k=true)(h1:evOp call ty x s=some s1):loadV ty t k s1=loadV ty t k s:=by
 rw[evOp_lnd hx hd] at h1;generalize lentHs s.hp all ((opArgs x).map (opd s.tm))=hs' at hs h1;obtain⟨h,i,off,o,ht,ho,hf,hn⟩:=ldSafe_facts hs;unfold evL2 at h1
 split at h1
 ·cases h1
 ·split at h1
  ·cases h1
  ·split at h1
   ·split at h1
    ·cases h1
    ·rename_i r hr;unfold takeL at h1
     split at h1
     ·rename_i hp hadd;injection h1 with h1;have hrows:h∉rowsOf s.hp hs':=fun hm=>hn (List.mem_filter.1 hm).1;obtain⟨k1,k2⟩:=killS_keep (k:=k) hf (rowsOf s.hp hs') s hrows ht ho;obtain⟨_,a2,a3⟩:=addObs_get hadd;have e1:hget s1.hp h=some o:=by
       rw[← h1];rw[a2 h (fun j hj e=>by
        have:=a3 j hj;rw[← e,putL_off _ _ _ hn,k2] at this
        cases this),putL_off _ _ _ hn,k2]
      have e2:s1.tm[k]?=s.tm[k]?:=by
       rw[← h1];simp only;rw[List.getElem?_set_ne hk,k1,ht]
      unfold loadV;have e3:opd s1.tm (.tmp k)=opd s.tm (.tmp k):=by simp only[opd,e2]
      have e4:opd s.tm (.tmp k)=.c (.ptr h i off):=by simp only[opd,ht]; rfl
      rw[e3,e4];simp only[deref,e1,ho]
     ·cases h1
   ·cases h1
theorem loadV_loose [Globals] {t:TypeId}{k:Nat}{hs:List Nat}{v:T}(hg:Good w0 B f0 s)(hs:ldSafe s hs k=true)(hv:loadV ty t k s=some v):∀ h,v.kill h=v:=by
 obtain⟨h,i,off,o,ht,ho,hf,_⟩:=ldSafe_facts hs;obtain⟨fz,ρ,tm,w,hrel⟩:=hg;obtain⟨l,_,_,hfree,_⟩:=hrel.obj h o ho;have hfree:=hfree hf;unfold loadV at hv;have e4:opd s.tm (.tmp k)=.c (.ptr h i off):=by simp only[opd,ht]; rfl
 rw[e4] at hv;simp only[deref,ho] at hv
 split at hv
 ·rename_i cs off' hd
  split at hd
  ·rename_i e he;simp only[Option.some.injEq,Prod.mk.injEq] at hd;obtain⟨rfl,rfl⟩:=hd;have hc:∀ c∈e,∀ q,C.kill q c=c:=fun c hc q=>by
    have:=hfree e (List.mem_of_getElem? he) c hc
    cases c<;>first | rfl | cases this
   intro q;unfold loadAt at hv
   split at hv
   ·rename_i y hy
    split at hv
    ·split at hv
     ·injection hv with hv;rw[← hv];show T.agg _=_;rw[map_id_of (fun c hcm=>hc c (List.mem_of_mem_drop (List.mem_of_mem_take hcm)) q)]
     ·cases hv
    ·rw[Option.map_eq_some_iff] at hv;obtain⟨c,hcm,rfl⟩:=hv;show T.c _=_;rw[hc c (List.mem_of_getElem? hcm) q]
   ·cases hv
  ·cases hd
 ·cases hv
theorem args_put [Globals] {d:Nat}{v:T}(hn:d∉readsOf ops x){c:Call}(ho:x.op=.call c)(ha:opArgs x=c.args.toList):(opArgs x).map (opd (s.put d v).tm)=(opArgs x).map (opd s.tm):=by
 refine List.map_congr_left fun z hz=>opd_congr (ops:=ops) (o:=x) (fun r hr=>?_) z ?_
 ·show (s.tm.set d v)[r]?=_;exact List.getElem?_set_ne (fun e=>hn (by rw[e]; exact hr))
 ·rw[ho];simp only[Op.operands,Call.operands,Array.toList_append];rw[ha] at hz;exact List.mem_append_right _ hz
theorem ld_none {t:TypeId}{k d:Nat}(h:ldK y=some (t,k,d)) [Globals]:apArgs y=none∧stOf y=none∧lnd y=none∧y.dst=some d:=by
 unfold ldK at h
 split at h
 ·rename_i t' k' d' ho hd;simp only[Option.some.injEq,Prod.mk.injEq] at h;obtain⟨_,_,rfl⟩:=h;refine⟨?_,?_,?_,hd⟩
  ·unfold apArgs; rw[ho]
  ·unfold stOf; rw[ho]
  ·unfold lnd; rw[ho]
 ·cases h
theorem chkL_put [Globals] {d:Nat}{v:T}(hU:d+300000∉U)(hargs:(opArgs x).map (opd (s.put d v).tm)=(opArgs x).map (opd s.tm)):chkL U x (s.put d v)=chkL U x s:=by
 unfold chkL
 cases lnd x with
 | none=>rfl
 | some p=>
  obtain⟨f,all⟩:=p;simp only;rw[hargs,show (s.put d v).hp=s.hp from rfl];rw[Bool.eq_iff_iff,List.all_eq_true,List.all_eq_true];refine forall_congr' fun r=>forall_congr' fun hr=>?_
  by_cases e2:r<300000
  ·simp[e2]
  ·have:(s.put d v).tm[r-300000]?=s.tm[r-300000]?:=List.getElem?_set_ne (fun e=>hU (by rw[e,Nat.sub_add_cancel (by omega)]; exact hr));unfold ldSafe;rw[this];rfl
theorem swapLA [Globals] (hg:Good w0 B f0 s)(hi:indepL ops U x y=true)(hck:chkL U x s=true)(h1:step call ty ops x s=some s1)(h2:step call ty ops y s1=some s2):
  ∃ s1',step call ty ops y s=some s1'∧chkL U x s1'=true∧step call ty ops x s1'=some s2:=by
 obtain⟨f,all,t,k,d,dx,hx,gx,gy,hy,hd,hU,n1,n2,n3,n4⟩:=indepL_facts hi;rw[step_none gx] at h1;rw[step_none gy,evOp_ld hy,Option.map_eq_some_iff] at h2;obtain⟨v,hv,rfl⟩:=h2;have hsafe:ldSafe s (lentHs s.hp all ((opArgs x).map (opd s.tm))) k=true:=by
  unfold chkL at hck;rw[hx] at hck;have:=List.all_eq_true.1 hck _ hU;simp only[Bool.or_eq_true,decide_eq_true_iff,Nat.add_sub_cancel] at this;exact this.resolve_left (by omega)
 rw[loadV_behind hx hd n2 hsafe h1] at hv;have hl:=loadV_loose hg hsafe hv;obtain⟨c,ho,_,ha⟩:=lnd_op hx;have hargs:=args_put (s:=s) (v:=v) n4 ho ha;refine⟨s.put d v,by rw[step_none gy,evOp_ld hy,hv]; rfl,by rw[chkL_put n3 hargs]; exact hck,?_⟩;rw[step_none gx,evOp_lnd hx hd,hargs,show (s.put d v).hp=s.hp from rfl,evL2_put hl n1,← evOp_lnd hx hd,h1];rfl
theorem swapLB [Globals] (hg:Good w0 B f0 s)(hi:indepL ops U x y=true)(h1:step call ty ops y s=some s1)(hck:chkL U x s1=true)(h2:step call ty ops x s1=some s2):
  chkL U x s=true∧∃ s1',step call ty ops x s=some s1'∧step call ty ops y s1'=some s2:=by
 obtain⟨f,all,t,k,d,dx,hx,gx,gy,hy,hd,hU,n1,n2,n3,n4⟩:=indepL_facts hi;rw[step_none gx] at h2;rw[step_none gy,evOp_ld hy,Option.map_eq_some_iff] at h1;obtain⟨v,hv,rfl⟩:=h1;obtain⟨c,ho,_,ha⟩:=lnd_op hx;have hargs:=args_put (s:=s) (v:=v) n4 ho ha;rw[chkL_put n3 hargs] at hck;have hsafe:ldSafe s (lentHs s.hp all ((opArgs x).map (opd s.tm))) k=true:=by
  unfold chkL at hck;rw[hx] at hck;have:=List.all_eq_true.1 hck _ hU;simp only[Bool.or_eq_true,decide_eq_true_iff,Nat.add_sub_cancel] at this;exact this.resolve_left (by omega)
 have hl:=loadV_loose hg hsafe hv;rw[evOp_lnd hx hd,hargs,show (s.put d v).hp=s.hp from rfl,evL2_put hl n1,← evOp_lnd hx hd,Option.map_eq_some_iff] at h2;obtain⟨s1',h3,rfl⟩:=h2;refine⟨hck,s1',by rw[step_none gx]; exact h3,?_⟩;rw[step_none gy,evOp_ld hy,loadV_behind hx hd n2 hsafe h3,hv];rfl
end
end Go.Vabs
namespace Go.Vabs
open Go.RowKit
section
variable {ty:Tys} {call:CallF} {ops:Array Oper} {U:List Nat} {x y:Oper} {s s1 s2:St} {h:Nat}
def mvK (o:Oper):Option (Nat × Nat):=match o.op,o.dst with
 | .move (.tmp k),some d=>some (k,d)
 | _,_=>none
theorem evOp_mv [Globals] {k d:Nat}(h:mvK y=some (k,d)):evOp call ty y s=some (s.put d (opd s.tm (.tmp k))):=by
 unfold mvK at h
 split at h
 ·rename_i k' d' ho hd;simp only[Option.some.injEq,Prod.mk.injEq] at h;obtain⟨rfl,rfl⟩:=h;unfold evOp;rw[ho];simp only[evP,ho,nilConst,Bool.false_eq_true,if_false,Option.bind_some,putP,hd];rfl
 ·cases h
def indepT [Globals] (ops:Array Oper)(U:List Nat)(x y:Oper):Bool:=isT U&&(apArgs x).isSome&&x.guard.isNone&&y.guard.isNone&&(match mvK y with
 | some (k,d)=>U.contains (k+400000)&&!U.contains (d+400000)&&(x.dst != some k)&&(x.dst != some d)&&!(readsOf ops x).contains d
 | none=>false)
theorem indepT_facts [Globals] (hi:indepT ops U x y=true):∃ d b xx t u k dy,isT U=true∧apArgs x=some (d,b,xx,t,u)∧x.guard=none∧y.guard=none∧mvK y=some (k,dy)∧k+400000∈U∧dy+400000∉U∧d≠k∧d≠dy∧dy∉readsOf ops x:=by
 unfold indepT at hi;simp only[Bool.and_eq_true,Option.isNone_iff_eq_none] at hi;obtain⟨⟨⟨⟨h0,h1⟩,h2⟩,h3⟩,h4⟩:=hi;obtain⟨⟨d,b,xx,t,u⟩,hap⟩:=Option.isSome_iff_exists.1 h1;obtain⟨hxd,_,_⟩:=ap_facts hap
 split at h4
 ·rename_i k dy hy;simp only[Bool.and_eq_true,bne_iff_ne,Bool.not_eq_true',List.contains_iff_mem] at h4;obtain⟨⟨⟨⟨g1,g2⟩,g3⟩,g4⟩,g5⟩:=h4;exact⟨d,b,xx,t,u,k,dy,h0,hap,h2,h3,hy,g1,by simpa using g2,fun e=>g3 (by rw[hxd,e]),fun e=>g4 (by rw[hxd,e]),by simpa using g5⟩
 ·cases h4
theorem chk_ap [Globals] {d:Nat}{b xx:Operand}{t u:TypeId}(hT:isT U=true)(hap:apArgs x=some (d,b,xx,t,u)):chk ty U x s=chkT ty U b xx u s:=by
 unfold chk;rw[hap];simp only[hT,if_true]
theorem chk_T [Globals] (h:indepT ops U x y=true):chk ty U y s=true:=by
 obtain⟨_,_,_,_,_,_,_,_,_,_,_,hy,_⟩:=indepT_facts h;unfold mvK at hy
 split at hy
 ·rename_i ho hd;unfold chk chkL lnd apArgs stOf;simp only[ho]
 ·cases hy
theorem ops_put [Globals] {d:Nat}{v:T}(hn:d∉readsOf ops x):∀ z∈x.op.operands.toList,opd (s.put d v).tm z=opd s.tm z:=opd_congr (ops:=ops) (o:=x) fun r hr=>by
 show (s.tm.set d v)[r]?=_;exact List.getElem?_set_ne (fun e=>hn (by rw[e]; exact hr))
theorem chkT_put [Globals] {dy:Nat}{v:T}{d:Nat}{b xx:Operand}{t u:TypeId}(hap:apArgs x=some (d,b,xx,t,u))(hU:dy+400000∉U)(hn:dy∉readsOf ops x):chkT ty U b xx u (s.put dy v)=chkT ty U b xx u s:=by
 obtain⟨_,hb,hx⟩:=ap_facts hap;unfold chkT;rw[ops_put hn b hb,ops_put hn xx hx,show (s.put dy v).hp=s.hp from rfl]
 split
 ·congr 2;rw[Bool.eq_iff_iff,List.all_eq_true,List.all_eq_true];refine forall_congr' fun r=>forall_congr' fun hr=>?_
  by_cases e2:r<400000
  ·simp[e2]
  ·have:(s.put dy v).tm[r-400000]?=s.tm[r-400000]?:=List.getElem?_set_ne (fun e=>hU (by rw[e,Nat.sub_add_cancel (by omega)]; exact hr));simp only[opd,this]
 ·rfl
theorem kill_off {v:T}(hh:h∉v.hds)(hf:v.flatTup):v.kill h=v:=T.kill_id hh hf
theorem mv_app [Globals] {d:Nat}{b xx:Operand}{t u:TypeId}{k dy:Nat}(hap:apArgs x=some (d,b,xx,t,u))(hc:chkT ty U b xx u s=true)(hk:k+400000∈U)(hU:dy+400000∉U)(n1:d≠k)(n2:d≠dy)(n3:dy∉readsOf ops x)(hft:(opd s.tm (.tmp k)).flatTup):
  evOp call ty x (s.put dy (opd s.tm (.tmp k)))=(evOp call ty x s).map (fun q=>q.put dy (opd s.tm (.tmp k)))∧∀ s1,evOp call ty x s=some s1→opd s1.tm (.tmp k)=opd s.tm (.tmp k):=by
 obtain⟨_,hbm,hxm⟩:=ap_facts hap;obtain⟨h,off,len,hb,hkk,hfs,hni⟩:=chkT_facts hc;have hkh:=hkk k hk;generalize hv:opd s.tm (.tmp k)=v at hkh hft ⊢;have hkill:v.kill h=v:=kill_off hkh hft;have hb':opd (s.put dy v).tm b=.c (.ref h off len):=by rw[ops_put n3 b hbm]; exact hb
 have hfs':freeSrc (s.put dy v).hp (opd (s.put dy v).tm xx)=true:=by rw[ops_put n3 xx hxm]; exact hfs
 rw[evA_strict0 hap hb hfs hni,evA_strict0 hap hb' hfs' hni,ops_put n3 b hbm,ops_put n3 xx hxm,show (s.put dy v).hp=s.hp from rfl,show (s.put dy v).fr=s.fr from rfl];refine⟨?_,fun s1 h1=>?_⟩
 ·cases he:effA ty t u (opd s.tm b) (opd s.tm xx) s.hp s.fr with
  | none=>rfl
  | some r=>
   obtain⟨off',len',o0,hb0,_⟩:=effA_base he;rw[hb] at hb0;have:h=r.1:=by injection hb0 with e; injection e
   subst this;simp only[Option.map_some,appA,St.put,List.map_set,hkill];rw[List.set_comm _ _ (Ne.symm n2)]
 ·rw[Option.map_eq_some_iff] at h1;obtain⟨r,he,rfl⟩:=h1;obtain⟨off',len',o0,hb0,_⟩:=effA_base he;rw[hb] at hb0;have:h=r.1:=by injection hb0 with e; injection e
  subst this;have e1:(appA s d r).tm[k]?=(s.tm[k]?).map (T.kill r.1):=by
   simp only[appA];rw[List.getElem?_set_ne n1,List.getElem?_map]
  simp only[opd,e1] at hv ⊢;rw[← hv]
  cases hq:s.tm[k]? with
  | none=>rfl
  | some q=>
   rw[hq] at hv;simp only[Option.map_some,Option.getD_some] at hv ⊢;have h2:q.hds=v.hds:=by rw[← hv,noI_hds]
   cases q with
   | itr q pos=>rfl
   | tup l=>
    have hv:T.tup l=v:=hv;rw[hv,hkill,← hv]
   | c c0=>
    have hv:T.c c0=v:=hv;rw[hv,hkill,← hv]
   | agg l=>
    have hv:T.agg l=v:=hv;rw[hv,hkill,← hv]
   | junk=>rfl
theorem opd_flat [Globals] {w0:World}{B:Bs}{f0:Nat→Prop}(hg:Good w0 B f0 s)(k:Nat):(opd s.tm (.tmp k)).flatTup:=by
 simp only[opd]
 cases hq:s.tm[k]? with
 | none=>trivial
 | some q=>
  have:=(hg.dom q (List.mem_of_getElem? hq)).2
  cases q<;>exact this
theorem swapTA [Globals] {w0:World}{B:Bs}{f0:Nat→Prop}(hg:Good w0 B f0 s)(hi:indepT ops U x y=true)(hck:chk ty U x s=true)(h1:step call ty ops x s=some s1)(h2:step call ty ops y s1=some s2):
  ∃ s1',step call ty ops y s=some s1'∧chk ty U x s1'=true∧step call ty ops x s1'=some s2:=by
 obtain⟨d,b,xx,t,u,k,dy,hT,hap,gx,gy,hy,hk,hU,n1,n2,n3⟩:=indepT_facts hi;rw[chk_ap hT hap] at hck;rw[step_none gx] at h1;rw[step_none gy,evOp_mv hy] at h2;obtain⟨m1,m2⟩:=mv_app (call:=call) hap hck hk hU n1 n2 n3 (opd_flat hg k);refine⟨s.put dy (opd s.tm (.tmp k)),by rw[step_none gy,evOp_mv hy],by rw[chk_ap hT hap,chkT_put hap hU n3]; exact hck,?_⟩;rw[step_none gx,m1,h1,← h2,m2 s1 h1];rfl
theorem swapTB [Globals] {w0:World}{B:Bs}{f0:Nat→Prop}(hg:Good w0 B f0 s)(hi:indepT ops U x y=true)(h1:step call ty ops y s=some s1)(hck:chk ty U x s1=true)(h2:step call ty ops x s1=some s2):
  chk ty U x s=true∧∃ s1',step call ty ops x s=some s1'∧step call ty ops y s1'=some s2:=by
 obtain⟨d,b,xx,t,u,k,dy,hT,hap,gx,gy,hy,hk,hU,n1,n2,n3⟩:=indepT_facts hi;rw[step_none gy,evOp_mv hy] at h1;injection h1 with h1;subst h1;rw[chk_ap hT hap,chkT_put hap hU n3] at hck;obtain⟨m1,m2⟩:=mv_app (call:=call) hap hck hk hU n1 n2 n3 (opd_flat hg k);rw[step_none gx,m1,Option.map_eq_some_iff] at h2;obtain⟨s1',h3,rfl⟩:=h2;refine⟨by rw[chk_ap hT hap]; exact hck,s1',by rw[step_none gx]; exact h3,?_⟩;rw[step_none gy,evOp_mv hy,m2 s1' h3]
end
end Go.Vabs

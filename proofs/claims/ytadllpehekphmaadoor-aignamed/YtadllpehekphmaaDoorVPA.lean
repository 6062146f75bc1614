/- A library: what a call hands back to which something was lent. No condition. -/
import Derived.Test.YtadllpehekphmaaDoorVO
set_option linter.unusedSimpArgs false
set_option linter.unusedVariables false
namespace Go.Vabs
open Go.RowKit
theorem ixOf_some:∀ {l:List Nat} {h j:Nat},ixOf l h=some j→l[j]?=some h
 | [],h,j,e=>by cases e
 | k::l,h,j,e=>by
  simp only[ixOf] at e
  split at e
  ·rename_i hk;injection e with e;subst e;subst hk;rfl
  ·rw[Option.map_eq_some_iff] at e;obtain⟨i,hi,rfl⟩:=e;simpa using ixOf_some hi
theorem ixOf_none:∀ {l:List Nat} {h:Nat},ixOf l h=none→h∉l
 | [],h,e=>by simp
 | k::l,h,e=>by
  simp only[ixOf] at e
  split at e
  ·cases e
  ·rename_i hk;rw[Option.map_eq_none_iff] at e;simp only[List.mem_cons,not_or];exact⟨fun e=>hk e.symm,ixOf_none e⟩
theorem lentH_ix {b b':Bool}{i j:Nat}(h:lentH b i=lentH b' j):i=j∧b=b':=by
 unfold lentH at h
 cases b<;>cases b'<;>simp at h<;>first | exact⟨by omega,rfl⟩ | omega
theorem namesFrom_get:∀ {obs:List Ob} {i j:Nat},(namesFrom i obs)[j]?=(obs[j]?).map fun o=>lentH o.box (i+j)
 | [],i,j=>by simp[namesFrom]
 | o::os,i,0=>by simp[namesFrom]
 | o::os,i,j+1=>by
  simp only[namesFrom,List.getElem?_cons_succ];rw[namesFrom_get,show i+1+j=i+(j+1) by omega]
theorem namesFrom_length:∀ {obs:List Ob} {i:Nat},(namesFrom i obs).length=obs.length
 | [],i=>rfl
 | o::os,i=>by simp[namesFrom,namesFrom_length]
theorem names_inj {obs:List Ob}{i j k:Nat}(h1:(namesFrom 0 obs)[i]?=some k)(h2:(namesFrom 0 obs)[j]?=some k):i=j:=by
 rw[namesFrom_get,Option.map_eq_some_iff] at h1 h2;obtain⟨o1,_,e1⟩:=h1;obtain⟨o2,_,e2⟩:=h2;have:=(lentH_ix (e1.trans e2.symm)).1;omega
def lk (lam:Nat→Option Loc)(n:Nat)(locs:List Loc)(i:Nat):Option Loc:=if i<n then lam i else locs[i-n]?
theorem lk_pre {lam:Nat→Option Loc}{n:Nat}{l m:List Loc}(h:l <+: m){i:Nat}{a:Loc}(hi:lk lam n l i=some a):lk lam n m i=some a:=by
 unfold lk at hi ⊢
 split
 ·rename_i hlt; rw[if_pos hlt] at hi; exact hi
 ·rename_i hlt; rw[if_neg hlt] at hi; exact getElem?_pre h hi
section
variable {P:Program} {ty:Tys} {w0:World} {B:Bs} {f0 fz:Nat→Prop} {ρ:Nat→Option Loc} {s:St} {tm:Array Value} {w:World} {nms:List Nat} {lam:Nat→Option Loc}
def Lam (s:St)(ρ:Nat→Option Loc)(nms:List Nat)(lam:Nat→Option Loc):Prop:=∀ j k,nms[j]?=some k→k∉s.fr→∀ l,ρ k=some l→lam j=some l
theorem xpC_rep [Globals] (hrel:Rel w0 B f0 fz ρ s tm w)(hlam:Lam s ρ nms lam){z:Option (TypeId × Nat)}{seen:List Nat}{obs:List Ob}{locs:List Loc}(hinv:ExpInv w fz ρ s.fr seen obs locs)(hsn:∀ k∈seen,k∉nms){v:Value}{c c':C}{seen':List Nat}{obs':List Ob}(hv:RepC w fz ρ v c)
  (h:xpC s.hp s.fr nms z c seen obs=some (c',seen',obs')):
  ∃ locs',locs <+: locs'∧ExpInv w fz ρ s.fr seen' obs' locs'∧(∀ k∈seen',k∉nms)∧RepC w fz (lk lam nms.length locs') v c':=by
 have via:∀ c1,expC s.hp s.fr z c seen obs=some (c1,seen',obs')→c'=c1.shift (nms.length+·)→(∀ k∈seen',k∉nms)→∃ locs',locs <+: locs'∧ExpInv w fz ρ s.fr seen' obs' locs'∧(∀ k∈seen',k∉nms)∧RepC w fz (lk lam nms.length locs') v c':=by
  intro c1 h1 h2 h3;obtain⟨locs',g1,g2,g3⟩:=expC_rep hrel hinv hv h1;refine⟨locs',g1,g2,h3,?_⟩;rw[h2];refine g3.shift (fun k l hk=>?_);unfold lk;rw[if_neg (by omega),Nat.add_sub_cancel_left];exact hk
 have known:∀ (k j:Nat),ixOf nms k=some j→s.fr.contains k=false→∀ l,ρ k=some l→lk lam nms.length locs j=some l:=by
  intro k j hj hfr l hl;have h1:=ixOf_some hj;unfold lk;rw[if_pos (List.getElem?_eq_some_iff.1 h1).1];exact hlam j k h1 (by simpa using hfr) l hl
 unfold xpC at h
 split at h
 ·rename_i q hz;simp only[Option.some.injEq,Prod.mk.injEq] at h;obtain⟨rfl,rfl,rfl⟩:=h;exact via (.ref obs.length 0 0) (by unfold expC; rw[hz]) rfl hsn
 ·rename_i hz
  cases c with
  | ref k off len=>
   simp only at h
   split at h
   ·rename_i o ho
    split at h
    ·cases h
    ·rename_i hcond
     split at h
     ·cases h
     ·rename_i hseen
      split at h
      ·rename_i hfr;simp only[Option.some.injEq,Prod.mk.injEq] at h;obtain⟨rfl,rfl,rfl⟩:=h;exact via (.sl o.sz ((o.es.drop off).take len)) (by unfold expC; rw[hz]; simp only[ho,if_neg hcond,if_neg hseen,if_pos hfr]) rfl hsn
      ·rename_i hfr
       split at h
       ·rename_i j hj;simp only[Option.some.injEq,Prod.mk.injEq] at h;obtain⟨rfl,rfl,rfl⟩:=h;refine⟨locs,List.prefix_refl _,hinv,hsn,?_⟩;have hk:=known k j hj (by simpa using hfr)
        cases hv with
        | frz hq=>cases hq
        | nil _ e=>exact .nil _ (hk _ e)
        | ref _ _ _ b base cap sz a e hc ha hs=>exact .ref _ _ _ b base cap sz a (hk _ e) hc ha hs
       ·rename_i hj;simp only[Option.some.injEq,Prod.mk.injEq] at h;obtain⟨rfl,rfl,rfl⟩:=h;refine via (.ref obs.length 0 len) (by unfold expC; rw[hz]; simp only[ho,if_neg hcond,if_neg hseen,if_neg hfr]) rfl (fun k' hk'=>?_)
        rcases List.mem_cons.1 hk' with rfl | hk'
        ·exact ixOf_none hj
        ·exact hsn k' hk'
   ·cases h
  | ptr k i off=>
   simp only at h
   split at h
   ·cases h
   ·rename_i hfr;rw[Option.map_eq_some_iff] at h;obtain⟨j,hj,h⟩:=h;simp only[Prod.mk.injEq] at h;obtain⟨rfl,rfl,rfl⟩:=h;refine⟨locs,List.prefix_refl _,hinv,hsn,?_⟩;have hk:=known k j hj (by simpa using hfr)
    cases hv with
    | frz hq=>cases hq
    | ptr _ _ _ b base cap sz e=>exact .ptr _ _ _ b base cap sz (hk _ e)
  | _=>
   simp only[Option.some.injEq,Prod.mk.injEq] at h;obtain⟨rfl,rfl,rfl⟩:=h;exact via _ (by unfold expC; rw[hz]) rfl hsn
theorem xpL_rep [Globals] (hrel:Rel w0 B f0 fz ρ s tm w)(hlam:Lam s ρ nms lam):∀ {zs:List (Option (TypeId × Nat))} {cs cs':List C} {vs:List Value} {seen seen':List Nat} {obs obs':List Ob} {locs:List Loc},ExpInv w fz ρ s.fr seen obs locs→(∀ k∈seen,k∉nms)→RepL w fz ρ vs cs→xpL s.hp s.fr nms zs cs seen obs=some (cs',seen',obs') →
  ∃ locs',locs <+: locs'∧ExpInv w fz ρ s.fr seen' obs' locs'∧(∀ k∈seen',k∉nms)∧RepL w fz (lk lam nms.length locs') vs cs'
 | zs,[],cs',vs,seen,seen',obs,obs',locs,hinv,hsn,hv,h=>by
  simp only[xpL,Option.some.injEq,Prod.mk.injEq] at h;obtain⟨rfl,rfl,rfl⟩:=h;exact⟨locs,List.prefix_refl _,hinv,hsn,hv.1,by simp⟩
 | zs,c::cs,cs',vs,seen,seen',obs,obs',locs,hinv,hsn,hv,h=>by
  simp only[xpL] at h
  split at h
  ·rename_i c1 seen1 obs1 hc
   split at h
   ·rename_i cs1 seen2 obs2 hcs;simp only[Option.some.injEq,Prod.mk.injEq] at h;obtain⟨rfl,rfl,rfl⟩:=h
    cases vs with
    | nil=>have:=hv.1; simp at this
    | cons u us=>
     obtain⟨locs1,hp1,hinv1,hsn1,hr1⟩:=xpC_rep hrel hlam hinv hsn (hv.2 0 u c rfl rfl) hc;obtain⟨locs2,hp2,hinv2,hsn2,hr2⟩:=xpL_rep hrel hlam hinv1 hsn1 (vs:=us) ⟨by have:=hv.1; simpa using this,fun i x y hx hy=>hv.2 (i+1) x y (by simpa using hx) (by simpa using hy)⟩ hcs;refine⟨locs2,hp1.trans hp2,hinv2,hsn2,by simp[hr2.1],fun i x y hx hy=>?_⟩
     cases i with
     | zero=>simp at hx hy; subst hx; subst hy; exact hr1.mono (fun _ _=>rfl) (fun _ h=>h) (fun _ _ hk=>lk_pre hp2 hk)
     | succ i=>exact hr2.2 i x y (by simpa using hx) (by simpa using hy)
   ·cases h
  ·cases h
theorem xp1_rep [Globals] (hrel:Rel w0 B f0 fz ρ s tm w)(hlam:Lam s ρ nms lam){zs:List (Option (TypeId × Nat))}{t t':T}{v:Value}{seen seen':List Nat}{obs obs':List Ob}{locs:List Loc}(hinv:ExpInv w fz ρ s.fr seen obs locs)(hsn:∀ k∈seen,k∉nms)(hv:RepT w fz ρ v t)(h:xp1 s.hp s.fr nms zs t seen obs=some (t',seen',obs')):
  ∃ locs',locs <+: locs'∧ExpInv w fz ρ s.fr seen' obs' locs'∧(∀ k∈seen',k∉nms)∧Rep1 w fz (lk lam nms.length locs') v t':=by
 cases t with
 | c x=>
  simp only[xp1] at h
  split at h
  ·rename_i c1 s1 o1 hc;simp only[Option.some.injEq,Prod.mk.injEq] at h;obtain⟨rfl,rfl,rfl⟩:=h;exact xpC_rep hrel hlam hinv hsn hv hc
  ·cases h
 | agg cs=>
  simp only[xp1] at h
  split at h
  ·rename_i c1 s1 o1 hc;simp only[Option.some.injEq,Prod.mk.injEq] at h;obtain⟨rfl,rfl,rfl⟩:=h;obtain⟨vs,e,hv⟩:=hv;obtain⟨locs',h1,h2,h3,h4⟩:=xpL_rep hrel hlam hinv hsn hv hc;exact⟨locs',h1,h2,h3,vs,e,h4⟩
  ·cases h
 | junk=>
  simp only[xp1,Option.some.injEq,Prod.mk.injEq] at h;obtain⟨rfl,rfl,rfl⟩:=h;exact⟨locs,List.prefix_refl _,hinv,hsn,trivial⟩
 | tup _=>cases h
 | itr _ _=>cases h
theorem xpTs_rep [Globals] (hrel:Rel w0 B f0 fz ρ s tm w)(hlam:Lam s ρ nms lam):∀ {zss:List (List (Option (TypeId × Nat)))} {ts ts':List T} {vs:List Value} {seen seen':List Nat} {obs obs':List Ob} {locs:List Loc},ExpInv w fz ρ s.fr seen obs locs→(∀ k∈seen,k∉nms)→vs.length=ts.length→(∀ (i:Nat) (v:Value) (t:T),vs[i]?=some v→ts[i]?=some t→RepT w fz ρ v t) →
  xpTs s.hp s.fr nms zss ts seen obs=some (ts',seen',obs')→∃ locs',locs <+: locs'∧ExpInv w fz ρ s.fr seen' obs' locs'∧(∀ k∈seen',k∉nms)∧vs.length=ts'.length∧(∀ (i:Nat) (v:Value) (t:T),vs[i]?=some v→ts'[i]?=some t→Rep1 w fz (lk lam nms.length locs') v t)
 | zss,[],ts',vs,seen,seen',obs,obs',locs,hinv,hsn,hl,hv,h=>by
  simp only[xpTs,Option.some.injEq,Prod.mk.injEq] at h;obtain⟨rfl,rfl,rfl⟩:=h;exact⟨locs,List.prefix_refl _,hinv,hsn,hl,by simp⟩
 | zss,t::ts,ts',vs,seen,seen',obs,obs',locs,hinv,hsn,hl,hv,h=>by
  simp only[xpTs] at h
  split at h
  ·rename_i c1 seen1 obs1 hc
   split at h
   ·rename_i cs1 seen2 obs2 hcs;simp only[Option.some.injEq,Prod.mk.injEq] at h;obtain⟨rfl,rfl,rfl⟩:=h
    cases vs with
    | nil=>simp at hl
    | cons u us=>
     obtain⟨locs1,hp1,hinv1,hsn1,hr1⟩:=xp1_rep hrel hlam hinv hsn (hv 0 u t rfl rfl) hc;obtain⟨locs2,hp2,hinv2,hsn2,hl2,hr2⟩:=xpTs_rep hrel hlam hinv1 hsn1 (vs:=us) (by simpa using hl) (fun i x y hx hy=>hv (i+1) x y (by simpa using hx) (by simpa using hy)) hcs;refine⟨locs2,hp1.trans hp2,hinv2,hsn2,by simp[hl2],fun i x y hx hy=>?_⟩
     cases i with
     | zero=>simp at hx hy; subst hx; subst hy; exact hr1.mono (fun _ _=>rfl) (fun _ h=>h) (fun _ _ hk=>lk_pre hp2 hk)
     | succ i=>exact hr2 i x y (by simpa using hx) (by simpa using hy)
   ·cases h
  ·cases h
theorem xpO_rep [Globals] (hrel:Rel w0 B f0 fz ρ s tm w)(hlam:Lam s ρ nms lam)(hnil:∀ j k,nms[j]?=some k→k∈s.fr∨ρ k=none→lam j=some .nil):∀ {ks:List Nat} {os:List Ob} {i0:Nat} {os':List Ob} {seen seen':List Nat} {obs obs':List Ob} {locs:List Loc},
  ExpInv w fz ρ s.fr seen obs locs→(∀ k∈seen,k∉nms)→(∀ m,ks[m]?=nms[i0+m]?∨ks[m]?=none)→ks.length=os.length→xpO ty s.hp s.fr nms ks os seen obs=some (os',seen',obs') →
  ∃ locs',locs <+: locs'∧ExpInv w fz ρ s.fr seen' obs' locs'∧(∀ k∈seen',k∉nms)∧os'.length=os.length∧(∀ (m:Nat) (o:Ob),os'[m]?=some o→∃ l,lam (i0+m)=some l∧RepO w fz (lk lam nms.length locs') l o) ∧
   (∀ (m:Nat) (o0:Ob),os[m]?=some o0→o0.box=true→∃ k o o',nms[i0+m]?=some k∧k∉s.fr∧hget s.hp k=some o∧os'[m]?=some o'∧o'.box=o.box)
 | [],[],i0,os',seen,seen',obs,obs',locs,hinv,hsn,hks,hlen,h=>by
  simp only[xpO,Option.some.injEq,Prod.mk.injEq] at h;obtain⟨rfl,rfl,rfl⟩:=h;exact⟨locs,List.prefix_refl _,hinv,hsn,rfl,by simp,by simp⟩
 | [],_::_,i0,os',seen,seen',obs,obs',locs,hinv,hsn,hks,hlen,h=>by simp at hlen
 | _::_,[],i0,os',seen,seen',obs,obs',locs,hinv,hsn,hks,hlen,h=>by simp at hlen
 | k::ks,o0::os,i0,os',seen,seen',obs,obs',locs,hinv,hsn,hks,hlen,h=>by
  have hk0:nms[i0]?=some k:=by
   have:=hks 0
   rcases this with h | h
   ·exact h.symm
   ·cases h
  have hks':∀ m,ks[m]?=nms[i0+1+m]?∨ks[m]?=none:=fun m=>by
   have:=hks (m+1);rw[show i0+(m+1)=i0+1+m by omega] at this;simpa using this
  have hi0:i0<nms.length:=(List.getElem?_eq_some_iff.1 hk0).1;have hlam0:∀ l locs,lam i0=some l→lk lam nms.length locs i0=some l:=fun l locs e=>by unfold lk; rw[if_pos hi0]; exact e
  have step:∀ {seen1:List Nat} {obs1:List Ob} {locs1:List Loc} {o1:Ob} {os1:List Ob} {l1:Loc},ExpInv w fz ρ s.fr seen1 obs1 locs1→(∀ k∈seen1,k∉nms)→locs <+: locs1→lam i0=some l1→RepO w fz (lk lam nms.length locs1) l1 o1 →
    (o0.box=true→k∉s.fr∧∃ o,hget s.hp k=some o∧o1.box=o.box) →
    xpO ty s.hp s.fr nms ks os seen1 obs1=some (os1,seen',obs')→os'=o1::os1 →
    ∃ locs',locs <+: locs'∧ExpInv w fz ρ s.fr seen' obs' locs'∧(∀ k∈seen',k∉nms)∧os'.length=(o0::os).length∧(∀ (m:Nat) (o:Ob),os'[m]?=some o→∃ l,lam (i0+m)=some l∧RepO w fz (lk lam nms.length locs') l o) ∧
     (∀ (m:Nat) (o0':Ob),(o0::os)[m]?=some o0'→o0'.box=true→∃ k o o',nms[i0+m]?=some k∧k∉s.fr∧hget s.hp k=some o∧os'[m]?=some o'∧o'.box=o.box):=by
   intro seen1 obs1 locs1 o1 os1 l1 g1 g2 g3 g4 g5 g5' g6 g7;obtain⟨locs2,e1,e2,e3,e4,e5,e6⟩:=xpO_rep hrel hlam hnil (i0:=i0+1) g1 g2 hks' (by simpa using hlen) g6;subst g7;refine⟨locs2,g3.trans e1,e2,e3,by simp[e4],fun m o ho=>?_,fun m o0' ho hb=>?_⟩
   ·cases m with
    | zero=>
     simp at ho;subst ho;exact⟨l1,g4,g5.mono (fun _ _ _ _ _=>rfl) (fun _ _=>rfl) (fun _ h=>h) (fun _ _ hk=>lk_pre e1 hk)⟩
    | succ m=>
     have:=e5 m o (by simpa using ho);rw[show i0+1+m=i0+(m+1) by omega] at this;exact this
   ·cases m with
    | zero=>
     simp at ho;subst ho;obtain⟨q1,o,q2,q3⟩:=g5' hb;exact⟨k,o,o1,hk0,q1,q2,rfl,q3⟩
    | succ m=>
     obtain⟨k',o,o',q1,q2,q3,q4,q5⟩:=e6 m o0' (by simpa using ho) hb;rw[show i0+1+m=i0+(m+1) by omega] at q1;exact⟨k',o,o',q1,q2,q3,by simpa using q4,q5⟩
  unfold xpO at h
  split at h
  ·rename_i hbox
   split at h
   ·rename_i o c0 ho hfr hes0
    split at h
    ·rename_i cs hes
     split at h
     ·rename_i cs' seen1 obs1 hx
      split at h
      ·rename_i os1 seen2 obs2 hrec;simp only[Option.some.injEq,Prod.mk.injEq] at h;obtain⟨rfl,rfl,rfl⟩:=h;have hkfr:k∉s.fr:=by simpa using hfr
       obtain⟨l,hl,hO⟩:=hrel.obj k o ho;obtain⟨h1,h0,hO⟩:=hO;have hcl:cs.length=o.sz:=h1 cs (by rw[hes]; exact List.mem_singleton_self _)
       cases l with
       | nil=>have:=hO.1; rw[hes] at this; cases this
       | «at» b base cap sz=>
        obtain⟨e1,e2,c,fr,e3,e4,e5,e6⟩:=hO;have hcv:∀ j,j<cs.length→∃ u,c[base+0*sz+j]?=some u∧∀ x,cs[j]?=some x→RepC w fz ρ u x:=fun j hj=>by
         obtain⟨u,hu,hr⟩:=e6 0 j cs cs[j] (by rw[hes]; rfl) (List.getElem?_eq_getElem hj);exact⟨u,hu,fun x hx=>by rw[List.getElem?_eq_getElem hj] at hx; injection hx with hx; exact hx▸hr⟩
        let vs:List Value:=(List.range cs.length).map fun j=>(c[base+0*sz+j]?).getD undef
        have hvs:∀ j u,vs[j]?=some u→j<cs.length∧c[base+0*sz+j]?=some u:=fun j u hu=>by
         simp only[vs,List.getElem?_map,Option.map_eq_some_iff] at hu;obtain⟨i,hi,hu⟩:=hu;have hil:=(List.getElem?_eq_some_iff.1 hi);obtain⟨h1,h2⟩:=hil;simp only[List.length_range] at h1;simp only[List.getElem_range] at h2;subst h2;obtain⟨u',hu',_⟩:=hcv j h1;rw[hu'] at hu;exact⟨h1,by rw[hu']; exact congrArg some hu⟩
        have hrl:RepL w fz ρ vs cs:=⟨by simp[vs],fun j u x hu hx=>by
         obtain⟨h1,h2⟩:=hvs j u hu;obtain⟨u',hu',hr⟩:=hcv j h1;rw[hu'] at h2;injection h2 with h2;exact h2▸hr x hx⟩
        obtain⟨locs1,g1,g2,g3,g4⟩:=xpL_rep hrel hlam hinv hsn hrl hx;have hl1:cs'.length=o.sz:=by rw[← g4.1,hrl.1,hcl]
        refine step (o1:={ o with free:=cs'.all C.free,es:=[cs'] }) (l1:=.at b base cap sz) g2 g3 g1 (hlam i0 k hk0 hkfr _ hl) ?_ (fun _=>⟨hkfr,o,ho,rfl⟩) hrec rfl;refine⟨fun e he=>by rw[List.mem_singleton] at he; subst he; exact hl1,fun hf e he x hxx=>by rw[List.mem_singleton] at he; subst he; exact List.all_eq_true.1 hf x hxx,e1,by rw[hes] at e2; exact e2,c,fr,e3,e4,e5,fun i j e x he hxx=>?_⟩
        cases i with
        | succ i=>simp at he
        | zero=>
         simp at he;subst he;have hj:=(List.getElem?_eq_some_iff.1 hxx).1;have hjv:j<vs.length:=by rw[g4.1]; exact hj
         have hu:=List.getElem?_eq_getElem hjv;exact⟨vs[j],(hvs j _ hu).2,g4.2 j _ x hu hxx⟩
      ·cases h
     ·cases h
    ·cases h
   ·cases h
  ·rename_i hbox
   split at h
   ·rename_i os1 seen1 obs1 hrec
    split at h
    ·rename_i o ho hfr
     split at h
     ·rename_i hfree;simp only[Option.some.injEq,Prod.mk.injEq] at h;obtain⟨rfl,rfl,rfl⟩:=h;have hkfr:k∉s.fr:=by simpa using hfr
      obtain⟨l,hl,hO⟩:=hrel.obj k o ho;simp only[Bool.and_eq_true] at hfree;exact step hinv hsn (List.prefix_refl _) (hlam i0 k hk0 hkfr _ hl) (hO.free_any hfree.1 (fun _ _ _ _ _=>rfl) (fun _ _=>rfl) (fun _ h=>h)) (fun e=>absurd e hbox) hrec rfl
     ·cases h
    ·rename_i hno;simp only[Option.some.injEq,Prod.mk.injEq] at h;obtain⟨rfl,rfl,rfl⟩:=h;have:k∈s.fr∨ρ k=none:=by
      by_cases hkfr:k∈s.fr
      ·exact .inl hkfr
      ·right
       cases hρ:ρ k with
       | none=>rfl
       | some l=>
        obtain⟨o,ho⟩:=hrel.dom1 k l hρ;exact absurd (by simpa using hkfr) (hno o ho)
     exact step hinv hsn (List.prefix_refl _) (hnil i0 k hk0 this) ⟨fun e he=>absurd he List.not_mem_nil,fun _ e he=>absurd he List.not_mem_nil,rfl,rfl⟩ (fun e=>absurd e hbox) hrec rfl
   ·cases h
theorem results_run [Globals] (hty:∀ t y,ty t=some y→Ty.of P t=some y){a:Act}(hrel:Rel w0 B f0 fz ρ s a.tmps w){fn:Func}{ts:List T}(hts:fn.results.toList.mapM (resT ty s)=some ts):
  ∃ vs:List Value,(results fn a.tmps).run P w=.ok (if h:vs.toArray.size=1 then vs.toArray[0] else .tuple vs.toArray) w∧vs.length=ts.length∧∀ (i:Nat) (v:Value) (t:T),vs[i]?=some v→ts[i]?=some t→RepT w fz ρ v t:=by
 obtain⟨vs,h1,h2,h3⟩:=results_rep (P:=P) hty hrel hts;refine⟨vs,?_,h2,h3⟩;rw[results_eq,Array.mapM_eq_mapM_toList];simp only[Sem.run_bind,Sem.run_map,h1,Result.andThen_ok];rfl
theorem xpR_rep [Globals] (hrel:Rel w0 B f0 fz ρ s tm w)(hlam:Lam s ρ nms lam){zss:List (List (Option (TypeId × Nat)))}{ts:List T}{t:T}{vs:List Value}{seen:List Nat}{obs:List Ob}(h2:vs.length=ts.length)(h3:∀ (i:Nat) (v:Value) (t:T),vs[i]?=some v→ts[i]?=some t→RepT w fz ρ v t)
  (h:xpR ty s.hp s.fr nms zss ts=some (t,seen,obs)):∃ locs,ExpInv w fz ρ s.fr seen obs locs∧(∀ k∈seen,k∉nms)∧RepT w fz (lk lam nms.length locs) (if h:vs.toArray.size=1 then vs.toArray[0] else .tuple vs.toArray) t:=by
 unfold xpR at h
 split at h
 ·rename_i t0;obtain⟨locs,_,hinv,hsn,hr⟩:=xp1_rep hrel hlam expInv_nil (by simp) (h3 0 (vs[0]'(by rw[h2]; simp)) t0 (List.getElem?_eq_getElem _) rfl) h;refine⟨locs,hinv,hsn,?_⟩;rw[dif_pos (by simpa using h2)];exact hr.toT
 ·rename_i hne
  split at h
  ·rename_i ts' seen' obs' he;simp only[Option.some.injEq,Prod.mk.injEq] at h;obtain⟨rfl,rfl,rfl⟩:=h;obtain⟨locs,_,hinv,hsn,hl,hr⟩:=xpTs_rep hrel hlam expInv_nil (by simp) h2 h3 he;refine⟨locs,hinv,hsn,?_⟩;rw[dif_neg]
   ·refine⟨vs.toArray,rfl,by simpa using hl,fun i t ht=>?_⟩;have hil:=(List.getElem?_eq_some_iff.1 ht).1;have:i<vs.length:=by rw[hl]; exact hil
    exact⟨vs[i],by simp[this],hr i _ t (List.getElem?_eq_getElem this) ht⟩
   ·intro hq;have h1':ts.length=1:=by rw[← h2]; simpa using hq
    obtain⟨t,ht⟩:=List.length_eq_one_iff.1 h1';exact hne t ht
  ·cases h
theorem outL_sound [Globals] (hty:∀ t y,ty t=some y→Ty.of P t=some y){a:Act}{w1:World}{ρ0:Nat→Option Loc}{obs0:List Ob}(hin:LentIn w1 f0 ρ0 obs0)(hrel:Rel w1 (lentBs w1.heap.size ρ0) f0 fz ρ s a.tmps w){fn:Func}{r:T × List Ob}(h:outL ty fn obs0 s=some r):
  ∃ v fz' ρ',(results fn a.tmps).run P w=.ok v w∧OutL w1 w f0 fz' ρ0 ρ' v obs0 r:=by
 unfold outL at h
 split at h
 ·rename_i ts hts
  split at h
  ·rename_i t seen obs hx
   split at h
   ·rename_i os seen' obs' ho;injection h with h;subst h;obtain⟨lam,hlamd⟩:∃ lam:Nat→Option Loc,lam=fun j=>match (namesFrom 0 obs0)[j]? with
     | some k=>if k∈s.fr then some .nil else some ((ρ k).getD .nil)
     | none=>none:=⟨_,rfl⟩
    have hlam:Lam s ρ (namesFrom 0 obs0) lam:=fun j k hj hk l hl=>by
     subst hlamd;simp only[hj,if_neg hk,hl,Option.getD_some]
    have hnil:∀ j k,(namesFrom 0 obs0)[j]?=some k→k∈s.fr∨ρ k=none→lam j=some .nil:=fun j k hj hk=>by
     subst hlamd;simp only[hj]
     split
     ·rfl
     ·rename_i hn
      rcases hk with hk | hk
      ·exact absurd hk hn
      ·rw[hk]; rfl
    have hlat:∀ j b base cap sz,lam j=some (.at b base cap sz)→∃ k,(namesFrom 0 obs0)[j]?=some k∧k∉s.fr∧ρ k=some (.at b base cap sz):=fun j b base cap sz hj=>by
     subst hlamd;simp only at hj
     split at hj
     ·rename_i k hk
      split at hj
      ·cases hj
      ·rename_i hn;refine⟨k,hk,hn,?_⟩
       cases hρ:ρ k with
       | none=>rw[hρ] at hj; cases hj
       | some l=>rw[hρ] at hj; exact hj
     ·cases hj
    obtain⟨vs,h1,h2,h3⟩:=results_run (P:=P) hty hrel hts;obtain⟨locs1,hinv1,hsn1,hr⟩:=xpR_rep hrel hlam h2 h3 hx;obtain⟨locs,hpre,hinv,hsn,hosl,hos,hbx⟩:=xpO_rep (i0:=0) hrel hlam hnil hinv1 hsn1 (fun m=>.inl (by rw[Nat.zero_add])) namesFrom_length ho;have hn:(namesFrom 0 obs0).length=os.length:=by rw[namesFrom_length,hosl]
    refine⟨_,fz,lk lam (namesFrom 0 obs0).length locs,h1,{
     below:=hrel.below
     f0:=hrel.fz0
     f1:=hrel.fz1
     fl:=hrel.fzl
     val:=hr.mono (fun _ _=>rfl) (fun _ h=>h) (fun _ _ hk=>lk_pre hpre hk)
     obj:=fun i o hi=>?_
     dom:=fun k l hk=>?_
     inj:=fun k k' b base cap sz base' cap' sz' hk hk'=>?_
     len:=by simp only[List.length_append]; omega
     box:=fun j o hj hb=>?_ }⟩
    ·by_cases hlt:i<os.length
     ·simp only at hi;rw[List.getElem?_append_left hlt] at hi;obtain⟨l,hl,hO⟩:=hos i o hi;rw[Nat.zero_add] at hl;refine⟨l,by unfold lk; rw[if_pos (by omega)]; exact hl,hO,fun b base cap sz e=>?_⟩;obtain⟨k,_,hkf,hk⟩:=hlat i b base cap sz (e▸hl);obtain⟨g1,g2,_⟩:=hrel.own k b base cap sz hk;exact⟨(g2 hkf).1,g1,(g2 hkf).2⟩
     ·simp only at hi;rw[List.getElem?_append_right (by omega)] at hi;have hil:=(List.getElem?_eq_some_iff.1 hi).1;have hli:i-os.length<locs.length:=by rw[← hinv.len]; exact hil
      have hloc:=List.getElem?_eq_getElem hli;refine⟨locs[i-os.length],by unfold lk; rw[if_neg (by omega),hn]; exact hloc,(hinv.obj _ o _ hi hloc).2 _,fun b base cap sz e=>?_⟩;obtain⟨k,_,hkf,base',cap',sz',hk⟩:=hinv.at_ (i-os.length) b base cap sz (by rw[hloc,e]);obtain⟨g1,g2,_⟩:=hrel.own k b _ _ _ hk;exact⟨(g2 hkf).1,g1,(g2 hkf).2⟩
    ·simp only[List.length_append];unfold lk at hk
     split at hk
     ·omega
     ·have:=(List.getElem?_eq_some_iff.1 hk).1;have:=hinv.len;omega
    ·have hnew:∀ k b base cap sz,¬ k<(namesFrom 0 obs0).length→lk lam (namesFrom 0 obs0).length locs k=some (.at b base cap sz)→∃ q∈seen',q∉s.fr∧∃ base' cap' sz',ρ q=some (.at b base' cap' sz'):=fun k b base cap sz hlt e=>by
      unfold lk at e;rw[if_neg hlt] at e;exact hinv.at_ _ b base cap sz e
     have hold:∀ k b base cap sz,k<(namesFrom 0 obs0).length→lk lam (namesFrom 0 obs0).length locs k=some (.at b base cap sz)→∃ q,(namesFrom 0 obs0)[k]?=some q∧q∉s.fr∧ρ q=some (.at b base cap sz):=fun k b base cap sz hlt e=>by
      unfold lk at e;rw[if_pos hlt] at e;exact hlat _ b base cap sz e
     by_cases c1:k<(namesFrom 0 obs0).length<;>by_cases c2:k'<(namesFrom 0 obs0).length
     ·obtain⟨q,q1,q2,q3⟩:=hold k _ _ _ _ c1 hk;obtain⟨p,p1,p2,p3⟩:=hold k' _ _ _ _ c2 hk';have:=hrel.inj q p b _ _ _ _ _ _ q2 p2 q3 p3;subst this;exact names_inj q1 p1
     ·obtain⟨q,q1,q2,q3⟩:=hold k _ _ _ _ c1 hk;obtain⟨p,p1,p2,_,_,_,p3⟩:=hnew k' _ _ _ _ c2 hk';have:=hrel.inj q p b _ _ _ _ _ _ q2 p2 q3 p3;subst this;exact absurd (List.mem_of_getElem? q1) (hsn q p1)
     ·obtain⟨q,q1,q2,q3⟩:=hold k' _ _ _ _ c2 hk';obtain⟨p,p1,p2,_,_,_,p3⟩:=hnew k _ _ _ _ c1 hk;have:=hrel.inj q p b _ _ _ _ _ _ q2 p2 q3 p3;subst this;exact absurd (List.mem_of_getElem? q1) (hsn q p1)
     ·unfold lk at hk hk';rw[if_neg c1] at hk;rw[if_neg c2] at hk';have:=hinv.inj _ _ b base cap sz base' cap' sz' hk hk';omega
    ·obtain⟨k,o1,o',q1,q2,q3,q4,q5⟩:=hbx j o hj hb;rw[Nat.zero_add] at q1;have hkn:k=lentH true j:=by
      rw[namesFrom_get,hj,Option.map_some,Nat.zero_add,hb] at q1;injection q1 with q1;exact q1.symm
     have hnm:lentNm k=true:=by rw[hkn]; unfold lentNm lentH; simp
     obtain⟨l0,g1,_⟩:=hin.obj j o hj;rw[hb,← hkn] at g1;obtain⟨_,g2,o2,g3,g4⟩:=hrel.boxes k l0 (by show (if lentNm k=true then ρ0 k else none)=some l0; rw[if_pos hnm]; exact g1);rw[q3] at g3;injection g3 with g3;refine⟨?_,o',?_,by rw[q5,g3]; exact g4⟩
     ·rw[← hkn,g1];unfold lk;rw[if_pos (List.getElem?_eq_some_iff.1 q1).1];exact hlam j k q1 q2 l0 g2
     ·simp only;rw[List.getElem?_append_left (List.getElem?_eq_some_iff.1 q4).1];exact q4
   ·cases h
  ·cases h
 ·cases h
end
end Go.Vabs
namespace Go.Vabs
open Go.RowKit
section
variable {w w':World} {fz fz':Nat→Prop} {ρ ρ':Nat→Option Loc} {v:Value} {σ:Nat→Nat}
theorem RepC.to {c:C}(h:RepC w fz ρ v c)(hw:∀ b,fz b→w'.heap[b]?=w.heap[b]?)(hf:∀ b,fz b→fz' b)(hr:∀ k∈c.hds,∀ l,ρ k=some l→ρ' (σ k)=some l):RepC w' fz' ρ' v (c.shift σ):=by
 cases h with
 | frz hq=>
  have:c.shift σ=c:=by cases hq<;>rfl
  rw[this];exact .frz (hq.mono hw hf)
 | nil k e=>exact .nil _ (hr k (by simp[C.hds]) _ e)
 | ref k off len b base cap sz a e hc ha hs=>exact .ref _ off len b base cap sz a (hr k (by simp[C.hds]) _ e) hc ha hs
 | ptr k i off b base cap sz e=>exact .ptr _ i off b base cap sz (hr k (by simp[C.hds]) _ e)
theorem RepC.on {c:C}(h:RepC w fz ρ v c)(hw:∀ b,fz b→w'.heap[b]?=w.heap[b]?)(hf:∀ b,fz b→fz' b)(hr:∀ k∈c.hds,∀ l,ρ k=some l→ρ' k=some l):RepC w' fz' ρ' v c:=by
 cases h with
 | frz hq=>exact .frz (hq.mono hw hf)
 | nil k e=>exact .nil _ (hr k (by simp[C.hds]) _ e)
 | ref k off len b base cap sz a e hc ha hs=>exact .ref _ off len b base cap sz a (hr k (by simp[C.hds]) _ e) hc ha hs
 | ptr k i off b base cap sz e=>exact .ptr _ i off b base cap sz (hr k (by simp[C.hds]) _ e)
theorem RepL.on {vs:List Value}{cs:List C}(h:RepL w fz ρ vs cs)(hw:∀ b,fz b→w'.heap[b]?=w.heap[b]?)(hf:∀ b,fz b→fz' b)(hr:∀ k∈cs.flatMap C.hds,∀ l,ρ k=some l→ρ' k=some l):RepL w' fz' ρ' vs cs:=
 ⟨h.1,fun i v c hv hc=>(h.2 i v c hv hc).on hw hf (fun k hk=>hr k (List.mem_flatMap.2 ⟨c,List.mem_of_getElem? hc,hk⟩))⟩
theorem Rep1.on {t:T}(h:Rep1 w fz ρ v t)(hw:∀ b,fz b→w'.heap[b]?=w.heap[b]?)(hf:∀ b,fz b→fz' b)(hr:∀ k∈t.hds1,∀ l,ρ k=some l→ρ' k=some l):Rep1 w' fz' ρ' v t:=by
 cases t with
 | c x=>exact RepC.on h hw hf hr
 | agg cs=>obtain⟨vs,e,h⟩:=h; exact⟨vs,e,h.on hw hf hr⟩
 | tup _=>exact h.elim
 | itr _ _=>exact h.elim
 | junk=>trivial
theorem RepT.on {t:T}(h:RepT w fz ρ v t)(hw:∀ b,fz b→w'.heap[b]?=w.heap[b]?)(hf:∀ b,fz b→fz' b)(hr:∀ k∈t.hds,∀ l,ρ k=some l→ρ' k=some l):RepT w' fz' ρ' v t:=by
 cases t with
 | c x=>exact RepC.on h hw hf hr
 | agg cs=>obtain⟨vs,e,h⟩:=h; exact⟨vs,e,h.on hw hf hr⟩
 | tup ts=>
  obtain⟨vs,e,hs,h⟩:=h;refine⟨vs,e,hs,fun i t ht=>?_⟩;obtain⟨v',hv,h1⟩:=h i t ht;exact⟨v',hv,h1.on hw hf (fun k hk=>hr k (List.mem_flatMap.2 ⟨t,List.mem_of_getElem? ht,hk⟩))⟩
 | itr _ _=>trivial
 | junk=>trivial
theorem C.hds_of_free {c:C}(h:c.free=true):c.hds=[]:=by cases c<;>first | rfl | cases h
theorem RepO.on {l:Loc}{o:Ob}(h:RepO w fz ρ l o)(hl:∀ b base cap sz,l=.at b base cap sz→w'.heap[b]?=w.heap[b]?)(hw:∀ b,fz b→w'.heap[b]?=w.heap[b]?)(hf:∀ b,fz b→fz' b)(hr:∀ k∈o.hds,∀ l,ρ k=some l→ρ' k=some l):RepO w' fz' ρ' l o:=by
 obtain⟨h1,h0,h⟩:=h;refine⟨h1,h0,?_⟩
 cases l with
 | nil=>exact h
 | «at» b base cap sz=>
  obtain⟨h1,h2,c,fr,h3,h4,h5,h6⟩:=h;refine⟨h1,h2,c,fr,(hl _ _ _ _ rfl).trans h3,h4,h5,fun i j e x he hx=>?_⟩;obtain⟨v,hv,hrep⟩:=h6 i j e x he hx;refine⟨v,hv,hrep.on hw hf (fun k hk=>?_)⟩
  cases hfr:o.free with
  | true=>rw[C.hds_of_free (h0 hfr e (List.mem_of_getElem? he) x (List.mem_of_getElem? hx))] at hk; cases hk
  | false=>exact hr k (by simp only[Ob.hds,hfr,Bool.false_eq_true,if_false]; exact List.mem_flatMap.2 ⟨e,List.mem_of_getElem? he,List.mem_flatMap.2 ⟨x,List.mem_of_getElem? hx,hk⟩⟩)
theorem RepO.to {l:Loc}{o:Ob}(h:RepO w fz ρ l o)(hl:∀ b base cap sz,l=.at b base cap sz→w'.heap[b]?=w.heap[b]?)(hw:∀ b,fz b→w'.heap[b]?=w.heap[b]?)(hf:∀ b,fz b→fz' b)(hr:∀ k∈o.hds,∀ l,ρ k=some l→ρ' (σ k)=some l):RepO w' fz' ρ' l (o.shift σ):=by
 unfold Ob.shift
 split
 ·rename_i hfr;exact h.free_any hfr hl hw hf
 ·rename_i hfr;obtain⟨h1,h0,h⟩:=h;refine⟨fun e he=>?_,fun hq=>absurd hq hfr,?_⟩
  ·obtain⟨e0,he0,rfl⟩:=List.mem_map.1 he;simpa using h1 e0 he0
  cases l with
  | nil=>exact⟨by simp[h.1],h.2⟩
  | «at» b base cap sz=>
   obtain⟨h1,h2,c,fr,h3,h4,h5,h6⟩:=h;refine⟨h1,by simpa using h2,c,fr,(hl _ _ _ _ rfl).trans h3,h4,h5,fun i j e x he hx=>?_⟩;simp only[List.getElem?_map,Option.map_eq_some_iff] at he;obtain⟨e0,he0,rfl⟩:=he;rw[List.getElem?_map,Option.map_eq_some_iff] at hx;obtain⟨x0,hx0,rfl⟩:=hx;obtain⟨v,hv,hrep⟩:=h6 i j e0 x0 he0 hx0;exact⟨v,hv,hrep.to hw hf (fun k hk=>hr k (by simp only[Ob.hds,hfr,Bool.false_eq_true,if_false]; exact List.mem_flatMap.2 ⟨e0,List.mem_of_getElem? he0,List.mem_flatMap.2 ⟨x0,List.mem_of_getElem? hx0,hk⟩⟩))⟩
theorem Ob.shift_box {o:Ob}:(o.shift σ).box=o.box:=by unfold Ob.shift; split<;>rfl
end
theorem C.kill_hds {h k:Nat}{c:C}(hk:k∈(c.kill h).hds):k≠h∧k∈c.hds:=by
 unfold C.kill at hk
 split at hk
 ·simp[C.hds] at hk
 ·rename_i hn;refine⟨fun e=>hn ?_,hk⟩;subst e
  cases c<;>simp_all [C.hds,C.has]
theorem T.kill1_hds {h k:Nat}{t:T}(hk:k∈(t.kill1 h).hds1):k≠h∧k∈t.hds1:=by
 cases t with
 | c x=>exact C.kill_hds hk
 | agg cs=>
  obtain⟨c,hc,hk⟩:=List.mem_flatMap.1 hk;obtain⟨c0,h0,rfl⟩:=List.mem_map.1 hc;obtain⟨h1,h2⟩:=C.kill_hds hk;exact⟨h1,List.mem_flatMap.2 ⟨c0,h0,h2⟩⟩
 | _=>simp[T.kill1,T.hds1] at hk
theorem T.kill_hds {h k:Nat}{t:T}(hk:k∈(t.kill h).hds):k≠h∧k∈t.hds:=by
 cases t with
 | c x=>exact C.kill_hds hk
 | agg cs=>exact T.kill1_hds (t:=.agg cs) hk
 | tup ts=>
  obtain⟨t,ht,hk⟩:=List.mem_flatMap.1 hk;obtain⟨t0,h0,rfl⟩:=List.mem_map.1 ht;obtain⟨h1,h2⟩:=T.kill1_hds hk;exact⟨h1,List.mem_flatMap.2 ⟨t0,h0,h2⟩⟩
 | itr _ _=>simp[T.kill,T.hds,T.hds1] at hk
 | junk=>simp[T.kill,T.hds,T.hds1] at hk
theorem Ob.killF_hds {h k:Nat}{o:Ob}(hk:k∈(o.killF h).hds):k≠h∧k∈o.hds:=by
 unfold Ob.killF at hk
 split at hk
 ·rename_i hf;simp[Ob.hds,hf] at hk
 ·rename_i hf;have hf':(o.kill h).free=false:=by simpa[Ob.kill] using hf
  simp only[Ob.hds,hf',Bool.false_eq_true,if_false] at hk;obtain⟨e,he,hk⟩:=List.mem_flatMap.1 hk;obtain⟨c,hc,hk⟩:=List.mem_flatMap.1 hk;simp only[Ob.kill] at he;obtain⟨e0,he0,rfl⟩:=List.mem_map.1 he;obtain⟨c0,hc0,rfl⟩:=List.mem_map.1 hc;obtain⟨h1,h2⟩:=C.kill_hds hk;refine⟨h1,?_⟩;simp only[Ob.hds,if_neg hf];exact List.mem_flatMap.2 ⟨e0,he0,List.mem_flatMap.2 ⟨c0,hc0,h2⟩⟩
theorem Ob.killF_box {h:Nat}{o:Ob}:(o.killF h).box=o.box:=by unfold Ob.killF; split<;>rfl
section
variable {P:Program} {ty:Tys} {w0:World} {B:Bs} {f0 fz:Nat→Prop} {ρ:Nat→Option Loc} {s:St} {tm:Array Value} {w:World}
theorem Rel.killed [Globals] (h:Nat)(hrel:Rel w0 B f0 fz ρ s tm w):Rel w0 B f0 fz ρ { tm:=s.tm.map (T.kill h),hp:=s.hp.map fun p=>(p.1,p.2.killF h),fr:=s.fr } tm w where
 size:=by simp[hrel.size]
 tmp:=fun i t ht=>by
  rw[List.getElem?_map,Option.map_eq_some_iff] at ht;obtain⟨t0,h0,rfl⟩:=ht;obtain⟨u,hu,h1⟩:=hrel.tmp i t0 h0;exact⟨u,hu,h1.kill h (fun _ _=>rfl) (fun _ hb=>hb) (fun _ _ _ e=>e)⟩
 dom1:=fun k l hk=>by
  obtain⟨o,ho⟩:=hrel.dom1 k l hk;exact⟨o.killF h,by simp only; rw[hget_map (fun x=>x.killF h),ho]; rfl⟩
 obj:=fun k o hk=>by
  simp only at hk;rw[hget_map (fun x=>x.killF h),Option.map_eq_some_iff] at hk;obtain⟨x,hx,rfl⟩:=hk;obtain⟨l,hl,hO⟩:=hrel.obj k x hx;exact⟨l,hl,hO.killF (fun _ hb=>hb) (fun _ _ _ e=>e)⟩
 inj:=hrel.inj
 own:=hrel.own
 fzl:=hrel.fzl
 fz0:=hrel.fz0
 fz1:=hrel.fz1
 below:=hrel.below
 frd:=fun k hk=>by
  obtain⟨o,ho⟩:=hrel.frd k hk;exact⟨o.killF h,by simp only; rw[hget_map (fun x=>x.killF h),ho]; rfl⟩
 glz:=hrel.glz
 itr:=fun i q pos ht=>by
  rw[List.getElem?_map,Option.map_eq_some_iff] at ht;obtain⟨t0,h0,ht⟩:=ht;rw[kill_itr ht] at h0;exact hrel.itr i q pos h0
 boxes:=fun k l hk=>by
  obtain⟨h1,h2,o,h3,h4⟩:=hrel.boxes k l hk;exact⟨h1,h2,o.killF h,by simp only; rw[hget_map (fun x=>x.killF h),h3]; rfl,by rw[Ob.killF_box]; exact h4⟩
theorem killS_sound [Globals]:∀ (rs:List Nat) {s:St},Rel w0 B f0 fz ρ s tm w→Rel w0 B f0 fz ρ (killS rs s) tm w∧(killS rs s).fr=s.fr∧(∀ t∈(killS rs s).tm,∀ k∈t.hds,k∉rs∧∃ t0∈s.tm,k∈t0.hds) ∧
  (∀ q o,hget (killS rs s).hp q=some o→∃ o0,hget s.hp q=some o0∧o.box=o0.box∧∀ k∈o.hds,k∉rs∧k∈o0.hds)∧(∀ q o0,hget s.hp q=some o0→∃ o,hget (killS rs s).hp q=some o)
 | [],s,hrel=>⟨hrel,rfl,fun t ht k hk=>⟨by simp,t,ht,hk⟩,fun q o hq=>⟨o,hq,rfl,fun k hk=>⟨by simp,hk⟩⟩,fun q o hq=>⟨o,hq⟩⟩
 | h::rs,s,hrel=>by
  obtain⟨g1,g2,g3,g4,g5⟩:=killS_sound rs (hrel.killed h);refine⟨g1,g2,fun t ht k hk=>?_,fun q o hq=>?_,fun q o0 hq=>?_⟩
  ·obtain⟨e1,t0,e2,e3⟩:=g3 t ht k hk;obtain⟨t1,h1,rfl⟩:=List.mem_map.1 e2;obtain⟨e4,e5⟩:=T.kill_hds e3;exact⟨by simp[e4,e1],t1,h1,e5⟩
  ·obtain⟨o0,e1,e2,e3⟩:=g4 q o hq;simp only at e1;rw[hget_map (fun x=>x.killF h),Option.map_eq_some_iff] at e1;obtain⟨x,hx,rfl⟩:=e1;refine⟨x,hx,by rw[e2,Ob.killF_box],fun k hk=>?_⟩;obtain⟨e4,e5⟩:=e3 k hk;obtain⟨e6,e7⟩:=Ob.killF_hds e5;exact⟨by simp[e6,e4],e7⟩
  ·exact g5 q (o0.killF h) (by simp only; rw[hget_map (fun x=>x.killF h),hq]; rfl)
end
theorem putL_get:∀ {hs:List Nat} {os:List Ob} {hp:Heap},hs.Nodup→hs.length≤os.length→(∀ (j h:Nat) (o:Ob),hs[j]?=some h→os[j]?=some o→hget (putL hp hs os) h=some o)∧∀ k,k∉hs→hget (putL hp hs os) k=hget hp k
 | [],os,hp,_,_=>⟨by simp,fun k _=>rfl⟩
 | h::hs,[],hp,_,hl=>by simp at hl
 | h::hs,o::os,hp,hn,hl=>by
  rw[List.nodup_cons] at hn;obtain⟨h1,h2⟩:=putL_get (hp:=hput hp h o) hn.2 (by simpa using hl);refine⟨fun j k o' hj ho=>?_,fun k hk=>?_⟩
  ·cases j with
   | zero=>
    simp at hj ho;subst hj;subst ho;simp only[putL];rw[h2 _ hn.1];exact hget_hput _ _ _
   | succ j=>exact h1 j k o' (by simpa using hj) (by simpa using ho)
  ·simp only[List.mem_cons,not_or] at hk;simp only[putL];rw[h2 k hk.2];exact hgN _ _ _ _ hk.1
theorem once_nodup:∀ (l seen:List Nat),seen.Nodup→(once seen l).Nodup
 | [],seen,h=>h
 | a::l,seen,h=>by
  unfold once
  split
  ·exact once_nodup l seen h
  ·rename_i hn;refine once_nodup l _ ?_;rw[List.nodup_append];refine⟨h,by simp,fun x hx y hy=>?_⟩;rw[List.mem_singleton] at hy;subst hy;intro e;subst e;exact hn (by simpa using hx)
theorem lentHs_nodup (hp:Heap)(all:Bool)(ts:List T):(lentHs hp all ts).Nodup:=once_nodup _ _ (once_nodup _ _ (once_nodup _ _ (by simp)))
theorem nodup_get {l:List Nat}(h:l.Nodup){i j a:Nat}(hi:l[i]?=some a)(hj:l[j]?=some a):i=j:=by
 obtain⟨h1,e1⟩:=List.getElem?_eq_some_iff.1 hi;obtain⟨h2,e2⟩:=List.getElem?_eq_some_iff.1 hj;exact (List.getElem_inj h).1 (e1.trans e2.symm)
theorem ixOf_get {l:List Nat}(hinj:∀ (i j a:Nat),l[i]?=some a→l[j]?=some a→i=j){j a:Nat}(h:l[j]?=some a):ixOf l a=some j:=by
 cases hi:ixOf l a with
 | none=>exact absurd (List.mem_of_getElem? h) (ixOf_none hi)
 | some i=>rw[hinj i j a (ixOf_some hi) h]
theorem lentObs_get {hp:Heap}{fr hs:List Nat}:∀ {l:List Nat} {obs:List Ob},lentObs hp fr hs l=some obs→obs.length=l.length∧∀ (j h:Nat),l[j]?=some h→∃ o,obs[j]?=some o∧hget hp h=some o∧h∉fr∧∀ k∈o.hds,k∈hs
 | [],obs,h=>by
  simp only[lentObs,Option.some.injEq] at h;subst h;exact⟨rfl,by simp⟩
 | h::l,obs,e=>by
  simp only[lentObs] at e
  split at e
  ·rename_i o ho
   split at e
   ·rename_i hc;rw[Option.map_eq_some_iff] at e;obtain⟨os,hos,rfl⟩:=e;obtain⟨g1,g2⟩:=lentObs_get hos;refine⟨by simp[g1],fun j k hj=>?_⟩
    cases j with
    | zero=>
     simp at hj;subst hj;exact⟨o,rfl,ho,by simpa using hc.1,fun k hk=>by simpa using List.all_eq_true.1 hc.2 k hk⟩
    | succ j=>
     obtain⟨o',q⟩:=g2 j k (by simpa using hj);exact⟨o',by simpa using q.1,q.2⟩
   ·cases e
  ·cases e
end Go.Vabs
namespace Go.Vabs
open Go.RowKit
section
variable {P:Program} {ty:Tys} {w0:World} {B:Bs} {f0 fz:Nat→Prop} {ρ:Nat→Option Loc} {s:St} {tm:Array Value} {w:World}
open Classical in
theorem takeL_sound [Globals] (hrel:Rel w0 B f0 fz ρ s tm w)(hB:B.n≤w.heap.size){w':World}{fL fz':Nat→Prop}{ρ0 ρr:Nat→Option Loc}{v:Value}{r:T × List Ob}{hs dhs:List Nat}{obs obs':List Ob}{d:Nat}{s':St}
  (hobs:lentObs s.hp s.fr hs hs=some obs) (hnd:hs.Nodup) (hol:obs'.length=obs.length) (hob:∀ (j:Nat) (o:Ob),obs[j]?=some o→∃ o',obs'[j]?=some o'∧o'.box=o.box)
  (hρ0:∀ k l,ρ0 k=some l→∃ (j h:Nat),hs[j]?=some h∧ρ h=some l) (hρ1:∀ (j h:Nat) (o:Ob),hs[j]?=some h→obs[j]?=some o→ρ0 (lentH o.box j)=ρ h)
  (hL:∀ b,fL b↔fz b∨∃ k∈dhs,∃ base cap sz,ρ k=some (.at b base cap sz)) (hdh:∀ k∈dhs,k∉hs) (ho:OutL w w' fL fz' ρ0 ρr v obs' r) (h:takeL s d hs dhs r=some s'):
  ∃ fz2 ρ2,Rel w0 B f0 fz2 ρ2 s' (tm.setIfInBounds d v) w'∧∀ b,fz b→fz2 b:=by
 obtain⟨hlen,hget0⟩:=lentObs_get hobs;unfold takeL at h
 split at h
 ·rename_i hp hadd;injection h with h;subst h;obtain⟨hK,hKfr,hKtm,hKhp,hKk⟩:=killS_sound (rowsOf s.hp hs) hrel;generalize killS (rowsOf s.hp hs) s=s1 at hK hKfr hKtm hKhp hKk hadd;have hlr:hs.length≤(r.2.map (Ob.shift (backH hs d))).length:=by
   have:=ho.len;rw[List.length_map];omega
  obtain⟨hp1,hp2⟩:=putL_get (hp:=s1.hp) hnd hlr;obtain⟨ha1,ha2,ha3⟩:=addObs_get hadd;simp only[Nat.zero_add,List.length_map,List.length_drop] at ha1 ha2 ha3
  let isNew:Nat→Prop:=fun k=>∃ j,j<r.2.length-hs.length∧k=d+10000*j
  let ρ2:Nat→Option Loc:=fun k=>if hk:isNew k then ρr (hs.length+hk.choose) else match ixOf hs k with
   | some j=>ρr j
   | none=>ρ k
  have hinj:∀ (i j a:Nat),hs[i]?=some a→hs[j]?=some a→i=j:=fun i j a=>nodup_get hnd;have hin:∀ (j k:Nat),hs[j]?=some k→¬ isNew k:=fun j k hj ⟨i,hi,e⟩=>by
   have h1:=ha3 i hi;have hjl:=(List.getElem?_eq_some_iff.1 hj).1;have hjr:j<(r.2.map (Ob.shift (backH hs d))).length:=by omega
   rw[← e,hp1 j k _ hj (List.getElem?_eq_getElem hjr)] at h1
   cases h1
  have hnew0:∀ k,isNew k→k∉hs∧hget s.hp k=none:=fun k hk=>by
   have hkh:k∉hs:=fun hm=>by
    obtain⟨j,hj⟩:=List.mem_iff_getElem?.1 hm;exact hin j k hj hk
   refine⟨hkh,?_⟩;obtain⟨i,hi,e⟩:=hk;have h1:=ha3 i hi;rw[← e,hp2 k hkh] at h1
   cases hq:hget s.hp k with
   | none=>rfl
   | some o=>obtain⟨o',ho'⟩:=hKk k o hq; rw[h1] at ho'; cases ho'
  have hρnone:∀ k,isNew k→ρ k=none:=fun k hk=>by
   cases hq:ρ k with
   | none=>rfl
   | some l=>obtain⟨o,ho⟩:=hrel.dom1 k l hq; rw[(hnew0 k hk).2] at ho; cases ho
  have hρnew:∀ j,j<r.2.length-hs.length→ρ2 (d+10000*j)=ρr (hs.length+j):=fun j hj=>by
   have hk:isNew (d+10000*j):=⟨j,hj,rfl⟩;simp only[ρ2,dif_pos hk];have:=hk.choose_spec.2;congr 1;omega
  have hρhs:∀ (j k:Nat),hs[j]?=some k→ρ2 k=ρr j:=fun j k hj=>by
   simp only[ρ2,dif_neg (hin j k hj),ixOf_get hinj hj]
  have hρold:∀ k,¬ isNew k→k∉hs→ρ2 k=ρ k:=fun k hk hkh=>by
   simp only[ρ2,dif_neg hk]
   cases hi:ixOf hs k with
   | none=>rfl
   | some j=>exact absurd (List.mem_of_getElem? (ixOf_some hi)) hkh
  have hback:∀ i l,ρr i=some l→ρ2 (backH hs d i)=some l:=fun i l hi=>by
   have hlt:=ho.dom i l hi;unfold backH
   by_cases hil:i<hs.length
   ·rw[List.getElem?_eq_getElem hil,Option.getD_some,hρhs i _ (List.getElem?_eq_getElem hil)];exact hi
   ·rw[List.getElem?_eq_none (by omega),Option.getD_none,hρnew _ (by omega),show hs.length+(i-hs.length)=i by omega];exact hi
  have hlent:∀ b,lentAt ρ0 b→∃ k∈hs,k∉s.fr∧∃ base cap sz,ρ k=some (.at b base cap sz):=fun b ⟨q,base,cap,sz,hq⟩=>by
   obtain⟨j,k,hj,hk⟩:=hρ0 q _ hq;obtain⟨_,_,_,hfr,_⟩:=hget0 j k hj;exact⟨k,List.mem_of_getElem? hj,hfr,base,cap,sz,hk⟩
  have hlown:∀ b,lentAt ρ0 b→B.owns b∧¬ fz b:=fun b hb=>by
   obtain⟨k,_,hfr,base,cap,sz,hk⟩:=hlent b hb;exact (hrel.own k b base cap sz hk).2.1 hfr
  have hrow:∀ k,k∈hs→k∉rowsOf s.hp hs→ρ2 k=ρ k:=fun k hk hr=>by
   obtain⟨j,hj⟩:=List.mem_iff_getElem?.1 hk;obtain⟨o,ho1,ho2,_⟩:=hget0 j k hj;have hbox:o.box=true:=by
    cases hb:o.box with
    | true=>rfl
    | false=>exact absurd (List.mem_filter.2 ⟨hk,by simp[ho2,hb]⟩) hr
   obtain⟨o',e1,e2⟩:=hob j o ho1;rw[hρhs j k hj,(ho.box j o' e1 (by rw[e2]; exact hbox)).1,← hρ1 j k o hj ho1,hbox]
  have hkeep:∀ k l,k∉rowsOf s.hp hs→ρ k=some l→ρ2 k=some l:=fun k l hr hk=>by
   by_cases hm:k∈hs
   ·rw[hrow k hm hr]; exact hk
   ·rw[hρold k (fun hn=>by rw[hρnone k hn] at hk; cases hk) hm]; exact hk
  have hsz:=ho.below.size;have hheap:∀ b,b<w.heap.size→¬ lentAt ρ0 b→w'.heap[b]?=w.heap[b]?:=fun b hb hn=>ho.below.block b (fun e=>e.elim (fun e=>by have:w.heap.size≤b:=e; omega) hn);have hfzw:∀ b,fz b→w'.heap[b]?=w.heap[b]?:=fun b hb=>hheap b (hrel.fzl b hb) (fun hq=>(hlown b hq).2 hb);have hfz2:∀ b,fz b→fz' b:=fun b hb=>ho.f0 b ((hL b).2 (.inl hb));have hother:∀ k b base cap sz,k∉hs→ρ k=some (.at b base cap sz)→¬ lentAt ρ0 b:=fun k b base cap sz hk hρ hq=>by
   obtain⟨k',hk',hfr',_,_,_,hρ'⟩:=hlent b hq
   by_cases hm:k∈s.fr
   ·exact (hlown b hq).2 ((hrel.own k b _ _ _ hρ).2.2 hm)
   ·exact hk (by rw[hrel.inj k k' b _ _ _ _ _ _ hm hfr' hρ hρ']; exact hk')
  have hg1:∀ j (o:Ob),r.2[hs.length+j]?=some o→hget hp (d+10000*j)=some (o.shift (backH hs d)):=fun j o hj=>ha1 j _ (by rw[List.getElem?_map,List.getElem?_drop,hj]; rfl);have hg2:∀ (j k:Nat) (o:Ob),hs[j]?=some k→r.2[j]?=some o→hget hp k=some (o.shift (backH hs d)):=fun j k o hj ho=>by
   rw[ha2 k (fun i hi e=>hin j k hj ⟨i,hi,e⟩)];exact hp1 j k _ hj (by rw[List.getElem?_map,ho]; rfl)
  have hg3:∀ k,¬ isNew k→k∉hs→hget hp k=hget s1.hp k:=fun k hk hkh=>by
   rw[ha2 k (fun i hi e=>hk ⟨i,hi,e⟩)];exact hp2 k hkh
  have hrj:∀ (j k:Nat),hs[j]?=some k→∃ o,r.2[j]?=some o:=fun j k hj=>by
   have:=(List.getElem?_eq_some_iff.1 hj).1;have h2:=ho.len;exact⟨r.2[j],List.getElem?_eq_getElem (by omega)⟩
  have cls:∀ k,(∃ i o,r.2[i]?=some o∧hget hp k=some (o.shift (backH hs d))∧ρ2 k=ρr i∧k=backH hs d i∧k∉s.fr∧k∉dhs.filter fun h=>(hget s.hp h).isSome)∨(¬ isNew k∧k∉hs∧hget hp k=hget s1.hp k∧ρ2 k=ρ k):=fun k=>by
   by_cases hk:isNew k
   ·obtain⟨hkh,hkn⟩:=hnew0 k hk;obtain⟨j,hj,e⟩:=hk;have hlt:hs.length+j<r.2.length:=by omega
    refine .inl ⟨hs.length+j,r.2[hs.length+j],List.getElem?_eq_getElem hlt,by rw[e]; exact hg1 j _ (List.getElem?_eq_getElem hlt),by rw[e]; exact hρnew j hj,?_,fun hm=>?_,fun hm=>?_⟩
    ·unfold backH;rw[List.getElem?_eq_none (by omega),Option.getD_none,Nat.add_sub_cancel_left];exact e
    ·obtain⟨o,ho⟩:=hrel.frd k hm;rw[hkn] at ho
     cases ho
    ·have:=(List.mem_filter.1 hm).2;rw[hkn] at this
     cases this
   ·by_cases hkh:k∈hs
    ·obtain⟨j,hj⟩:=List.mem_iff_getElem?.1 hkh;obtain⟨o,hro⟩:=hrj j k hj;obtain⟨_,_,_,hfr,_⟩:=hget0 j k hj;refine .inl ⟨j,o,hro,hg2 j k o hj hro,hρhs j k hj,?_,hfr,fun hm=>hdh k (List.mem_filter.1 hm).1 hkh⟩;unfold backH;rw[hj];rfl
    ·exact .inr ⟨hk,hkh,hg3 k hk hkh,hρold k hk hkh⟩
  have hownA:∀ i (o:Ob) b base cap sz,r.2[i]?=some o→ρr i=some (.at b base cap sz)→(w.heap.size≤b∨lentAt ρ0 b)∧b<w'.heap.size∧¬ fz' b:=fun i o b base cap sz hi hρ=>by
   obtain⟨l,hl,_,hO⟩:=ho.obj i o hi;rw[hρ] at hl;injection hl with hl;exact hO b base cap sz hl.symm
  have hfr2:∀ k,k∈fputs s.fr (dhs.filter fun h=>(hget s.hp h).isSome)↔k∈(dhs.filter fun h=>(hget s.hp h).isSome)∨k∈s.fr:=fun k=>mem_fputs;have hR:Rel w0 B f0 fz' ρ2 { tm:=s1.tm,hp:=hp,fr:=fputs s.fr (dhs.filter fun h=>(hget s.hp h).isSome) } tm w':={
   size:=hK.size
   tmp:=fun i t ht=>by
    obtain⟨u,hu,hr⟩:=hK.tmp i t ht;exact⟨u,hu,hr.on hfzw hfz2 (fun k hk l hl=>hkeep k l (hKtm t (List.mem_of_getElem? ht) k hk).1 hl)⟩
   dom1:=fun k l hk=>by
    rcases cls k with ⟨i,o,_,h2,_⟩ | ⟨_,_,h3,h4⟩
    ·exact⟨_,h2⟩
    ·rw[h4] at hk;obtain⟨o,ho⟩:=hK.dom1 k l hk;exact⟨o,by simp only; rw[h3]; exact ho⟩
   obj:=fun k o hk=>by
    rcases cls k with ⟨i,o1,h1,h2,h3,_⟩ | ⟨_,hkh,h3,h4⟩
    ·simp only at hk;rw[h2] at hk;injection hk with hk;subst hk;obtain⟨l,hl,hO,_⟩:=ho.obj i o1 h1;exact⟨l,by rw[h3]; exact hl,hO.to (fun _ _ _ _ _=>rfl) (fun _ _=>rfl) (fun _ h=>h) (fun k' _ l' hl'=>hback k' l' hl')⟩
    ·simp only at hk;rw[h3] at hk;obtain⟨l,hl,hO⟩:=hK.obj k o hk;obtain⟨_,_,_,hh⟩:=hKhp k o hk;exact⟨l,by rw[h4]; exact hl,hO.on (fun b base cap sz e=>hheap b (hrel.own k b base cap sz (e▸hl)).1 (hother k b base cap sz hkh (e▸hl))) hfzw hfz2 (fun k' hk' l' hl'=>hkeep k' l' (hh k' hk').1 hl')⟩
   inj:=fun k k' b base cap sz base' cap' sz' g1 g2 g3 g4=>by
    rcases cls k with ⟨i,o1,h1,_,h3,h4,_⟩ | ⟨_,hkh,_,h4⟩<;>rcases cls k' with ⟨i',o1',h1',_,h3',h4',_⟩ | ⟨_,hkh',_,h4'⟩
    ·rw[h3] at g3;rw[h3'] at g4;rw[h4,h4',ho.inj i i' b base cap sz base' cap' sz' g3 g4]
    ·rw[h3] at g3;rw[h4'] at g4
     rcases (hownA i o1 b _ _ _ h1 g3).1 with e | e
     ·have:=(hrel.own k' b _ _ _ g4).1; omega
     ·exact absurd e (hother k' b _ _ _ hkh' g4)
    ·rw[h3'] at g4;rw[h4] at g3
     rcases (hownA i' o1' b _ _ _ h1' g4).1 with e | e
     ·have:=(hrel.own k b _ _ _ g3).1; omega
     ·exact absurd e (hother k b _ _ _ hkh g3)
    ·rw[h4] at g3;rw[h4'] at g4;exact hrel.inj k k' b base cap sz base' cap' sz' (fun hm=>g1 ((hfr2 k).2 (.inr hm))) (fun hm=>g2 ((hfr2 k').2 (.inr hm))) g3 g4
   own:=fun k b base cap sz hk=>by
    rcases cls k with ⟨i,o1,h1,_,h3,_,h5,h6⟩ | ⟨_,hkh,_,h4⟩
    ·rw[h3] at hk;obtain⟨e1,e2,e3⟩:=hownA i o1 b _ _ _ h1 hk;refine⟨e2,fun _=>⟨?_,e3⟩,fun hm=>?_⟩
     ·rcases e1 with e1 | e1
      ·exact .inl (by omega)
      ·exact (hlown b e1).1
     ·rcases (hfr2 k).1 hm with hm | hm
      ·exact absurd hm h6
      ·exact absurd hm h5
    ·rw[h4] at hk;obtain⟨e1,e2,e3⟩:=hrel.own k b base cap sz hk;refine⟨by omega,fun hm=>⟨(e2 (fun hq=>hm ((hfr2 k).2 (.inr hq)))).1,fun hz=>?_⟩,fun hm=>?_⟩
     ·have hks:k∉s.fr:=fun hq=>hm ((hfr2 k).2 (.inr hq))
      rcases ho.f1 b hz with hz | hz
      ·rcases (hL b).1 hz with hz | ⟨k2,hk2,_,_,_,hρ⟩
       ·exact (e2 hks).2 hz
       ·by_cases hm2:k2∈s.fr
        ·exact (e2 hks).2 ((hrel.own k2 b _ _ _ hρ).2.2 hm2)
        ·have:=hrel.inj k k2 b _ _ _ _ _ _ hks hm2 hk hρ;subst this;obtain⟨o,hok⟩:=hrel.dom1 k _ hk;exact hm ((hfr2 k).2 (.inl (List.mem_filter.2 ⟨hk2,by rw[hok]; rfl⟩)))
      ·rcases hz with hz | hz
       ·have:w.heap.size≤b:=hz; omega
       ·exact hother k b _ _ _ hkh hk hz
     ·rcases (hfr2 k).1 hm with hm | hm
      ·exact ho.f0 b ((hL b).2 (.inr ⟨k,(List.mem_filter.1 hm).1,base,cap,sz,hk⟩))
      ·exact hfz2 b (e3 hm)
   fzl:=ho.fl
   fz0:=fun b hb=>hfz2 b (hrel.fz0 b hb)
   fz1:=fun b hb=>by
    rcases ho.f1 b hb with hz | hz
    ·rcases (hL b).1 hz with hz | ⟨k2,hk2,base,cap,sz,hρ⟩
     ·exact hrel.fz1 b hz
     ·by_cases hm2:k2∈s.fr
      ·exact hrel.fz1 b ((hrel.own k2 b _ _ _ hρ).2.2 hm2)
      ·exact .inr ((hrel.own k2 b _ _ _ hρ).2.1 hm2).1
    ·rcases hz with hz | hz
     ·exact .inr (.inl (by have:w.heap.size≤b:=hz; omega))
     ·exact .inr (hlown b hz).1
   below:=hrel.below.trans ⟨ho.below.os,ho.below.tape,ho.below.output,hsz,fun k hk=>ho.below.block k (fun e=>by
    rcases e with e | e
    ·exact hk (.inl (by have:w.heap.size≤k:=e; omega))
    ·exact hk (hlown k e).1)⟩
   frd:=fun k hk=>by
    rcases cls k with ⟨i,o,_,h2,_⟩ | ⟨_,_,h3,_⟩
    ·exact⟨_,h2⟩
    ·have:∃ o,hget s.hp k=some o:=by
      rcases (hfr2 k).1 hk with hm | hm
      ·exact Option.isSome_iff_exists.1 (List.mem_filter.1 hm).2
      ·exact hrel.frd k hm
     obtain⟨o,ho⟩:=this;obtain⟨o',ho'⟩:=hKk k o ho;exact⟨o',by simp only; rw[h3]; exact ho'⟩
   glz:=hrel.glz.mono hfzw hfz2
   itr:=fun i q pos ht=>by
    obtain⟨u,hu,hI⟩:=hK.itr i q pos ht;have hnl:∀ b,(∀ k b' base cap sz,ρ k=some (.at b' base cap sz)→b'≠b)→¬ lentAt ρ0 b:=fun b hq hb=>by
     obtain⟨k,_,_,base,cap,sz,hk⟩:=hlent b hb;exact hq k b base cap sz hk rfl
    refine⟨u,hu,hI.mono (fun b hb hq=>hheap b hb (hnl b hq)) (fun b hb _ hz hq hz2=>?_) (fun b hb hq k b' base cap sz hk=>?_)⟩
    ·rcases ho.f1 b hz2 with hz2 | hz2
     ·rcases (hL b).1 hz2 with h | ⟨k,_,base,cap,sz,hk⟩
      ·exact hz h
      ·exact hq k b base cap sz hk rfl
     ·rcases hz2 with e | e
      ·have:w.heap.size≤b:=e; omega
      ·exact hnl b hq e
    ·rcases cls k with ⟨i',o1,h1,_,h3,_⟩ | ⟨_,_,_,h4⟩
     ·rw[h3] at hk
      rcases (hownA i' o1 b' _ _ _ h1 hk).1 with e | e
      ·omega
      ·intro e';subst e';exact hnl _ hq e
     ·rw[h4] at hk;exact hq k b' base cap sz hk
   boxes:=fun k l hk=>by
    obtain⟨h1,h2,o,h3,h4⟩:=hrel.boxes k l hk;have hnr:k∉rowsOf s.hp hs:=fun hm=>by
     have:=(List.mem_filter.1 hm).2;rw[h3] at this;simp[h4] at this
    refine⟨h1,hkeep k l hnr h2,?_⟩
    rcases cls k with ⟨i,o1,g1,g2,g3,g4,_⟩ | ⟨_,_,g3,_⟩
    ·refine⟨_,g2,?_⟩;rw[Ob.shift_box]
     by_cases hkh:k∈hs
     ·obtain⟨j,hj⟩:=List.mem_iff_getElem?.1 hkh;obtain⟨o2,e1,e2,_⟩:=hget0 j k hj;rw[h3] at e2;injection e2 with e2;subst e2;obtain⟨o3,e3,e4⟩:=hob j o e1;obtain⟨_,o4,e5,e6⟩:=ho.box j o3 e3 (by rw[e4]; exact h4);have:hget hp k=some (o4.shift (backH hs d)):=hg2 j k o4 hj e5;rw[g2] at this;injection this with this;have hb:=congrArg Ob.box this;rw[Ob.shift_box,Ob.shift_box] at hb;rw[hb];exact e6
     ·by_cases hkn:isNew k
      ·rw[(hnew0 k hkn).2] at h3; cases h3
      ·have:=hg3 k hkn hkh;rw[g2] at this;obtain⟨o5,e5,e6,_⟩:=hKhp k _ this.symm;rw[h3] at e5;injection e5 with e5;subst e5;rw[Ob.shift_box] at e6;rw[e6];exact h4
    ·obtain⟨o',ho'⟩:=hKk k o h3;refine⟨o',by simp only; rw[g3]; exact ho',?_⟩;obtain⟨o0,e1,e2,_⟩:=hKhp k o' ho';rw[h3] at e1;injection e1 with e1;subst e1;rw[e2];exact h4 }
  exact⟨fz',ρ2,hR.put d (ho.val.shift hback) (shift_noI _ _),hfz2⟩
 ·cases h
end
end Go.Vabs

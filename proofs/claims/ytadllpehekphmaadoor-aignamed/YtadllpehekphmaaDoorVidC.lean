/- A library: functions that are known by what they do. No condition. -/
import Derived.Test.YtadllpehekphmaaDoorVidB
import Derived.Shelf.Strings.Builder1
set_option linter.unusedSimpArgs false
set_option linter.unusedVariables false
namespace Go.Vid
open Go.Vabs Go.RowKit
theorem lit_of {w:World}{fz:Nat→Prop}{ρ:Nat→Option Vabs.Loc}{v u:Value}(h:RepC w fz ρ v (.lit u)):v=u:=by
 cases h with
 | frz h=>cases h; rfl
theorem arr1 {vs:Array Value}{v:Value}(hs:vs.size=1)(h0:vs[0]?=some v):vs=#[v]:=by
 apply Array.ext'
 match h:vs.toList with
 | [a]=>rw[← Array.getElem?_toList,h] at h0; simp at h0; rw[h0]
 | []=>have:=Array.length_toList (xs:=vs); rw[h,hs] at this; cases this
 | a::b::l=>have:=Array.length_toList (xs:=vs); rw[h,hs] at this; simp at this
theorem arr2 {vs:Array Value}{v u:Value}(hs:vs.size=2)(h0:vs[0]?=some v)(h1:vs[1]?=some u):vs=#[v,u]:=by
 apply Array.ext'
 match h:vs.toList with
 | [a,b]=>rw[← Array.getElem?_toList,h] at h0 h1; simp at h0 h1; rw[h0,h1]
 | []=>have:=Array.length_toList (xs:=vs); rw[h,hs] at this; cases this
 | [a]=>have:=Array.length_toList (xs:=vs); rw[h,hs] at this; cases this
 | a::b::c::l=>have:=Array.length_toList (xs:=vs); rw[h,hs] at this; simp at this
section
variable [Globals] {P:Program} {f:FuncId}
omit [Globals] in
theorem out_plain {w w':World}{fz:Nat→Prop}{v:Value}{t:T}(hb:Below w.heap.size w w')(hfl:∀ b,fz b→b<w.heap.size)(hv:RepT w' fz (fun _=>none) v t):Out w w' fz fz (fun _=>none) v (t,[]) where
 below:=hb
 f0:=fun _ h=>h
 f1:=fun _ h=>.inl h
 fl:=fun b h=>Nat.lt_of_lt_of_le (hfl b h) hb.size
 val:=hv
 obj:=fun i o h=>by simp at h
 dom:=fun k l h=>by cases h
 inj:=fun _ _ _ _ _ _ _ _ _ h=>by cases h
 free:=fun o h=>by simp at h
theorem okItoa (hc:∀ (n:Int),-9223372036854775808≤n→n≤9223372036854775807→∀ (w:World) (fz:Nat→Prop),GlobF w fz→Calls P f #[.int .i64 n] w fun e w'=>e=.returned (.string (numeral n))∧Below w.heap.size w w')
  {args:List T} {r:T × List Ob} (h:prItoa args=some r):CallOK P f args r:=by
 unfold prItoa at h
 split at h
 ·rename_i n;rw[Option.map_eq_some_iff] at h;obtain⟨x,hx,rfl⟩:=h;unfold strconv_Itoa at hx
  split at hx
  ·rename_i hn;injection hx with hx;subst hx;refine⟨fun _=>?_,fun hl=>absurd rfl hl⟩;intro w fz vs hs hv _ hfl hgl;obtain⟨v,hv0,hr⟩:=hv 0 _ rfl;obtain rfl:=lit_of hr;obtain rfl:=arr1 hs hv0;exact (hc n hn.1 hn.2 w fz hgl).mono fun e w' ⟨he,hb⟩=>⟨_,fz,fun _=>none,he,out_plain hb hfl (.frz (.lit _ trivial))⟩
  ·cases hx
 ·cases h
omit [Globals] in
theorem strE_some {e:List C}{x:ByteArray}(h:strE e=some x):e=[.lit (.string x)]:=by
 unfold strE at h
 split at h
 ·injection h with h; subst h; rfl
 ·cases h
omit [Globals] in
theorem sl_cells {w:World}{fz:Nat→Prop}{ρ:Nat→Option Vabs.Loc}{v:Value}{es:List (List C)}(h:RepC w fz ρ v (.sl 1 es)):
  ∃ a cap,v=.slice a es.length cap∧es.length≤cap∧(0<es.length→∃ b o,a=some ⟨b,o,none⟩∧fz b∧∀ i u,es[i]?=some [.lit u]→w.cell? ⟨b,o+i,none⟩=some u):=by
 cases h with
 | frz h=>
  cases h with
  | sl a len cap _ _ cv hl hs hc hcells hrep=>
   subst hl;refine⟨a,cap,rfl,hc,fun hp=>?_⟩;obtain⟨b,o,ha,hb,hcc⟩:=hcells hp;refine⟨b,o,ha,hb,fun i u hi=>?_⟩;have hil:=(List.getElem?_eq_some_iff.1 hi).1;have h1:=hcc i 0 hil (by omega);have h2:=hrep i 0 _ _ hi rfl;have h3:=lit_of (RepC.frz (ρ:=fun _=>none) h2);rw[← h3,← h1];congr 2;omega
theorem okJoin (hc:∀ (bk o c:Nat) (xs:List ByteArray) (sep:ByteArray) (w:World),(∀ (j:Nat) (x:ByteArray),xs[j]?=some x→w.cell? ⟨bk,o+j,none⟩=some (.string x))→bk<w.heap.size→xs.length≤140737488355328→xs.length≤c→(Go.Lib.join (xs.map (·.data.toList)) sep.data.toList).length≤281474976710656 →
   Calls P f #[.slice (some ⟨bk,o,none⟩) xs.length c,.string sep] w fun e w'=>e=.returned (.string (joined xs sep))∧Below w.heap.size w w')
  {args:List T} {r:T × List Ob} (h:prJoin args=some r):CallOK P f args r:=by
 unfold prJoin at h
 split at h
 ·rename_i es sep;rw[Option.bind_eq_some_iff] at h;obtain⟨xs,hxs,h⟩:=h;rw[Option.map_eq_some_iff] at h;obtain⟨x,hx,rfl⟩:=h;unfold strings_Join at hx
  split at hx
  ·rename_i hn;injection hx with hx;subst hx;obtain⟨hl,hg⟩:=mapM_get hxs;refine⟨fun _=>?_,fun hl=>absurd rfl hl⟩;intro w fz vs hs hv _ hfl hgl;obtain⟨v,hv0,hr0⟩:=hv 0 _ rfl;obtain⟨u,hv1,hr1⟩:=hv 1 _ rfl;obtain rfl:=lit_of hr1;obtain⟨a,cap,rfl,hcap,hcells⟩:=sl_cells hr0;obtain rfl:=arr2 hs hv0 hv1;obtain⟨b,o,rfl,hb,hcells⟩:=hcells (by omega);rw[← hl] at hcap ⊢;refine (hc b o cap xs sep w (fun j x hj=>?_) (hfl b hb) hn.2.1 hcap hn.2.2).mono fun e w' ⟨he,hb⟩=>⟨_,fz,fun _=>none,he,out_plain hb hfl (.frz (.lit _ trivial))⟩;have hjl:=(List.getElem?_eq_some_iff.1 hj).1;have hj':es[j]?=some es[j]:=List.getElem?_eq_getElem (by omega)
   refine hcells j _ ?_;rw[hj',strE_some (hg j _ _ hj' hj)]
  ·cases hx
 ·cases h
omit [Globals] in
theorem lentOf_c {c:C}{l:List T}:lentOf (.c c::l)=lentOf l:=rfl
omit [Globals] in
theorem realOf_c {c:C}{l:List T}:realOf (.c c::l)=.c c::realOf l:=rfl
omit [Globals] in
theorem lentOf_ob {t:T}{o:Ob}{l:List T}(h:tOb t=some o):lentOf (t::l)=o::lentOf l:=by
 unfold lentOf;rw[List.filterMap_cons,h]
omit [Globals] in
theorem realOf_ob {t:T}{o:Ob}{l:List T}(h:tOb t=some o):realOf (t::l)=realOf l:=by
 unfold realOf;rw[List.filter_cons,h];rfl
omit [Globals] in
theorem outL_mk {w w':World}{fz:Nat→Prop}{ρ ρ':Nat→Option Vabs.Loc}{obs rs:List Ob}{v:Value}{t:T}(hin:LentIn w fz ρ obs)(hp:Past (lentBs w.heap.size ρ) w w')(hfl:∀ b,fz b→b<w.heap.size)(hv:RepT w' fz ρ' v t)(hl:rs.length=obs.length)
  (hρ:∀ k l,ρ' k=some l→k<rs.length∧(l=.nil∨∃ o,obs[k]?=some o∧ρ (lentH o.box k)=some l)) (hobj:∀ (i:Nat) (o:Ob),rs[i]?=some o→∃ l,ρ' i=some l∧RepO w' fz ρ' l o)
  (hbox:∀ (j:Nat) (o:Ob),obs[j]?=some o→o.box=true→ρ' j=ρ (lentH true j)∧∃ o',rs[j]?=some o'∧o'.box=true):OutL w w' fz fz ρ ρ' v obs (t,rs) where
 below:=hp
 f0:=fun _ h=>h
 f1:=fun _ h=>.inl h
 fl:=fun b h=>Nat.lt_of_lt_of_le (hfl b h) hp.size
 val:=hv
 obj:=fun i o h=>by
  obtain⟨l,h1,h2⟩:=hobj i o h;refine⟨l,h1,h2,fun b base cap sz e=>?_⟩;subst e
  rcases (hρ _ _ h1).2 with h | ⟨o,_,h⟩
  ·cases h
  ·obtain⟨g1,g2⟩:=hin.own _ _ _ _ _ h;exact⟨.inr ⟨_,_,_,_,h⟩,Nat.lt_of_lt_of_le g1 hp.size,g2⟩
 dom:=fun k l h=>(hρ k l h).1
 inj:=fun k k' b base cap sz base' cap' sz' h h'=>by
  rcases (hρ _ _ h).2 with e | ⟨o,_,e⟩
  ·cases e
  ·rcases (hρ _ _ h').2 with e' | ⟨o',_,e'⟩
   ·cases e'
   ·exact (lentH_ix (hin.inj _ _ _ _ _ _ _ _ _ e e')).1
 len:=by simp only; omega
 box:=hbox
omit [Globals] in
theorem bld_at {w:World}{fz:Nat→Prop}{ρ:Nat→Option Vabs.Loc}{obs:List Ob}(hin:LentIn w fz ρ obs){fl:Bool}{tb:Nat}{c0 c1:C}(h0:obs[0]?=some ⟨true,fl,tb,2,[[c0,c1]]⟩):
  ∃ b cap v0 v1 fr,ρ 9000=some (.at b 0 cap 2)∧1≤cap∧w.heap[b]?=some (.cells #[v0,v1] tb fr)∧cap*2≤2∧Marks true 0 2 2 fr∧RepC w fz ρ v0 c0∧RepC w fz ρ v1 c1:=by
 obtain⟨l,hl,hO⟩:=hin.obj 0 _ h0;obtain⟨_,_,hO⟩:=hO
 cases l with
 | nil=>cases hO.2
 | «at» b base cap sz=>
  obtain⟨rfl,e2,c,fr,e3,e4,e5,e6⟩:=hO;obtain⟨rfl,hc⟩:=e5.2 rfl;simp only at hc e2 e3 e4 e5 e6;obtain⟨v0,g0,r0⟩:=e6 0 0 _ _ rfl rfl;obtain⟨v1,g1,r1⟩:=e6 0 1 _ _ rfl rfl;obtain rfl:=arr2 hc g0 g1;exact⟨b,cap,v0,v1,fr,hl,e2,e3,by simpa using e4,e5,r0,r1⟩
omit [Globals] in
theorem ptr_of {w:World}{fz:Nat→Prop}{ρ:Nat→Option Vabs.Loc}{v:Value}{k b base cap sz:Nat}(h:RepC w fz ρ v (.ptr k 0 0))(hk:ρ k=some (.at b base cap sz)):v=.pointer (some ⟨b,base,none⟩):=by
 cases h with
 | frz h=>cases h
 | ptr _ _ _ b' base' cap' sz' hr=>
  rw[hk] at hr;injection hr with hr;injection hr with e1 e2 e3 e4;subst e1 e2 e3 e4;simp
theorem okCheck {tb e:Nat}(hcF:∀ (b:Nat) (w:World),w.cell? ⟨b,0,none⟩=some (.pointer none)→w.shape? b=some (tb,2)→w.frozen? ⟨b,0,none⟩=false→Calls P f #[.pointer (some ⟨b,0,none⟩)] w fun e w'=>e=.returned (.tuple #[])∧w'=w.setCell ⟨b,0,none⟩ (.pointer (some ⟨b,0,none⟩)))
  (hcU:∀ (b:Nat) (w:World),w.cell? ⟨b,0,none⟩=some (.pointer (some ⟨b,0,none⟩))→Calls P f #[.pointer (some ⟨b,0,none⟩)] w fun e w'=>e=.returned (.tuple #[])∧w'=w)
  {args:List T} {r:T × List Ob} (h:prCheck tb e args=some r):CallOK P f args r:=by
 unfold prCheck at h
 split at h
 ·rename_i o1
  split at h
  ·rename_i fl k ho1
   split at h
   ·rename_i hk;subst hk;injection h with h;subst h;have hlo:lentOf [T.c (.ptr 9000 0 0),o1]=[⟨true,fl,k,2,[[.lit (.pointer none),.lit (.slice none 0 0)]]⟩]:=by rw[lentOf_c,lentOf_ob ho1]; rfl
    have hre:realOf [T.c (.ptr 9000 0 0),o1]=[T.c (.ptr 9000 0 0)]:=by rw[realOf_c,realOf_ob ho1]; rfl
    refine⟨fun h=>absurd (hlo.symm.trans h) (by simp),fun _=>?_⟩;intro w fz ρ vs hs hv _ hin hfl hgl;rw[hlo] at hin ⊢;rw[hre] at hs hv;obtain⟨b,cap,v0,v1,fr,hρ,hcap,hw,hcs,hm,r0,r1⟩:=bld_at hin rfl;obtain rfl:=lit_of r0;obtain rfl:=lit_of r1;obtain⟨v,hv0,hr⟩:=hv 0 _ rfl;obtain rfl:=ptr_of hr hρ;obtain rfl:=arr1 hs hv0;have hb:b<w.heap.size:=(Array.getElem?_eq_some_iff.1 hw).1;refine (hcF b w (by simp[World.cell?,hw]) (by simp[World.shape?,hw]) ?_).mono fun e' w' ⟨he,hw'⟩=>?_
    ·have:=hm.1;simp only[World.frozen?,hw]
     rcases this with h | h
     ·by_cases h0:fr.1≤0<;>simp[h0]; omega
     ·have:¬ fr.1≤0:=by omega
      simp[this]
    ·subst hw';have hsz:(w.setCell ⟨b,0,none⟩ (.pointer (some ⟨b,0,none⟩))).heap.size=w.heap.size:=by simp[World.setCell]
     have hhp:∀ g,g≠b→(w.setCell ⟨b,0,none⟩ (.pointer (some ⟨b,0,none⟩))).heap[g]?=w.heap[g]?:=fun g hg=>by
      simp only[World.setCell,Array.getElem?_modify];rw[if_neg (fun h=>hg h.symm)]
     have hbb:(w.setCell ⟨b,0,none⟩ (.pointer (some ⟨b,0,none⟩))).heap[b]?=some (.cells #[.pointer (some ⟨b,0,none⟩),.slice none 0 0] k fr):=by
      simp only[World.setCell,Array.getElem?_modify,if_true,hw,Option.map_some];simp
     refine⟨_,fz,fun k=>if k=0 then some (.at b 0 cap 2) else none,he,outL_mk hin ⟨rfl,rfl,rfl,Nat.le_of_eq hsz.symm,fun g hg=>hhp g (fun e=>hg (.inr ⟨_,_,_,_,e▸hρ⟩))⟩ hfl ⟨_,rfl,rfl,fun i t h=>by simp at h⟩ rfl (fun k l h=>?_) (fun i o h=>?_) (fun j o h _=>?_)⟩
     ·try simp only at h
      split at h
      ·rename_i hk;subst hk;injection h with h;subst h;exact⟨Nat.zero_lt_one,.inr ⟨_,rfl,hρ⟩⟩
      ·cases h
     ·cases i with
      | succ i=>simp at h
      | zero=>
       simp at h;subst h;refine⟨_,rfl,⟨fun e he=>by simp[bldBox] at he; subst he; rfl,(fun h=>by cases h),rfl,hcap,_,fr,hbb,by simpa using hcs,hm,fun i j e x hi hj=>?_⟩⟩
       cases i with
       | succ i=>simp[bldBox] at hi
       | zero=>
        simp[bldBox] at hi;subst hi
        match j,hj with
        | 0,hj=>
         simp at hj;subst hj;exact⟨.pointer (some ⟨b,0,none⟩),by simp,RepC.ptr 0 0 0 b 0 cap 2 rfl⟩
        | 1,hj=>
         simp at hj;subst hj;exact⟨.slice none 0 0,by simp,.frz (.lit _ trivial)⟩
        | j+2,hj=>simp at hj
     ·cases j with
      | succ j=>simp at h
      | zero=>exact⟨hρ.symm,_,rfl,rfl⟩
   ·cases h
  ·cases h
 ·rename_i o1 o2
  split at h
  ·rename_i fl k n k' es ho1 ho2
   split at h
   ·rename_i hk;obtain⟨rfl,rfl⟩:=hk;injection h with h;subst h;have hlo:lentOf [T.c (.ptr 9000 0 0),o1,o2]=[⟨true,fl,k,2,[[.ptr 9000 0 0,.ref 19001 0 n]]⟩,⟨false,true,k',1,es⟩]:=by rw[lentOf_c,lentOf_ob ho1,lentOf_ob ho2]; rfl
    have hre:realOf [T.c (.ptr 9000 0 0),o1,o2]=[T.c (.ptr 9000 0 0)]:=by rw[realOf_c,realOf_ob ho1,realOf_ob ho2]; rfl
    refine⟨fun h=>absurd (hlo.symm.trans h) (by simp),fun _=>?_⟩;intro w fz ρ vs hs hv _ hin hfl hgl;rw[hlo] at hin ⊢;rw[hre] at hs hv;obtain⟨b,cap,v0,v1,fr,hρ,hcap,hw,hcs,hm,r0,r1⟩:=bld_at hin rfl;obtain rfl:=ptr_of r0 hρ;obtain⟨v,hv0,hr⟩:=hv 0 _ rfl;obtain rfl:=ptr_of hr hρ;obtain rfl:=arr1 hs hv0;obtain⟨l2,hρ2,hO2⟩:=hin.obj 1 _ rfl;refine (hcU b w (by simp[World.cell?,hw])).mono fun e' w' ⟨he,hw'⟩=>?_;subst hw';have hσ:∀ q l,ρ q=some l→(fun q=>if q=0 then some (.at b 0 cap 2) else if q=1 then some l2 else none:Nat→Option Vabs.Loc) (q / 10000)=some l:=fun q l hq=>by
     obtain⟨j,o,hj,rfl⟩:=hin.dom q l hq
     match j,hj with
     | 0,hj=>
      simp at hj;subst hj;simp[lentH];exact Option.some.inj (hρ.symm.trans hq)
     | 1,hj=>
      simp at hj;subst hj;simp[lentH];exact Option.some.inj (hρ2.symm.trans hq)
     | j+2,hj=>simp at hj
    refine⟨_,fz,fun q=>if q=0 then some (.at b 0 cap 2) else if q=1 then some l2 else none,he,outL_mk hin (Past.refl _ _) hfl ⟨_,rfl,rfl,fun i t h=>by simp at h⟩ rfl (fun q l h=>?_) (fun i o h=>?_) (fun j o h hb=>?_)⟩
    ·try simp only at h
     split at h
     ·rename_i hq;subst hq;injection h with h;subst h;exact⟨by simp,.inr ⟨_,rfl,hρ⟩⟩
     ·split at h
      ·rename_i hq;subst hq;injection h with h;subst h;exact⟨by simp,.inr ⟨_,rfl,hρ2⟩⟩
      ·cases h
    ·match i,h with
     | 0,h=>
      simp at h;subst h;refine⟨_,rfl,⟨fun e he=>by simp[bldBox] at he; subst he; rfl,(fun h=>by cases h),rfl,hcap,_,fr,hw,by simpa using hcs,hm,fun i j e x hi hj=>?_⟩⟩
      cases i with
      | succ i=>simp[bldBox] at hi
      | zero=>
       simp[bldBox] at hi;subst hi
       match j,hj with
       | 0,hj=>
        simp at hj;subst hj;exact⟨.pointer (some ⟨b,0,none⟩),by simp,RepC.ptr 0 0 0 b 0 cap 2 rfl⟩
       | 1,hj=>
        simp at hj;subst hj;exact⟨v1,by simp,r1.shift (σ:=(· / 10000)) hσ⟩
       | j+2,hj=>simp at hj
     | 1,h=>
      simp at h;subst h;exact⟨_,rfl,hO2.to (σ:=(· / 10000)) (fun _ _ _ _ _=>rfl) (fun _ _=>rfl) (fun _ h=>h) (fun q _ l hl=>hσ q l hl)⟩
     | i+2,h=>simp at h
    ·match j,h with
     | 0,h=>exact⟨hρ.symm,_,rfl,rfl⟩
     | 1,h=>simp at h; subst h; cases hb
     | j+2,h=>simp at h
   ·cases h
  ·cases h
 ·cases h
omit [Globals] in
theorem bytesE_some {es:List (List C)}{x:ByteArray}(h:bytesE es=some x):∃ q,x=strOf q∧es=cm byteF q:=by
 unfold bytesE at h;rw[Option.map_eq_some_iff] at h;obtain⟨q,hq,rfl⟩:=h;obtain⟨hl,hg⟩:=mapM_get hq;refine⟨q,rfl,List.ext_getElem? fun i=>?_⟩;simp only[cm,List.getElem?_map]
 by_cases hi:i<es.length
 ·have h1:=List.getElem?_eq_getElem hi;have h2:q[i]?=some q[i]:=List.getElem?_eq_getElem (by omega);have h3:=hg i _ _ h1 h2;rw[h1,h2,Option.map_some];unfold Go.Vabs.byteOf at h3
  split at h3
  ·rename_i heq;injection h3 with h3;rw[heq,h3];rfl
  ·cases h3
 ·rw[List.getElem?_eq_none (by omega),List.getElem?_eq_none (by omega)];rfl
omit [Globals] in
theorem void_row {w:World}{fz:Nat→Prop}{ρ:Nat→Option Vabs.Loc}{l:Vabs.Loc}{o:Ob}{h n:Nat}{v:Value}(hO:RepO w fz ρ l o)(hl:ρ h=some l)(r:RepC w fz ρ v (.ref h 0 n))(hn:n=0):∃ a cap,v=.slice a 0 cap∧∀ x,a=some x→∃ sh,w.shape? x.block=some sh:=by
 subst hn
 cases r with
 | frz h=>cases h
 | nil _ hr=>exact⟨none,0,rfl,fun x h=>by cases h⟩
 | ref _ _ _ b base cap sz a hr hc ha hs=>
  obtain⟨o,rfl⟩:=hs;refine⟨_,_,rfl,fun x h=>?_⟩;injection h with h;subst h;have hr2:=hl.symm.trans hr;injection hr2 with hr2;subst hr2;obtain⟨_,_,_,_,c,fr2,e3,_⟩:=hO;exact⟨_,by simp only[World.shape?,e3]; rfl⟩
theorem okStr {tb e:Nat}(hc:∀ (b g off n cap cells:Nat) (zs:List Int) (w:World),w.cell? ⟨b,1,none⟩=some (.slice (some ⟨g,off,none⟩) n cap)→w.shape? g=some (e,cells)→zs.length=n→0<n→n≤cap→off+n≤cells→n≤281474976710656→(∀ (j:Nat) (z:Int),zs[j]?=some z→w.cell? ⟨g,off+j,none⟩=some (.int .u8 z)) →
   Calls P f #[.pointer (some ⟨b,0,none⟩)] w fun e w'=>e=.returned (.string (strOf zs))∧w'=w.drew.freeze ⟨g,off,none⟩ n)
  (hc0:∀ (b cap:Nat) (a:Option Addr) (w:World),b<w.heap.size→w.cell? ⟨b,1,none⟩=some (.slice a 0 cap)→(∀ x,a=some x→∃ sh,w.shape? x.block=some sh)→Calls P f #[.pointer (some ⟨b,0,none⟩)] w fun e w'=>e=.returned (.string ⟨#[]⟩)∧Below w.heap.size w w')
  {args:List T} {r:T × List Ob} (h:prStr tb e args=some r):CallOK P f args r:=by
 unfold prStr at h
 split at h
 ·rename_i o1 o2
  split at h
  ·rename_i fl k n k' es ho1 ho2
   split at h
   ·rename_i hk;obtain⟨rfl,rfl,rfl,hn1⟩:=hk;rw[Option.map_eq_some_iff] at h;obtain⟨x,hx,rfl⟩:=h;obtain⟨q,rfl,rfl⟩:=bytesE_some hx;have hlo:lentOf [T.c (.ptr 9000 0 0),o1,o2]=[⟨true,fl,k,2,[[.ptr 9000 0 0,.ref 19001 0 (cm byteF q).length]]⟩,⟨false,true,k',1,cm byteF q⟩]:=by rw[lentOf_c,lentOf_ob ho1,lentOf_ob ho2]; rfl
    have hre:realOf [T.c (.ptr 9000 0 0),o1,o2]=[T.c (.ptr 9000 0 0)]:=by rw[realOf_c,realOf_ob ho1,realOf_ob ho2]; rfl
    refine⟨fun h=>absurd (hlo.symm.trans h) (by simp),fun _=>?_⟩;intro w fz ρ vs hs hv _ hin hfl hgl;rw[hlo] at hin ⊢;rw[hre] at hs hv;obtain⟨b,cap,v0,v1,fr,hρ,hcap,hw,hcs,hm,r0,r1⟩:=bld_at hin rfl;obtain rfl:=ptr_of r0 hρ;obtain⟨v,hv0,hr⟩:=hv 0 _ rfl;obtain rfl:=ptr_of hr hρ;obtain rfl:=arr1 hs hv0;obtain⟨l2,hρ2,hO2⟩:=hin.obj 1 _ rfl;have hρ2:ρ 19001=some l2:=by simpa[lentH] using hρ2
    have hql:(cm byteF q).length=q.length:=by simp[cm]
    rw[hql] at hn1 r1
    by_cases hn0:0<q.length
    case neg=>
     have hq0:q=[]:=List.eq_nil_of_length_eq_zero (by omega);have hs0:strOf q=⟨#[]⟩:=by rw[hq0]; rfl
     obtain⟨a,cap2,rfl,ha⟩:=void_row hO2 hρ2 r1 (by omega);have hb:b<w.heap.size:=(Array.getElem?_eq_some_iff.1 hw).1;refine (hc0 b cap2 a w hb (by simp[World.cell?,hw]) ha).mono fun e' w' ⟨he,hw'⟩=>?_;rw[← hs0] at he;refine⟨_,fz,fun q=>if q=0 then some (.at b 0 cap 2) else if q=1 then some .nil else none,he,outL_mk hin (Past.of_below hw') hfl (.frz (.lit _ trivial)) rfl (fun q l h=>?_) (fun i o h=>?_) (fun j o h hb=>?_)⟩
     ·try simp only at h
      split at h
      ·rename_i hq;subst hq;injection h with h;subst h;exact⟨by simp,.inr ⟨_,rfl,hρ⟩⟩
      ·split at h
       ·rename_i hq;subst hq;injection h with h;subst h;exact⟨by simp,.inl rfl⟩
       ·cases h
     ·match i,h with
      | 0,h=>
       simp at h;subst h;refine⟨_,rfl,⟨fun e he=>by simp[bldBox] at he; subst he; rfl,(fun h=>by cases h),rfl,hcap,_,fr,(hw'.block b hb).trans hw,by simpa using hcs,hm,fun i j e x hi hj=>?_⟩⟩
       cases i with
       | succ i=>simp[bldBox] at hi
       | zero=>
        simp[bldBox] at hi;subst hi
        match j,hj with
        | 0,hj=>
         simp at hj;subst hj;exact⟨.pointer (some ⟨b,0,none⟩),by simp,RepC.ptr 0 0 0 b 0 cap 2 rfl⟩
        | 1,hj=>
         simp at hj;subst hj;exact⟨.slice a 0 cap2,by simp,.frz (.junk _ trivial)⟩
        | j+2,hj=>simp at hj
      | 1,h=>
       simp at h;subst h;exact⟨.nil,rfl,⟨fun e he=>by simp at he,fun _ e he=>by simp at he,rfl,rfl⟩⟩
      | i+2,h=>simp at h
     ·match j,h with
      | 0,h=>exact⟨hρ.symm,_,rfl,rfl⟩
      | 1,h=>simp at h; subst h; cases hb
      | j+2,h=>simp at h
    cases l2 with
    | nil=>have:=hO2.2.2.1; rw[show q=[] from List.map_eq_nil_iff.1 this] at hn0; simp at hn0
    | «at» g base cap2 sz=>
     obtain⟨_,_,rfl,e2,c,fr2,e3,e4,e5,e6⟩:=hO2;simp only[hql] at e2 e3 e4 e6;have hv1:v1=.slice (some ⟨g,base,none⟩) q.length cap2:=by
      generalize hqn:q.length=m at r1 e2 hn0 ⊢
      cases r1 with
      | frz h=>cases h
      | nil _ hr=>omega
      | ref _ _ _ b' base' cap' sz' a hr hc ha hs=>
       rw[hρ2] at hr;injection hr with hr;injection hr with q1 q2 q3 q4;subst q1 q2 q3 q4;have:=ha (by omega);rw[this];simp
     subst hv1;have hg:g<w.heap.size:=(Array.getElem?_eq_some_iff.1 e3).1;have hne:b≠g:=fun h=>by
      subst h;have:=hin.inj _ _ _ _ _ _ _ _ _ hρ hρ2;exact absurd this (show ¬ (9000:Nat)=19001 by decide)
     refine (hc b g base q.length cap2 c.size q w (by simp[World.cell?,hw]) (by simp[World.shape?,e3]) rfl hn0 e2 (by omega) hn1 (fun j z hj=>?_)).mono fun e' w' ⟨he,hw'⟩=>?_
     ·obtain⟨u,hu,hru⟩:=e6 j 0 _ _ (show (cm byteF q)[j]?=some [.lit (.int .u8 z)] by simp[cm,hj,byteF]) rfl;have:=lit_of hru;subst this;simp only[World.cell?,e3];rw[← hu];simp
     ·subst hw';have hsz:(w.drew.freeze ⟨g,base,none⟩ q.length).heap.size=w.heap.size:=by
       unfold World.freeze
       split
       ·rfl
       ·exact Array.size_modify
      have hhp:∀ k,k≠g→(w.drew.freeze ⟨g,base,none⟩ q.length).heap[k]?=w.heap[k]?:=fun k hk=>by
       unfold World.freeze
       split
       ·rfl
       ·simp only[Array.getElem?_modify];rw[if_neg (fun h=>hk h.symm)];rfl
      have hos:∀ {α:Type} (p:World→α),(∀ (W:World) (h:Array Obj),p { W with heap:=h }=p W)→p w.drew=p w→p (w.drew.freeze ⟨g,base,none⟩ q.length)=p w:=fun p h1 h2=>by
       unfold World.freeze
       split
       ·exact h2
       ·rw[h1]; exact h2
      refine⟨_,fz,fun q=>if q=0 then some (.at b 0 cap 2) else if q=1 then some .nil else none,he,outL_mk hin ⟨hos _ (fun _ _=>rfl) rfl,hos _ (fun _ _=>rfl) rfl,hos _ (fun _ _=>rfl) rfl,Nat.le_of_eq hsz.symm,fun k hk=>hhp k (fun e=>hk (.inr ⟨_,_,_,_,e▸hρ2⟩))⟩ hfl (.frz (.lit _ trivial)) rfl (fun q l h=>?_) (fun i o h=>?_) (fun j o h hb=>?_)⟩
      ·try simp only at h
       split at h
       ·rename_i hq;subst hq;injection h with h;subst h;exact⟨by simp,.inr ⟨_,rfl,hρ⟩⟩
       ·split at h
        ·rename_i hq;subst hq;injection h with h;subst h;exact⟨by simp,.inl rfl⟩
        ·cases h
      ·match i,h with
       | 0,h=>
        simp at h;subst h;refine⟨_,rfl,⟨fun e he=>by simp[bldBox] at he; subst he; rfl,(fun h=>by cases h),rfl,hcap,_,fr,(hhp b hne).trans hw,by simpa using hcs,hm,fun i j e x hi hj=>?_⟩⟩
        cases i with
        | succ i=>simp[bldBox] at hi
        | zero=>
         simp[bldBox] at hi;subst hi
         match j,hj with
         | 0,hj=>
          simp at hj;subst hj;exact⟨.pointer (some ⟨b,0,none⟩),by simp,RepC.ptr 0 0 0 b 0 cap 2 rfl⟩
         | 1,hj=>
          simp at hj;subst hj;exact⟨.slice (some ⟨g,base,none⟩) q.length cap2,by simp,.frz (.junk _ trivial)⟩
         | j+2,hj=>simp at hj
       | 1,h=>
        simp at h;subst h;exact⟨.nil,rfl,⟨fun e he=>by simp at he,fun _ e he=>by simp at he,rfl,rfl⟩⟩
       | i+2,h=>simp at h
      ·match j,h with
       | 0,h=>exact⟨hρ.symm,_,rfl,rfl⟩
       | 1,h=>simp at h; subst h; cases hb
       | j+2,h=>simp at h
   ·cases h
  ·cases h
 ·cases h
end
end Go.Vid
namespace Go.Vid
open Go.Lib Go.RowKit Go.Proofs Go.Shelf
section
variable {P:Program} (w:World)
theorem liesAt_bytes' {e:TypeId}(hc:P.cellsOf e=1)(count off n:Nat)(hn:off+n≤count):liesAt P P.depth e count off e n=true:=by
 have hd:P.depth=(2*(P.types.size+Made.depth)+1)+1:=rfl;rw[hd];simp only[liesAt,Bool.or_eq_true];left;rw[hd];simp[rowAt,hc,hn,sameLayout,Nat.mod_one]
theorem run_loadBytes':∀ (l:List Int) (a:Addr) (acc:ByteArray),(∀ (j:Nat) (x:Int),l[j]?=some x→w.cell? (a.add j)=some (.int .u8 x)) →
  (loadBytes a acc l.length).run P w=.ok (l.foldl (fun r n=>r.push (UInt8.ofNat n.toNat)) acc) w
 | [],a,acc,_=>by simp[loadBytes]
 | x::l,a,acc,h=>by
  have h0:w.cell? a=some (.int .u8 x):=by
   have:=h 0 x rfl;simpa[Addr.add] using this
  have ih:=run_loadBytes' l (a.add 1) (acc.push (UInt8.ofNat x.toNat)) (fun j y hy=>by
   have:=h (j+1) y (by simpa using hy);have e:(a.add 1).add j=a.add (j+1):=by
    unfold Addr.add
    by_cases hj:j=0
    ·subst hj; simp
    ·simp[hj]; omega
   rw[e]; exact this)
  simp only[List.length_cons,loadBytes,Sem.run_bind,run_load,h0,Result.andThen];exact ih
theorem run_unsafeString_at (pt it ty e:TypeId)(hp:P.underlying pt=some (.pointer e))(hc:P.cellsOf e=1)(g off cells:Nat)(hsh:w.shape? g=some (e,cells))(l:List Int)(h0:l≠[])(hn:off+l.length≤cells)(h63:l.length≤9223372036854775807)
  (hcell:∀ (j:Nat) (x:Int),l[j]?=some x→w.cell? ⟨g,off+j,none⟩=some (.int .u8 x)):
  (Builtin.unsafeString_ #[pt,it] ty #[.pointer (some ⟨g,off,none⟩),.int .i64 l.length]).run P w=.ok (.string (Go.Vabs.strOf l)) (w.freeze ⟨g,off,none⟩ l.length):=by
 have hl:l.length≠0:=by simpa using h0
 have hlb:=run_loadBytes' (P:=P) w l ⟨g,off,none⟩ .empty (fun j x hj=>by
  have:=hcell j x hj;unfold Addr.add
  by_cases h:j=0
  ·subst h; simpa using this
  ·simpa[h] using this)
 have hlies:=liesAt_bytes' (P:=P) hc (cells / P.cellsOf e) off l.length (by rw[hc]; simpa using hn);have h63':¬ (9223372036854775807:Int)<(l.length:Int):=by omega
 have hdef:Builtin.unsafeString_ #[pt,it] ty #[.pointer (some ⟨g,off,none⟩),.int .i64 l.length] =
   (do
    let n ← asInt (.int .i64 l.length)
    if n < 0 then runtimePanic (.error "unsafe.String: len out of range")
    if n > IntKind.i64.max then unsupported (.unsafePointer "String: a length above the largest int")
    if n=0 then pure (.string .empty)
    else if ← variablesAt ⟨g,off,none⟩ (← elemOf pt) n.toNat then do
     let s ← loadBytes ⟨g,off,none⟩ .empty n.toNat
     freeze ⟨g,off,none⟩ n.toNat
     pure (.string s)
    else unsupported (.unsafePointer "String: not so many bytes at ptr")) := rfl
 rw[hdef];have hmax:IntKind.i64.max=9223372036854775807:=rfl;have hneg:¬ (l.length:Int)<0:=by omega
 simp[asInt,asIntOf,hmax,h63',hneg,hl,variablesAt,hsh,elemOf,run_underlying hp,hlies,hlb];rfl
end
end Go.Vid
namespace Go.Proofs
open Go.Shelf Go.RowKit
variable {P:Program} {ρ:Ren}
set_option maxHeartbeats 2000000 in
set_option maxRecDepth 100000 in
theorem Any.Builder_String_at (L:Lays.n169 P ρ)(X:Builder.Extra P ρ)(b g off n cap cells:Nat)(zs:List Int)(w:World)(hb1:w.cell? ⟨b,1,none⟩=some (.slice (some ⟨g,off,none⟩) n cap))(hg:w.shape? g=some ((ρ.t 5),cells))(hz:zs.length=n)(hn:0<n)(hnc:n≤cap)(hroom:off+n≤cells)(hbig:n≤281474976710656)
  (hcell:∀ (j:Nat) (z:Int),zs[j]?=some z→w.cell? ⟨g,off+j,none⟩=some (.int .u8 z)):
  Calls P (ρ.f 169) #[.pointer (some ⟨b,0,none⟩)] w fun e w'=>e=.returned (.string (Go.Vabs.strOf zs))∧w'=w.drew.freeze ⟨g,off,none⟩ n:=by
 have c1:w.drew.cell? ⟨b,1,none⟩=some (.slice (some ⟨g,off,none⟩) n cap):=hb1;have hSD:(Builtin.unsafeSliceData_ #[(ρ.t 37)] (ρ.t 127) #[.slice (some ⟨g,off,none⟩) n cap]).run P w.drew=.ok (.pointer (some ⟨g,off,none⟩)) w.drew:=
  Lib.run_unsafeSliceData_row _ _ _ _ _ _ (by omega)
 have hUS:(Builtin.unsafeString_ #[(ρ.t 127),(ρ.t 3)] (ρ.t 9) #[.pointer (some ⟨g,off,none⟩),.int .i64 n]).run P w.drew=.ok (.string (Go.Vabs.strOf zs)) (w.drew.freeze ⟨g,off,none⟩ n):=by
  subst hz;exact Go.Vid.run_unsafeString_at w.drew (ρ.t 127) (ρ.t 3) (ρ.t 9) (ρ.t 5) L.t127 X.cellsByte g off cells hg zs (by intro e; subst e; simp at hn) hroom (by omega) hcell
 clear hcell hbig hnc hroom hn hz hg;have mixed:=L.mixed;have t72:=L.t72; have a72:=L.a72; have z72:=L.z72; have v72:=L.v72; have u72:=run_underlying L.t72;have t70:=L.t70; have a70:=L.a70; have z70:=L.z70; have v70:=L.v70; have u70:=run_underlying L.t70;have t37:=L.t37; have a37:=L.a37; have z37:=L.z37; have v37:=L.v37; have u37:=run_underlying L.t37;have t127:=L.t127; have a127:=L.a127; have z127:=L.z127; have v127:=L.v127; have u127:=run_underlying L.t127;have t3:=L.t3; have a3:=L.a3; have z3:=L.z3; have v3:=L.v3; have u3:=run_underlying L.t3;have t9:=L.t9; have a9:=L.a9; have z9:=L.z9; have v9:=L.v9; have u9:=run_underlying L.t9
 have t5:=X.t5; have a5:=X.a5; have z5:=X.z5; have v5:=X.v5; have u5:=run_underlying X.t5
 go_enter L.f169,Body.n169_ntmps ρ
 go_wp2
 go_region_o
 all_goals (go_wp2; go_ret; exact⟨rfl,rfl⟩)
set_option maxHeartbeats 2000000 in
set_option maxRecDepth 100000 in
theorem Any.Builder_String_void0 (L:Lays.n169 P ρ)(X:Builder.Extra P ρ)(b cap:Nat)(w:World)(hb1:w.cell? ⟨b,1,none⟩=some (.slice none 0 cap)):
  Calls P (ρ.f 169) #[.pointer (some ⟨b,0,none⟩)] w fun e w'=>e=.returned (.string ⟨#[]⟩)∧Below w.heap.size w w':=by
 have hUS:=Any.unsafeString_none L X;have c1:w.drew.cell? ⟨b,1,none⟩=some (.slice none 0 cap):=hb1;have hSD:(Builtin.unsafeSliceData_ #[(ρ.t 37)] (ρ.t 127) #[.slice none 0 cap]).run P w.drew=.ok (.pointer none) w.drew:=rfl;have mixed:=L.mixed;have t72:=L.t72; have a72:=L.a72; have z72:=L.z72; have v72:=L.v72; have u72:=run_underlying L.t72;have t70:=L.t70; have a70:=L.a70; have z70:=L.z70; have v70:=L.v70; have u70:=run_underlying L.t70;have t37:=L.t37; have a37:=L.a37; have z37:=L.z37; have v37:=L.v37; have u37:=run_underlying L.t37;have t127:=L.t127; have a127:=L.a127; have z127:=L.z127; have v127:=L.v127; have u127:=run_underlying L.t127
 have t3:=L.t3; have a3:=L.a3; have z3:=L.z3; have v3:=L.v3; have u3:=run_underlying L.t3;have t9:=L.t9; have a9:=L.a9; have z9:=L.z9; have v9:=L.v9; have u9:=run_underlying L.t9;have t5:=X.t5; have a5:=X.a5; have z5:=X.z5; have v5:=X.v5; have u5:=run_underlying X.t5
 go_enter L.f169,Body.n169_ntmps ρ
 go_wp2
 go_region_o
 all_goals (go_wp2; go_ret; exact⟨rfl,Below.drew (Below.refl _ w)⟩)
set_option maxHeartbeats 2000000 in
set_option maxRecDepth 100000 in
theorem Any.Builder_String_void1 (L:Lays.n169 P ρ)(X:Builder.Extra P ρ)(b cap:Nat)(x:Addr)(hc:cap≠0)(w:World)(hb1:w.cell? ⟨b,1,none⟩=some (.slice (some x) 0 cap)):
  Calls P (ρ.f 169) #[.pointer (some ⟨b,0,none⟩)] w fun e w'=>e=.returned (.string ⟨#[]⟩)∧Below w.heap.size w w':=by
 have hUS:=Any.unsafeString_none L X;have c1:w.drew.cell? ⟨b,1,none⟩=some (.slice (some x) 0 cap):=hb1;have hSD:(Builtin.unsafeSliceData_ #[(ρ.t 37)] (ρ.t 127) #[.slice (some x) 0 cap]).run P w.drew=.ok (.pointer (some x)) w.drew:=Lib.run_unsafeSliceData_row _ _ _ _ _ _ hc;clear hc;have mixed:=L.mixed;have t72:=L.t72; have a72:=L.a72; have z72:=L.z72; have v72:=L.v72; have u72:=run_underlying L.t72;have t70:=L.t70; have a70:=L.a70; have z70:=L.z70; have v70:=L.v70; have u70:=run_underlying L.t70;have t37:=L.t37; have a37:=L.a37; have z37:=L.z37; have v37:=L.v37; have u37:=run_underlying L.t37;have t127:=L.t127; have a127:=L.a127; have z127:=L.z127; have v127:=L.v127; have u127:=run_underlying L.t127
 have t3:=L.t3; have a3:=L.a3; have z3:=L.z3; have v3:=L.v3; have u3:=run_underlying L.t3;have t9:=L.t9; have a9:=L.a9; have z9:=L.z9; have v9:=L.v9; have u9:=run_underlying L.t9;have t5:=X.t5; have a5:=X.a5; have z5:=X.z5; have v5:=X.v5; have u5:=run_underlying X.t5
 go_enter L.f169,Body.n169_ntmps ρ
 go_wp2
 go_region_o
 all_goals (go_wp2; go_ret; exact⟨rfl,Below.drew (Below.refl _ w)⟩)
set_option maxHeartbeats 2000000 in
set_option maxRecDepth 100000 in
theorem Any.Builder_String_void2 (L:Lays.n169 P ρ)(X:Builder.Extra P ρ)(b:Nat)(x:Addr)(w:World)(sh:TypeId × Nat)(hlt:b<w.heap.size)(hb1:w.cell? ⟨b,1,none⟩=some (.slice (some x) 0 0))(hx:w.shape? x.block=some sh):
  Calls P (ρ.f 169) #[.pointer (some ⟨b,0,none⟩)] w fun e w'=>e=.returned (.string ⟨#[]⟩)∧Below w.heap.size w w':=by
 have hUS:=Any.unsafeString_none L X;have c1:w.drew.cell? ⟨b,1,none⟩=some (.slice (some x) 0 0):=hb1;have hSD:(Builtin.unsafeSliceData_ #[(ρ.t 37)] (ρ.t 127) #[.slice (some x) 0 0]).run P w.drew=.ok (.pointer (some ⟨w.drew.heap.size,0,none⟩)) (w.drew.alloc (.view x (ρ.t 5))):=
  Lib.run_unsafeSliceData_zero w.drew _ _ (ρ.t 5) L.t127 x 0 sh hx
 have c2:(w.drew.alloc (.view x (ρ.t 5))).cell? ⟨b,1,none⟩=some (.slice (some x) 0 0):=by
  rw[← hb1];unfold World.cell?;rw[Lib.alloc_old w.drew _ b hlt];rfl
 have c3:(w.alloc (.view x (ρ.t 5))).drew.cell? ⟨b,1,none⟩=some (.slice (some x) 0 0):=c2;clear hx;have mixed:=L.mixed;have t72:=L.t72; have a72:=L.a72; have z72:=L.z72; have v72:=L.v72; have u72:=run_underlying L.t72;have t70:=L.t70; have a70:=L.a70; have z70:=L.z70; have v70:=L.v70; have u70:=run_underlying L.t70;have t37:=L.t37; have a37:=L.a37; have z37:=L.z37; have v37:=L.v37; have u37:=run_underlying L.t37;have t127:=L.t127; have a127:=L.a127; have z127:=L.z127; have v127:=L.v127; have u127:=run_underlying L.t127;have t3:=L.t3; have a3:=L.a3; have z3:=L.z3; have v3:=L.v3; have u3:=run_underlying L.t3
 have t9:=L.t9; have a9:=L.a9; have z9:=L.z9; have v9:=L.v9; have u9:=run_underlying L.t9;have t5:=X.t5; have a5:=X.a5; have z5:=X.z5; have v5:=X.v5; have u5:=run_underlying X.t5
 go_enter L.f169,Body.n169_ntmps ρ
 go_wp2
 go_region_o
 all_goals (go_wp2; go_ret; exact⟨rfl,(Below.drew (Below.refl _ w)).alloc (Nat.le_refl _) _⟩)
theorem Any.Builder_String_void (L:Lays.n169 P ρ)(X:Builder.Extra P ρ)(b cap:Nat)(a:Option Addr)(w:World)(hlt:b<w.heap.size)(hb1:w.cell? ⟨b,1,none⟩=some (.slice a 0 cap))(ha:∀ x,a=some x→∃ sh,w.shape? x.block=some sh):
  Calls P (ρ.f 169) #[.pointer (some ⟨b,0,none⟩)] w fun e w'=>e=.returned (.string ⟨#[]⟩)∧Below w.heap.size w w':=by
 cases a with
 | none=>exact Any.Builder_String_void0 L X b cap w hb1
 | some x=>
  by_cases hc:cap=0
  ·subst hc;obtain⟨sh,hx⟩:=ha x rfl;exact Any.Builder_String_void2 L X b x w sh hlt hb1 hx
  ·exact Any.Builder_String_void1 L X b cap x hc w hb1
end Go.Proofs

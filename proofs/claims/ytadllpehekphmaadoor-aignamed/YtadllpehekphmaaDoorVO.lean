/- A library: what the abstract interpreter hands to calls, and what it is handed back. No condition. -/
import Derived.Test.YtadllpehekphmaaDoorVN
set_option linter.unusedSimpArgs false
set_option linter.unusedVariables false
namespace Go.Vabs
open Go.RowKit
section
variable {w w':World} {fz fz':Nat→Prop} {ρ ρ':Nat→Option Loc} {v:Value}
theorem ref_sl {h off len:Nat}{l:Loc}{o:Ob}{es':List (List C)}(hc:RepC w fz ρ v (.ref h off len))(hl:ρ h=some l)(ho:RepO w fz ρ l o)(hb:∀ b base cap sz,l=.at b base cap sz→fz' b)(hlen:off+len≤o.es.length)
  (hn:es'.length=len) (hes:∀ e∈es',e.length=o.sz) (hx:∀ (i j:Nat) (e:List C) (x:C) (e':List C) (x':C),o.es[off+i]?=some e→e[j]?=some x→es'[i]?=some e'→e'[j]?=some x'→∀ u,RepC w fz ρ u x→RepF w fz' u x'):RepF w fz' v (.sl o.sz es'):=by
 obtain⟨h1,h0,ho⟩:=ho
 cases hc with
 | frz hq=>cases hq
 | nil k e=>
  rw[hl] at e;injection e with e;subst e;have:es'=[]:=List.eq_nil_of_length_eq_zero hn;subst this;exact .sl none 0 0 [] o.sz (fun _ _=>undef) rfl (by simp) (Nat.le_refl _) (fun h=>absurd h (by omega)) (by simp)
 | ref k off len b base cap sz a e hc ha hs=>
  rw[hl] at e;injection e with e;subst e;obtain⟨hsz,hcap,cells,fr,hw,hsize,hfr,hcell⟩:=ho;have hcv:∀ i j,i<len→j<o.sz→∃ u,cells[base+(off+i)*sz+j]?=some u∧∀ e' x',es'[i]?=some e'→e'[j]?=some x'→RepF w fz' u x':=fun i j hi hj=>by
   have he:o.es[off+i]?=some o.es[off+i]:=List.getElem?_eq_getElem (by omega);have hel:o.es[off+i].length=o.sz:=h1 _ (List.getElem_mem _);have hxx:o.es[off+i][j]?=some o.es[off+i][j]:=List.getElem?_eq_getElem (by omega);obtain⟨u,hu,hrep⟩:=hcell _ _ _ _ he hxx;exact⟨u,hu,fun e' x' he' hx'=>hx i j _ _ e' x' he hxx he' hx' u hrep⟩
  let cv:Nat→Nat→Value:=fun i j=>if hij:i<len∧j<o.sz then (hcv i j hij.1 hij.2).choose else undef
  have hcvs:∀ i j,i<len→j<o.sz→cells[base+(off+i)*sz+j]?=some (cv i j)∧∀ e' x',es'[i]?=some e'→e'[j]?=some x'→RepF w fz' (cv i j) x':=fun i j hi hj=>by
   simp only[cv,dif_pos (And.intro hi hj)];exact (hcv i j hi hj).choose_spec
  refine .sl a len (cap-off) _ o.sz cv hn hes (by omega) (fun hp=>?_) (fun i j e x he hxx=>?_)
  ·refine⟨b,base+off*sz,ha (by omega),hb _ _ _ _ rfl,fun i j hi hj=>?_⟩;rw[cell?_at hw];have:=(hcvs i j hi hj).1;rw[Nat.add_mul,← Nat.add_assoc] at this;rw[hsz] at this ⊢;exact this
  ·have hi:i<len:=by rw[← hn]; exact (List.getElem?_eq_some_iff.1 he).1
   have hj:j<o.sz:=by rw[← hes e (List.mem_of_getElem? he)]; exact (List.getElem?_eq_some_iff.1 hxx).1
   exact (hcvs i j hi hj).2 e x he hxx
theorem mapM_get {α β:Type}{f:α→Option β}:∀ {l:List α} {m:List β},l.mapM f=some m→m.length=l.length∧∀ (i:Nat) (a:α) (b:β),l[i]?=some a→m[i]?=some b→f a=some b
 | [],m,h=>by
  simp only[List.mapM_nil,Option.pure_def,Option.some.injEq] at h;subst h;exact⟨rfl,by simp⟩
 | a::l,m,h=>by
  simp only[List.mapM_cons,Option.pure_def,Option.bind_eq_bind,Option.bind_eq_some_iff] at h;obtain⟨b,hb,m',hm',he⟩:=h;injection he with he;subst he;obtain⟨h1,h2⟩:=mapM_get hm';refine⟨by simp[h1],fun i x y hx hy=>?_⟩
  cases i with
  | zero=>simp at hx hy; subst hx; subst hy; exact hb
  | succ i=>exact h2 i x y (by simpa using hx) (by simpa using hy)
end
section
variable {P:Program} {ty:Tys} {w0:World} {B:Bs} {f0 fz:Nat→Prop} {ρ:Nat→Option Loc} {s:St} {tm:Array Value} {w:World}
theorem dataC_rep [Globals] (hrel:Rel w0 B f0 fz ρ s tm w){fL:Nat→Prop}(hf:∀ b,fz b→fL b):∀ (n:Nat) {v:Value} {c c':C},RepC w fz ρ v c→dataC s.hp n c=some c'→(∀ h∈hsC s.hp n c,∀ b base cap sz,ρ h=some (.at b base cap sz)→fL b)→RepF w fL v c'
 | 0,v,c,c',hv,h,_=>by
  have hcc:c=c'∧c.free=true:=by cases c<;>simp only[dataC,Option.some.injEq,reduceCtorEq] at h<;>subst h<;>exact⟨rfl,rfl⟩
  rw[← hcc.1];exact (hv.of_free hcc.2).mono (fun _ _=>rfl) hf
 | n+1,v,c,c',hv,h,hh=>by
  have triv:dataC s.hp (n+1) c=some c→c.free=true→RepF w fL v c':=fun h1 h2=>by
   rw[h1] at h;injection h with h;rw[← h];exact (hv.of_free h2).mono (fun _ _=>rfl) hf
  cases c with
  | ref k off len=>
   simp only[dataC] at h
   split at h
   ·rename_i o ho;obtain⟨l,hl,hob⟩:=hrel.obj k o ho;have hb:∀ b base cap sz,l=.at b base cap sz→fL b:=fun b base cap sz e=>hh k (by simp[hsC]) b base cap sz (by rw[hl,e])
    split at h
    ·cases h
    ·split at h
     ·rename_i hlen
      split at h
      ·rename_i hfree;injection h with h;subst h;refine ref_sl hv hl hob hb hlen (by simp; omega) (fun e he=>hob.1 e (List.mem_of_mem_drop (List.mem_of_mem_take he))) (fun i j e x e' x' he hx he' hx' u hu=>?_);rw[List.getElem?_take] at he'
       split at he'
       ·rw[List.getElem?_drop,he] at he';injection he' with he';subst he';rw[hx] at hx';injection hx' with hx';subst hx';exact (hu.of_free (hob.2.1 hfree e (List.mem_of_getElem? he) x (List.mem_of_getElem? hx))).mono (fun _ _=>rfl) hf
       ·cases he'
      ·rename_i hfree
       split at h
       ·rename_i es hes;injection h with h;subst h;obtain⟨h1,h2⟩:=mapM_get hes;have hlen2:es.length=len:=by rw[h1]; simp; omega
        refine ref_sl hv hl hob hb hlen hlen2 (fun e he=>?_) (fun i j e x e' x' he hx he' hx' u hu=>?_)
        ·obtain⟨i,hi⟩:=List.mem_iff_getElem?.1 he;have hil:=(List.getElem?_eq_some_iff.1 hi).1;have hgi:((o.es.drop off).take len)[i]?=some o.es[off+i]:=by
          rw[List.getElem?_take,if_pos (by omega),List.getElem?_drop,List.getElem?_eq_getElem (by omega)]
         have:=(mapM_get (h2 i _ e hgi hi)).1;rw[this];exact hob.1 _ (List.getElem_mem _)
        ·have hil:=(List.getElem?_eq_some_iff.1 he').1;have hgi:((o.es.drop off).take len)[i]?=some e:=by
          rw[List.getElem?_take,if_pos (by omega),List.getElem?_drop,he]
         have h3:=(mapM_get (h2 i e e' hgi he')).2 j x x' hx hx';refine dataC_rep hrel hf n hu h3 (fun h' hm=>hh h' ?_);simp only[hsC,ho];rw[if_neg (by simpa using hfree)];refine List.mem_cons_of_mem _ (List.mem_flatMap.2 ⟨e,List.mem_of_getElem? he,List.mem_flatMap.2 ⟨x,List.mem_of_getElem? hx,hm⟩⟩)
       ·cases h
     ·cases h
   ·cases h
  | ptr=>simp[dataC] at h
  | lit=>exact triv rfl rfl
  | sl=>exact triv rfl rfl
  | fptr=>exact triv rfl rfl
  | fn=>exact triv rfl rfl
  | junk=>exact triv rfl rfl
theorem dataT_rep [Globals] (hrel:Rel w0 B f0 fz ρ s tm w){fL:Nat→Prop}(hf:∀ b,fz b→fL b){v:Value}{t t':T}(hv:RepT w fz ρ v t)(h:dataT s.hp t=some t')(hh:∀ k∈hsT s.hp t,∀ b base cap sz,ρ k=some (.at b base cap sz)→fL b)(ρ':Nat→Option Loc):RepT w fL ρ' v t':=by
 cases t with
 | c x=>
  simp only[dataT,Option.map_eq_some_iff] at h;obtain⟨x',hx,rfl⟩:=h;exact RepC.frz (dataC_rep hrel hf 3 hv hx hh)
 | agg cs=>
  simp only[dataT,Option.map_eq_some_iff] at h;obtain⟨cs',hcs,rfl⟩:=h;obtain⟨vs,e,hv⟩:=hv;obtain⟨h1,h2⟩:=mapM_get hcs;refine⟨vs,e,by rw[h1]; exact hv.1,fun i u c' hu hc'=>?_⟩;have hi:=(List.getElem?_eq_some_iff.1 hc').1;have hci:cs[i]?=some cs[i]:=List.getElem?_eq_getElem (by omega);exact .frz (dataC_rep hrel hf 3 (hv.2 i u _ hu hci) (h2 i _ c' hci hc') (fun k hk=>hh k (List.mem_flatMap.2 ⟨_,List.getElem_mem _,hk⟩)))
 | tup _=>cases h
 | itr _ _=>cases h
 | junk=>cases h
structure Out (w w':World) (fz fz':Nat→Prop) (ρ':Nat→Option Loc) (v:Value) (r:T × List Ob):Prop where
 below:Below w.heap.size w w'
 f0:∀ b,fz b→fz' b
 f1:∀ b,fz' b→fz b∨w.heap.size≤b
 fl:∀ b,fz' b→b<w'.heap.size
 val:RepT w' fz' ρ' v r.1
 obj:∀ (i:Nat) (o:Ob),r.2[i]?=some o→∃ l,ρ' i=some l∧RepO w' fz' ρ' l o∧∀ b base cap sz,l=.at b base cap sz→w.heap.size≤b∧b<w'.heap.size∧¬ fz' b
 dom:∀ k l,ρ' k=some l→k<r.2.length
 inj:∀ k k' b base cap sz base' cap' sz',ρ' k=some (.at b base cap sz)→ρ' k'=some (.at b base' cap' sz')→k=k'
 free:∀ o∈r.2,o.free=true
def CallPl [Globals] (P:Program)(f:FuncId)(args:List T)(r:T × List Ob):Prop:=
 ∀ (w:World) (fz:Nat→Prop) (vs:Array Value),vs.size=args.length→(∀ (i:Nat) (t:T),args[i]?=some t→∃ v,vs[i]?=some v∧RepT w fz (fun _=>none) v t)→(∀ t∈args,t.noI=t)→(∀ b,fz b→b<w.heap.size)→GlobF w fz →
  Calls P f vs w fun e w'=>∃ v fz' ρ',e=.returned v∧Out w w' fz fz' ρ' v r
structure LentIn (w:World) (fz:Nat→Prop) (ρ:Nat→Option Loc) (obs:List Ob):Prop where
 obj:∀ (j:Nat) (o:Ob),obs[j]?=some o→∃ l,ρ (lentH o.box j)=some l∧RepO w fz ρ l o
 dom:∀ k l,ρ k=some l→∃ j o,obs[j]?=some o∧k=lentH o.box j
 inj:∀ k k' b base cap sz base' cap' sz',ρ k=some (.at b base cap sz)→ρ k'=some (.at b base' cap' sz')→k=k'
 own:∀ k b base cap sz,ρ k=some (.at b base cap sz)→b<w.heap.size∧¬ fz b
def lentAt (ρ:Nat→Option Loc)(b:Nat):Prop:=∃ k base cap sz,ρ k=some (.at b base cap sz)
def lentBs (n:Nat)(ρ:Nat→Option Loc):Bs:=⟨n,lentAt ρ,fun k=>if lentNm k then ρ k else none⟩
structure OutL (w w':World) (fz fz':Nat→Prop) (ρ ρ':Nat→Option Loc) (v:Value) (obs:List Ob) (r:T × List Ob):Prop where
 below:Past (lentBs w.heap.size ρ) w w'
 f0:∀ b,fz b→fz' b
 f1:∀ b,fz' b→fz b∨(lentBs w.heap.size ρ).owns b
 fl:∀ b,fz' b→b<w'.heap.size
 val:RepT w' fz' ρ' v r.1
 obj:∀ (i:Nat) (o:Ob),r.2[i]?=some o→∃ l,ρ' i=some l∧RepO w' fz' ρ' l o∧∀ b base cap sz,l=.at b base cap sz→(lentBs w.heap.size ρ).owns b∧b<w'.heap.size∧¬ fz' b
 dom:∀ k l,ρ' k=some l→k<r.2.length
 inj:∀ k k' b base cap sz base' cap' sz',ρ' k=some (.at b base cap sz)→ρ' k'=some (.at b base' cap' sz')→k=k'
 len:obs.length≤r.2.length
 box:∀ (j:Nat) (o:Ob),obs[j]?=some o→o.box=true→ρ' j=ρ (lentH true j)∧∃ o',r.2[j]?=some o'∧o'.box=true
def CallLd [Globals] (P:Program)(f:FuncId)(args:List T)(r:T × List Ob):Prop:=
 ∀ (w:World) (fz:Nat→Prop) (ρ:Nat→Option Loc) (vs:Array Value),vs.size=(realOf args).length→(∀ (i:Nat) (t:T),(realOf args)[i]?=some t→∃ v,vs[i]?=some v∧RepT w fz ρ v t)→(∀ t∈realOf args,t.noI=t)→LentIn w fz ρ (lentOf args) →
  (∀ b,fz b→b<w.heap.size)→GlobF w fz→Calls P f vs w fun e w'=>∃ v fz' ρ',e=.returned v∧OutL w w' fz fz' ρ ρ' v (lentOf args) r
def CallOK [Globals] (P:Program)(f:FuncId)(args:List T)(r:T × List Ob):Prop:=(lentOf args=[]→CallPl P f args r)∧(lentOf args≠[]→CallLd P f args r)
def CallPn [Globals] (P:Program)(f:FuncId)(args:List T)(r:T × List Ob):Prop:=
 lentOf args≠[]∧∀ (w:World) (fz:Nat→Prop) (ρ:Nat→Option Loc) (vs:Array Value),vs.size=(realOf args).length→(∀ (i:Nat) (t:T),(realOf args)[i]?=some t→∃ v,vs[i]?=some v∧RepT w fz ρ v t)→(∀ t∈realOf args,t.noI=t)→LentIn w fz ρ (lentOf args) →
  (∀ b,fz b→b<w.heap.size)→GlobF w fz→Calls P f vs w fun e w'=>(∃ p,unR r=some (.inl p)∧e=.panicked [{ v:=panV p.1 p.2,recovered:=false }]∧Past (lentBs w.heap.size ρ) w w') ∨
   ∃ r' v fz' ρ',unR r=some (.inr r')∧e=.returned v∧OutL w w' fz fz' ρ ρ' v (lentOf args) r'
def Loc.since (off:Nat):Loc→Loc
 | .nil=>.nil
 | .at b base cap sz=>.at b (base+off*sz) (cap-off) sz
structure ExpInv (w:World) (fz:Nat→Prop) (ρ:Nat→Option Loc) (fr seen:List Nat) (obs:List Ob) (locs:List Loc):Prop where
 len:obs.length=locs.length
 obj:∀ (i:Nat) (o:Ob) (l:Loc),obs[i]?=some o→locs[i]?=some l→o.free=true∧∀ ρ',RepO w fz ρ' l o
 at_:∀ (i b base cap sz:Nat),locs[i]?=some (.at b base cap sz)→∃ k∈seen,k∉fr∧∃ base' cap' sz',ρ k=some (.at b base' cap' sz')
 inj:∀ (i i' b base cap sz base' cap' sz':Nat),locs[i]?=some (.at b base cap sz)→locs[i']?=some (.at b base' cap' sz')→i=i'
theorem getElem?_pre {α:Type}{l m:List α}(h:l <+: m){i:Nat}{a:α}(hi:l[i]?=some a):m[i]?=some a:=by
 obtain⟨t,rfl⟩:=h;rw[List.getElem?_append_left (List.getElem?_eq_some_iff.1 hi).1];exact hi
theorem RepC.locs {c:C}{v:Value}{l m:List Loc}(h:RepC w fz (fun i=>l[i]?) v c)(hlm:l <+: m):RepC w fz (fun i=>m[i]?) v c:=
 h.mono (fun _ _=>rfl) (fun _ h=>h) (fun _ _ hk=>getElem?_pre hlm hk)
theorem expC_rep [Globals] (hrel:Rel w0 B f0 fz ρ s tm w){z:Option (TypeId × Nat)}{seen:List Nat}{obs:List Ob}{locs:List Loc}(hinv:ExpInv w fz ρ s.fr seen obs locs){v:Value}{c c':C}{seen':List Nat}{obs':List Ob}(hv:RepC w fz ρ v c)(h:expC s.hp s.fr z c seen obs=some (c',seen',obs')):
  ∃ locs',locs <+: locs'∧ExpInv w fz ρ s.fr seen' obs' locs'∧RepC w fz (fun i=>locs'[i]?) v c':=by
 unfold expC at h
 split at h
 ·rename_i q hz;have hc:c=.lit (.slice none 0 0):=by
   unfold nilZ at hz
   split at hz
   ·rfl
   ·cases hz
  subst hc;have hvn:v=.slice none 0 0:=by cases hv with | frz hf=>cases hf; rfl
  subst hvn;simp only[Option.some.injEq,Prod.mk.injEq] at h;obtain⟨rfl,rfl,rfl⟩:=h;have hilen:=hinv.len;have hloc:(locs++[Loc.nil])[obs.length]?=some .nil:=by rw[hilen,List.getElem?_append_right (Nat.le_refl _)]; simp
  have hno:∀ (i b base cap sz:Nat),(locs++[Loc.nil])[i]?=some (.at b base cap sz)→locs[i]?=some (.at b base cap sz):=fun i b base cap sz hi=>by
   by_cases hlt:i<locs.length
   ·rwa [List.getElem?_append_left hlt] at hi
   ·rw[List.getElem?_append_right (by omega)] at hi;have hil:=(List.getElem?_eq_some_iff.1 hi).1;have:i-locs.length=0:=by simp at hil; omega
    rw[this] at hi;simp at hi
  refine⟨locs++[.nil],List.prefix_append _ _,⟨by simp[hilen],fun i o' l2 hi hl2=>?_,fun i b base cap sz hi=>hinv.at_ i b base cap sz (hno i b base cap sz hi),fun i i' b base cap sz base' cap' sz' hi hi'=>hinv.inj i i' b base cap sz base' cap' sz' (hno _ _ _ _ _ hi) (hno _ _ _ _ _ hi')⟩,.nil _ hloc⟩
  by_cases hlt:i<obs.length
  ·rw[List.getElem?_append_left hlt] at hi;rw[List.getElem?_append_left (by omega)] at hl2;exact hinv.obj i o' l2 hi hl2
  ·have hil:=(List.getElem?_eq_some_iff.1 hi).1;have:i=obs.length:=by simp at hil; omega
   subst this;rw[List.getElem?_append_right (Nat.le_refl _)] at hi;rw[hilen,List.getElem?_append_right (Nat.le_refl _)] at hl2;simp at hi hl2;subst hi;subst hl2;exact⟨rfl,fun ρ'=>⟨fun e he=>absurd he List.not_mem_nil,fun _ e he=>absurd he List.not_mem_nil,rfl,rfl⟩⟩
 have triv:c.free=true→some (c,seen,obs)=some (c',seen',obs')→∃ locs',locs <+: locs'∧ExpInv w fz ρ s.fr seen' obs' locs'∧RepC w fz (fun i=>locs'[i]?) v c':=by
  intro hf he;simp only[Option.some.injEq,Prod.mk.injEq] at he;obtain⟨rfl,rfl,rfl⟩:=he;exact⟨locs,List.prefix_refl _,hinv,.frz (hv.of_free hf)⟩
 cases c with
 | lit _=>exact triv rfl h
 | sl _ _=>exact triv rfl h
 | fptr _ _=>exact triv rfl h
 | fn _ _=>exact triv rfl h
 | junk=>exact triv rfl h
 | ptr _ _ _=>cases h
 | ref k off len=>
  simp only at h
  split at h
  ·rename_i o ho
   split at h
   ·cases h
   ·rename_i hcond;simp only[Bool.or_eq_true,Bool.not_eq_true',decide_eq_true_eq,not_or,Bool.not_eq_true,Bool.not_eq_false] at hcond;obtain⟨⟨hbox,hfree⟩,hlen⟩:=hcond;have hlen:off+len≤o.es.length:=by omega
    obtain⟨l,hl,hob⟩:=hrel.obj k o ho
    split at h
    ·cases h
    ·rename_i hseen
     split at h
     ·rename_i hfr;simp only[Option.some.injEq,Prod.mk.injEq] at h;obtain⟨rfl,rfl,rfl⟩:=h;have hkfr:k∈s.fr:=by simpa using hfr
      refine⟨locs,List.prefix_refl _,hinv,.frz (ref_sl hv hl hob (fun b base cap sz e=>(hrel.own k b base cap sz (by rw[hl,e])).2.2 hkfr) hlen (by simp; omega) (fun e he=>hob.1 e (List.mem_of_mem_drop (List.mem_of_mem_take he))) (fun i j e x e' x' he hx he' hx' u hu=>?_))⟩;rw[List.getElem?_take] at he'
      split at he'
      ·rw[List.getElem?_drop,he] at he';injection he' with he';subst he';rw[hx] at hx';injection hx' with hx';subst hx';exact hu.of_free (hob.2.1 hfree e (List.mem_of_getElem? he) x (List.mem_of_getElem? hx))
      ·cases he'
     ·rename_i hfr;simp only[Option.some.injEq,Prod.mk.injEq] at h;obtain⟨rfl,rfl,rfl⟩:=h;have hkfr:k∉s.fr:=by simpa using hfr
      have hkseen:k∉seen:=by simpa using hseen
      obtain⟨l',hl'⟩:∃ l',l'=Loc.since off l:=⟨_,rfl⟩;have hl'at:∀ b base cap sz,l'=.at b base cap sz→∃ base' cap' sz',l=.at b base' cap' sz':=fun b base cap sz e=>by
       cases l with
       | nil=>rw[hl'] at e; cases e
       | «at» b' base' cap' sz'=>rw[hl'] at e; cases e; exact⟨_,_,_,rfl⟩
      have hO':∀ ρ',RepO w fz ρ' l' { o with es:=(o.es.drop off).take len }∧(l'=.nil→off=0∧len=0):=fun ρ'=>by
       obtain⟨h1,h0,hh⟩:=hob;subst hl';refine⟨⟨fun e he=>h1 e (List.mem_of_mem_drop (List.mem_of_mem_take he)),fun hq e he=>h0 hq e (List.mem_of_mem_drop (List.mem_of_mem_take he)),?_⟩,?_⟩
       ·cases l with
        | nil=>exact⟨by simp[hh.1],hh.2⟩
        | «at» b base cap sz=>
         obtain⟨h2,h3,c,fr,h4,h5,h6,h7⟩:=hh;refine⟨h2,by simp; omega,c,fr,h4,?_,⟨h6.1,fun hb=>by simp only at hb; rw[hbox] at hb; cases hb⟩,fun i j e x he hx=>?_⟩
         ·have:(cap-off)*sz+off*sz=cap*sz:=by rw[← Nat.add_mul]; congr 1; omega
          omega
         ·simp only at he;rw[List.getElem?_take] at he
          split at he
          ·rw[List.getElem?_drop] at he;obtain⟨u,hu,hr⟩:=h7 (off+i) j e x he hx;refine⟨u,?_,.frz (hr.of_free (h0 hfree e (List.mem_of_getElem? he) x (List.mem_of_getElem? hx)))⟩;rw[Nat.add_mul,← Nat.add_assoc] at hu;exact hu
          ·cases he
       ·intro e
        cases l with
        | nil=>rw[hh.1] at hlen; simp at hlen; exact hlen
        | «at» b base cap sz=>cases e
      have hilen:=hinv.len;refine⟨locs++[l'],List.prefix_append _ _,⟨by simp[hilen],fun i o' l2 hi hl2=>?_,fun i b base cap sz hi=>?_,fun i i' b base cap sz base' cap' sz' hi hi'=>?_⟩,?_⟩
      ·by_cases hlt:i<obs.length
       ·rw[List.getElem?_append_left hlt] at hi;rw[List.getElem?_append_left (by omega)] at hl2;exact hinv.obj i o' l2 hi hl2
       ·have hil:=(List.getElem?_eq_some_iff.1 hi).1;have:i=obs.length:=by simp at hil; omega
        subst this;rw[List.getElem?_append_right (Nat.le_refl _)] at hi;rw[hilen,List.getElem?_append_right (Nat.le_refl _)] at hl2;simp at hi hl2;subst hi;subst hl2;exact⟨hfree,fun ρ'=>(hO' ρ').1⟩
      ·by_cases hlt:i<locs.length
       ·rw[List.getElem?_append_left hlt] at hi;obtain⟨k',hk',h1,h2⟩:=hinv.at_ i b base cap sz hi;exact⟨k',List.mem_cons_of_mem _ hk',h1,h2⟩
       ·rw[List.getElem?_append_right (by omega)] at hi;have hil:=(List.getElem?_eq_some_iff.1 hi).1;have:i-locs.length=0:=by simp at hil; omega
        rw[this] at hi;simp at hi;obtain⟨base',cap',sz',e⟩:=hl'at _ _ _ _ hi;exact⟨k,List.mem_cons_self,hkfr,base',cap',sz',by rw[hl,e]⟩
      ·have hnew:∀ (i b base cap sz:Nat),¬ i<locs.length→(locs++[l'])[i]?=some (.at b base cap sz)→i=locs.length∧∃ base' cap' sz',ρ k=some (.at b base' cap' sz'):=fun i b base cap sz hlt hi=>by
        rw[List.getElem?_append_right (by omega)] at hi;have hil:=(List.getElem?_eq_some_iff.1 hi).1;have:i-locs.length=0:=by simp at hil; omega
        rw[this] at hi;simp at hi;obtain⟨base',cap',sz',e⟩:=hl'at _ _ _ _ hi;exact⟨by omega,base',cap',sz',by rw[hl,e]⟩
       have hno:∀ (i b base cap sz base' cap' sz':Nat),locs[i]?=some (.at b base cap sz)→ρ k≠some (.at b base' cap' sz'):=fun i b base cap sz base' cap' sz' hi hk=>by
        obtain⟨k',hk',h1,base2,cap2,sz2,h2⟩:=hinv.at_ i b base cap sz hi;exact hkseen (by rw[hrel.inj k k' b _ _ _ _ _ _ hkfr h1 hk h2]; exact hk')
       by_cases h1:i<locs.length<;>by_cases h2:i'<locs.length
       ·rw[List.getElem?_append_left h1] at hi;rw[List.getElem?_append_left h2] at hi';exact hinv.inj i i' b base cap sz base' cap' sz' hi hi'
       ·rw[List.getElem?_append_left h1] at hi;obtain⟨_,_,_,_,h3⟩:=hnew i' b _ _ _ h2 hi';exact absurd h3 (hno i b _ _ _ _ _ _ hi)
       ·rw[List.getElem?_append_left h2] at hi';obtain⟨_,_,_,_,h3⟩:=hnew i b _ _ _ h1 hi;exact absurd h3 (hno i' b _ _ _ _ _ _ hi')
       ·have:=(hnew i b _ _ _ h1 hi).1;have:=(hnew i' b _ _ _ h2 hi').1;omega
      ·have hloc:(locs++[l'])[obs.length]?=some l':=by rw[hilen,List.getElem?_append_right (Nat.le_refl _)]; simp
       cases hv with
       | frz hq=>cases hq
       | nil _ e=>
        rw[hl] at e;injection e with e;subst e;subst hl';exact .nil _ hloc
       | ref _ _ _ b base cap sz a e hc ha hs=>
        rw[hl] at e;injection e with e;subst e;subst hl';have:=RepC.ref (w:=w) (fz:=fz) (ρ:=fun i=>(locs++[Loc.since off (.at b base cap sz)])[i]?) obs.length 0 len b (base+off*sz) (cap-off) sz a hloc (by omega) (fun hlt=>by rw[ha (by omega),Nat.zero_mul,Nat.add_zero]) hs;rw[Nat.sub_zero] at this;exact this
  ·cases h
theorem expL_rep [Globals] (hrel:Rel w0 B f0 fz ρ s tm w):∀ {zs:List (Option (TypeId × Nat))} {cs cs':List C} {vs:List Value} {seen seen':List Nat} {obs obs':List Ob} {locs:List Loc},ExpInv w fz ρ s.fr seen obs locs→RepL w fz ρ vs cs→expL s.hp s.fr zs cs seen obs=some (cs',seen',obs') →
  ∃ locs',locs <+: locs'∧ExpInv w fz ρ s.fr seen' obs' locs'∧RepL w fz (fun i=>locs'[i]?) vs cs'
 | zs,[],cs',vs,seen,seen',obs,obs',locs,hinv,hv,h=>by
  simp only[expL,Option.some.injEq,Prod.mk.injEq] at h;obtain⟨rfl,rfl,rfl⟩:=h;exact⟨locs,List.prefix_refl _,hinv,hv.1,by simp⟩
 | zs,c::cs,cs',vs,seen,seen',obs,obs',locs,hinv,hv,h=>by
  simp only[expL] at h
  split at h
  ·rename_i c1 seen1 obs1 hc
   split at h
   ·rename_i cs1 seen2 obs2 hcs;simp only[Option.some.injEq,Prod.mk.injEq] at h;obtain⟨rfl,rfl,rfl⟩:=h
    cases vs with
    | nil=>have:=hv.1; simp at this
    | cons u us=>
     obtain⟨locs1,hp1,hinv1,hr1⟩:=expC_rep hrel hinv (hv.2 0 u c rfl rfl) hc;obtain⟨locs2,hp2,hinv2,hr2⟩:=expL_rep hrel hinv1 (vs:=us) ⟨by have:=hv.1; simpa using this,fun i x y hx hy=>hv.2 (i+1) x y (by simpa using hx) (by simpa using hy)⟩ hcs;refine⟨locs2,hp1.trans hp2,hinv2,by simp[hr2.1],fun i x y hx hy=>?_⟩
     cases i with
     | zero=>simp at hx hy; subst hx; subst hy; exact hr1.locs hp2
     | succ i=>exact hr2.2 i x y (by simpa using hx) (by simpa using hy)
   ·cases h
  ·cases h
theorem exp1_rep [Globals] (hrel:Rel w0 B f0 fz ρ s tm w){zs:List (Option (TypeId × Nat))}{t t':T}{v:Value}{seen seen':List Nat}{obs obs':List Ob}{locs:List Loc}(hinv:ExpInv w fz ρ s.fr seen obs locs)(hv:RepT w fz ρ v t)(h:exp1 s.hp s.fr zs t seen obs=some (t',seen',obs')):
  ∃ locs',locs <+: locs'∧ExpInv w fz ρ s.fr seen' obs' locs'∧Rep1 w fz (fun i=>locs'[i]?) v t':=by
 cases t with
 | c x=>
  simp only[exp1] at h
  split at h
  ·rename_i c1 s1 o1 hc;simp only[Option.some.injEq,Prod.mk.injEq] at h;obtain⟨rfl,rfl,rfl⟩:=h;exact expC_rep hrel hinv hv hc
  ·cases h
 | agg cs=>
  simp only[exp1] at h
  split at h
  ·rename_i c1 s1 o1 hc;simp only[Option.some.injEq,Prod.mk.injEq] at h;obtain⟨rfl,rfl,rfl⟩:=h;obtain⟨vs,e,hv⟩:=hv;obtain⟨locs',h1,h2,h3⟩:=expL_rep hrel hinv hv hc;exact⟨locs',h1,h2,vs,e,h3⟩
  ·cases h
 | junk=>
  simp only[exp1,Option.some.injEq,Prod.mk.injEq] at h;obtain⟨rfl,rfl,rfl⟩:=h;exact⟨locs,List.prefix_refl _,hinv,trivial⟩
 | tup _=>cases h
 | itr _ _=>cases h
theorem Rep1.toT {t:T}{v:Value}{ρ':Nat→Option Loc}(h:Rep1 w fz ρ' v t):RepT w fz ρ' v t:=by
 cases t with
 | c x=>exact h
 | agg cs=>exact h
 | tup _=>exact h.elim
 | itr _ _=>exact h.elim
 | junk=>trivial
theorem Rep1.locs {t:T}{v:Value}{l m:List Loc}(h:Rep1 w fz (fun i=>l[i]?) v t)(hlm:l <+: m):Rep1 w fz (fun i=>m[i]?) v t:=
 h.mono (fun _ _=>rfl) (fun _ h=>h) (fun _ _ hk=>getElem?_pre hlm hk)
theorem expTs_rep [Globals] (hrel:Rel w0 B f0 fz ρ s tm w):∀ {zss:List (List (Option (TypeId × Nat)))} {ts ts':List T} {vs:List Value} {seen seen':List Nat} {obs obs':List Ob} {locs:List Loc},ExpInv w fz ρ s.fr seen obs locs→vs.length=ts.length→(∀ (i:Nat) (v:Value) (t:T),vs[i]?=some v→ts[i]?=some t→RepT w fz ρ v t) →
  expTs s.hp s.fr zss ts seen obs=some (ts',seen',obs')→∃ locs',locs <+: locs'∧ExpInv w fz ρ s.fr seen' obs' locs'∧vs.length=ts'.length∧(∀ (i:Nat) (v:Value) (t:T),vs[i]?=some v→ts'[i]?=some t→Rep1 w fz (fun i=>locs'[i]?) v t)
 | zss,[],ts',vs,seen,seen',obs,obs',locs,hinv,hl,hv,h=>by
  simp only[expTs,Option.some.injEq,Prod.mk.injEq] at h;obtain⟨rfl,rfl,rfl⟩:=h;exact⟨locs,List.prefix_refl _,hinv,hl,by simp⟩
 | zss,t::ts,ts',vs,seen,seen',obs,obs',locs,hinv,hl,hv,h=>by
  simp only[expTs] at h
  split at h
  ·rename_i c1 seen1 obs1 hc
   split at h
   ·rename_i cs1 seen2 obs2 hcs;simp only[Option.some.injEq,Prod.mk.injEq] at h;obtain⟨rfl,rfl,rfl⟩:=h
    cases vs with
    | nil=>simp at hl
    | cons u us=>
     obtain⟨locs1,hp1,hinv1,hr1⟩:=exp1_rep hrel hinv (hv 0 u t rfl rfl) hc;obtain⟨locs2,hp2,hinv2,hl2,hr2⟩:=expTs_rep hrel hinv1 (vs:=us) (by simpa using hl) (fun i x y hx hy=>hv (i+1) x y (by simpa using hx) (by simpa using hy)) hcs;refine⟨locs2,hp1.trans hp2,hinv2,by simp[hl2],fun i x y hx hy=>?_⟩
     cases i with
     | zero=>simp at hx hy; subst hx; subst hy; exact hr1.locs hp2
     | succ i=>exact hr2 i x y (by simpa using hx) (by simpa using hy)
   ·cases h
  ·cases h
end
end Go.Vabs
namespace Go.Vabs
open Go.RowKit
theorem mem_fput {l:List Nat}{k x:Nat}:x∈fput l k↔x=k∨x∈l:=by
 induction l with
 | nil=>simp[fput]
 | cons a l ih=>
  simp only[fput]
  split
  ·rename_i e; subst e; simp
  ·split
   ·simp
   ·simp only[List.mem_cons,ih]
    constructor
    ·rintro (h | h | h)<;>simp[h]
    ·rintro (h | h | h)<;>simp[h]
theorem mem_fputs {ks:List Nat}:∀ {l:List Nat} {x:Nat},x∈fputs l ks↔x∈ks∨x∈l:=by
 induction ks with
 | nil=>simp[fputs]
 | cons k ks ih=>
  intro l x;simp only[fputs,ih,mem_fput,List.mem_cons]
  constructor
  ·rintro (h | h | h)<;>simp[h]
  ·rintro ((h | h) | h)<;>simp[h]
theorem addObs_get {d:Nat}:∀ {os:List Ob} {i:Nat} {hp hp':Heap},addObs hp d i os=some hp'→(∀ (j:Nat) (o:Ob),os[j]?=some o→hget hp' (d+10000*(i+j))=some o) ∧
  (∀ k,(∀ j,j<os.length→k≠d+10000*(i+j))→hget hp' k=hget hp k)∧(∀ j,j<os.length→hget hp (d+10000*(i+j))=none)
 | [],i,hp,hp',h=>by
  simp only[addObs,Option.some.injEq] at h;subst h;exact⟨by simp,fun _ _=>rfl,by simp⟩
 | o::os,i,hp,hp',h=>by
  simp only[addObs] at h
  split at h
  ·rename_i hf;obtain⟨h1,h2,h3⟩:=addObs_get h;refine⟨fun j o' hj=>?_,fun k hk=>?_,fun j hj=>?_⟩
   ·cases j with
    | zero=>
     simp at hj;subst hj;rw[h2 _ (fun j hj=>by omega),Nat.add_zero];exact hget_hput _ _ _
    | succ j=>
     have:=h1 j o' (by simpa using hj);rw[show i+1+j=i+(j+1) by omega] at this;exact this
   ·rw[h2 k (fun j hj=>by have:=hk (j+1) (by simp; omega); rw[show i+(j+1)=i+1+j by omega] at this; exact this)];exact hgN _ _ _ _ (by have:=hk 0 (by simp); rw[Nat.add_zero] at this; exact this)
   ·cases j with
    | zero=>exact hf
    | succ j=>
     have:=h3 j (by simpa using hj);rw[hgN _ _ _ _ (by omega),show i+1+j=i+(j+1) by omega] at this;exact this
  ·cases h
section
variable {w w':World} {fz fz':Nat→Prop} {ρ ρ':Nat→Option Loc} {v:Value} {σ:Nat→Nat}
theorem RepC.shift {c:C}(h:RepC w fz ρ v c)(hr:∀ k l,ρ k=some l→ρ' (σ k)=some l):RepC w fz ρ' v (c.shift σ):=by
 cases h with
 | frz hq=>
  have:c.shift σ=c:=by cases hq<;>rfl
  rw[this];exact .frz hq
 | nil k e=>exact .nil _ (hr _ _ e)
 | ref k off len b base cap sz a e hc ha hs=>exact .ref _ off len b base cap sz a (hr _ _ e) hc ha hs
 | ptr k i off b base cap sz e=>exact .ptr _ i off b base cap sz (hr _ _ e)
theorem Rep1.shift {t:T}(h:Rep1 w fz ρ v t)(hr:∀ k l,ρ k=some l→ρ' (σ k)=some l):Rep1 w fz ρ' v (t.shift1 σ):=by
 cases t with
 | c x=>exact RepC.shift h hr
 | agg cs=>
  obtain⟨vs,e,h⟩:=h;refine⟨vs,e,by simpa using h.1,fun i u c hu hc=>?_⟩;rw[List.getElem?_map,Option.map_eq_some_iff] at hc;obtain⟨c0,h0,rfl⟩:=hc;exact (h.2 i u c0 hu h0).shift hr
 | tup _=>exact h.elim
 | itr _ _=>exact h.elim
 | junk=>trivial
theorem RepT.shift {t:T}(h:RepT w fz ρ v t)(hr:∀ k l,ρ k=some l→ρ' (σ k)=some l):RepT w fz ρ' v (t.shift σ):=by
 cases t with
 | c x=>exact RepC.shift h hr
 | agg cs=>exact Rep1.shift (t:=.agg cs) h hr
 | tup ts=>
  obtain⟨vs,e,hs,h⟩:=h;refine⟨vs,e,by simpa using hs,fun i t ht=>?_⟩;rw[List.getElem?_map,Option.map_eq_some_iff] at ht;obtain⟨t0,h0,rfl⟩:=ht;obtain⟨u,hu,h1⟩:=h i t0 h0;exact⟨u,hu,h1.shift hr⟩
 | itr _ _=>trivial
 | junk=>trivial
theorem shift_noI (σ:Nat→Nat)(t:T):(t.shift σ).noI=t.shift σ:=by cases t<;>rfl
theorem RepC.ofLit {c:C}(h:RepC w fz ρ v c)(hl:c.isLit=true):RepC w' fz' ρ' v (c.shift σ):=by
 cases c<;>first | cases hl | skip
 cases h with
 | frz hq=>cases hq with | lit _ h=>exact .frz (.lit _ h)
theorem Rep1.ofFlat {t:T}(h:Rep1 w fz ρ v t)(hl:t.flat1=true):Rep1 w' fz' ρ' v (t.shift1 σ):=by
 cases t with
 | c x=>exact RepC.ofLit h hl
 | agg cs=>
  obtain⟨vs,e,h⟩:=h;refine⟨vs,e,by simpa using h.1,fun i u c hu hc=>?_⟩;rw[List.getElem?_map,Option.map_eq_some_iff] at hc;obtain⟨c0,h0,rfl⟩:=hc;exact (h.2 i u c0 hu h0).ofLit (List.all_eq_true.1 hl c0 (List.mem_of_getElem? h0))
 | tup _=>exact h.elim
 | itr _ _=>exact h.elim
 | junk=>trivial
theorem RepT.ofFlat {t:T}(h:RepT w fz ρ v t)(hl:t.flat=true):RepT w' fz' ρ' v (t.shift σ):=by
 cases t with
 | c x=>exact RepC.ofLit h hl
 | agg cs=>exact Rep1.ofFlat (t:=.agg cs) h hl
 | tup ts=>
  obtain⟨vs,e,hs,h⟩:=h;refine⟨vs,e,by simpa using hs,fun i t ht=>?_⟩;rw[List.getElem?_map,Option.map_eq_some_iff] at ht;obtain⟨t0,h0,rfl⟩:=ht;obtain⟨u,hu,h1⟩:=h i t0 h0;exact⟨u,hu,h1.ofFlat (List.all_eq_true.1 hl t0 (List.mem_of_getElem? h0))⟩
 | itr _ _=>trivial
 | junk=>trivial
end
section
variable {P:Program} {ty:Tys} {w0:World} {B:Bs} {f0 fz:Nat→Prop} {ρ:Nat→Option Loc} {s:St} {tm:Array Value} {w:World}
open Classical in
theorem takeIn_sound [Globals] (hrel:Rel w0 B f0 fz ρ s tm w)(hB:B.n≤w.heap.size){w':World}{fL fz':Nat→Prop}{ρr:Nat→Option Loc}{v:Value}{r:T × List Ob}{hs:List Nat}{dst:Option Nat}{s':St}
  (hL:∀ b,fL b↔fz b∨∃ k∈hs,∃ base cap sz,ρ k=some (.at b base cap sz)) (ho:Out w w' fL fz' ρr v r) (h:takeIn s dst hs r=some s'):
  ∃ fz2 ρ2,(∃ d,dst=some d∧Rel w0 B f0 fz2 ρ2 s' (tm.setIfInBounds d v) w')∧∀ b,fz b→fz2 b:=by
 unfold takeIn at h
 split at h
 ·cases h
 ·rename_i d
  split at h
  ·rename_i hp hadd;injection h with h;subst h;obtain⟨ha1,ha2,ha3⟩:=addObs_get hadd;simp only[Nat.zero_add] at ha1 ha2 ha3
   let isNew:Nat→Prop:=fun k=>∃ j,j<r.2.length∧k=d+10000*j
   let ρ2:Nat→Option Loc:=fun k=>if hk:isNew k then ρr hk.choose else ρ k
   have hρnew:∀ j,j<r.2.length→ρ2 (d+10000*j)=ρr j:=fun j hj=>by
    have hk:isNew (d+10000*j):=⟨j,hj,rfl⟩;simp only[ρ2,dif_pos hk];have:=hk.choose_spec.2;congr 1;omega
   have hρold:∀ k,¬ isNew k→ρ2 k=ρ k:=fun k hk=>by simp only[ρ2,dif_neg hk]
   have hnone:∀ k,isNew k→hget s.hp k=none:=fun k ⟨j,hj,e⟩=>by rw[e]; exact ha3 j hj
   have hρnone:∀ k,isNew k→ρ k=none:=fun k hk=>by
    cases hq:ρ k with
    | none=>rfl
    | some l=>obtain⟨o,ho⟩:=hrel.dom1 k l hq; rw[hnone k hk] at ho; cases ho
   have hρmono:∀ k l,ρ k=some l→ρ2 k=some l:=fun k l hk=>by
    rw[hρold k (fun hn=>by rw[hρnone k hn] at hk; cases hk)];exact hk
   have hgold:∀ k,¬ isNew k→hget hp k=hget s.hp k:=fun k hk=>ha2 k (fun j hj e=>hk ⟨j,hj,e⟩);have hbl:=ho.below;have hheap:∀ b,b<w.heap.size→w'.heap[b]?=w.heap[b]?:=fun b hb=>hbl.block b hb;have hsz:=hbl.size;have hfzw:∀ b,fz b→w'.heap[b]?=w.heap[b]?:=fun b hb=>hheap b (hrel.fzl b hb);have build:∀ (fz2:Nat→Prop) (fr2:List Nat),(∀ b,fz b→fz2 b)→(∀ b,fz2 b→b<w'.heap.size)→(∀ b,fz2 b→f0 b∨B.owns b)→(∀ k,k∈fr2→∃ o,hget hp k=some o)→(∀ k,k∈s.fr→k∈fr2) →
     (∀ k b base cap sz,¬ isNew k→ρ k=some (.at b base cap sz)→(k∉fr2→¬ fz2 b)∧(k∈fr2→fz2 b))→(∀ k,isNew k→k∉fr2)→(∀ (j:Nat) (o:Ob),r.2[j]?=some o→∃ l,ρr j=some l∧RepO w' fz2 ρ2 l o∧∀ b base cap sz,l=.at b base cap sz→w.heap.size≤b∧b<w'.heap.size∧¬ fz2 b) →
     (∀ b,fz2 b→fz b∨w.heap.size≤b∨∃ k base cap sz,ρ k=some (.at b base cap sz))→Rel w0 B f0 fz2 ρ2 { tm:=s.tm,hp:=hp,fr:=fr2 } tm w':=by
    intro fz2 fr2 g1 g2 g3 g4 g5 g6 g7 g8 g9;exact {
     size:=hrel.size
     tmp:=fun i t ht=>by
      obtain⟨u,hu,hr⟩:=hrel.tmp i t ht;exact⟨u,hu,hr.mono hfzw g1 hρmono⟩
     dom1:=fun k l hk=>by
      by_cases hn:isNew k
      ·obtain⟨j,hj,rfl⟩:=hn;exact⟨r.2[j],ha1 j _ (List.getElem?_eq_getElem hj)⟩
      ·rw[hρold k hn] at hk;obtain⟨o,ho⟩:=hrel.dom1 k l hk;exact⟨o,by rw[hgold k hn]; exact ho⟩
     obj:=fun k o hk=>by
      by_cases hn:isNew k
      ·obtain⟨j,hj,rfl⟩:=hn;have:=ha1 j _ (List.getElem?_eq_getElem hj);rw[this] at hk;injection hk with hk;subst hk;obtain⟨l,hl,hO,_⟩:=g8 j _ (List.getElem?_eq_getElem hj);exact⟨l,by rw[hρnew j hj]; exact hl,hO⟩
      ·simp only[hgold k hn] at hk;obtain⟨l,hl,hO⟩:=hrel.obj k o hk;exact⟨l,hρmono _ _ hl,hO.mono (fun b base cap sz e=>hheap b (hrel.own k b base cap sz (e▸hl)).1) hfzw g1 hρmono⟩
     inj:=fun k k' b base cap sz base' cap' sz' h1 h2 h3 h4=>by
      by_cases hn:isNew k<;>by_cases hn':isNew k'
      ·obtain⟨j,hj,rfl⟩:=hn;obtain⟨j',hj',rfl⟩:=hn';rw[hρnew j hj] at h3;rw[hρnew j' hj'] at h4;rw[ho.inj j j' b base cap sz base' cap' sz' h3 h4]
      ·obtain⟨j,hj,rfl⟩:=hn;rw[hρnew j hj] at h3;rw[hρold k' hn'] at h4;obtain⟨l,hl,_,hO⟩:=g8 j _ (List.getElem?_eq_getElem hj);rw[h3] at hl;injection hl with hl;have:=(hO b base cap sz hl.symm).1;have:=(hrel.own k' b _ _ _ h4).1;omega
      ·obtain⟨j,hj,rfl⟩:=hn';rw[hρnew j hj] at h4;rw[hρold k hn] at h3;obtain⟨l,hl,_,hO⟩:=g8 j _ (List.getElem?_eq_getElem hj);rw[h4] at hl;injection hl with hl;have:=(hO b _ _ _ hl.symm).1;have:=(hrel.own k b _ _ _ h3).1;omega
      ·rw[hρold k hn] at h3;rw[hρold k' hn'] at h4;exact hrel.inj k k' b base cap sz base' cap' sz' (fun hq=>h1 (g5 _ hq)) (fun hq=>h2 (g5 _ hq)) h3 h4
     own:=fun k b base cap sz hk=>by
      by_cases hn:isNew k
      ·have hnf:=g7 k hn;obtain⟨j,hj,rfl⟩:=hn;rw[hρnew j hj] at hk;obtain⟨l,hl,_,hO⟩:=g8 j _ (List.getElem?_eq_getElem hj);rw[hk] at hl;injection hl with hl;obtain⟨h1,h2,h3⟩:=hO b base cap sz hl.symm;exact⟨h2,fun _=>⟨.inl (by omega),h3⟩,fun hq=>absurd hq hnf⟩
      ·rw[hρold k hn] at hk;obtain⟨h1,h2,_⟩:=hrel.own k b base cap sz hk;obtain⟨h3,h4⟩:=g6 k b base cap sz hn hk;exact⟨by omega,fun hq=>⟨(h2 (fun hm=>hq (g5 _ hm))).1,h3 hq⟩,h4⟩
     fzl:=g2
     fz0:=fun b hb=>g1 b (hrel.fz0 b hb)
     fz1:=g3
     below:=hrel.below.trans ⟨hbl.os,hbl.tape,hbl.output,hsz,fun k hk=>hheap k (by have:=Bs.notOwns hk; omega)⟩
     frd:=g4
     glz:=hrel.glz.mono hfzw g1
     boxes:=fun k l hk=>by
      obtain⟨h1,h2,o,h3,h4⟩:=hrel.boxes k l hk;exact⟨h1,hρmono _ _ h2,o,by rw[hgold k (fun hn=>by rw[hnone k hn] at h3; cases h3)]; exact h3,h4⟩
     itr:=fun i q pos ht=>by
      obtain⟨u,hu,hI⟩:=hrel.itr i q pos ht;refine⟨u,hu,hI.mono (fun b hb _=>hheap b hb) (fun b hb _ hz hq hz2=>?_) (fun b hb hq k b' base cap sz hk=>?_)⟩
      ·rcases g9 b hz2 with h | h | ⟨k,base,cap,sz,hk⟩
       ·exact hz h
       ·omega
       ·exact hq k b base cap sz hk rfl
      ·by_cases hn:isNew k
       ·obtain⟨j,hj,rfl⟩:=hn;rw[hρnew j hj] at hk;obtain⟨l,hl,_,hO⟩:=g8 j _ (List.getElem?_eq_getElem hj);rw[hk] at hl;injection hl with hl;have:=(hO _ _ _ _ hl.symm).1;omega
       ·rw[hρold k hn] at hk;exact hq k b' base cap sz hk }
   have hfrold:∀ k,k∈s.fr→¬ isNew k:=fun k hk hn=>by obtain⟨o,ho⟩:=hrel.frd k hk; rw[hnone k hn] at ho; cases ho
   split
   ·-- plain data
    rename_i hflat;simp only[Bool.and_eq_true,List.isEmpty_iff] at hflat;obtain⟨hemp,hfl⟩:=hflat;have hR:=build fz s.fr (fun _ h=>h) (fun b hb=>Nat.lt_of_lt_of_le (hrel.fzl b hb) hsz) hrel.fz1 (fun k hk=>by obtain⟨o,ho⟩:=hrel.frd k hk; exact⟨o,by rw[hgold k (hfrold k hk)]; exact ho⟩) (fun _ h=>h)
     (fun k b base cap sz _ hk=>⟨fun hq=>((hrel.own k b base cap sz hk).2.1 hq).2,(hrel.own k b base cap sz hk).2.2⟩) (fun k hn hq=>hfrold k hq hn) (fun j o hj=>by rw[hemp] at hj; simp at hj) (fun b hb=>.inl hb)
    exact⟨fz,ρ2,⟨d,rfl,hR.put d (ho.val.ofFlat hfl) (shift_noI _ _)⟩,fun _ h=>h⟩
   ·have hR:=build fz' (fputs s.fr (hs.filter fun h=>(hget s.hp h).isSome)) (fun b hb=>ho.f0 b ((hL b).2 (.inl hb))) ho.fl (fun b hb=>by
      rcases ho.f1 b hb with h | h
      ·rcases (hL b).1 h with h | ⟨k,hk,base,cap,sz,hρ⟩
       ·exact hrel.fz1 b h
       ·by_cases hm:k∈s.fr
        ·exact hrel.fz1 b ((hrel.own k b base cap sz hρ).2.2 hm)
        ·exact .inr ((hrel.own k b base cap sz hρ).2.1 hm).1
      ·exact .inr (.inl (by omega)))
     (fun k hk=>by
      have:∃ o,hget s.hp k=some o:=by
       rcases mem_fputs.1 hk with hk | hk
       ·exact Option.isSome_iff_exists.1 (List.mem_filter.1 hk).2
       ·exact hrel.frd k hk
      obtain⟨o,ho⟩:=this;exact⟨o,by rw[hgold k (fun hn=>by rw[hnone k hn] at ho; cases ho)]; exact ho⟩)
     (fun k hk=>mem_fputs.2 (.inr hk))
     (fun k b base cap sz hn hk=>by
      obtain⟨h1,h2,h3⟩:=hrel.own k b base cap sz hk;have hdom:∃ o,hget s.hp k=some o:=hrel.dom1 k _ hk;refine⟨fun hq hz=>?_,fun hq=>?_⟩
      ·have hks:k∉s.fr:=fun hm=>hq (mem_fputs.2 (.inr hm));have hkh:k∉hs:=fun hm=>hq (mem_fputs.2 (.inl (List.mem_filter.2 ⟨hm,by obtain⟨o,ho⟩:=hdom; rw[ho]; rfl⟩)))
       rcases ho.f1 b hz with h | h
       ·rcases (hL b).1 h with h | ⟨k',hk',base',cap',sz',hρ⟩
        ·exact (h2 hks).2 h
        ·by_cases hm:k'∈s.fr
         ·exact (h2 hks).2 ((hrel.own k' b _ _ _ hρ).2.2 hm)
         ·exact hkh (by rw[hrel.inj k k' b _ _ _ _ _ _ hks hm hk hρ]; exact hk')
       ·omega
      ·rcases mem_fputs.1 hq with hq | hq
       ·exact ho.f0 b ((hL b).2 (.inr ⟨k,(List.mem_filter.1 hq).1,base,cap,sz,hk⟩))
       ·exact ho.f0 b ((hL b).2 (.inl (h3 hq))))
     (fun k hn hq=>by
      rcases mem_fputs.1 hq with hq | hq
      ·have:=(List.mem_filter.1 hq).2; rw[hnone k hn] at this; cases this
      ·exact hfrold k hq hn)
     (fun j o hj=>by
      obtain⟨l,hl,hO,hown⟩:=ho.obj j o hj;exact⟨l,hl,hO.free_any (ho.free o (List.mem_of_getElem? hj)) (fun _ _ _ _ _=>rfl) (fun _ _=>rfl) (fun _ h=>h),hown⟩)
     (fun b hb=>by
      rcases ho.f1 b hb with h | h
      ·rcases (hL b).1 h with h | ⟨k,_,base,cap,sz,hk⟩
       ·exact .inl h
       ·exact .inr (.inr ⟨k,base,cap,sz,hk⟩)
      ·exact .inr (.inl h))
    exact⟨fz',ρ2,⟨d,rfl,hR.put d (ho.val.shift (fun k l hk=>by rw[hρnew k (ho.dom k l hk)]; exact hk)) (shift_noI _ _)⟩,fun b hb=>ho.f0 b ((hL b).2 (.inl hb))⟩
  ·cases h
def resRun (tmps:Array Value):ResultVar→Sem Value
 | .tmp t=>pure (tmps.getD t undef)
 | .cell a t=>do loadVar t (← asAddr (tmps.getD a undef))
theorem results_eq (fn:Func)(tmps:Array Value):results fn tmps=(do
 let vs ← fn.results.mapM (resRun tmps)
 pure (if h:vs.size=1 then vs[0] else .tuple vs)):=by
 unfold results;congr 1
theorem resT_rep [Globals] (hty:∀ t y,ty t=some y→Ty.of P t=some y){a:Act}(hrel:Rel w0 B f0 fz ρ s a.tmps w){rv:ResultVar}{t:T}(h:resT ty s rv=some t):
  ∃ v,(resRun a.tmps rv).run P w=.ok v w∧RepT w fz ρ v t:=by
 cases rv with
 | tmp i=>
  simp only[resT,Option.some.injEq] at h;subst h;exact⟨_,rfl,opd_rep hrel (.tmp i)⟩
 | cell ad tt=>
  simp only[resT] at h
  split at h
  ·rename_i cs off hd;obtain⟨b,q,hv,hc⟩:=deref_rep hrel (opd_rep hrel (.tmp ad)) hd;obtain⟨v,hrun,hrep⟩:=loadAt_rep hty h hc;refine⟨v,?_,hrep⟩;have hv':a.tmps.getD ad undef=.pointer (some ⟨b,q+off,none⟩):=hv;simp only[resRun,Sem.run_bind,hv',asAddr,Sem.run_pure,Result.andThen_ok,hrun]
  ·cases h
theorem results_rep [Globals] (hty:∀ t y,ty t=some y→Ty.of P t=some y){a:Act}(hrel:Rel w0 B f0 fz ρ s a.tmps w):∀ {rs:List ResultVar} {ts:List T},rs.mapM (resT ty s)=some ts →
  ∃ vs:List Value,(rs.mapM (resRun a.tmps)).run P w=.ok vs w∧vs.length=ts.length∧∀ (i:Nat) (v:Value) (t:T),vs[i]?=some v→ts[i]?=some t→RepT w fz ρ v t
 | [],ts,h=>by
  simp only[List.mapM_nil,Option.pure_def,Option.some.injEq] at h;subst h;exact⟨[],rfl,rfl,by simp⟩
 | r::rs,ts,h=>by
  simp only[List.mapM_cons,Option.pure_def,Option.bind_eq_bind,Option.bind_eq_some_iff] at h;obtain⟨t,ht,ts',hts,he⟩:=h;injection he with he;subst he;obtain⟨v,hv,hr⟩:=resT_rep hty hrel ht;obtain⟨vs,hvs,hl,hrs⟩:=results_rep hty hrel hts;refine⟨v::vs,?_,by simp[hl],fun i x y hx hy=>?_⟩
  ·simp only[List.mapM_cons,Sem.run_bind];rw[hv];simp only[Result.andThen_ok,hvs,Sem.run_pure]
  ·cases i with
   | zero=>simp at hx hy; subst hx; subst hy; exact hr
   | succ i=>exact hrs i x y (by simpa using hx) (by simpa using hy)
theorem expInv_nil {fr:List Nat}:ExpInv w fz ρ fr [] [] []:=⟨rfl,by simp,by simp,by simp⟩
theorem outT_sound [Globals] (hty:∀ t y,ty t=some y→Ty.of P t=some y){a:Act}{w1:World}(hrel:Rel w1 (Bs.bare w1.heap.size) f0 fz ρ s a.tmps w){fn:Func}{r:T × List Ob}(h:outT ty fn s=some r):
  ∃ v fz' ρ',(results fn a.tmps).run P w=.ok v w∧Out w1 w f0 fz' ρ' v r:=by
 have mkOut:∀ {v:Value} {t:T} {obs:List Ob} {seen:List Nat} {locs:List Loc},ExpInv w fz ρ s.fr seen obs locs→RepT w fz (fun i=>locs[i]?) v t→Out w1 w f0 fz (fun i=>locs[i]?) v (t,obs):=by
  intro v t obs seen locs hinv hv;exact {
   below:=hrel.below.to_below (fun _ h=>h)
   f0:=hrel.fz0
   f1:=fun b hb=>(hrel.fz1 b hb).imp id Bs.bare_owns
   fl:=hrel.fzl
   val:=hv
   obj:=fun i o hi=>by
    have hil:=(List.getElem?_eq_some_iff.1 hi).1;have hli:i<locs.length:=by rw[← hinv.len]; exact hil
    refine⟨locs[i],List.getElem?_eq_getElem hli,(hinv.obj i o _ hi (List.getElem?_eq_getElem hli)).2 _,fun b base cap sz e=>?_⟩;obtain⟨k,_,hkf,base',cap',sz',hk⟩:=hinv.at_ i b base cap sz (by rw[List.getElem?_eq_getElem hli,e]);obtain⟨h1,h2,_⟩:=hrel.own k b _ _ _ hk;exact⟨Bs.bare_owns (h2 hkf).1,h1,(h2 hkf).2⟩
   dom:=fun k l hk=>by rw[hinv.len]; exact (List.getElem?_eq_some_iff.1 hk).1
   inj:=fun k k' b base cap sz base' cap' sz' h1 h2=>hinv.inj k k' b base cap sz base' cap' sz' h1 h2
   free:=fun o ho=>by
    obtain⟨i,hi⟩:=List.mem_iff_getElem?.1 ho;have hil:=(List.getElem?_eq_some_iff.1 hi).1;exact (hinv.obj i o _ hi (List.getElem?_eq_getElem (by rw[← hinv.len]; exact hil))).1 }
 have hres:∀ {ts:List T},fn.results.toList.mapM (resT ty s)=some ts→∃ vs:List Value,(results fn a.tmps).run P w=.ok (if h:vs.toArray.size=1 then vs.toArray[0] else .tuple vs.toArray) w∧vs.length=ts.length∧∀ (i:Nat) (v:Value) (t:T),vs[i]?=some v→ts[i]?=some t→RepT w fz ρ v t:=by
  intro ts hts;obtain⟨vs,h1,h2,h3⟩:=results_rep (P:=P) hty hrel hts;refine⟨vs,?_,h2,h3⟩;rw[results_eq,Array.mapM_eq_mapM_toList];simp only[Sem.run_bind,Sem.run_map,h1,Result.andThen_ok];rfl
 unfold outT at h
 split at h
 ·rename_i t hts
  split at h
  ·rename_i t' seen obs he;injection h with h;subst h;obtain⟨vs,h1,h2,h3⟩:=hres hts;obtain⟨locs,_,hinv,hr⟩:=exp1_rep hrel expInv_nil (h3 0 (vs[0]'(by rw[h2]; simp)) t (List.getElem?_eq_getElem _) rfl) he;refine⟨_,fz,_,?_,mkOut hinv hr.toT⟩;rw[h1,dif_pos (by simpa using h2)];rfl
  ·cases h
 ·rename_i ts hne hts
  split at h
  ·rename_i ts' seen obs he;injection h with h;subst h;obtain⟨vs,h1,h2,h3⟩:=hres hts;obtain⟨locs,_,hinv,hl,hr⟩:=expTs_rep hrel expInv_nil h2 h3 he;refine⟨.tuple vs.toArray,fz,_,?_,mkOut hinv ⟨vs.toArray,rfl,by simpa using hl,fun i t ht=>?_⟩⟩
   ·rw[h1,dif_neg];intro hq;have h1':ts.length=1:=by rw[← h2]; simpa using hq
    obtain⟨t,rfl⟩:=List.length_eq_one_iff.1 h1';exact hne t rfl
   ·have hil:=(List.getElem?_eq_some_iff.1 ht).1;have:i<vs.length:=by rw[hl]; exact hil
    exact⟨vs[i],by simp[this],hr i _ t (List.getElem?_eq_getElem this) ht⟩
  ·cases h
 ·cases h
end
end Go.Vabs

/- A library: what comes in, read as data. No condition. -/
import Derived.Test.YtadllpehekphmaaDoorVSD
import Derived.ProofKit
import Derived.ChangeOld
import Derived.SizedLaws
import Derived.Deep.Slices
set_option linter.unusedSimpArgs false
set_option linter.unusedVariables false
namespace Go.Vabs
open Go.RowKit
section
variable {H:Type} {enc:TypeId × Value→H} {P:Program} {W:World}
def Reads (enc:TypeId × Value→H)(P:Program)(W:World)(t:TypeId)(α:Type)(cells:α→List C)(wf:α→Prop):Prop:=
 ∀ (fuel:Nat) (cs:List Value) (d:DataW H) (ps:List MemPlace),DataW.trod enc P W 0 (fun _=>true) true fuel t cs=some (d,ps)→(∀ p∈ps,p.block<W.heap.size)→(∀ n∈d.weights P t,n≤reachBytes) →
  ∃ x:α,wf x∧RepL W (fun b=>b<W.heap.size) (fun _=>none) cs (cells x)
theorem repL_one {fz:Nat→Prop}{ρ:Nat→Option Loc}{v:Value}{c:C}(h:RepC W fz ρ v c):RepL W fz ρ [v] [c]:=by
 refine⟨rfl,fun i u d hu hd=>?_⟩
 cases i with
 | zero=>simp at hu hd; subst hu; subst hd; exact h
 | succ i=>simp at hu
theorem reads_int {t:TypeId}{k:IntKind}(hu:P.underlying t=some (.int k)):Reads enc P W t Int (fun x=>[.lit (.int k x)]) (fun x=>(Lit.int k x).wf=true):=by
 intro fuel cs d ps h _ _
 cases fuel with
 | zero=>cases h
 | succ fuel=>
  unfold DataW.trod at h;rw[hu] at h
  split at h<;>try (rename_i heq _; cases heq; done)
  all_goals first | (rename_i heq; cases heq; done) | skip
  ·rename_i k1 k2 n heq;injection heq with heq;injection heq with heq;subst heq
   split at h
   ·rename_i hc;obtain⟨rfl,hwf⟩:=hc;exact⟨n,hwf,repL_one (.frz (.lit _ trivial))⟩
   ·cases h
  all_goals cases h
theorem reads_str {t:TypeId}(hu:P.underlying t=some .string):Reads enc P W t ByteArray (fun x=>[.lit (.string x)]) (fun x=>x.size≤reachBytes):=by
 intro fuel cs d ps h _ hw
 cases fuel with
 | zero=>cases h
 | succ fuel=>
  unfold DataW.trod at h;rw[hu] at h
  split at h<;>try (rename_i heq _; cases heq; done)
  all_goals first | (rename_i heq; cases heq; done) | skip
  ·rename_i s _
   split at h
   ·simp only[Option.some.injEq,Prod.mk.injEq] at h;obtain⟨rfl,rfl⟩:=h;refine⟨s,?_,repL_one (.frz (.lit _ trivial))⟩;have:=hw s.data.toList.length (by simp[DataW.weights]);rw[Array.length_toList] at this;exact this
   ·cases h
  all_goals cases h
theorem cellsOf_ty {t:TypeId}{y:Ty}(h:Ty.of P t=some y):P.cellsOf t=y.size:=by
 obtain⟨i,d,hi,_,_,hs,_⟩:=Ty.of_some h;simp[Program.cellsOf,hi,hs]
theorem bytesOf_ty {t:TypeId}{y:Ty}(h:Ty.of P t=some y):P.bytesOf t=y.bytes:=by
 obtain⟨i,d,hi,_,_,_,hs,_⟩:=Ty.of_some h;simp[Program.bytesOf,hi,hs]
theorem slice_ty {t e:TypeId}{y:Ty}(h:Ty.of P t=some y)(hk:y.k=.slice e):P.underlying t=some (.slice e):=by
 obtain⟨i,d,hi,hd,hkd,_⟩:=Ty.of_some h;rw[hk] at hkd;rw[hd,K.of_slice hkd.symm]
theorem mapM_some_get {α β:Type}{f:α→Option β}{l:List α}{m:List β}(h:l.mapM f=some m){i:Nat}{a:α}(hi:l[i]?=some a):∃ b,m[i]?=some b∧f a=some b:=by
 obtain⟨h1,h2⟩:=mapM_get h;have hl:=(List.getElem?_eq_some_iff.1 hi).1;have:i<m.length:=by omega
 exact⟨m[i],List.getElem?_eq_getElem this,h2 i a _ hi (List.getElem?_eq_getElem this)⟩
theorem reads_slice {t e:TypeId}{y z:Ty}{α:Type}{cells:α→List C}{wf:α→Prop}(ht:Ty.of P t=some y)(hk:y.k=.slice e)(he:Ty.of P e=some z)(hz:0<z.size)(hr:Reads enc P W e α cells wf)(hc:∀ x,(cells x).length=z.size):
  Reads enc P W t (List α) (fun l=>[.sl z.size (l.map cells)]) (fun l=>l.length*z.bytes≤reachBytes∧∀ x∈l,wf x):=by
 intro fuel cs d ps h hlt hw;have hu:=slice_ty ht hk
 rcases Deep.open_slice hu h with ⟨rfl,hx⟩ | ⟨a,len,cap,m,n,D,Pl,rfl,hb,hl,hcap,hm,hx,hat⟩
 ·exact⟨[],⟨by simp,by simp⟩,repL_one (.frz (.sl none 0 0 [] z.size (fun _ _=>undef) rfl (by simp) (Nat.le_refl _) (fun h=>absurd h (by omega)) (by simp)))⟩
 ·simp only[Prod.mk.injEq] at hx;obtain⟨rfl,rfl⟩:=hx;have hmc:m=cap:=by simpa using hm
  subst hmc;rw[cellsOf_ty he] at hat;have helem:∀ i,i<len→∃ x:α,wf x∧∃ cs',W.cells? 0 (a.add (i*z.size)) z.size=some cs'∧RepL W (fun b=>b<W.heap.size) (fun _=>none) cs' (cells x):=fun i hi=>by
   obtain⟨cs',hcs,htr⟩:=hat i (by omega);obtain⟨x,hwx,hrx⟩:=hr n cs' (D i) (Pl i) htr (fun p hp=>hlt p (List.mem_append_right _ (List.mem_flatMap.2 ⟨i,List.mem_range.2 (by omega),hp⟩))) (fun q hq=>hw q (by
    simp only[DataW.weights,hu];refine List.mem_cons_of_mem _ (List.mem_append_left _ ?_);have gen:∀ l:List (DataW H),D i∈l→q∈DataW.weightsAll P e l:=by
     intro l
     induction l with
     | nil=>intro h; cases h
     | cons x l ih=>
      intro h;simp only[DataW.weightsAll,List.mem_append]
      rcases List.mem_cons.1 h with h | h
      ·left; rw[← h]; exact hq
      ·exact .inr (ih h)
    exact gen _ (List.mem_map.2 ⟨i,List.mem_range.2 hi,rfl⟩)))
   exact⟨x,hwx,cs',hcs,hrx⟩
  have hspot:0<len→a.spot=none:=fun h0=>by
   obtain⟨x,_,cs',hcs,_⟩:=helem 0 h0;simp only[World.cells?,Nat.zero_le,if_true] at hcs;obtain⟨b,_,hb⟩:=mapM_some_get hcs (i:=0) (a:=0) (by rw[List.getElem?_range hz]);rw[Nat.zero_mul] at hb;have:(a.add 0).add 0=a:=by simp[Addr.add]
   rw[this] at hb;unfold World.cell? at hb
   split at hb
   ·split at hb
    ·cases hb
    ·rename_i hq; simpa using hq
   ·cases hb
  let X:Nat→Option α:=fun i=>if hi:i<len then some (helem i hi).choose else none
  have hX:∀ i (hi:i<len),∃ x,X i=some x∧wf x∧∃ cs',W.cells? 0 (a.add (i*z.size)) z.size=some cs'∧RepL W (fun b=>b<W.heap.size) (fun _=>none) cs' (cells x):=fun i hi=>by
   refine⟨(helem i hi).choose,by simp only[X,dif_pos hi],(helem i hi).choose_spec⟩
  let l:List α:=(List.range len).filterMap X
  have hlget:∀ i,i<len→l[i]?=X i:=by
   have gen:∀ (n:Nat),n≤len→((List.range n).filterMap X).length=n∧∀ i,i<n→((List.range n).filterMap X)[i]?=X i:=by
    intro n
    induction n with
    | zero=>intro _; simp
    | succ n ih=>
     intro hn;obtain⟨h1,h2⟩:=ih (by omega);obtain⟨x,hx,_⟩:=hX n (by omega);rw[List.range_succ,List.filterMap_append];simp only[List.filterMap_cons,hx,List.filterMap_nil];refine⟨by simp[h1],fun i hi=>?_⟩
     by_cases hin:i<n
     ·rw[List.getElem?_append_left (by omega)]; exact h2 i hin
     ·have:i=n:=by omega
      subst this;rw[List.getElem?_append_right (by omega),h1];simp[hx]
   exact (gen len (Nat.le_refl _)).2
  have hllen:l.length=len:=by
   have gen:∀ (n:Nat),n≤len→((List.range n).filterMap X).length=n:=by
    intro n
    induction n with
    | zero=>intro _; simp
    | succ n ih=>
     intro hn;obtain⟨x,hx,_⟩:=hX n (by omega);rw[List.range_succ,List.filterMap_append];simp[hx,ih (by omega)]
   exact gen len (Nat.le_refl _)
  refine⟨l,⟨?_,fun x hx=>?_⟩,repL_one (.frz ?_)⟩
  ·have:=hw ((len+(m-len))*z.bytes) (by
    simp only[DataW.weights,hu,List.length_map,List.length_range,bytesOf_ty he];exact List.mem_cons_self)
   rw[hllen];exact Nat.le_trans (Nat.mul_le_mul_right _ (by omega)) this
  ·obtain⟨i,hi⟩:=List.mem_iff_getElem?.1 hx;have hil:=(List.getElem?_eq_some_iff.1 hi).1;rw[hllen] at hil;rw[hlget i hil] at hi;obtain⟨x',hx',hwx,_⟩:=hX i hil;rw[hx'] at hi;injection hi with hi;rw[← hi];exact hwx
  ·let cv:Nat→Nat→Value:=fun i j=>(W.cell? ((a.add (i*z.size)).add j)).getD undef
   have hcell:∀ i j,i<len→j<z.size→∃ x v,l[i]?=some x∧W.cell? ((a.add (i*z.size)).add j)=some v∧∀ c,(cells x)[j]?=some c→RepC W (fun b=>b<W.heap.size) (fun _=>none) v c:=fun i j hi hj=>by
    obtain⟨x,hx,_,cs',hcs,hrep⟩:=hX i hi;simp only[World.cells?,Nat.zero_le,if_true] at hcs;obtain⟨v,hv,hcv⟩:=mapM_some_get hcs (i:=j) (a:=j) (by rw[List.getElem?_range hj]);exact⟨x,v,by rw[hlget i hi]; exact hx,hcv,fun c hc=>hrep.2 j v c hv hc⟩
   refine .sl (some a) len m (l.map cells) z.size cv (by simp[hllen]) (fun e he=>?_) hl (fun hp=>?_) (fun i j e c hi hj=>?_)
   ·obtain⟨x,_,rfl⟩:=List.mem_map.1 he;exact hc x
   ·obtain⟨b,o,sp⟩:=a;have hsp:sp=none:=hspot hp;subst hsp;refine⟨b,o,rfl,?_,fun i j hi hj=>?_⟩
    ·obtain⟨x,v,_,hv,_⟩:=hcell 0 0 hp hz;rw[Nat.zero_mul,add_none,add_none] at hv;have:=World.block_lt_of_cell? W _ hv;exact this
    ·obtain⟨x,v,_,hv,_⟩:=hcell i j hi hj;have h1:cv i j=v:=by simp only[cv,hv,Option.getD_some]
     rw[h1,← hv,add_none,add_none]
   ·rw[List.getElem?_map,Option.map_eq_some_iff] at hi;obtain⟨x,hx,rfl⟩:=hi;have hil:=(List.getElem?_eq_some_iff.1 hx).1;rw[hllen] at hil;have hjl:=(List.getElem?_eq_some_iff.1 hj).1;rw[hc x] at hjl;obtain⟨x',v,hx',hv,hrep⟩:=hcell i j hil hjl;rw[hx] at hx';injection hx' with hx';subst hx';have h1:cv i j=v:=by simp only[cv,hv,Option.getD_some]
    rw[h1];have h2:=hrep c hj;exact h2.of_free (by
     cases h2 with
     | frz hq=>exact hq.free
     | nil _ e=>cases e
     | ref _ _ _ _ _ _ _ _ e=>cases e
     | ptr _ _ _ _ _ _ _ e=>cases e)
def ReadsF (enc:TypeId × Value→H)(P:Program)(W:World)(off tot:Nat)(fl:List (Nat × TypeId))(α:Type)(cells:α→List C)(wf:α→Prop):Prop:=
 ∀ (fuel:Nat) (cs:List Value) (xs:List (DataW H × List MemPlace)),cs.length=tot→fl.mapM (fun f=>DataW.trod enc P W 0 (fun _=>true) true fuel f.2 ((cs.drop f.1).take (P.cellsOf f.2)))=some xs→(∀ p∈xs.flatMap (·.2),p.block<W.heap.size) →
  (∀ n∈DataW.weightsEach P (fl.map (·.2)) (xs.map (·.1)),n≤reachBytes)→∃ x:α,wf x∧RepL W (fun b=>b<W.heap.size) (fun _=>none) (cs.drop off) (cells x)
theorem readsF_nil {off:Nat}:ReadsF enc P W off off [] Unit (fun _=>[]) (fun _=>True):=by
 intro fuel cs xs hl _ _ _;refine⟨(),trivial,?_,?_⟩
 ·simp[hl]
 ·intro i v c _ hc;simp at hc
theorem readsF_cons {off tot:Nat}{t:TypeId}{y:Ty}{fl:List (Nat × TypeId)}{α β:Type}{ca:α→List C}{cb:β→List C}{wa:α→Prop}{wb:β→Prop}(ht:Ty.of P t=some y)(ha:Reads enc P W t α ca wa)(hb:ReadsF enc P W (off+y.size) tot fl β cb wb):
  ReadsF enc P W off tot ((off,t)::fl) (α × β) (fun p=>ca p.1++cb p.2) (fun p=>wa p.1∧wb p.2):=by
 intro fuel cs xs hl h hlt hw;simp only[List.mapM_cons,Option.pure_def,Option.bind_eq_bind,Option.bind_eq_some_iff] at h;obtain⟨x,hx,xs',hxs,he⟩:=h;injection he with he;subst he;rw[cellsOf_ty ht] at hx;obtain⟨a,hwa,hra⟩:=ha fuel _ x.1 x.2 hx (fun p hp=>hlt p (by simp only[List.flatMap_cons,List.mem_append]; exact .inl hp)) (fun n hn=>hw n (by simp only[List.map_cons,DataW.weightsEach,List.mem_append]; exact .inl hn));obtain⟨b,hwb,hrb⟩:=hb fuel cs xs' hl hxs (fun p hp=>hlt p (by simp only[List.flatMap_cons,List.mem_append]; exact .inr hp)) (fun n hn=>hw n (by simp only[List.map_cons,DataW.weightsEach,List.mem_append]; exact .inr hn))
 refine⟨(a,b),⟨hwa,hwb⟩,?_⟩;have:=RepL.append hra hrb;rw[← List.drop_drop,List.take_append_drop] at this;exact this
theorem reads_struct {t:TypeId}{y:Ty}{α:Type}{cells:α→List C}{wf:α→Prop}(ht:Ty.of P t=some y)(hk:y.k=.struct)(hf:ReadsF enc P W 0 y.size y.fields α cells wf):Reads enc P W t α cells wf:=by
 intro fuel cs d ps h hlt hw;obtain⟨i,dd,hi,hd,hkd,hs,_,_,hfs⟩:=Ty.of_some ht;rw[hk] at hkd;obtain⟨fs,rfl⟩:=K.of_struct hkd.symm;have hfields:=K.struct_fields rfl hfs
 cases fuel with
 | zero=>cases h
 | succ fuel=>
  have key:(if cs.length=P.cellsOf t then (fs.toList.mapM fun f=>DataW.trod enc P W 0 (fun _=>true) true fuel f.type ((cs.drop f.offset).take (P.cellsOf f.type))).map fun xs=>(DataW.agg (xs.map (·.1)),xs.flatMap (·.2)) else none)=some (d,ps):=by
   rw[DataW.trod.eq_def] at h;simp only[hd] at h;exact h
  split at key
  ·rename_i hl;rw[Option.map_eq_some_iff] at key;obtain⟨xs,hxs,he⟩:=key;simp only[Prod.mk.injEq] at he;obtain⟨rfl,rfl⟩:=he;rw[cellsOf_ty ht] at hl;have hxs':y.fields.mapM (fun f=>DataW.trod enc P W 0 (fun _=>true) true fuel f.2 ((cs.drop f.1).take (P.cellsOf f.2)))=some xs:=by
    rw[hfields,List.mapM_map];exact hxs
   have:=hf fuel cs xs hl hxs' hlt (fun n hn=>hw n (by
    simp only[DataW.weights,hd];rw[hfields,List.map_map] at hn;exact hn))
   rw[List.drop_zero] at this;exact this
  ·cases key
theorem Reads.as {t:TypeId}{α β:Type}{ca:α→List C}{wa:α→Prop}(h:Reads enc P W t α ca wa)(f:α→β){cb:β→List C}{wb:β→Prop}(hc:∀ a,cb (f a)=ca a)(hw:∀ a,wa a→wb (f a)):Reads enc P W t β cb wb:=by
 intro fuel cs d ps h1 h2 h3;obtain⟨a,ha,hr⟩:=h fuel cs d ps h1 h2 h3;exact⟨f a,hw a ha,by rw[hc a]; exact hr⟩
theorem Reads.argC {t:TypeId}{α:Type}{cell:α→C}{wf:α→Prop}(h:Reads enc P W t α (fun x=>[cell x]) wf){v:Value}{d:DataW H}{ps:List MemPlace}(hv:isCell v)(hd:DataW.Trod enc P W 0 (fun _=>true) true t v d ps)(hlt:∀ p∈ps,p.block<W.heap.size)(hw:∀ n∈d.weights P t,n≤reachBytes):
  ∃ x:α,wf x∧RepT W (fun b=>b<W.heap.size) (fun _=>none) v (.c (cell x)):=by
 obtain⟨fuel,hf⟩:=hd;obtain⟨x,hx,hr⟩:=h fuel _ d ps hf hlt hw;rw[hv.cells] at hr;exact⟨x,hx,hr.2 0 v (cell x) rfl rfl⟩
theorem Reads.argA {t:TypeId}{α:Type}{cells:α→List C}{wf:α→Prop}(h:Reads enc P W t α cells wf){v:Value}{d:DataW H}{ps:List MemPlace}(hv:∃ cs,v=.agg cs)(hd:DataW.Trod enc P W 0 (fun _=>true) true t v d ps)(hlt:∀ p∈ps,p.block<W.heap.size)(hw:∀ n∈d.weights P t,n≤reachBytes):
  ∃ x:α,wf x∧RepT W (fun b=>b<W.heap.size) (fun _=>none) v (.agg (cells x)):=by
 obtain⟨fuel,hf⟩:=hd;obtain⟨cs,rfl⟩:=hv;obtain⟨x,hx,hr⟩:=h fuel _ d ps hf hlt hw;exact⟨x,hx,cs,rfl,hr⟩
end
theorem calls_true [Globals] [Prims] {P:Program}{ty:Tys}{K:Nat→Option (Nat→Option (List Nat))}(hix:EnvOK P)(hty:∀ t y,ty t=some y→Ty.of P t=some y)(hok:okProgram goodK P K){f:FuncId}{ts:List T}{vs:Array Value}{W:World}(hs:vs.size=ts.length)(hlo:lentOf ts=[])(hm:marked ts=false)(hr:∀ (i:Nat) (t:T),ts[i]?=some t→∃ v,vs[i]?=some v∧RepT W (fun b=>b<W.heap.size) (fun _=>none) v t)
  (hn:ts.all (fun t=>match t with | .itr _ _=>false | _=>true)=true) (hg:∀ g cs,Globals.gl g=some cs→∀ j v,cs[j]?=some v→W.cell? ⟨g,j,none⟩=some v) (hgl:∀ g cs,Globals.gl g=some cs→∃ c t fr,W.heap[g]?=some (.cells c t fr)∧c.size=cs.length)
  (h:evCall P ty K f ts=some (.c (.lit (.bool true)),[])):Calls P f vs W fun e w'=>e=.returned (.bool true)∧Below W.heap.size W w':=by
 refine ((calls_of_ev hix hty hok hm h).1 hlo W (fun b=>b<W.heap.size) vs hs hr (fun t ht=>?_) (fun _ h=>h) (fun g cs hgc=>⟨by obtain⟨c,t,fr,h1,_⟩:=hgl g cs hgc; exact (Array.getElem?_eq_some_iff.1 h1).1,hg g cs hgc,hgl g cs hgc⟩)).mono ?_
 ·have:=List.all_eq_true.1 hn t ht
  cases t<;>first | rfl | cases this
 rintro e w' ⟨v,fz',ρ',rfl,ho⟩;have hv:RepC w' fz' ρ' v (.lit (.bool true)):=ho.val
 cases hv with
 | frz hq=>cases hq; exact⟨rfl,ho.below⟩
end Go.Vabs

/- A library: the abstract interpreter's operations, by the model's rules. No condition. -/
import Derived.Test.YtadllpehekphmaaDoorVPA
set_option linter.unusedSimpArgs false
set_option linter.unusedVariables false
namespace Go.Vabs
open Go.RowKit
def PrimOK [Globals] [Prims] (P : Program) : Prop := ∀ f args r, Prims.pr f args = some r → CallOK P f args r ∧ ∃ fn c, P.funcs[f]? = some fn ∧ (fn.name == "runtime.NumGoroutine") = false ∧ fn.body = some c
def EnvOK [Globals] [Prims] (P:Program):Prop:=IxOK P∧PrimOK P
def CallAny [Globals] (P:Program)(f:FuncId)(args:List T)(r:T × List Ob):Prop:=if marked args then CallPn P f args.tail r else CallOK P f args r
def CallF.ok [Globals] (P : Program) (call : CallF) : Prop := IxOK P ∧ ∀ f args r, call f args = some r → CallAny P f args r ∧ ∃ fn c, P.funcs[f]? = some fn ∧ (fn.name == "runtime.NumGoroutine") = false ∧ fn.body = some c
theorem CallAny.plain [Globals] {P:Program}{f:FuncId}{args:List T}{r:T × List Ob}(h:CallAny P f args r)(hm:marked args=false):CallOK P f args r:=by
 unfold CallAny at h;rw[hm] at h;exact h
section
variable {P:Program} {ty:Tys} {kp:Nat→Option (List Nat)} {K:Nat→Option (Nat→Option (List Nat))} {call:CallF} {w0:World} {B:Bs} {f0 fz:Nat→Prop} {ρ:Nat→Option Loc} {s:St} {a:Act} {w:World} {o:Oper}
theorem put_some (a:Act)(d:Nat)(v:Value):a.put (some d) v={ a with tmps:=a.tmps.setIfInBounds d v }:=rfl
theorem putP_sound [Globals] (hix:IxOK P)(hty:∀ t y,ty t=some y→Ty.of P t=some y)(hB:B.n≤w0.heap.size)(hrel:Rel w0 B f0 fz ρ s a.tmps w){r:T × Option Ob}{s':St}(h:evP ty o s.tm s.hp=some r)(hp:putP s o.dst r=some s'):
  ∃ v w' ρ',(execOp a.eval o).run P w=.ok (.value v) w'∧Rel w0 B f0 fz ρ' s' (a.put o.dst v).tmps w':=by
 obtain⟨t,oo⟩:=r
 rcases evP_sound hix hty hrel h with ⟨rfl,v,hrun,hv⟩ | ⟨ob,d,rfl,hd,v,w',l,hrun,hnew,hrep⟩
 ·unfold putP at hp
  cases hdst:o.dst with
  | none=>
   simp only[hdst,Option.some.injEq] at hp;subst hp;exact⟨v,w,ρ,hrun,hrel⟩
  | some d=>
   simp only[hdst,Option.some.injEq] at hp;subst hp;exact⟨v,w,ρ,hrun,hrel.put d hv (evP_noI hrel h)⟩
 ·unfold putP at hp;simp only[hd] at hp
  split at hp
  ·rename_i hf;injection hp with hp;subst hp;obtain⟨ρ',_,hR,_⟩:=hrel.make d (Nat.le_trans hB hrel.below.size) hnew hf hrep (evP_noI hrel h);exact⟨v,w',ρ',hrun,by rw[hd]; exact hR⟩
  ·cases hp
theorem evA_sound [Globals] (hty:∀ t y,ty t=some y→Ty.of P t=some y)(hB:B.n≤w0.heap.size)(hrel:Rel w0 B f0 fz ρ s a.tmps w){c:Call}{s':St}(ho:o.op=.call c)(hc:c.callee=.builtin .append)(h:evA ty o.dst c.args.toList c.argTypes.toList s=some s'):
  ∃ v w' fz' ρ',(execOp a.eval o).run P w=.ok (.value v) w'∧Rel w0 B f0 fz' ρ' s' (a.put o.dst v).tmps w'∧∀ b,fz b→fz' b:=by
 unfold evA at h
 split at h
 ·rename_i b x t u d hargs htys hdst;have hargs':c.args=#[b,x]:=by rw[← Array.toArray_toList (xs:=c.args),hargs]
  have htys':c.argTypes=#[t,u]:=by rw[← Array.toArray_toList (xs:=c.argTypes),htys]
  have h1:∃ fz1 ρ1,Rel w0 B f0 fz1 ρ1 (if nilLit (opd s.tm b) then evict d s else s) a.tmps w∧∀ b,fz b→fz1 b:=by
   split
   ·obtain⟨fz1,ρ1,h1,h2,_⟩:=evict_sound d hrel;exact⟨fz1,ρ1,h1,h2⟩
   ·exact⟨fz,ρ,hrel,fun _ h=>h⟩
  obtain⟨fz1,ρ1,hr1,hf1⟩:=h1;simp only at h;generalize hs1:(if nilLit (opd s.tm b) then evict d s else s)=s1 at h hr1;obtain⟨fz2,ρ2,hr2,hf2,_⟩:=loose_sound (c:=!freeSrc s1.hp (opd s1.tm x)) (cs:=(srcOf s1.hp (opd s1.tm x)).map List.flatten) hr1;obtain⟨v,w',ρ',hrun,hR⟩:=evA1_sound hty (Nat.le_trans hB hr2.below.size) hr2 ho hc hargs' htys' h;exact⟨v,w',fz2,ρ',hrun,by rw[hdst]; exact hR,fun b hb=>hf2 b (hf1 b hb)⟩
 ·cases h
theorem mapM_args [Globals] (hrel:Rel w0 B f0 fz ρ s a.tmps w){fL:Nat→Prop}(hf:∀ b,fz b→fL b){xs:List Operand}{args:List T}(h:(xs.map (opd s.tm)).mapM (dataT s.hp)=some args)
  (hL:∀ k∈(xs.map (opd s.tm)).flatMap (hsT s.hp),∀ b base cap sz,ρ k=some (.at b base cap sz)→fL b):
  (xs.map a.eval).length=args.length∧∀ (i:Nat) (t:T),args[i]?=some t→∃ v,(xs.map a.eval)[i]?=some v∧RepT w fL (fun _=>none) v t:=by
 obtain⟨h1,h2⟩:=mapM_get h;simp only[List.length_map] at h1;refine⟨by simp[h1],fun i t ht=>?_⟩;have hi:=(List.getElem?_eq_some_iff.1 ht).1;have hx:xs[i]?=some xs[i]:=List.getElem?_eq_getElem (by omega);have hmx:(xs.map (opd s.tm))[i]?=some (opd s.tm xs[i]):=by rw[List.getElem?_map,hx]; rfl
 refine⟨a.eval xs[i],by rw[List.getElem?_map,hx]; rfl,dataT_rep hrel hf (opd_rep hrel xs[i]) (h2 i _ t hmx ht) (fun k hk=>hL k ?_) _⟩;exact List.mem_flatMap.2 ⟨_,List.mem_of_getElem? hmx,hk⟩
theorem nilsC_rep {ρ':Nat→Option Loc}{fL:Nat→Prop}{v:Value}{c:C}(z:Option Nat)(h:RepC w fL ρ' v c):RepC w fL ρ' v (nilsC z c):=by
 unfold nilsC
 split
 ·cases h with
  | frz h=>
   cases h
   exact .frz (.sl none 0 0 [] _ (fun _ _=>.bool true) rfl (fun _ h=>by cases h) (Nat.le_refl _) (fun h=>absurd h (Nat.lt_irrefl _)) (fun i j e c he=>by simp at he))
 ·exact h
theorem nilsL_rep {ρ':Nat→Option Loc}{fL:Nat→Prop}:∀ (zs:List (Option Nat)) (vs:List Value) (cs:List C),RepL w fL ρ' vs cs→RepL w fL ρ' vs (nilsL zs cs)
 | [],vs,cs,h=>by cases cs<;>exact h
 | z::zs,vs,[],h=>h
 | z::zs,vs,c::cs,h=>by
  obtain⟨h1,h2⟩:=h
  cases vs with
  | nil=>simp at h1
  | cons v vs=>
   have ih:=nilsL_rep zs vs cs ⟨by simpa using h1,fun i v c hv hc=>h2 (i+1) v c (by simpa using hv) (by simpa using hc)⟩;refine⟨by simpa[nilsL] using ih.1,fun i v' c' hv hc=>?_⟩
   cases i with
   | zero=>
    simp[nilsL] at hv hc;subst hv;subst hc;exact nilsC_rep z (h2 0 _ _ rfl rfl)
   | succ i=>exact ih.2 i v' c' (by simpa using hv) (by simpa[nilsL] using hc)
theorem nilsT_rep {ρ':Nat→Option Loc}{fL:Nat→Prop}{v:Value}{t:T}(l:List (Option Nat))(h:RepT w fL ρ' v t):RepT w fL ρ' v (nilsT l t):=by
 cases t with
 | c x=>exact h
 | agg cs=>obtain⟨vs,e,h⟩:=h; exact⟨vs,e,nilsL_rep _ _ _ h⟩
 | tup ts=>exact h
 | itr _ _=>trivial
 | junk=>trivial
theorem nilsT_noI {t:T}(l:List (Option Nat))(h:t.noI=t):(nilsT l t).noI=nilsT l t:=by
 cases t<;>first | rfl | exact h
theorem wkArgs_length:∀ (tys:List TypeId) (args:List T),(wkArgs ty tys args).length=args.length
 | [],args=>by cases args<;>rfl
 | t::ts,[]=>rfl
 | t::ts,a::as=>by simp[wkArgs,wkArgs_length ts as]
theorem wkArgs_get:∀ (tys:List TypeId) (args:List T) (i:Nat) (t:T),(wkArgs ty tys args)[i]?=some t→∃ l t0,args[i]?=some t0∧(t=t0∨t=nilsT l t0)
 | [],args,i,t,h=>⟨[],t,by cases args<;>exact h,.inl rfl⟩
 | ty'::ts,[],i,t,h=>by simp[wkArgs] at h
 | ty'::ts,a::as,0,t,h=>by
  simp[wkArgs] at h;exact⟨_,a,rfl,.inr h.symm⟩
 | ty'::ts,a::as,i+1,t,h=>by
  simp[wkArgs] at h;exact wkArgs_get ts as i t h
theorem wkArgs_rep {ρ':Nat→Option Loc}{fL:Nat→Prop}{vs:List Value}{args:List T}(tys:List TypeId)(h:∀ (i:Nat) (t:T),args[i]?=some t→∃ v,vs[i]?=some v∧RepT w fL ρ' v t):
  ∀ (i:Nat) (t:T),(wkArgs ty tys args)[i]?=some t→∃ v,vs[i]?=some v∧RepT w fL ρ' v t:=by
 intro i t ht;obtain⟨l,t0,h0,h1⟩:=wkArgs_get tys args i t ht;obtain⟨v,hv,hr⟩:=h i t0 h0
 rcases h1 with rfl | rfl
 ·exact⟨v,hv,hr⟩
 ·exact⟨v,hv,nilsT_rep l hr⟩
theorem run_callFunc {f : FuncId} {fn : Func} {c : Code} {args : Array Value} (hf : P.funcs[f]? = some fn) (hn : (fn.name == "runtime.NumGoroutine") = false) (hb : fn.body = some c) : (callFunc f args).run P w = .ok (.enter f args) w := by
 simp only[callFunc,Sem.run_bind,run_program,Result.andThen_ok,hf,hn,hb,Bool.false_eq_true,if_false,Option.isNone_some,Sem.run_pure]
theorem dataT_noI {hp:Heap}{xs args:List T}(h:xs.mapM (dataT hp)=some args){t:T}(ht:t∈args):t.noI=t:=by
 obtain⟨i,hi⟩:=List.mem_iff_getElem?.1 ht;obtain⟨h1,h2⟩:=mapM_get h;have hlt:=(List.getElem?_eq_some_iff.1 hi).1;have:=h2 i _ t (List.getElem?_eq_getElem (by omega)) hi;unfold dataT at this
 split at this
 ·rw[Option.map_eq_some_iff] at this;obtain⟨_,_,rfl⟩:=this;rfl
 ·rw[Option.map_eq_some_iff] at this;obtain⟨_,_,rfl⟩:=this;rfl
 ·cases this
theorem dataT_tOb {hp:Heap}{xs args:List T}(h:xs.mapM (dataT hp)=some args){t:T}(ht:t∈args):tOb t=none:=by
 obtain⟨i,hi⟩:=List.mem_iff_getElem?.1 ht;obtain⟨h1,h2⟩:=mapM_get h;have hlt:=(List.getElem?_eq_some_iff.1 hi).1;have:=h2 i _ t (List.getElem?_eq_getElem (by omega)) hi;unfold dataT at this
 split at this
 ·rw[Option.map_eq_some_iff] at this;obtain⟨_,_,rfl⟩:=this;rfl
 ·rw[Option.map_eq_some_iff] at this;obtain⟨_,_,rfl⟩:=this;rfl
 ·cases this
theorem noI_itr {t:T}{q:ByteArray}{pos:Nat}(h:t.noI=.itr q pos):False:=by cases t<;>cases h
theorem Rel.begun [Globals] (h:Rel w0 B f0 fz ρ s a.tmps w)(hB:B.n≤w.heap.size)(q:ByteArray)(d:Nat):
  Rel w0 B f0 fz ρ { tm:=s.tm.set d (.itr q 0),hp:=s.hp,fr:=s.fr } (a.tmps.setIfInBounds d (.pointer (some ⟨w.heap.size,0,none⟩))) (w.alloc (.stringIter q 0)) where
 size:=by simp[h.size]
 tmp:=fun i t' ht=>by
  simp only at ht
  by_cases hi:d=i
  ·subst hi;have hlt:=(List.getElem?_eq_some_iff.1 ht).1;rw[List.length_set] at hlt;rw[List.getElem?_set_self hlt] at ht;injection ht with ht;subst ht;have:d<a.tmps.size:=by rw[h.size]; exact hlt
   exact⟨.pointer (some ⟨w.heap.size,0,none⟩),by simp[Array.getElem?_setIfInBounds,this],trivial⟩
  ·rw[List.getElem?_set_ne hi] at ht;obtain⟨u,hu,hr⟩:=h.tmp i t' ht;exact⟨u,by simp[Array.getElem?_setIfInBounds,hi,hu],hr.mono (fun b hb=>heap_alloc _ _ (h.fzl b hb)) (fun _ h=>h) (fun _ _ h=>h)⟩
 dom1:=h.dom1
 obj:=fun k o hk=>by
  obtain⟨l,hl,ho⟩:=h.obj k o hk;exact⟨l,hl,ho.mono (fun b base cap sz hb=>heap_alloc _ _ (h.own k b base cap sz (hb▸hl)).1) (fun b hb=>heap_alloc _ _ (h.fzl b hb)) (fun _ h=>h) (fun _ _ h=>h)⟩
 inj:=h.inj
 own:=fun k b base cap sz hk=>by
  obtain⟨h1,h2⟩:=h.own k b base cap sz hk;exact⟨Nat.lt_of_lt_of_le h1 (by simp),h2⟩
 fzl:=fun b hb=>Nat.lt_of_lt_of_le (h.fzl b hb) (by simp)
 fz0:=h.fz0
 fz1:=h.fz1
 below:=h.below.alloc hB _
 frd:=h.frd
 glz:=h.glz.mono (fun b hb=>heap_alloc _ _ (h.fzl b hb)) (fun _ h=>h)
 boxes:=h.boxes
 itr:=fun i q' pos ht=>by
  simp only at ht
  by_cases hi:d=i
  ·subst hi;have hlt:=(List.getElem?_eq_some_iff.1 ht).1;rw[List.length_set] at hlt;rw[List.getElem?_set_self hlt] at ht;injection ht with ht;injection ht with h1 h2;subst h1;subst h2;have:d<a.tmps.size:=by rw[h.size]; exact hlt
   refine⟨.pointer (some ⟨w.heap.size,0,none⟩),by simp[Array.getElem?_setIfInBounds,this],w.heap.size,rfl,.inl hB,heap_alloc_new _ _,fun hz=>?_,fun k b' base cap sz hk=>?_⟩
   ·have:=h.fzl _ hz; omega
   ·have:=(h.own k b' base cap sz hk).1; omega
  ·rw[List.getElem?_set_ne hi] at ht;obtain⟨u,hu,hI⟩:=h.itr i q' pos ht;exact⟨u,by simp[Array.getElem?_setIfInBounds,hi,hu],hI.mono (fun b hb _=>heap_alloc _ _ hb) (fun _ _ _ hz _=>hz) (fun _ _ hq=>hq)⟩
theorem Rel.stepped [Globals] (h:Rel w0 B f0 fz ρ s a.tmps w){k b:Nat}{q:ByteArray}{pos:Nat}(hk:s.tm[k]?=some (.itr q pos))(hv:a.tmps[k]?=some (.pointer (some ⟨b,0,none⟩)))(hB:B.owns b)(hb:w.heap[b]?=some (.stringIter q pos))(hnf:¬ fz b)
  (hnr:∀ k b' base cap sz,ρ k=some (.at b' base cap sz)→b'≠b) (pos':Nat):Rel w0 B f0 fz ρ { tm:=(s.tm.map T.noI).set k (.itr q pos'),hp:=s.hp,fr:=s.fr } a.tmps { w with heap:=w.heap.setIfInBounds b (.stringIter q pos') }:=by
 have hlt:b<w.heap.size:=(Array.getElem?_eq_some_iff.1 hb).1;have hkl:k<s.tm.length:=(List.getElem?_eq_some_iff.1 hk).1;have hne:∀ b',b'≠b→(w.heap.setIfInBounds b (.stringIter q pos'))[b']?=w.heap[b']?:=fun b' hq=>by simp[Array.getElem?_setIfInBounds,Ne.symm hq]
 have hfz:∀ b',fz b'→(w.heap.setIfInBounds b (.stringIter q pos'))[b']?=w.heap[b']?:=fun b' hq=>hne b' (fun e=>hnf (e▸hq));exact {
  size:=by simp[h.size]
  tmp:=fun i t' ht=>by
   simp only at ht
   by_cases hi:k=i
   ·subst hi;rw[List.getElem?_set_self (by simpa using hkl)] at ht;injection ht with ht;subst ht;exact⟨_,hv,trivial⟩
   ·rw[List.getElem?_set_ne hi,List.getElem?_map,Option.map_eq_some_iff] at ht;obtain⟨t0,h0,rfl⟩:=ht;obtain⟨u,hu,hr⟩:=h.tmp i t0 h0;exact⟨u,hu,RepT.mono hr.noI hfz (fun _ h=>h) (fun _ _ h=>h)⟩
  dom1:=h.dom1
  obj:=fun k o hk=>by
   obtain⟨l,hl,ho⟩:=h.obj k o hk;exact⟨l,hl,ho.mono (fun b' base cap sz hb=>hne b' (hnr k b' base cap sz (hb▸hl))) hfz (fun _ h=>h) (fun _ _ h=>h)⟩
  inj:=h.inj
  own:=fun k b base cap sz hk=>by
   obtain⟨h1,h2⟩:=h.own k b base cap sz hk;exact⟨by simpa using h1,h2⟩
  fzl:=fun b hb=>by simpa using h.fzl b hb
  fz0:=h.fz0
  fz1:=h.fz1
  below:=h.below.trans ⟨rfl,rfl,rfl,by simp,fun k hk=>hne k (fun e=>hk (e▸hB))⟩
  frd:=h.frd
  glz:=h.glz.mono hfz (fun _ h=>h)
  boxes:=h.boxes
  itr:=fun i q' pos2 ht=>by
   simp only at ht
   by_cases hi:k=i
   ·subst hi;rw[List.getElem?_set_self (by simpa using hkl)] at ht;injection ht with ht;injection ht with h1 h2;subst h1;subst h2;exact⟨_,hv,b,rfl,hB,by simp[Array.getElem?_setIfInBounds,hlt],hnf,hnr⟩
   ·rw[List.getElem?_set_ne hi,List.getElem?_map,Option.map_eq_some_iff] at ht;obtain⟨t0,h0,ht⟩:=ht;exact (noI_itr ht).elim }
theorem handC_rep [Globals] (hrel:Rel w0 B f0 fz ρ s a.tmps w){fL:Nat→Prop}(hf:∀ b,fz b→fL b){hs nms:List Nat}{ρ0:Nat→Option Loc}(hρ:∀ k∈hs,∀ l,ρ k=some l→ρ0 (nmOf hs nms k)=some l){v:Value}{c c':C}(hv:RepC w fz ρ v c)(h:handC s.hp hs nms c=some c')
  (hh:∀ k∈dhsC s.hp hs c,∀ b base cap sz,ρ k=some (.at b base cap sz)→fL b):RepC w fL ρ0 v c':=by
 have triv:handC s.hp hs nms c=some c→c.free=true→RepC w fL ρ0 v c':=fun h1 h2=>by
  rw[h1] at h;injection h with h;rw[← h];exact .frz ((hv.of_free h2).mono (fun _ _=>rfl) hf)
 cases c with
 | ptr k i off=>
  simp only[handC] at h
  split at h
  ·rename_i hk;injection h with h;subst h
   cases hv with
   | frz hq=>cases hq
   | ptr _ _ _ b base cap sz e=>exact .ptr _ i off b base cap sz (hρ k (by simpa using hk) _ e)
  ·cases h
 | ref k off len=>
  simp only[handC] at h
  split at h
  ·rename_i hk;injection h with h;subst h;have hk:k∈hs:=by simpa using hk
   cases hv with
   | frz hq=>cases hq
   | nil _ e=>exact .nil _ (hρ k hk _ e)
   | ref _ _ _ b base cap sz aa e hc ha hsm=>exact .ref _ off len b base cap sz aa (hρ k hk _ e) hc ha hsm
  ·rename_i hk;exact .frz (dataC_rep hrel hf 3 hv h (fun k' hk'=>hh k' (by simp only[dhsC,if_neg hk]; exact hk')))
 | lit=>exact triv rfl rfl
 | sl=>exact triv rfl rfl
 | fptr=>exact triv rfl rfl
 | fn=>exact triv rfl rfl
 | junk=>exact triv rfl rfl
theorem handT_rep [Globals] (hrel:Rel w0 B f0 fz ρ s a.tmps w){fL:Nat→Prop}(hf:∀ b,fz b→fL b){hs nms:List Nat}{ρ0:Nat→Option Loc}(hρ:∀ k∈hs,∀ l,ρ k=some l→ρ0 (nmOf hs nms k)=some l){v:Value}{t t':T}(hv:RepT w fz ρ v t)(h:handT s.hp hs nms t=some t')
  (hh:∀ k∈dhsT s.hp hs t,∀ b base cap sz,ρ k=some (.at b base cap sz)→fL b):RepT w fL ρ0 v t'∧t'.noI=t'∧tOb t'=none:=by
 cases t with
 | c x=>
  simp only[handT,Option.map_eq_some_iff] at h;obtain⟨x',hx,rfl⟩:=h;exact⟨handC_rep hrel hf hρ hv hx hh,rfl,rfl⟩
 | agg cs=>
  simp only[handT,Option.map_eq_some_iff] at h;obtain⟨cs',hcs,rfl⟩:=h;obtain⟨vs,e,hv⟩:=hv;obtain⟨h1,h2⟩:=mapM_get hcs;refine⟨⟨vs,e,by rw[h1]; exact hv.1,fun i u c' hu hc'=>?_⟩,rfl,rfl⟩;have hi:=(List.getElem?_eq_some_iff.1 hc').1;have hci:cs[i]?=some cs[i]:=List.getElem?_eq_getElem (by omega);exact handC_rep hrel hf hρ (hv.2 i u _ hu hci) (h2 i _ c' hci hc') (fun k hk=>hh k (List.mem_flatMap.2 ⟨_,List.getElem_mem _,hk⟩))
 | tup _=>cases h
 | itr _ _=>cases h
 | junk=>cases h
theorem tOb_obT (o:Ob):tOb (obT o)=some o:=by
 unfold obT tOb;simp
theorem lentOf_append (as:List T)(obs:List Ob)(h:∀ t∈as,tOb t=none):lentOf (as++obs.map obT)=obs∧realOf (as++obs.map obT)=as:=by
 unfold lentOf realOf;rw[List.filterMap_append,List.filter_append];have h1:as.filterMap tOb=[]:=by
  rw[List.filterMap_eq_nil_iff];exact h
 have h2:(obs.map obT).filterMap tOb=obs:=by
  rw[List.filterMap_map];have:(tOb∘obT)=some:=funext tOb_obT;rw[this,List.filterMap_some]
 have h3:(as.filter fun t=>(tOb t).isNone)=as:=List.filter_eq_self.2 (fun t ht=>by rw[h t ht]; rfl);have h4:((obs.map obT).filter fun t=>(tOb t).isNone)=[]:=by
  rw[List.filter_eq_nil_iff];intro t ht;obtain⟨o,_,rfl⟩:=List.mem_map.1 ht;rw[tOb_obT];simp
 rw[h1,h2,h3,h4];exact⟨rfl,List.append_nil _⟩
theorem nilsT_tOb {l:List (Option Nat)}{t:T}(h:tOb t=none):tOb (nilsT l t)=none:=by
 cases t<;>first | rfl | exact h
theorem wkArgs_tOb {tys:List TypeId}{args:List T}(h:∀ t∈args,tOb t=none):∀ t∈wkArgs ty tys args,tOb t=none:=fun t ht=>by
 obtain⟨i,hi⟩:=List.mem_iff_getElem?.1 ht;obtain⟨l,t0,h0,h1⟩:=wkArgs_get _ _ i t hi;have h2:=h t0 (List.mem_of_getElem? h0)
 rcases h1 with rfl | rfl
 ·exact h2
 ·exact nilsT_tOb h2
theorem mapM_back {α β:Type}{f:α→Option β}{l:List α}{m:List β}(h:l.mapM f=some m){b:β}(hb:b∈m):∃ x∈l,f x=some b:=by
 obtain⟨h1,h2⟩:=mapM_get h;obtain⟨i,hi⟩:=List.mem_iff_getElem?.1 hb;have hl:=(List.getElem?_eq_some_iff.1 hi).1;have hx:l[i]?=some l[i]:=List.getElem?_eq_getElem (by omega);exact⟨_,List.mem_of_getElem? hx,h2 i _ _ hx hi⟩
theorem handT_ntup {hp:Heap}{hs nms:List Nat}{t t':T}(h:handT hp hs nms t=some t'):∀ ts,t'≠.tup ts:=by
 unfold handT at h
 split at h<;>first | (cases h; done) | (rw[Option.map_eq_some_iff] at h; obtain⟨_,_,rfl⟩:=h; exact fun _ e=>by cases e)
theorem dataT_ntup {hp:Heap}{t t':T}(h:dataT hp t=some t'):∀ ts,t'≠.tup ts:=by
 unfold dataT at h
 split at h<;>first | (cases h; done) | (rw[Option.map_eq_some_iff] at h; obtain⟨_,_,rfl⟩:=h; exact fun _ e=>by cases e)
theorem wkArgs_ntup {tys:List TypeId}{args:List T}(h:∀ t∈args,∀ ts,t≠.tup ts):∀ t∈wkArgs ty tys args,∀ ts,t≠.tup ts:=fun t ht=>by
 obtain⟨i,hi⟩:=List.mem_iff_getElem?.1 ht;obtain⟨l,t0,h0,h1⟩:=wkArgs_get _ _ i t hi;have h2:=h t0 (List.mem_of_getElem? h0)
 rcases h1 with e | e
 ·rw[e]; exact h2
 ·rw[e];intro ts e2
  cases t0 with
  | tup l=>exact h2 l rfl
  | _=>cases e2
theorem marked_app {as more:List T}(h:∀ t∈as,∀ ts,t≠.tup ts)(h2:marked more=false):marked (as++more)=false:=by
 cases as with
 | nil=>exact h2
 | cons t ts=>
  cases t with
  | tup l=>exact absurd rfl (h _ List.mem_cons_self l)
  | _=>rfl
theorem lend_sound [Globals] (hB:B.n≤w0.heap.size)(hrel:Rel w0 B f0 fz ρ s a.tmps w){c:Call}{d:Nat}{hs:List Nat}{obs:List Ob}{args:List T}(hnd:hs.Nodup)(hobs:lentObs s.hp s.fr hs hs=some obs)(hargs:(c.args.toList.map (opd s.tm)).mapM (handT s.hp hs (namesFrom 0 obs))=some args)
  (hne:(!hs.isEmpty)=true) (hdh:∀ x∈(c.args.toList.map (opd s.tm)).flatMap (dhsT s.hp hs),x∉hs):
  ∃ (fL:Nat→Prop) (ρ0:Nat→Option Loc),∀ A,A=wkArgs ty (callTys o) args++(obs.map fun ob=>obT (ob.shift (nmOf hs (namesFrom 0 obs))))→marked A=false∧lentOf A≠[]∧(c.args.map a.eval).size=(realOf A).length ∧
   (∀ (i:Nat) (t:T),(realOf A)[i]?=some t→∃ v,(c.args.map a.eval)[i]?=some v∧RepT w fL ρ0 v t)∧(∀ t∈realOf A,t.noI=t)∧LentIn w fL ρ0 (lentOf A)∧(∀ b,fL b→b<w.heap.size)∧GlobF w fL∧(∀ w',Past (lentBs w.heap.size ρ0) w w'→Past B w0 w') ∧
   ∀ (r:T × List Ob) (s':St) (w':World) (v:Value) (fz':Nat→Prop) (ρ':Nat→Option Loc),takeL s d hs ((c.args.toList.map (opd s.tm)).flatMap (dhsT s.hp hs)) r=some s'→OutL w w' fL fz' ρ0 ρ' v (lentOf A) r→∃ fz2 ρ2,Rel w0 B f0 fz2 ρ2 s' (a.tmps.setIfInBounds d v) w':=by
 obtain⟨hlen,hget0⟩:=lentObs_get hobs
 let nms:=namesFrom 0 obs
 have hnms:∀ (i j k:Nat),nms[i]?=some k→nms[j]?=some k→i=j:=fun i j k=>names_inj;have hnl:nms.length=hs.length:=by rw[← hlen]; exact namesFrom_length
 have hinj:∀ (i j k:Nat),hs[i]?=some k→hs[j]?=some k→i=j:=fun i j k=>nodup_get hnd
 let ρ0:Nat→Option Loc:=fun k=>(ixOf nms k).bind fun j=>(hs[j]?).bind ρ
 have hname:∀ (j k:Nat),hs[j]?=some k→∃ q,nms[j]?=some q∧nmOf hs nms k=q∧ρ0 q=ρ k:=fun j k hj=>by
  have hjl:=(List.getElem?_eq_some_iff.1 hj).1;have hq:nms[j]?=some nms[j]:=List.getElem?_eq_getElem (by omega);refine⟨nms[j],hq,?_,?_⟩
  ·unfold nmOf;rw[ixOf_get hinj hj,Option.bind_some,hq,Option.getD_some]
  ·simp only[ρ0];rw[ixOf_get hnms hq,Option.bind_some,hj,Option.bind_some]
 have hρ:∀ k∈hs,∀ l,ρ k=some l→ρ0 (nmOf hs nms k)=some l:=fun k hk l hl=>by
  obtain⟨j,hj⟩:=List.mem_iff_getElem?.1 hk;obtain⟨q,_,h2,h3⟩:=hname j k hj;rw[h2,h3];exact hl
 have hρ0:∀ k l,ρ0 k=some l→∃ (j h:Nat),nms[j]?=some k∧hs[j]?=some h∧ρ h=some l:=fun k l hk=>by
  simp only[ρ0] at hk;rw[Option.bind_eq_some_iff] at hk;obtain⟨j,hj,hk⟩:=hk;rw[Option.bind_eq_some_iff] at hk;obtain⟨h,hh,hk⟩:=hk;exact⟨j,h,ixOf_some hj,hh,hk⟩
 let dhs:=(c.args.toList.map (opd s.tm)).flatMap (dhsT s.hp hs)
 let fL:Nat→Prop:=fun b=>fz b∨∃ k∈dhs,∃ base cap sz,ρ k=some (.at b base cap sz)
 have hfL:∀ b,fz b→fL b:=fun b hb=>.inl hb;obtain⟨m1,m2⟩:=mapM_get hargs;simp only[List.length_map] at m1;have hreps0:∀ (i:Nat) (t:T),args[i]?=some t→∃ v,(c.args.toList.map a.eval)[i]?=some v∧RepT w fL ρ0 v t∧t.noI=t∧tOb t=none:=fun i t ht=>by
  have hi:=(List.getElem?_eq_some_iff.1 ht).1;have hx:c.args.toList[i]?=some c.args.toList[i]:=List.getElem?_eq_getElem (by omega);have hmx:(c.args.toList.map (opd s.tm))[i]?=some (opd s.tm c.args.toList[i]):=by rw[List.getElem?_map,hx]; rfl
  refine⟨a.eval c.args.toList[i],by rw[List.getElem?_map,hx]; rfl,handT_rep hrel hfL hρ (opd_rep hrel c.args.toList[i]) (m2 i _ t hmx ht) (fun k hk b base cap sz e=>.inr ⟨k,List.mem_flatMap.2 ⟨_,List.mem_of_getElem? hmx,hk⟩,base,cap,sz,e⟩)⟩
 have hreps:=wkArgs_rep (ty:=ty) (w:=w) (callTys o) (fun i t ht=>by obtain⟨v,h1,h2,_⟩:=hreps0 i t ht; exact⟨v,h1,h2⟩);have hno:∀ t∈args,t.noI=t∧tOb t=none:=fun t ht=>by
  obtain⟨i,hi⟩:=List.mem_iff_getElem?.1 ht;obtain⟨_,_,_,h3⟩:=hreps0 i t hi;exact h3
 have hob0:=wkArgs_tOb (ty:=ty) (tys:=callTys o) (fun t ht=>(hno t ht).2);have hmap:(obs.map fun ob=>obT (ob.shift (nmOf hs nms)))=(obs.map (Ob.shift (nmOf hs nms))).map obT:=by rw[List.map_map]; rfl
 obtain⟨hlo,hre⟩:=lentOf_append (wkArgs ty (callTys o) args) (obs.map (Ob.shift (nmOf hs nms))) hob0;rw[← hmap] at hlo hre;have hlt:∀ b,fL b→b<w.heap.size:=fun b hb=>by
  rcases hb with hb | ⟨k,_,base,cap,sz,e⟩
  ·exact hrel.fzl b hb
  ·exact (hrel.own k b base cap sz e).1
 have hfrh:∀ (j k:Nat),hs[j]?=some k→k∉s.fr:=fun j k hj=>by obtain⟨_,_,_,h3,_⟩:=hget0 j k hj; exact h3
 have hlin:LentIn w fL ρ0 (obs.map (Ob.shift (nmOf hs nms))):={
  obj:=fun j o' hj=>by
   rw[List.getElem?_map,Option.map_eq_some_iff] at hj;obtain⟨o1,h1,rfl⟩:=hj;have hjl:=(List.getElem?_eq_some_iff.1 h1).1;have hh:hs[j]?=some hs[j]:=List.getElem?_eq_getElem (by omega);obtain⟨o2,g1,g2,g3,g4⟩:=hget0 j _ hh;rw[h1] at g1;injection g1 with g1;subst g1;obtain⟨l,hl,hO⟩:=hrel.obj _ _ g2;obtain⟨q,q1,q2,q3⟩:=hname j _ hh;have hq:q=lentH o1.box j:=by
    have:nms[j]?=_:=namesFrom_get;rw[q1,h1,Option.map_some,Nat.zero_add] at this;injection this
   refine⟨l,by rw[Ob.shift_box,← hq,q3]; exact hl,hO.to (fun _ _ _ _ _=>rfl) (fun _ _=>rfl) hfL (fun k hk l' hl'=>hρ k (g4 k hk) l' hl')⟩
  dom:=fun k l hk=>by
   obtain⟨j,h,h1,h2,_⟩:=hρ0 k l hk;have:nms[j]?=_:=namesFrom_get;rw[h1] at this;obtain⟨o1,e1,e2⟩:=Option.map_eq_some_iff.1 this.symm;exact⟨j,o1.shift (nmOf hs nms),by rw[List.getElem?_map,e1]; rfl,by rw[Ob.shift_box,← e2,Nat.zero_add]⟩
  inj:=fun k k' b base cap sz base' cap' sz' h1 h2=>by
   obtain⟨j,h,g1,g2,g3⟩:=hρ0 k _ h1;obtain⟨j',h',g1',g2',g3'⟩:=hρ0 k' _ h2;have e:=hrel.inj h h' b _ _ _ _ _ _ (hfrh j h g2) (hfrh j' h' g2') g3 g3';subst e;have e:=hinj j j' h g2 g2';subst e;rw[g1] at g1';injection g1'
  own:=fun k b base cap sz hk=>by
   obtain⟨j,h,g1,g2,g3⟩:=hρ0 k _ hk;obtain⟨e1,e2,_⟩:=hrel.own h b base cap sz g3;refine⟨e1,fun hz=>?_⟩
   rcases hz with hz | ⟨k2,hk2,_,_,_,hρ2⟩
   ·exact (e2 (hfrh j h g2)).2 hz
   ·by_cases hm:k2∈s.fr
    ·exact (e2 (hfrh j h g2)).2 ((hrel.own k2 b _ _ _ hρ2).2.2 hm)
    ·have e:=hrel.inj h k2 b _ _ _ _ _ _ (hfrh j h g2) hm g3 hρ2;exact hdh k2 hk2 (by rw[← e]; exact List.mem_of_getElem? g2) }
 have hobn:obs≠[]:=fun e=>by
  have:hs=[]:=List.eq_nil_of_length_eq_zero (by rw[← hlen,e]; rfl);rw[this] at hne
  cases hne
 refine⟨fL,ρ0,?_⟩;rintro A rfl;refine⟨?_,?_,?_,fun i t ht=>?_,fun t ht=>?_,?_,hlt,hrel.glz.mono (fun _ _=>rfl) hfL,fun w' hp=>?_,fun r s' w' v fz' ρ' h hout=>?_⟩
 ·refine marked_app (wkArgs_ntup fun t ht=>by obtain⟨x,_,h2⟩:=mapM_back hargs ht; exact handT_ntup h2) ?_
  cases hO:obs with
  | nil=>exact absurd hO hobn
  | cons o1 os=>rfl
 ·show lentOf (wkArgs ty (callTys o) args++obs.map fun ob=>obT (ob.shift (nmOf hs nms)))≠[];rw[hlo];intro e;exact hobn (List.map_eq_nil_iff.1 e)
 ·show (c.args.map a.eval).size=(realOf (wkArgs ty (callTys o) args++obs.map fun ob=>obT (ob.shift (nmOf hs nms)))).length;rw[hre,wkArgs_length,m1]; simp
 ·have ht:(realOf (wkArgs ty (callTys o) args++obs.map fun ob=>obT (ob.shift (nmOf hs nms))))[i]?=some t:=ht;rw[hre] at ht;obtain⟨v,hv,hrep⟩:=hreps i t ht;refine⟨v,?_,hrep⟩;rw[← Array.getElem?_toList,Array.toList_map];exact hv
 ·have ht:t∈realOf (wkArgs ty (callTys o) args++obs.map fun ob=>obT (ob.shift (nmOf hs nms))):=ht;rw[hre] at ht;obtain⟨i,hi⟩:=List.mem_iff_getElem?.1 ht;obtain⟨l,t0,h0,h1⟩:=wkArgs_get _ _ i t hi;have h2:=(hno t0 (List.mem_of_getElem? h0)).1
  rcases h1 with rfl | rfl
  ·exact h2
  ·exact nilsT_noI l h2
 ·show LentIn w fL ρ0 (lentOf (wkArgs ty (callTys o) args++obs.map fun ob=>obT (ob.shift (nmOf hs nms))));rw[hlo]; exact hlin
 ·refine hrel.below.trans ⟨hp.os,hp.tape,hp.output,hp.size,fun k hk=>hp.block k fun hq=>?_⟩
  rcases hq with hq | ⟨k2,base,cap,sz,hq⟩
  ·exact hk (.inl (Nat.le_trans hB (Nat.le_trans hrel.below.size hq)))
  ·obtain⟨j,h,g1,g2,g3⟩:=hρ0 k2 _ hq;exact hk ((hrel.own h k _ _ _ g3).2.1 (hfrh j h g2)).1
 ·have hout:OutL w w' fL fz' ρ0 ρ' v (lentOf (wkArgs ty (callTys o) args++obs.map fun ob=>obT (ob.shift (nmOf hs nms)))) r:=hout;rw[hlo] at hout;obtain⟨fz2,ρ2,hR,_⟩:=takeL_sound (dhs:=dhs) hrel (Nat.le_trans hB hrel.below.size) hobs hnd (by simp) (fun j o1 hj=>⟨o1.shift (nmOf hs nms),by rw[List.getElem?_map,hj]; rfl,Ob.shift_box⟩)
   (fun k l hk=>by obtain⟨j,h,_,g2,g3⟩:=hρ0 k l hk; exact⟨j,h,g2,g3⟩) (fun j k o1 hj h1=>by
    obtain⟨q,q1,q2,q3⟩:=hname j k hj;have:nms[j]?=_:=namesFrom_get;rw[q1,h1,Option.map_some,Nat.zero_add] at this;injection this with this;rw[← this,q3]) (fun b=>Iff.rfl) hdh hout h
  exact⟨fz2,ρ2,hR⟩
theorem run_lent {f : FuncId} {fn : Func} {code : Code} {c : Call} (ho : o.op = .call c) (hc : c.callee = .value (.func f)) (hfn : P.funcs[f]? = some fn) (hnm : (fn.name == "runtime.NumGoroutine") = false) (hbody : fn.body = some code) : (execOp a.eval o).run P w = .ok (.enter f (c.args.map a.eval)) w := by
 have he:a.eval (.func f)=.func (.func f) #[] #[]:=rfl;simp only[execOp,ho,resolve,hc,he,Deferred.ofValue,Sem.run_bind,Sem.run_pure,Result.andThen_ok,invoke,Array.empty_append,Array.append_empty];exact run_callFunc hfn hnm hbody
theorem evL2_sound [Globals] (hcall:call.ok P)(hB:B.n≤w0.heap.size)(hrel:Rel w0 B f0 fz ρ s a.tmps w){c:Call}{f:FuncId}{d:Nat}{hs:List Nat}{s':St}(ho:o.op=.call c)(hc:c.callee=.value (.func f))(hd:o.dst=some d)(hnd:hs.Nodup)
  (h:evL2 call ty o f d (c.args.toList.map (opd s.tm)) hs s=some s') {next:Act→World→Prop} {Q:Exit→Act→World→Prop} (hnext:∀ fz' ρ' tm' w',Rel w0 B f0 fz' ρ' s' tm' w'→next ⟨tm',a.defers⟩ w'):o.wp P a w next Q:=by
 unfold evL2 at h
 split at h
 ·cases h
 ·rename_i obs hobs
  split at h
  ·cases h
  ·rename_i args hargs
   split at h
   ·rename_i hcond;simp only[Bool.and_eq_true,Bool.not_eq_true',List.all_eq_true,List.contains_eq_mem,decide_eq_false_iff_not] at hcond;obtain⟨hne,hdh⟩:=hcond
    split at h
    ·cases h
    ·rename_i r hr;obtain⟨hok,fn,code,hfn,hnm,hbody⟩:=hcall.2 f _ r hr;obtain⟨fL,ρ0,hA⟩:=lend_sound (ty:=ty) (o:=o) (d:=d) hB hrel hnd hobs hargs (by simp[hne]) hdh;obtain⟨g1,g2,g3,g4,g5,g6,g7,g8,_,g9⟩:=hA _ rfl;unfold Oper.wp;rw[run_lent ho hc hfn hnm hbody,Oper.upon_enter];refine ((hok.plain g1).2 g2 w fL ρ0 _ g3 g4 g5 g6 g7 g8).mono ?_;rintro e w' ⟨v,fz',ρ',rfl,hout⟩;obtain⟨fz2,ρ2,hR⟩:=g9 _ _ _ _ _ _ h hout;simp only[hd,put_some];exact hnext _ _ _ _ hR
   ·cases h
theorem evLP_sound [Globals] (hcall:call.ok P)(hB:B.n≤w0.heap.size)(hrel:Rel w0 B f0 fz ρ s a.tmps w){c:Call}{f:FuncId}{d:Nat}{hs:List Nat}{q:(Nat × List C) ⊕ St}(ho:o.op=.call c)(hc:c.callee=.value (.func f))(hd:o.dst=some d)(hnd:hs.Nodup)
  (h:evLP call ty o f d (c.args.toList.map (opd s.tm)) hs s=some q) {next:Act→World→Prop} {Q:Exit→Act→World→Prop} (hnext:∀ s' fz' ρ' tm' w',q=.inr s'→Rel w0 B f0 fz' ρ' s' tm' w'→next ⟨tm',a.defers⟩ w')
  (hpan:∀ p w',q=.inl p→Past B w0 w'→Q (.panic [{ v:=panV p.1 p.2,recovered:=false }]) a w'):o.wp P a w next Q:=by
 unfold evLP at h
 split at h
 ·cases h
 ·rename_i obs hobs
  split at h
  ·cases h
  ·rename_i args hargs
   split at h
   ·rename_i hcond;simp only[Bool.and_eq_true,Bool.not_eq_true',List.all_eq_true,List.contains_eq_mem,decide_eq_false_iff_not] at hcond;obtain⟨hne,hdh⟩:=hcond;obtain⟨fL,ρ0,hA⟩:=lend_sound (ty:=ty) (o:=o) (d:=d) hB hrel hnd hobs hargs (by simp[hne]) hdh;obtain⟨g1,g2,g3,g4,g5,g6,g7,g8,gp,g9⟩:=hA _ rfl;have main:∀ r,call f (.tup []::(wkArgs ty (callTys o) args++obs.map fun ob=>obT (ob.shift (nmOf hs (namesFrom 0 obs)))))=some r→(∀ p,unR r=some (.inl p)→q=.inl p) →
      (∀ r',unR r=some (.inr r')→∃ s',takeL s d hs ((c.args.toList.map (opd s.tm)).flatMap (dhsT s.hp hs)) r'=some s'∧q=.inr s')→o.wp P a w next Q:=fun r hr h1 h2=>by
     obtain⟨hok,fn,code,hfn,hnm,hbody⟩:=hcall.2 f _ r hr;have hok:CallPn P f (wkArgs ty (callTys o) args++obs.map fun ob=>obT (ob.shift (nmOf hs (namesFrom 0 obs)))) r:=hok;unfold Oper.wp;rw[run_lent ho hc hfn hnm hbody,Oper.upon_enter];refine (hok.2 w fL ρ0 _ g3 g4 g5 g6 g7 g8).mono ?_;rintro e w' (⟨p,hp,rfl,hpast⟩ | ⟨r',v,fz',ρ',hr',rfl,hout⟩)
     ·exact hpan p w' (h1 p hp) (gp w' hpast)
     ·obtain⟨s',hs',hq⟩:=h2 r' hr';obtain⟨fz2,ρ2,hR⟩:=g9 _ _ _ _ _ _ hs' hout;simp only[hd,put_some];exact hnext s' _ _ _ _ hq hR
    split at h
    ·cases h
    ·rename_i p hr;rw[Option.bind_eq_some_iff] at hr;obtain⟨r,hr1,hr2⟩:=hr;injection h with h;exact main r hr1 (fun p' hp'=>by rw[hr2] at hp'; injection hp' with hp'; injection hp' with hp'; rw[← h,hp']) (fun r' hr'=>by rw[hr2] at hr'; injection hr' with hr'; cases hr')
    ·rename_i r1 hr;rw[Option.bind_eq_some_iff] at hr;obtain⟨r,hr1,hr2⟩:=hr;rw[Option.map_eq_some_iff] at h;obtain⟨s',hs',hq⟩:=h;exact main r hr1 (fun p' hp'=>by rw[hr2] at hp'; injection hp' with hp'; cases hp') (fun r' hr'=>by rw[hr2] at hr'; injection hr' with hr'; injection hr' with hr'; exact⟨s',by rw[← hr']; exact hs',hq.symm⟩)
   ·cases h
theorem evOp_sound [Globals] (hty:∀ t y,ty t=some y→Ty.of P t=some y)(hcall:call.ok P)(hB:B.n≤w0.heap.size)(hrel:Rel w0 B f0 fz ρ s a.tmps w){s':St}(h:evOp call ty o s=some s'){next:Act→World→Prop}{Q:Exit→Act→World→Prop}
  (hnext:∀ fz' ρ' tm' w',Rel w0 B f0 fz' ρ' s' tm' w'→next ⟨tm',a.defers⟩ w'):o.wp P a w next Q:=by
 have viaP:(evP ty o s.tm s.hp).bind (putP s o.dst)=some s'→o.wp P a w next Q:=by
  intro h;rw[Option.bind_eq_some_iff] at h;obtain⟨r,hr,hp⟩:=h;obtain⟨v,w',ρ',hrun,hR⟩:=putP_sound hcall.1 hty hB hrel hr hp;unfold Oper.wp;rw[hrun];have:a.put o.dst v=⟨(a.put o.dst v).tmps,a.defers⟩:=by cases o.dst<;>rfl
  rw[Oper.upon_value,this];exact hnext _ _ _ _ hR
 unfold evOp at h
 split at h
 ·rename_i t ad x ho
  split at h
  ·rename_i hd;obtain⟨w',fz',ρ',hrun,hR,_⟩:=evS_sound hty hrel ho h;unfold Oper.wp;rw[hrun,Oper.upon_skip];have:o.dst=none:=by simpa using hd
   rw[this];exact hnext _ _ _ _ hR
  ·cases h
 ·rename_i t x ho;unfold evR0 at h
  split at h
  ·rename_i q d hx hk hd;injection h with h;subst h;rw[Option.map_eq_some_iff] at hk;obtain⟨y,hy,hk⟩:=hk;obtain⟨_,d1,_,hd1,he1,_⟩:=Ty.of_some (hty t y hy);rw[hk] at he1;have e1:=K.of_str he1.symm;subst e1;have hrun:(execOp a.eval o).run P w=.ok (.value (.pointer (some ⟨w.heap.size,0,none⟩))) (w.alloc (.stringIter q 0)):=by
    simp only[execOp,ho,opd_lit hrel hx,Instr.range,Sem.run_bind,run_underlying hd1,Result.andThen_ok,Sem.run_pure,run_newObj];rfl
   unfold Oper.wp;rw[hrun,Oper.upon_value,hd,put_some];exact hnext _ _ _ _ (hrel.begun (Nat.le_trans hB hrel.below.size) q d)
  ·cases h
 ·rename_i it isS ho;unfold evI at h
  split at h
  ·rename_i k
   split at h
   ·rename_i q pos d hk hd;obtain⟨v,hv,b,rfl,hBb,hheap,hnf,hnr⟩:=hrel.itr k q pos hk;have hev:a.eval (.tmp k)=.pointer (some ⟨b,0,none⟩):=by simp[Act.eval,Array.getD_eq_getD_getElem?,hv]
    split at h
    ·rename_i hlt;injection h with h;subst h;have hrun:(execOp a.eval o).run P w=.ok (.value (.tuple #[.bool true,.int .i64 pos,.int .i32 (decR q pos)])) { w with heap:=w.heap.setIfInBounds b (.stringIter q (pos+decW q pos)) }:=by
      simp only[execOp,ho,hev,Instr.next,getObj,setObj,Sem.run_bind,Sem.run,hheap,Result.andThen_ok,if_pos hlt,Sem.run_pure];rfl
     unfold Oper.wp;rw[hrun,Oper.upon_value,hd,put_some];refine hnext _ _ _ _ ((hrel.stepped hk hv hBb hheap hnf hnr (pos+decW q pos)).put d (t:=.tup [.c (.lit (.bool true)),.c (.lit (.int .i64 pos)),.c (.lit (.int .i32 (decR q pos)))]) ⟨_,rfl,rfl,fun i t ht=>?_⟩ rfl)
     match i,ht with
     | 0,ht=>injection ht with ht; subst ht; exact⟨_,rfl,.frz (.lit (.bool true) trivial)⟩
     | 1,ht=>injection ht with ht; subst ht; exact⟨_,rfl,.frz (.lit (.int .i64 pos) trivial)⟩
     | 2,ht=>injection ht with ht; subst ht; exact⟨_,rfl,.frz (.lit (.int .i32 (decR q pos)) trivial)⟩
     | i+3,ht=>simp at ht
    ·rename_i hlt;injection h with h;subst h;have hrun:(execOp a.eval o).run P w=.ok (.value (.tuple #[.bool false])) w:=by
      simp only[execOp,ho,hev,Instr.next,getObj,Sem.run_bind,Sem.run,hheap,Result.andThen_ok,if_neg hlt,Sem.run_pure]
     unfold Oper.wp;rw[hrun,Oper.upon_value,hd,put_some];refine hnext _ _ _ _ (hrel.put d (t:=.tup [.c (.lit (.bool false))]) ⟨_,rfl,rfl,fun i t ht=>?_⟩ rfl)
     match i,ht with
     | 0,ht=>injection ht with ht; subst ht; exact⟨_,rfl,.frz (.lit (.bool false) trivial)⟩
     | i+1,ht=>simp at ht
   ·cases h
  ·cases h
 ·rename_i u v x ho
  split at h
  ·rename_i huv;subst huv;unfold evW at h
   split at h
   ·rename_i e hk
    split at h
    ·rename_i k off len d hu8 hx hd
     split at h
     ·rename_i ob hob
      split at h
      ·rename_i hc;injection h with h;subst h;obtain⟨hc,hlen⟩:=hc;have hfr:k∉s.fr:=by simpa using hc
       have hrep:=opd_rep hrel x;rw[hx] at hrep;have hrep:RepC w fz ρ (a.eval x) (.ref k off len):=hrep;rw[Option.map_eq_some_iff] at hk hu8;obtain⟨y,hy,hk⟩:=hk;obtain⟨z,hz,hu8⟩:=hu8;obtain⟨_,d1,_,hd1,he1,_⟩:=Ty.of_some (hty u y hy);obtain⟨_,d3,_,hd3,he3,_⟩:=Ty.of_some (hty e z hz);rw[hk] at he1;rw[hu8] at he3;have e1:=K.of_slice he1.symm;have e3:=K.of_int he3.symm;subst e1;subst e3;generalize hvv:a.eval x=vx at hrep
       cases hrep with
       | frz hf=>cases hf
       | nil=>omega
       | ref _ _ _ b base cap sz ad hr hcap ha hs=>
        rw[ha (by omega)] at hvv;obtain⟨h1,h0,h2,h3,c,fr,hb,hsz,⟨hth,hthx⟩,hcell⟩:=hrel.objAt hob hr;obtain⟨hbl,hB2,_⟩:=hrel.own k b base cap sz hr;obtain⟨W,hW,fr',hWb,hth',hbut⟩:∃ W,(markStringish ⟨b,base+off*sz,none⟩).run P w=.ok () W∧∃ fr':Nat × Nat,W.heap[b]?=some (.cells c ob.elem fr')∧(fr'.1=fr'.2∨c.size≤fr'.1)∧But w W b:=by
         refine⟨w.freeze ⟨b,c.size,none⟩ 1,?_,(if fr.1==fr.2 then (c.size,c.size+1) else (min fr.1 c.size,max fr.2 (c.size+1))),?_,?_,?_⟩
         ·simp only[markStringish,Sem.run_bind,run_shape,World.shape?,hb,Result.andThen_ok];rfl
         ·simp only[World.freeze,if_neg (show ¬ (1=0) by decide)];rw[Array.getElem?_modify,if_pos rfl,hb];rfl
         ·split
          ·right; simp
          ·rename_i hne;right;have:fr.1≠fr.2:=by simpa using hne
           simp only;omega
         ·refine⟨rfl,rfl,rfl,?_,fun q hq=>?_⟩
          ·simp only[World.freeze,if_neg (show ¬ (1=0) by decide),Array.size_modify]
          ·simp only[World.freeze,if_neg (show ¬ (1=0) by decide)];rw[Array.getElem?_modify,if_neg (Ne.symm hq)]
        have hfz:∀ q,fz q→W.heap[q]?=w.heap[q]?:=fun q hq=>hbut.block q (fun e=>(hB2 hfr).2 (e▸hq));have hrun:(execOp a.eval o).run P w=.ok (.value (.slice (some ⟨b,base+off*sz,none⟩) len (cap-off))) W:=by
         simp only[execOp,ho,hvv,convert,Sem.run_bind,run_underlying hd1,Result.andThen_ok,beq_self_eq_true,run_underlying hd3,hW,Sem.run_pure]
        unfold Oper.wp;rw[hrun,Oper.upon_value,hd,put_some];refine hnext _ _ _ _ ((hrel.write hob hr hfr hbut rfl (fun _=>⟨h1,h0,h2,h3,c,fr',hWb,hsz,⟨hth',hthx⟩,fun i j e' x' he' hx'=>?_⟩)).put d (t:=.c (.ref k off len)) (RepC.ref k off len b base cap sz _ hr hcap (fun _=>rfl) ⟨_,rfl⟩) rfl);obtain⟨v,hv,hrep⟩:=hcell i j e' x' he' hx';exact⟨v,hv,hrep.mono hfz (fun _ h=>h) (fun _ _ h=>h)⟩
      ·cases h
     ·cases h
    ·cases h
   ·exact viaP h
  ·exact viaP h
 ·rename_i fn first caps ho
  obtain⟨fz1,ρ1,hr1,_,_⟩:=freezes_sound (capHs s.tm caps.toList) hrel;rw[Option.bind_eq_some_iff] at h;obtain⟨r,hr,hp⟩:=h;obtain⟨v,w',ρ',hrun,hR⟩:=putP_sound hcall.1 hty hB hr1 hr hp;unfold Oper.wp;rw[hrun];have:a.put o.dst v=⟨(a.put o.dst v).tmps,a.defers⟩:=by cases o.dst<;>rfl
  rw[Oper.upon_value,this];exact hnext _ _ _ _ hR
 ·rename_i c ho
  split at h
  ·rename_i f all hl;unfold lendOf at hl
   split at hl
   ·rename_i f' hc;rw[Option.map_eq_some_iff] at hl;obtain⟨b,_,hl⟩:=hl;injection hl with hl1 hl2;subst hl1;unfold evL1 at h
    split at h
    ·rename_i d hd;exact evL2_sound hcall hB hrel ho hc hd (lentHs_nodup _ _ _) h hnext
    ·cases h
   ·cases hl
  split at h
  ·rename_i x hc
   split at h
   ·cases h
   ·rename_i f caps hf
    split at h
    ·exact viaP h
    ·split at h
     ·cases h
     ·rename_i args hargs
      split at h
      ·cases h
      ·rename_i r hr;obtain⟨hok,fn,code,hfn,hnm,hbody⟩:=hcall.2 f _ r hr;obtain⟨cv,hcv,hcs,hcr⟩:=fnOf_rep (opd_rep hrel x) hf
       let hs:=(c.args.toList.map (opd s.tm)).flatMap (hsT s.hp)
       let fL:Nat→Prop:=fun b=>fz b∨∃ k∈hs,∃ base cap sz,ρ k=some (.at b base cap sz)
       obtain⟨hl,hreps⟩:=mapM_args hrel (fL:=fL) (fun b hb=>.inl hb) hargs (fun k hk b base cap sz e=>.inr ⟨k,hk,base,cap,sz,e⟩);have hreps:=wkArgs_rep (ty:=ty) (callTys o) hreps;have hl:(c.args.toList.map a.eval).length=(wkArgs ty (callTys o) args).length:=by rw[wkArgs_length]; exact hl
       have hlt:∀ b,fL b→b<w.heap.size:=fun b hb=>by
        rcases hb with hb | ⟨k,_,base,cap,sz,e⟩
        ·exact hrel.fzl b hb
        ·exact (hrel.own k b base cap sz e).1
       have hl2:c.args.size=(wkArgs ty (callTys o) args).length:=by rw[← hl]; simp
       have hok:=hok.plain (marked_app (wkArgs_ntup fun t ht=>by obtain⟨y,_,h2⟩:=mapM_back hargs ht; exact dataT_ntup h2) (by cases caps<;>rfl));have hcalls:=hok.1 (by
        unfold lentOf;rw[List.filterMap_eq_nil_iff];intro t ht
        rcases List.mem_append.1 ht with ht | ht
        ·exact wkArgs_tOb (fun t0 h0=>dataT_tOb hargs h0) t ht
        ·obtain⟨y,_,rfl⟩:=List.mem_map.1 ht;rfl) w fL (c.args.map a.eval++cv) (by rw[Array.size_append,Array.size_map,List.length_append,List.length_map,hl2,hcs]) (fun i t ht=>by
        by_cases hi:i<(wkArgs ty (callTys o) args).length
        ·rw[List.getElem?_append_left hi] at ht;obtain⟨v,hv,hrep⟩:=hreps i t ht;refine⟨v,?_,hrep⟩;rw[Array.getElem?_append_left (by rw[Array.size_map]; omega),← Array.getElem?_toList,Array.toList_map];exact hv
        ·rw[List.getElem?_append_right (by omega),List.getElem?_map,Option.map_eq_some_iff] at ht;obtain⟨y,hy,rfl⟩:=ht;have hi2:=(List.getElem?_eq_some_iff.1 hy).1;have hlt2:i-(wkArgs ty (callTys o) args).length<cv.size:=by omega
         refine⟨cv[i-(wkArgs ty (callTys o) args).length],?_,.frz ((hcr _ _ y (Array.getElem?_eq_getElem hlt2) hy).mono (fun _ _=>rfl) (fun b hb=>.inl hb))⟩;rw[Array.getElem?_append_right (by rw[Array.size_map]; omega),Array.size_map,hl2];exact Array.getElem?_eq_getElem hlt2) (fun t ht=>by
        rcases List.mem_append.1 ht with ht | ht
        ·obtain⟨i,hi⟩:=List.mem_iff_getElem?.1 ht;obtain⟨l,t0,h0,h1⟩:=wkArgs_get _ _ i t hi;have h2:t0.noI=t0:=dataT_noI hargs (List.mem_of_getElem? h0)
         rcases h1 with rfl | rfl
         ·exact h2
         ·exact nilsT_noI l h2
        ·obtain⟨y,_,rfl⟩:=List.mem_map.1 ht;rfl) hlt (hrel.glz.mono (fun _ _=>rfl) (fun b hb=>.inl hb))
       have hrun:(execOp a.eval o).run P w=.ok (.enter f (c.args.map a.eval++cv)) w:=by
        simp only[execOp,ho,resolve,hc,hcv,Deferred.ofValue,Sem.run_bind,Sem.run_pure,Result.andThen_ok,invoke,Array.empty_append];exact run_callFunc hfn hnm hbody
       unfold Oper.wp;rw[hrun,Oper.upon_enter];refine hcalls.mono ?_;rintro e w' ⟨v,fz',ρ',rfl,hout⟩;obtain⟨fz2,ρ2,⟨d,hd,hR⟩,_⟩:=takeIn_sound hrel (Nat.le_trans hB hrel.below.size) (fun b=>Iff.rfl) hout h;simp only[hd,put_some];exact hnext _ _ _ _ hR
  ·rename_i hc;obtain⟨v,w',fz',ρ',hrun,hR,_⟩:=evA_sound hty hB hrel ho hc h;unfold Oper.wp;rw[hrun,Oper.upon_value];have:a.put o.dst v=⟨(a.put o.dst v).tmps,a.defers⟩:=by cases o.dst<;>rfl
   rw[this];exact hnext _ _ _ _ hR
  ·exact viaP h
 ·exact viaP h
theorem guardOf_wanted [Globals] (hrel:Rel w0 B f0 fz ρ s a.tmps w){ops:Array Oper}{b:Bool}(h:guardOf ops s.tm o=some b):Region.wanted o (yielded ops a.tmps)=b:=by
 unfold guardOf at h;unfold Region.wanted
 split at h
 ·rename_i hg;injection h with h;rw[hg];exact h
 ·rename_i j want hg;rw[hg]
  split at h
  ·rename_i d hd
   split at h
   ·rename_i q hq;injection h with h;obtain⟨v,hv,hr⟩:=hrel.tmp d _ hq;have hr:RepC w fz ρ v (.lit (.bool q)):=hr;have:v=.bool q:=by cases hr with | frz hf=>cases hf; rfl
    subst this;simp only[yielded,hd,Option.bind_some,hv];rw[← h]
    cases q<;>cases want<;>rfl
   ·rename_i ts hq;injection h with h;obtain⟨v,hv,vs,rfl,_⟩:=hrel.tmp d _ hq;simp only[yielded,hd,Option.bind_some,hv];rw[← h]
    cases want<;>rfl
   ·cases h
  ·cases h
theorem evOps_sound [Globals] (hty:∀ t y,ty t=some y→Ty.of P t=some y)(hcall:call.ok P)(hB:B.n≤w0.heap.size){ops:Array Oper}{Q:Exit→Act→World→Prop}:∀ {l:List Oper} {idxs:List Nat} {fz:Nat→Prop} {ρ:Nat→Option Loc} {s:St} {a:Act} {w:World},Rel w0 B f0 fz ρ s a.tmps w →
  idxs.map (ops[·]?)=l.map some→∀ {s':St},evOps call ty ops l s=some s'→(∀ fz' ρ' tm' w',Rel w0 B f0 fz' ρ' s' tm' w'→Q .normal ⟨tm',a.defers⟩ w')→wpOps P ops Q idxs a w
 | [],idxs,fz,ρ,s,a,w,hrel,hi,s',h,hq=>by
  cases idxs with
  | nil=>
   simp only[evOps,Option.some.injEq] at h;subst h;exact hq _ _ _ _ hrel
  | cons i rest=>simp at hi
 | o::l,idxs,fz,ρ,s,a,w,hrel,hi,s',h,hq=>by
  cases idxs with
  | nil=>simp at hi
  | cons i rest=>
   simp only[List.map_cons,List.cons.injEq] at hi;obtain⟨hi,hrest⟩:=hi;simp only[wpOps,hi];simp only[evOps] at h
   split at h
   ·cases h
   ·rename_i hg;rw[guardOf_wanted hrel hg];simp only[Bool.false_eq_true,if_false];have hR:∃ ρ',Rel w0 B f0 fz ρ' (putT s o.dst (.tup [])) (a.put o.dst undef).tmps w:=by
     unfold putT
     cases hd:o.dst with
     | none=>exact⟨ρ,hrel⟩
     | some d=>exact⟨ρ,hrel.put d (t:=.tup []) ⟨#[],rfl,rfl,fun i t h=>by simp at h⟩ rfl⟩
    obtain⟨ρ',hR⟩:=hR;have hdf:(a.put o.dst undef).defers=a.defers:=by cases o.dst<;>rfl
    exact evOps_sound hty hcall hB hR hrest h (fun fz' ρ' tm' w' hr=>by rw[hdf]; exact hq _ _ _ _ hr)
   ·rename_i hg;rw[guardOf_wanted hrel hg];simp only[if_true]
    split at h
    ·cases h
    ·rename_i s1 hs1;left;refine evOp_sound hty hcall hB hrel hs1 (fun fz' ρ' tm' w' hr=>?_);exact evOps_sound hty hcall hB hr hrest h hq
theorem toEvict_sound [Globals] (hrel:Rel w0 B f0 fz ρ s a.tmps w)(ops:List Oper):∃ fz' ρ',Rel w0 B f0 fz' ρ' (enter ops s) a.tmps w:=by
 obtain⟨fz',ρ',h1,_⟩:=evicts_sound (toEvict ops s.hp) hrel;exact⟨fz',ρ',h1⟩
end
def Ex.toExit:Ex→Exit
 | .norm=>.normal
 | .exit id=>.exit id
 | .ret=>.ret
 | .pan t cs=>.panic [{ v:=panV t cs,recovered:=false }]
def After [Globals] (w0:World)(B:Bs)(f0:Nat→Prop)(r:Ex × St)(tm:Array Value)(w:World):Prop:=match r.1 with
 | .pan _ _=>Past B w0 w
 | _=>∃ fz ρ,Rel w0 B f0 fz ρ r.2 tm w
def okCode (good:Nat→Array Oper→Bool):Code→Bool
 | .region id ops draw=>!draw||good id ops
 | .seq a b=>okCode good a&&okCode good b
 | .cond _ a b=>okCode good a&&okCode good b
 | .block _ c=>okCode good c
 | .loop c=>okCode good c
 | _=>true
section
variable {P:Program} {ty:Tys} {kp:Nat→Option (List Nat)} {K:Nat→Option (Nat→Option (List Nat))} {call:CallF} {w0:World} {B:Bs} {f0:Nat→Prop}
theorem Rel.drew [Globals] {fz:Nat→Prop}{ρ:Nat→Option Loc}{s:St}{tm:Array Value}{w:World}(h:Rel w0 B f0 fz ρ s tm w):Rel w0 B f0 fz ρ s tm w.drew where
 size:=h.size
 tmp:=fun i t ht=>by obtain⟨v,hv,hr⟩:=h.tmp i t ht; exact⟨v,hv,hr.mono (fun _ _=>rfl) (fun _ h=>h) (fun _ _ h=>h)⟩
 dom1:=h.dom1
 obj:=fun k o hk=>by obtain⟨l,hl,ho⟩:=h.obj k o hk; exact⟨l,hl,ho.mono (fun _ _ _ _ _=>rfl) (fun _ _=>rfl) (fun _ h=>h) (fun _ _ h=>h)⟩
 inj:=h.inj
 own:=h.own
 fzl:=h.fzl
 fz0:=h.fz0
 fz1:=h.fz1
 below:=h.below.drew
 frd:=h.frd
 glz:=h.glz.mono (fun _ _=>rfl) (fun _ h=>h)
 boxes:=h.boxes
 itr:=fun i q pos ht=>by
  obtain⟨u,hu,hI⟩:=h.itr i q pos ht;exact⟨u,hu,hI.mono (fun _ _ _=>rfl) (fun _ _ _ hz _=>hz) (fun _ _ hq=>hq)⟩
theorem map_get_range (ops:Array Oper):(List.range ops.size).map (ops[·]?)=ops.toList.map some:=by
 apply List.ext_getElem?;intro i;simp only[List.getElem?_map]
 by_cases hi:i<ops.size
 ·rw[List.getElem?_range hi,List.getElem?_eq_getElem (by simpa using hi)];simp[hi]
 ·rw[List.getElem?_eq_none (by simpa using hi),List.getElem?_eq_none (by simpa using hi)];rfl
theorem evOpsU_evOps0 [Globals] {U:List Nat}{ops:Array Oper}:∀ {l:List Oper} {s s':St},evOpsU call ty U l s=some s'→evOps call ty ops l s=some s'
 | [],s,s',h=>h
 | o::l,s,s',h=>by
  simp only[evOpsU] at h
  split at h
  ·rename_i hc;simp only[Bool.and_eq_true,Option.isNone_iff_eq_none] at hc;rw[Option.bind_eq_some_iff] at h;obtain⟨s1,h1,h2⟩:=h;simp only[evOps,guardOf,hc.1,h1];exact evOpsU_evOps0 h2
  ·cases h
def evLs [Globals] (call:CallF)(ty:Tys)(u:Option (List Nat))(ops:Array Oper)(l:List Oper)(s:St):Option (Ex × St):=match u with
 | none=>(evOps call ty ops l s).map fun s=>(.norm,s)
 | some U=>if isP U then evOpsP call ty ops l s else (evOps call ty ops l s).map fun s=>(.norm,s)
theorem evRg_evLs [Globals] {u:Option (List Nat)}{ops:Array Oper}{s:St}{r:Ex × St}(h:evRg call ty u ops s=some r):evLs call ty u ops ops.toList s=some r:=by
 unfold evRg at h;unfold evLs
 split at h
 ·exact h
 ·split at h
  ·rename_i hm;simp only[if_pos hm];exact h
  ·rename_i hm;simp only[if_neg hm];rw[Option.map_eq_some_iff] at h ⊢;obtain⟨s1,h1,h2⟩:=h;exact⟨s1,evOpsU_evOps0 h1,h2⟩
def Anyhow [Globals] (P:Program)(ty:Tys)(call:CallF)(kp:Nat→Option (List Nat))(good:Nat→Array Oper→Bool):Prop:=
 ∀ (w0:World) (B:Bs) (f0 fz:Nat→Prop) (ρ:Nat→Option Loc) (s:St) (r:Ex × St) (tm:Array Value) (w:World) (id:Nat) (ops:Array Oper) (t:Nat),B.n≤w0.heap.size→good id ops=true→Rel w0 B f0 fz ρ (enter ops.toList (tidy (kp id) s)) tm w →
  evRg call ty (kp (30000+id)) ops (enter ops.toList (tidy (kp id) s))=some r→∃ l:List Oper,(Region.schedule (P.follows .mixedOrders) ops t).map (ops[·]?)=l.map some∧evLs call ty (kp (30000+id)) ops l (enter ops.toList (tidy (kp id) s))=some r
theorem After.rel [Globals] {r:Ex × St}{tm:Array Value}{w:World}(h:After w0 B f0 r tm w)(hp:∀ t cs,r.1≠.pan t cs):∃ fz ρ,Rel w0 B f0 fz ρ r.2 tm w:=by
 unfold After at h
 split at h
 ·rename_i t cs e; exact absurd e (hp t cs)
 ·exact h
theorem pkOf_call [Globals] {o:Oper}{f:FuncId}{all:Bool}(hpk:pkOf o=.call f all):∃ c,o.op=.call c∧c.callee=.value (.func f):=by
 unfold pkOf at hpk
 split at hpk
 ·cases hpk
 ·rename_i c ho;refine⟨c,ho,?_⟩
  split at hpk
  ·rename_i g b hl
   split at hpk
   ·injection hpk with e1 e2;subst e1;unfold lendOf at hl
    split at hl
    ·rename_i g' hg';rw[Option.map_eq_some_iff] at hl;obtain⟨b',_,e⟩:=hl;injection e with e1 _;rw[hg',e1]
    ·cases hl
   ·cases hpk
  ·split at hpk<;>cases hpk
 ·cases hpk
theorem panOf_val {w:World}{fz:Nat→Prop}{ρ:Nat→Option Loc}{v:Value}{t:T}{p:Nat × List C}(h:RepT w fz ρ v t)(hp:panOf t=some p):v=panV p.1 p.2:=by
 unfold panOf at hp
 split at hp
 ·rename_i u vs;injection hp with hp;subst hp;have h:RepC w fz ρ v (.lit (.iface u (.agg vs))):=h
  cases h with
  | frz h=>
   cases h
   simp only[panV,List.map_map];congr;apply Array.ext';rw[List.toList_toArray];exact (List.map_id'' (fun _=>rfl) _).symm
 ·cases hp
theorem evOpsP_sound [Globals] (hty:∀ t y,ty t=some y→Ty.of P t=some y)(hcall:call.ok P)(hB:B.n≤w0.heap.size){ops:Array Oper}{Q:Exit→Act→World→Prop}:∀ {l:List Oper} {idxs:List Nat} {fz:Nat→Prop} {ρ:Nat→Option Loc} {s:St} {a:Act} {w:World},Rel w0 B f0 fz ρ s a.tmps w →
  idxs.map (ops[·]?)=l.map some→∀ {r:Ex × St},evOpsP call ty ops l s=some r→(∀ tm' w',After w0 B f0 r tm' w'→Q r.1.toExit ⟨tm',a.defers⟩ w')→wpOps P ops Q idxs a w
 | [],idxs,fz,ρ,s,a,w,hrel,hi,r,h,hq=>by
  cases idxs with
  | nil=>
   simp only[evOpsP,Option.some.injEq] at h;subst h;exact hq _ _ ⟨_,_,hrel⟩
  | cons i rest=>simp at hi
 | o::l,idxs,fz,ρ,s,a,w,hrel,hi,r,h,hq=>by
  cases idxs with
  | nil=>simp at hi
  | cons i rest=>
   simp only[List.map_cons,List.cons.injEq] at hi;obtain⟨hi,hrest⟩:=hi;simp only[wpOps,hi];simp only[evOpsP] at h
   split at h
   ·cases h
   ·rename_i hg;rw[guardOf_wanted hrel hg];simp only[Bool.false_eq_true,if_false];have hR:∃ ρ',Rel w0 B f0 fz ρ' (putT s o.dst (.tup [])) (a.put o.dst undef).tmps w:=by
     unfold putT
     cases hd:o.dst with
     | none=>exact⟨ρ,hrel⟩
     | some d=>exact⟨ρ,hrel.put d (t:=.tup []) ⟨#[],rfl,rfl,fun i t h=>by simp at h⟩ rfl⟩
    obtain⟨ρ',hR⟩:=hR;have hdf:(a.put o.dst undef).defers=a.defers:=by cases o.dst<;>rfl
    exact evOpsP_sound hty hcall hB hR hrest h (fun tm' w' hr=>by rw[hdf]; exact hq _ _ hr)
   ·rename_i hg;rw[guardOf_wanted hrel hg];simp only[if_true];left
    split at h
    ·rw[Option.bind_eq_some_iff] at h;obtain⟨s1,hs1,h⟩:=h;refine evOp_sound hty hcall hB hrel hs1 (fun fz' ρ' tm' w' hr=>?_);exact evOpsP_sound hty hcall hB hr hrest h hq
    ·rename_i x hpk;have hrun:∀ p,panOf (opd s.tm x)=some p→(execOp a.eval o).run P w=.halt (.panic (panV p.1 p.2)) w:=fun p hp=>by
      have hv:=panOf_val (opd_rep hrel x) hp;unfold pkOf at hpk
      split at hpk
      ·rename_i y ho;injection hpk with hpk;subst hpk;simp only[execOp,ho,hv];rfl
      ·rename_i c ho
       split at hpk
       ·split at hpk<;>cases hpk
       ·split at hpk
        ·rename_i y hc ha;injection hpk with hpk;subst hpk;have hargs:c.args=#[y]:=by rw[← Array.toArray_toList (xs:=c.args),ha]
         simp only[execOp,ho,resolve,hc,hargs,Sem.run_bind,Sem.run_pure,Result.andThen_ok,Array.map_singleton,invoke,hv];rfl
        ·cases hpk
      ·cases hpk
     cases hp:panOf (opd s.tm x) with
     | none=>rw[hp] at h; cases h
     | some p=>
      rw[hp] at h;injection h with h;subst h;unfold Oper.wp;rw[hrun p hp,Oper.upon_panic];exact hq _ _ hrel.below
    ·rename_i f all hpk
     split at h
     ·cases h
     ·rename_i d hd;rw[Option.bind_eq_some_iff] at h;obtain⟨q,hq1,h⟩:=h;obtain⟨c,ho,hc⟩:=pkOf_call hpk;have ha:opArgs o=c.args.toList:=by unfold opArgs; rw[ho]
      rw[ha] at hq1;refine evLP_sound hcall hB hrel ho hc hd (lentHs_nodup _ _ _) hq1 (fun s' fz' ρ' tm' w' e hr=>?_) (fun p w' e hp=>?_)
      ·subst e;exact evOpsP_sound hty hcall hB hr hrest h hq
      ·subst e;injection h with h;subst h;exact hq _ _ hp
theorem evLs_sound [Globals] (hty:∀ t y,ty t=some y→Ty.of P t=some y)(hcall:call.ok P)(hB:B.n≤w0.heap.size){u:Option (List Nat)}{ops:Array Oper}{Q:Exit→Act→World→Prop}{l:List Oper}{idxs:List Nat}{fz:Nat→Prop}{ρ:Nat→Option Loc}{s:St}{a:Act}{w:World}(hrel:Rel w0 B f0 fz ρ s a.tmps w)
  (hi:idxs.map (ops[·]?)=l.map some) {r:Ex × St} (h:evLs call ty u ops l s=some r) (hq:∀ tm' w',After w0 B f0 r tm' w'→Q r.1.toExit ⟨tm',a.defers⟩ w'):wpOps P ops Q idxs a w:=by
 have plain:(evOps call ty ops l s).map (fun s=>(Ex.norm,s))=some r→wpOps P ops Q idxs a w:=fun h=>by
  rw[Option.map_eq_some_iff] at h;obtain⟨s1,h1,rfl⟩:=h;exact evOps_sound hty hcall hB hrel hi h1 fun fz' ρ' tm' w' hr=>hq _ _ ⟨_,_,hr⟩
 unfold evLs at h
 split at h
 ·exact plain h
 ·split at h
  ·exact evOpsP_sound hty hcall hB hrel hi h hq
  ·exact plain h
def LoopWp (P:Program)(c:Code)(Q:Exit→Act→World→Prop)(a:Act)(w:World):Prop:=
 ∀ (b:Frame) (k:List Item) (cs:List Frame),∃ e a' w',Q e a' w'∧Arrives P (lone (b.at a (.code c::.inLoop c::k)) cs w) b k cs e a' w'
theorem wp_of_loopWp {c:Code}{Q:Exit→Act→World→Prop}{a:Act}{w:World}(h:LoopWp P c Q a w):(Code.loop c).wp P Q a w:=by
 intro b k cs;obtain⟨e,a',w',hq,harr⟩:=h b k cs;exact⟨e,a',w',hq,.of_steps (.one step_loop) harr⟩
theorem loopWp_round {c:Code}{Q:Exit→Act→World→Prop}{a:Act}{w:World}(h:c.wp P (Exit.then (fun a' w'=>LoopWp P c Q a' w') Q) a w):LoopWp P c Q a w:=by
 intro b k cs;obtain⟨e,a₁,w₁,hq,harr⟩:=h b (.inLoop c::k) cs
 cases e with
 | normal=>
  obtain⟨e₂,a₂,w₂,hq₂,harr₂⟩:=hq b k cs;exact⟨e₂,a₂,w₂,hq₂,.of_steps (Steps.trans harr (.one step_inLoop)) harr₂⟩
 | exit id=>exact⟨_,a₁,w₁,hq,.pass (x:=.inLoop c) rfl (fun _ _=>.inl (by simp)) harr⟩
 | goto l=>exact⟨_,a₁,w₁,hq,.pass (x:=.inLoop c) rfl (fun _ _=>.inl (by simp)) harr⟩
 | ret=>exact⟨_,a₁,w₁,hq,.pass (x:=.inLoop c) rfl (fun _ _=>.inl (by simp)) harr⟩
 | panic ch=>exact⟨_,a₁,w₁,hq,.pass (x:=.inLoop c) rfl (fun _ _=>.inl (by simp)) harr⟩
 | outgrown=>exact⟨_,a₁,w₁,hq,.pass (x:=.inLoop c) rfl (fun _ _=>.inl (by simp)) harr⟩
def CodeOwes [Globals] (P:Program)(good:Nat→Array Oper→Bool)(wp:(Exit→Act→World→Prop)→Act→World→Prop)(c:Code)(s:St)(r:Ex × St):Prop:=
 okCode good c=true→∀ (w0:World) (B:Bs) (f0 fz:Nat→Prop) (ρ:Nat→Option Loc) (a:Act) (w:World),B.n≤w0.heap.size→Rel w0 B f0 fz ρ s a.tmps w→∀ Q:Exit→Act→World→Prop,
  (∀ tm' w',After w0 B f0 r tm' w'→Q r.1.toExit ⟨tm',a.defers⟩ w')→wp Q a w
theorem evCode_sound [Globals] {good:Nat→Array Oper→Bool}(hty:∀ t y,ty t=some y→Ty.of P t=some y)(hcall:call.ok P)(hany:Anyhow P ty call kp good):
  (∀ c s r,evCode call ty kp c s=some r→CodeOwes P good (fun Q a w=>c.wp P Q a w) c s r)∧(∀ c s r,evLoop call ty kp c s=some r→CodeOwes P good (fun Q a w=>LoopWp P c Q a w) c s r):=by
 apply evCode.mutual_partial_correctness call ty kp (fun c s r=>CodeOwes P good (fun Q a w=>c.wp P Q a w) c s r) (fun c s r=>CodeOwes P good (fun Q a w=>LoopWp P c Q a w) c s r)
 ·intro ec el hc hl c s r h hok w0 B f0 fz ρ a w hB hrel Q hq
  cases c with
  | skip=>
   simp only[Option.some.injEq] at h;subst h;exact wp_skip (hq _ _ ⟨_,_,hrel⟩)
  | label l=>
   simp only[Option.some.injEq] at h;subst h;exact wp_label (hq _ _ ⟨_,_,hrel⟩)
  | region id ops d=>
   obtain⟨fz0,ρ0,hrel⟩:=tidy_sound (kp id) hrel;simp only at h
   cases d with
   | false=>
    obtain⟨fz',ρ',hR⟩:=toEvict_sound hrel ops.toList;exact wp_region (evLs_sound hty hcall hB hR (map_get_range ops) (evRg_evLs h) hq)
   | true=>
    refine wp_region_draw (fun t=>?_);obtain⟨fz',ρ',hR⟩:=toEvict_sound hrel.drew ops.toList;obtain⟨l,hl,hev⟩:=hany w0 B f0 fz' ρ' s r a.tmps w.drew id ops t hB (by simpa[okCode] using hok) hR h;exact evLs_sound hty hcall hB hR hl hev hq
  | seq x y=>
   simp only[Option.bind_eq_bind,Option.bind_eq_some_iff] at h;obtain⟨r1,h1,h2⟩:=h;simp only[okCode,Bool.and_eq_true] at hok;refine wp_seq (hc _ _ _ h1 hok.1 w0 B f0 fz ρ a w hB hrel _ (fun tm' w' hr=>?_))
   split at h2
   ·rename_i hr1;rw[hr1];unfold After at hr;rw[hr1] at hr;obtain⟨fz',ρ',hr⟩:=hr;exact hc _ _ _ h2 hok.2 w0 B f0 fz' ρ' _ w' hB hr Q hq
   ·rename_i hr1;injection h2 with h2;subst h2;have hq':=hq tm' w' hr
    cases he:r1.1 with
    | norm=>exact absurd he hr1
    | _=>first | exact hq' | (rw[he] at hq'; exact hq') | (rw[he] at hq' ⊢; exact hq')
  | cond c x y=>
   simp only at h;simp only[okCode,Bool.and_eq_true] at hok
   split at h
   ·rename_i b hb;have hbv:a.eval c=.bool b:=opd_lit hrel hb
    split at h
    ·rename_i hbt;subst hbt;exact wp_cond_true hbv (hc _ _ _ h hok.1 w0 B f0 fz ρ a w hB hrel Q hq)
    ·rename_i hbt;have:b=false:=by simpa using hbt
     subst this;exact wp_cond_false hbv (hc _ _ _ h hok.2 w0 B f0 fz ρ a w hB hrel Q hq)
   ·cases h
  | block id c=>
   simp only[Option.bind_eq_bind,Option.bind_eq_some_iff] at h;obtain⟨r1,h1,h2⟩:=h;simp only[okCode] at hok;refine wp_block (hc _ _ _ h1 hok w0 B f0 fz ρ a w hB hrel _ (fun tm' w' hr=>?_))
   split at h2
   ·rename_i id' he;rw[he];unfold After at hr;rw[he] at hr;simp only[Ex.toExit,Exit.inBlock]
    split at h2
    ·rename_i hid;injection h2 with h2;subst h2;rw[if_pos hid];exact hq _ _ hr
    ·rename_i hid;injection h2 with h2;subst h2;rw[if_neg hid];exact hq _ _ hr
   ·rename_i hne;injection h2 with h2;subst h2;have hq':=hq tm' w' hr
    cases he:r1.1 with
    | exit id'=>exact absurd he (hne id')
    | _=>first | exact hq' | (rw[he] at hq'; exact hq') | (rw[he] at hq' ⊢; exact hq')
  | loop c=>exact wp_of_loopWp (hl _ _ _ h hok w0 B f0 fz ρ a w hB hrel Q hq)
  | exit id=>
   simp only[Option.some.injEq] at h;subst h;obtain⟨fz1,ρ1,hrel⟩:=tidy_sound (kp (20000+id)) hrel;exact wp_exit (hq _ _ ⟨_,_,hrel⟩)
  | ret=>
   simp only[Option.some.injEq] at h;subst h;obtain⟨fz1,ρ1,hrel⟩:=tidy_sound (kp 9999) hrel;exact wp_ret (hq _ _ ⟨_,_,hrel⟩)
  | rangeFunc _ _ _ _=>cases h
  | scope _=>cases h
  | goto _=>cases h
  | refuse _=>cases h
 ·intro ec el hc hl c s r h hok w0 B f0 fz ρ a w hB hrel Q hq;simp only[Option.bind_eq_bind,Option.bind_eq_some_iff] at h;obtain⟨r1,h1,h2⟩:=h;obtain⟨fz1,ρ1,hrel⟩:=tidy_sound (kp (headOf c)) hrel;refine loopWp_round (hc _ _ _ h1 hok w0 B f0 fz1 ρ1 a w hB hrel _ (fun tm' w' hr=>?_))
  split at h2
  ·rename_i hr1;rw[hr1];unfold After at hr;rw[hr1] at hr;obtain⟨fz',ρ',hr⟩:=hr;exact hl _ _ _ h2 hok w0 B f0 fz' ρ' _ w' hB hr Q hq
  ·rename_i hr1;injection h2 with h2;subst h2;have hq':=hq tm' w' hr
   cases he:r1.1 with
   | norm=>exact absurd he hr1
   | _=>first | exact hq' | (rw[he] at hq'; exact hq') | (rw[he] at hq' ⊢; exact hq')
def okProgram (good:(Nat→Option (List Nat))→Nat→Array Oper→Bool)(P:Program)(K:Nat→Option (Nat→Option (List Nat))):Prop:=∀ (f:Nat) (fn:Func) (c:Code) (kp:Nat→Option (List Nat)),K f=some kp→P.funcs[f]?=some fn→fn.body=some c→okCode (good kp) c=true
theorem lentHp_get:∀ (obs:List Ob) (i:Nat),(∀ k o,hget (lentHp i obs) k=some o→∃ j,obs[j]?=some o∧k=lentH o.box (i+j))∧∀ (j:Nat) (o:Ob),obs[j]?=some o→hget (lentHp i obs) (lentH o.box (i+j))=some o
 | [],i=>⟨fun k o hk=>by simp[lentHp,hget] at hk,fun j o hj=>by simp at hj⟩
 | o1::os,i=>by
  obtain⟨g1,g2⟩:=lentHp_get os (i+1);refine⟨fun k o hk=>?_,fun j o hj=>?_⟩
  ·simp only[lentHp,hget] at hk
   split at hk
   ·rename_i e;injection hk with hk;subst hk;exact⟨0,rfl,by rw[Nat.add_zero]; exact e.symm⟩
   ·obtain⟨j,h1,h2⟩:=g1 k o hk;exact⟨j+1,by simpa using h1,by rw[h2,show i+1+j=i+(j+1) by omega]⟩
  ·cases j with
   | zero=>
    simp at hj;subst hj;simp[lentHp,hget]
   | succ j=>
    have:=g2 j o (by simpa using hj);rw[show i+1+j=i+(j+1) by omega] at this;simp only[lentHp,hget];rw[if_neg (fun e=>by have:=(lentH_ix e).1; omega)];exact this
theorem first_tmps {fn:Func}{as:List T}{vs:Array Value}{w:World}{fz:Nat→Prop}{ρ:Nat→Option Loc}(hsz:vs.size=as.length)(hreps:∀ (i:Nat) (t:T),as[i]?=some t→∃ v,vs[i]?=some v∧RepT w fz ρ v t)(hnoI:∀ t∈as,t.noI=t):
  (vs++Array.replicate (fn.ntmps-vs.size) undef).size=(as++List.replicate (fn.ntmps-as.length) T.junk).length∧(∀ (i:Nat) (t:T),(as++List.replicate (fn.ntmps-as.length) T.junk)[i]?=some t→∃ v,(vs++Array.replicate (fn.ntmps-vs.size) undef)[i]?=some v∧RepT w fz ρ v t) ∧
  ∀ (i:Nat) (q:ByteArray) (pos:Nat),(as++List.replicate (fn.ntmps-as.length) T.junk)[i]?=some (.itr q pos)→False:=by
 refine⟨by simp[hsz],fun i t ht=>?_,fun i q pos ht=>?_⟩
 ·by_cases hi:i<as.length
  ·rw[List.getElem?_append_left hi] at ht;obtain⟨v,hv,hr⟩:=hreps i t ht;exact⟨v,by rw[Array.getElem?_append_left (by omega)]; exact hv,hr⟩
  ·rw[List.getElem?_append_right (by omega)] at ht;have hil:=(List.getElem?_eq_some_iff.1 ht).1;rw[List.length_replicate] at hil;have hm:=List.mem_of_getElem? ht;rw[List.mem_replicate] at hm;obtain⟨_,rfl⟩:=hm;exact⟨undef,by rw[Array.getElem?_append_right (by omega),Array.getElem?_replicate,if_pos (by omega)],trivial⟩
 ·by_cases hi:i<as.length
  ·rw[List.getElem?_append_left hi] at ht;have:=hnoI _ (List.mem_of_getElem? ht)
   cases this
  ·rw[List.getElem?_append_right (by omega)] at ht;have hm:=List.mem_of_getElem? ht;rw[List.mem_replicate] at hm
   cases hm.2
theorem lent_start [Globals] {fn:Func}{args:List T}{w:World}{fz:Nat→Prop}{ρ0:Nat→Option Loc}{vs:Array Value}(hsz:vs.size=(realOf args).length)(hreps:∀ (i:Nat) (t:T),(realOf args)[i]?=some t→∃ v,vs[i]?=some v∧RepT w fz ρ0 v t)(hnoI:∀ t∈realOf args,t.noI=t)(hin:LentIn w fz ρ0 (lentOf args))(hlt:∀ b,fz b→b<w.heap.size)(hglob:GlobF w fz):
  Rel w (lentBs w.heap.size ρ0) fz fz ρ0 { tm:=realOf args++List.replicate (fn.ntmps-(realOf args).length) .junk,hp:=lentHp 0 (lentOf args),fr:=[] } (vs++Array.replicate (fn.ntmps-vs.size) undef) w:=by
 obtain⟨i1,i2,i3⟩:=first_tmps (fn:=fn) hsz hreps hnoI;exact {
 size:=i1
 tmp:=i2
 dom1:=fun k l hk=>by
  obtain⟨j,o,h1,h2⟩:=hin.dom k l hk;have:=(lentHp_get (lentOf args) 0).2 j o h1;rw[Nat.zero_add] at this;exact⟨o,by simp only; rw[h2]; exact this⟩
 obj:=fun k o hk=>by
  obtain⟨j,h1,h2⟩:=(lentHp_get (lentOf args) 0).1 k o hk;rw[Nat.zero_add] at h2;rw[h2];exact hin.obj j o h1
 inj:=fun k k' b base cap sz base' cap' sz' _ _ hk hk'=>hin.inj k k' b base cap sz base' cap' sz' hk hk'
 own:=fun k b base cap sz hk=>by
  obtain⟨h1,h2⟩:=hin.own k b base cap sz hk;exact⟨h1,fun _=>⟨.inr ⟨k,base,cap,sz,hk⟩,h2⟩,fun hq=>by cases hq⟩
 fzl:=hlt
 fz0:=fun _ h=>h
 fz1:=fun _ h=>.inl h
 below:=Past.refl _ _
 frd:=fun k hk=>by cases hk
 glz:=hglob
 itr:=fun i q pos ht=>(i3 i q pos ht).elim
 boxes:=fun k l hk=>by
  have hk:(if lentNm k=true then ρ0 k else none)=some l:=hk
  split at hk
  ·rename_i hnm;obtain⟨j,o,h1,h2⟩:=hin.dom k l hk;have:=(lentHp_get (lentOf args) 0).2 j o h1;rw[Nat.zero_add] at this;refine⟨hnm,hk,o,by simp only; rw[h2]; exact this,?_⟩
   cases hb:o.box with
   | true=>rfl
   | false=>
    rw[h2,hb] at hnm;unfold lentNm lentH at hnm;simp at hnm
  ·cases hk }
theorem evFn0_sound [Globals] [Prims] {good:(Nat→Option (List Nat))→Nat→Array Oper→Bool}(hty:∀ t y,ty t=some y→Ty.of P t=some y)(hok:okProgram good P K)(hcall:call.ok P)(hany:∀ kp,Anyhow P ty call kp (good kp))(hprim:PrimOK P){f:FuncId}{args:List T}{r:T × List Ob}(h:evFn0 P ty K call f args=some r):
  CallOK P f args r ∧ ∃ fn c, P.funcs[f]? = some fn ∧ (fn.name == "runtime.NumGoroutine") = false ∧ fn.body = some c := by
 unfold evFn0 at h
 split at h
 ·exact hprim f args r h
 rename_i kp hkp
 split at h
 ·cases h
 rename_i fn hfn
 split at h
 ·cases h
 rename_i c hbody
 split at h
 ·cases h
 rename_i hnm;refine⟨?_,fn,c,hfn,by simpa using hnm,hbody⟩
 split at h
 ·rename_i hlo;have hlo:lentOf args=[]:=by simpa using hlo
  refine⟨fun _=>?_,fun hn=>absurd hlo hn⟩
  split at h
  ·cases h
  ·rename_i x hx;have hout:outT ty fn x.2=some r∧(∀ id,x.1≠.exit id)∧∀ t cs,x.1≠.pan t cs:=by
    split at h
    ·cases h
    ·cases h
    ·rename_i h1 h2; exact⟨h,h1,h2⟩
   intro w fz vs hsz hreps hnoI hlt hglob;refine calls_of_wp hfn hbody ?_
   let a:Act:={ tmps:=vs++Array.replicate (fn.ntmps-vs.size) undef,defers:=[] }
   obtain⟨i1,i2,i3⟩:=first_tmps (fn:=fn) hsz hreps hnoI;have hrel:Rel w (Bs.bare w.heap.size) fz fz (fun _=>none) { tm:=args++List.replicate (fn.ntmps-args.length) .junk,hp:=[],fr:=[] } a.tmps w:={
    size:=i1
    tmp:=i2
    dom1:=fun k l hk=>by cases hk
    obj:=fun k o hk=>by cases hk
    inj:=fun k k' b base cap sz base' cap' sz' _ _ hk _=>by cases hk
    own:=fun k b base cap sz hk=>by cases hk
    fzl:=hlt
    fz0:=fun _ h=>h
    fz1:=fun _ h=>.inl h
    below:=Past.refl _ _
    frd:=fun k hk=>by cases hk
    glz:=hglob
    itr:=fun i q pos ht=>(i3 i q pos ht).elim
    boxes:=fun k l hk=>by cases hk }
   refine (evCode_sound hty hcall (hany kp)).1 _ _ _ hx (hok f fn c kp hkp hfn hbody) w (Bs.bare w.heap.size) fz fz _ a w (Nat.le_refl _) hrel _ (fun tm' w' hr=>?_);obtain⟨fz',ρ',hr⟩:=hr.rel hout.2.2;obtain⟨v,fz2,ρ2,hrun,hO⟩:=outT_sound (a:=⟨tm',[]⟩) hty hr hout.1;have hpost:bodyPost P fn (fun e w'=>∃ v fz' ρ',e=.returned v∧Out w w' fz fz' ρ' v r) .ret ⟨tm',[]⟩ w':=⟨rfl,v,hrun,v,fz2,ρ2,rfl,hO⟩
   cases he:x.1 with
   | norm=>exact hpost
   | exit id=>exact absurd he (hout.2.1 id)
   | pan t cs=>exact absurd he (hout.2.2 t cs)
   | ret=>exact hpost
 ·rename_i hlo;refine⟨fun hn=>by rw[hn] at hlo; exact absurd rfl hlo,fun _=>?_⟩
  split at h
  ·cases h
  ·rename_i x hx;have hout:outL ty fn (lentOf args) x.2=some r∧(∀ id,x.1≠.exit id)∧∀ t cs,x.1≠.pan t cs:=by
    split at h
    ·cases h
    ·cases h
    ·rename_i h1 h2; exact⟨h,h1,h2⟩
   intro w fz ρ0 vs hsz hreps hnoI hin hlt hglob;refine calls_of_wp hfn hbody ?_
   let a:Act:={ tmps:=vs++Array.replicate (fn.ntmps-vs.size) undef,defers:=[] }
   have hrel:=lent_start (fn:=fn) hsz hreps hnoI hin hlt hglob;refine (evCode_sound hty hcall (hany kp)).1 _ _ _ hx (hok f fn c kp hkp hfn hbody) w (lentBs w.heap.size ρ0) fz fz _ a w (Nat.le_refl _) hrel _ (fun tm' w' hr=>?_);obtain⟨fz',ρ',hr⟩:=hr.rel hout.2.2;obtain⟨v,fz2,ρ2,hrun,hO⟩:=outL_sound (a:=⟨tm',[]⟩) hty hin hr hout.1;have hpost:bodyPost P fn (fun e w'=>∃ v fz' ρ',e=.returned v∧OutL w w' fz fz' ρ0 ρ' v (lentOf args) r) .ret ⟨tm',[]⟩ w':=⟨rfl,v,hrun,v,fz2,ρ2,rfl,hO⟩
   cases he:x.1 with
   | norm=>exact hpost
   | exit id=>exact absurd he (hout.2.1 id)
   | pan t cs=>exact absurd he (hout.2.2 t cs)
   | ret=>exact hpost
theorem evFnP_sound [Globals] {good:(Nat→Option (List Nat))→Nat→Array Oper→Bool}(hty:∀ t y,ty t=some y→Ty.of P t=some y)(hok:okProgram good P K)(hcall:call.ok P)(hany:∀ kp,Anyhow P ty call kp (good kp)){f:FuncId}{args:List T}{r:T × List Ob}(h:evFnP P ty K call f args=some r):
  CallPn P f args r ∧ ∃ fn c, P.funcs[f]? = some fn ∧ (fn.name == "runtime.NumGoroutine") = false ∧ fn.body = some c := by
 unfold evFnP at h
 split at h
 ·cases h
 rename_i kp hkp
 split at h
 ·cases h
 rename_i fn hfn
 split at h
 ·cases h
 rename_i c hbody
 split at h
 ·cases h
 rename_i hnm;simp only[Bool.or_eq_true,not_or,Bool.not_eq_true] at hnm;refine⟨⟨fun e=>(by rw[e] at hnm; exact Bool.noConfusion hnm.2),?_⟩,fn,c,hfn,hnm.1,hbody⟩
 split at h
 ·cases h
 rename_i x hx;intro w fz ρ0 vs hsz hreps hnoI hin hlt hglob;refine calls_of_wp hfn hbody ?_
 let a:Act:={ tmps:=vs++Array.replicate (fn.ntmps-vs.size) undef,defers:=[] }
 have hrel:=lent_start (fn:=fn) hsz hreps hnoI hin hlt hglob;refine (evCode_sound hty hcall (hany kp)).1 _ _ _ hx (hok f fn c kp hkp hfn hbody) w (lentBs w.heap.size ρ0) fz fz _ a w (Nat.le_refl _) hrel _ (fun tm' w' hr=>?_)
 split at h
 ·cases h
 ·rename_i t cs he;injection h with h;subst h;unfold After at hr;rw[he] at hr;rw[he];exact⟨rfl,.inl ⟨(t,cs),by simp[unR,panR],rfl,hr⟩⟩
 ·rename_i h1 h2;obtain⟨fz',ρ',hr⟩:=hr.rel h2;rw[Option.map_eq_some_iff] at h;obtain⟨r',hr',rfl⟩:=h;obtain⟨v,fz2,ρ2,hrun,hO⟩:=outL_sound (a:=⟨tm',[]⟩) hty hin hr hr';have hpost:bodyPost P fn (fun e w'=>(∃ p,unR (okR r')=some (.inl p)∧e=.panicked [{ v:=panV p.1 p.2,recovered:=false }]∧Past (lentBs w.heap.size ρ0) w w')∨∃ r1 v fz' ρ',unR (okR r')=some (.inr r1)∧e=.returned v∧OutL w w' fz fz' ρ0 ρ' v (lentOf args) r1) .ret ⟨tm',[]⟩ w':=⟨rfl,v,hrun,.inr ⟨r',v,fz2,ρ2,rfl,rfl,hO⟩⟩
  cases he:x.1 with
  | norm=>exact hpost
  | exit id=>exact absurd he (h1 id)
  | pan t cs=>exact absurd he (h2 t cs)
  | ret=>exact hpost
theorem evFn_sound [Globals] [Prims] {good:(Nat→Option (List Nat))→Nat→Array Oper→Bool}(hty:∀ t y,ty t=some y→Ty.of P t=some y)(hok:okProgram good P K)(hprim:PrimOK P)(hcall:call.ok P)(hany:∀ kp,Anyhow P ty call kp (good kp)):CallF.ok P (evFn P ty K call):=by
 refine⟨hcall.1,fun f args r h=>?_⟩;unfold evFn at h;unfold CallAny
 split at h
 ·rename_i hm;rw[if_pos hm];exact evFnP_sound hty hok hcall hany h
 ·rename_i hm;rw[if_neg hm];exact evFn0_sound hty hok hcall hany hprim h
theorem evCallN_sound [Globals] [Prims] {good:(Nat→Option (List Nat))→Nat→Array Oper→Bool}(hix:EnvOK P)(hty:∀ t y,ty t=some y→Ty.of P t=some y)(hok:okProgram good P K)(hany:∀ call,call.ok P→∀ kp,Anyhow P ty call kp (good kp)):∀ n,CallF.ok P (evCallN P ty K n)
 | 0=>⟨hix.1,fun f args r h=>by cases h⟩
 | n+1=>evFn_sound hty hok hix.2 (evCallN_sound hix hty hok hany n) (hany _ (evCallN_sound hix hty hok hany n))
theorem evCall_sound [Globals] [Prims] {good:(Nat→Option (List Nat))→Nat→Array Oper→Bool}(hix:EnvOK P)(hty:∀ t y,ty t=some y→Ty.of P t=some y)(hok:okProgram good P K)(hany:∀ call,call.ok P→∀ kp,Anyhow P ty call kp (good kp)):CallF.ok P (evCall P ty K):=by
 refine⟨hix.1,?_⟩;intro f args r h;obtain⟨n,hn⟩:=evCall_iff.1 h;exact (evCallN_sound hix hty hok hany n).2 f args r hn
end
end Go.Vabs

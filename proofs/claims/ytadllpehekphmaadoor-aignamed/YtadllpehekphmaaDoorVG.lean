/- A library: each operation of the abstract interpreter is as the model's, V: blocks that are made. No condition. -/
import Derived.Test.YtadllpehekphmaaDoorVE
import Derived.Laws.MakeOwn
set_option linter.unusedSimpArgs false
set_option linter.unusedVariables false
namespace Go.Vabs
open Go.RowKit
def NewAt (w w':World)(l:Loc):Prop:=(w'=w∧l=.nil)∨∃ obj cap sz,w'.heap=w.heap.push obj∧w'.os=w.os∧w'.tape=w.tape∧w'.output=w.output∧l=.at w.heap.size 0 cap sz
theorem NewAt.alloc (w:World)(obj:Obj)(cap sz:Nat):NewAt w (w.alloc obj) (.at w.heap.size 0 cap sz):=.inr ⟨obj,cap,sz,rfl,rfl,rfl,rfl,rfl⟩
theorem NewAt.heap {w w':World}{l:Loc}(h:NewAt w w' l){b:Nat}(hb:b<w.heap.size):w'.heap[b]?=w.heap[b]?:=by
 rcases h with ⟨rfl,_⟩ | ⟨obj,cap,sz,h,_⟩
 ·rfl
 ·rw[h,Array.getElem?_push,if_neg (by omega)]
theorem NewAt.size {w w':World}{l:Loc}(h:NewAt w w' l):w.heap.size≤w'.heap.size:=by
 rcases h with ⟨rfl,_⟩ | ⟨obj,cap,sz,h,_⟩
 ·exact Nat.le_refl _
 ·rw[h]; simp
theorem NewAt.own {w w':World}{l:Loc}(h:NewAt w w' l):∀ b base cap sz,l=.at b base cap sz→b=w.heap.size∧b<w'.heap.size:=fun b base cap sz hl=>by
 rcases h with ⟨_,rfl⟩ | ⟨obj,cap',sz',h,_,_,_,rfl⟩
 ·cases hl
 ·cases hl; exact⟨rfl,by rw[h]; simp⟩
theorem NewAt.below {w w':World}{l:Loc}(h:NewAt w w' l){B:Bs}{w0:World}(hb:Past B w0 w)(hB:B.n≤w.heap.size):Past B w0 w':=by
 rcases h with ⟨rfl,_⟩ | ⟨obj,cap,sz,h,h1,h2,h3,_⟩
 ·exact hb
 ·exact hb.trans ⟨h1,h2,h3,by rw[h]; simp,fun k hk=>by have:=Bs.notOwns hk; rw[h,Array.getElem?_push,if_neg (by omega)]⟩
section
variable {P:Program} {ty:Tys} {w0:World} {B:Bs} {f0 fz:Nat→Prop} {ρ:Nat→Option Loc} {s:St} {a:Act} {w:World} {o:Oper}
abbrev New (P:Program) (fz:Nat→Prop) (ρ:Nat→Option Loc) (a:Act) (w:World) (o:Oper) (d:Nat) (t:T) (ob:Ob):Prop:=
 ∃ v w' l,(execOp a.eval o).run P w=.ok (.value v) w'∧NewAt w w' l∧∀ ρ',ρ' d=some l→(∀ k l,ρ k=some l→ρ' k=some l)→RepT w' fz ρ' v t∧RepO w' fz ρ' l ob
theorem heap_alloc (w:World)(o:Obj){k:Nat}(h:k<w.heap.size):(w.alloc o).heap[k]?=w.heap[k]?:=Below.heap_alloc w o k h
theorem heap_alloc_new (w:World)(o:Obj):(w.alloc o).heap[w.heap.size]?=some o:=by
 show (w.heap.push o)[w.heap.size]?=some o;simp
theorem repO_new {cs:Array Value}{e:TypeId}{box free:Bool}{sz n:Nat}{es:List (List C)}{ρ':Nat→Option Loc}(hfz:∀ b,fz b→b<w.heap.size)(hr:∀ k l,ρ k=some l→ρ' k=some l)
  (hes:∀ x∈es,x.length=sz) (hfree:free=true→∀ x∈es,∀ c∈x,C.free c=true) (hn:es.length≤n) (hsz:n*sz≤cs.size) (hbx:box=true→cs.size=sz)
  (hc:∀ i j x c,es[i]?=some x→x[j]?=some c→∃ v,cs[i*sz+j]?=some v∧RepC w fz ρ v c):RepO (w.alloc (.cells cs e)) fz ρ' (.at w.heap.size 0 n sz) ⟨box,free,e,sz,es⟩:=by
 refine⟨hes,hfree,rfl,hn,cs,(0,0),heap_alloc_new _ _,by simpa using hsz,⟨Or.inl rfl,fun h=>⟨rfl,hbx h⟩⟩,fun i j x c hx hcx=>?_⟩;obtain⟨v,hv,hrep⟩:=hc i j x c hx hcx;exact⟨v,by simpa using hv,hrep.mono (fun b hb=>heap_alloc _ _ (hfz b hb)) (fun b h=>h) hr⟩
theorem new_nil (hty:∀ t y,ty t=some y→Ty.of P t=some y){x:Operand}{e:TypeId}{sz d:Nat}(ho:o.op=.move x∨o.op=.assign x)(hx:nilConst x=true)(he:Vabs.elemOf ty o.type=some (e,sz)):
  New P fz ρ a w o d (.c (.ref d 0 0)) ⟨false,true,e,sz,[]⟩:=by
 have hv:a.eval x=.slice none 0 0:=by
  unfold nilConst at hx
  split at hx
  ·rfl
  ·cases hx
 refine⟨.slice none 0 0,w,.nil,?_,.inl ⟨rfl,rfl⟩,fun ρ' hd hr=>⟨RepC.nil d hd,by simp,by simp,rfl,rfl⟩⟩
 rcases ho with ho | ho<;>simp[execOp,ho,hv]
theorem val_nilConst {x:Operand}(ho:o.op=.move x∨o.op=.assign x)(hx:nilConst x=true):Val P fz ρ a w o (.c (.lit (.slice none 0 0))):=by
 have hv:a.eval x=.slice none 0 0:=by
  unfold nilConst at hx
  split at hx
  ·rfl
  ·cases hx
 refine⟨.slice none 0 0,?_,rep_lit trivial⟩
 rcases ho with ho | ho<;>simp[execOp,ho,hv]
theorem lits_some {vs:List Value}{cs:List C}(h:lits vs=some cs):(∀ v∈vs,isCell v)∧cs=vs.map .lit:=by
 unfold lits at h
 split at h
 ·rename_i hall;injection h with h;exact⟨fun v hv=>isCellB_iff.1 (List.all_eq_true.1 hall v hv),h.symm⟩
 ·cases h
theorem lits_rep {w:World}{fz:Nat→Prop}{ρ:Nat→Option Loc}{vs:List Value}{cs:List C}(h:lits vs=some cs):RepL w fz ρ vs cs:=by
 obtain⟨h1,rfl⟩:=lits_some h;refine⟨by simp,fun i v c hv hc=>?_⟩;rw[List.getElem?_map,hv] at hc;injection hc with hc;subst hc;exact .frz (.lit _ (h1 v (List.mem_of_getElem? hv)))
theorem lits_free {vs:List Value}{cs:List C}(h:lits vs=some cs):∀ c∈cs,C.free c=true:=by
 obtain⟨_,rfl⟩:=lits_some h;intro c hc;obtain⟨v,_,rfl⟩:=List.mem_map.1 hc;rfl
theorem new_box [Globals] (hrel:Rel w0 B f0 fz ρ s a.tmps w){v:Value}{cs:List C}{e:TypeId}{d:Nat}{free:Bool}(hv:RepL w fz ρ v.cells.toList cs)(hfree:free=true→∀ c∈cs,C.free c=true)
  (hrun:(execOp a.eval o).run P w=.ok (.value (.pointer (some ⟨w.heap.size,0,none⟩))) (w.alloc (.cells v.cells e))):New P fz ρ a w o d (.c (.ptr d 0 0)) ⟨true,free,e,cs.length,[cs]⟩:=by
 refine⟨_,_,.at w.heap.size 0 1 cs.length,hrun,.alloc w _ 1 cs.length,fun ρ' hd hr=>⟨?_,?_⟩⟩
 ·have:=RepC.ptr (w:=w.alloc (.cells v.cells e)) (fz:=fz) d 0 0 w.heap.size 0 1 cs.length hd;rw[Nat.zero_mul,Nat.add_zero] at this;exact this
 ·refine repO_new hrel.fzl hr (by simp) (by simpa using hfree) (by simp) (by have:=hv.1; simp at this; simp[this]) (fun _=>by have:=hv.1; simp at this; simp[this]) (fun i j x c hx hc=>?_)
  cases i with
  | zero=>
   simp only[List.getElem?_cons_zero,Option.some.injEq] at hx;subst hx;have hl:=hv.1;have hj:=(List.getElem?_eq_some_iff.1 hc).1;have:j<v.cells.toList.length:=by omega
   refine⟨v.cells.toList[j],?_,hv.2 j _ c (List.getElem?_eq_getElem this) hc⟩;rw[Nat.zero_mul,Nat.zero_add,← Array.getElem?_toList,List.getElem?_eq_getElem this]
  | succ i=>simp at hx
theorem new_alloc [Globals] (hty:∀ t y,ty t=some y→Ty.of P t=some y)(hrel:Rel w0 B f0 fz ρ s a.tmps w){e:TypeId}{y:Ty}{z:List Value}{cs:List C}{d:Nat}(ho:o.op=.alloc e)(ht:ty e=some y)(hz:y.zero=some z)(hl:lits z=some cs):
  New P fz ρ a w o d (.c (.ptr d 0 0)) ⟨true,true,e,cs.length,[cs]⟩:=by
 obtain⟨i,dd,hi,hd,hk,hs,hb,hzz,_⟩:=Ty.of_some (hty e y ht);rw[hz] at hzz
 cases hiz:i.zero with
 | none=>rw[hiz] at hzz; cases hzz
 | some v=>
  rw[hiz,Option.map_some,Option.some.injEq] at hzz;subst hzz;refine new_box hrel (v:=v) (lits_rep hl) (fun _=>lits_free hl) ?_;simp only[execOp,ho,Instr.alloc,Sem.run_bind,run_zeroValue hi hiz,Result.andThen_ok,newVar,newRow,run_newObj,Sem.run_pure];rfl
theorem new_boxOp [Globals] (hrel:Rel w0 B f0 fz ρ s a.tmps w){e:TypeId}{x:Operand}{cs:List C}{d:Nat}(ho:o.op=.box e x)(hc:(opd s.tm x).cells=some cs):
  New P fz ρ a w o d (.c (.ptr d 0 0)) ⟨true,cs.all C.free,e,cs.length,[cs]⟩:=by
 refine new_box hrel (v:=a.eval x) (RepT.cells (opd_rep hrel x) hc) (fun h c hc=>List.all_eq_true.1 h c hc) ?_;simp only[execOp,ho,Instr.box,Sem.run_bind,Result.andThen_ok,newVar,newRow,run_newObj,Sem.run_pure];rfl
theorem over_get {α:Type}:∀ (l:List α) (off:Nat) (ds:List α) (i:Nat),(over l off ds)[i]?=if off≤i∧i<off+ds.length∧i<l.length then ds[i-off]? else l[i]?
 | [],off,ds,i=>by simp[over]
 | c::cs,0,[],i=>by
  simp only[over];rw[if_neg (by simp only[List.length_nil]; omega)]
 | c::cs,0,d::ds,0=>by simp[over]
 | c::cs,0,d::ds,i+1=>by
  simp only[over,List.getElem?_cons_succ];rw[over_get cs 0 ds i];simp
 | c::cs,n+1,ds,0=>by simp[over]
 | c::cs,n+1,ds,i+1=>by
  simp only[over,List.getElem?_cons_succ];rw[over_get cs n ds i];have:i+1-(n+1)=i-n:=by omega
  rw[this]
  by_cases h:n≤i∧i<n+ds.length∧i<cs.length
  ·rw[if_pos h,if_pos (by simp only[List.length_cons]; omega)]
  ·rw[if_neg h,if_neg (by simp only[List.length_cons]; omega)]
theorem over_length {α:Type}:∀ (l:List α) (off:Nat) (ds:List α),(over l off ds).length=l.length
 | [],off,ds=>by simp[over]
 | c::cs,0,[]=>by simp[over]
 | c::cs,0,d::ds=>by simp[over,over_length cs 0 ds]
 | c::cs,n+1,ds=>by simp[over,over_length cs n ds]
theorem RepL.over {w:World}{fz:Nat→Prop}{ρ:Nat→Option Loc}{vs us:List Value}{cs ds:List C}{off:Nat}(h1:RepL w fz ρ vs cs)(h2:RepL w fz ρ us ds):RepL w fz ρ (over vs off us) (Vabs.over cs off ds):=by
 refine⟨by rw[over_length,over_length]; exact h1.1,fun i v c hv hc=>?_⟩;rw[over_get] at hv hc;have e1:=h1.1;have e2:=h2.1
 by_cases h:off≤i∧i<off+us.length∧i<vs.length
 ·rw[if_pos h] at hv;rw[if_pos (by omega)] at hc;exact h2.2 _ v c hv hc
 ·rw[if_neg h] at hv;rw[if_neg (by omega)] at hc;exact h1.2 _ v c hv hc
theorem fold_set (off:Nat):∀ (vs:List Value) (k:Nat) (cells:Array Value),off+k+vs.length≤cells.size →
  ((vs.zipIdx k).foldl (fun (cs:Array Value) (p:Value × Nat)=>cs.setIfInBounds (off+p.2) p.1) cells).toList=over cells.toList (off+k) vs
 | [],k,cells,h=>by
  apply List.ext_getElem?;intro i;rw[over_get];simp;omega
 | v::vs,k,cells,h=>by
  simp only[List.zipIdx_cons,List.foldl_cons];rw[fold_set off vs (k+1) _ (by simp at h ⊢; omega)];apply List.ext_getElem?;intro i;rw[over_get,over_get];simp only[List.length_cons] at h ⊢;simp only[Array.length_toList,Array.size_setIfInBounds,Array.getElem?_toList,Array.getElem?_setIfInBounds]
  by_cases h1:off+(k+1)≤i∧i<off+(k+1)+vs.length∧i<cells.size
  ·rw[if_pos h1,if_pos (by omega)];rw[show i-(off+k)=(i-(off+(k+1)))+1 by omega,List.getElem?_cons_succ]
  ·rw[if_neg h1]
   by_cases h2:off+k=i
   ·subst h2;rw[if_pos rfl,if_pos (by omega),if_pos (by omega)];simp
   ·rw[if_neg h2,if_neg (by omega)]
theorem fill_rep {w:World}{fz:Nat→Prop}{ρ:Nat→Option Loc}(place:Nat→Option (Nat × Nat)):∀ (parts:List (Nat × Value)) (ps:List (Nat × T)) (cells:Array Value) (zs cs:List C),parts.length=ps.length →
  (∀ (i:Nat) (v:Nat × Value) (t:Nat × T),parts[i]?=some v→ps[i]?=some t→v.1=t.1∧RepT w fz ρ v.2 t.2)→RepL w fz ρ cells.toList zs→fills place zs ps=some cs→∃ out,Instr.fill place cells parts=some out∧RepL w fz ρ out.toList cs
 | [],[],cells,zs,cs,_,_,hz,h=>by
  simp only[fills,Option.some.injEq] at h;subst h;exact⟨cells,rfl,hz⟩
 | [],_::_,_,_,_,hl,_,_,_=>by simp at hl
 | _::_,[],_,_,_,hl,_,_,_=>by simp at hl
 | (i,v)::parts,(i',t)::ps,cells,zs,cs,hl,hr,hz,h=>by
  obtain⟨e1,hrep⟩:=hr 0 (i,v) (i',t) rfl rfl;simp only at e1 hrep;subst e1;simp only[fills] at h
  split at h
  ·rename_i off size ds hp hd
   split at h
   ·rename_i hcond;have hds:=RepT.cells hrep hd;have e2:=hds.1;have e3:=hz.1;simp only[Array.length_toList] at e2 e3;simp only[Instr.fill,hp];rw[if_neg (by simp; omega)];refine fill_rep place parts ps _ (over zs off ds) cs (by simpa using hl) (fun j u t hu ht=>hr (j+1) u t (by simpa using hu) (by simpa using ht)) ?_ h;have hfold:=fold_set off v.cells.toList 0 cells (by simp; omega);rw[← Array.foldl_toList,Array.toList_zipIdx];simp only[Nat.add_zero] at hfold;rw[hfold];exact hz.over hds
   ·cases h
  ·cases h
theorem parts_rep [Globals] (hrel:Rel w0 B f0 fz ρ s a.tmps w)(parts:List (Nat × Operand)):∀ (i:Nat) (v:Nat × Value) (t:Nat × T),(parts.map fun p=>(p.1,a.eval p.2))[i]?=some v→(parts.map fun p=>(p.1,opd s.tm p.2))[i]?=some t→v.1=t.1∧RepT w fz ρ v.2 t.2:=by
 intro i v t hv ht;rw[List.getElem?_map,Option.map_eq_some_iff] at hv ht;obtain⟨p,hp,rfl⟩:=hv;obtain⟨q,hq,rfl⟩:=ht;rw[hp] at hq;injection hq with hq;subst hq;exact⟨rfl,opd_rep hrel p.2⟩
theorem val_build [Globals] (hty:∀ t y,ty t=some y→Ty.of P t=some y)(hrel:Rel w0 B f0 fz ρ s a.tmps w){t:TypeId}{parts:Array (Nat × Operand)}{y:Ty}{z:List Value}{zs cs:List C}(ho:o.op=.build t parts)
  (ht:ty t=some y) (hk:y.k=.struct) (hz:y.zero=some z) (hl:lits z=some zs) (hall:y.fields.all (fun f=>(ty f.2).isSome)=true)
  (hf:fills (placeOf ty y) zs (parts.toList.map fun p=>(p.1,opd s.tm p.2))=some cs):Val P fz ρ a w o (.agg cs):=by
 obtain⟨i,d,hi,hd,hky,_,_,hzz,hfs⟩:=Ty.of_some (hty t y ht);rw[hk] at hky;obtain⟨fs,rfl⟩:=K.of_struct hky.symm;rw[hz] at hzz
 cases hiz:i.zero with
 | none=>rw[hiz] at hzz; cases hzz
 | some v=>
  rw[hiz,Option.map_some,Option.some.injEq] at hzz;subst hzz;have hfields:=K.struct_fields rfl hfs
  let g:Field→Nat × Nat:=fun f=>(f.offset,((P.info? f.type).map (·.size)).getD 0)
  have hknown:∀ f∈fs.toList,∃ fi,P.info? f.type=some fi∧∃ fy,ty f.type=some fy∧fy.size=fi.size:=fun f hf=>by
   have:=List.all_eq_true.1 hall (f.offset,f.type) (by rw[hfields]; exact List.mem_map.2 ⟨f,hf,rfl⟩);obtain⟨fy,hfy⟩:=Option.isSome_iff_exists.1 this;obtain⟨fi,_,hfi,_,_,hs,_⟩:=Ty.of_some (hty _ _ hfy);exact⟨fi,hfi,fy,hfy,hs⟩
  have hplaces:∀ (l:List Field),(∀ f∈l,∃ fi,P.info? f.type=some fi)→(l.mapM (fun f=>do pure (f.offset,← sizeOf f.type):Field→Sem (Nat × Nat))).run P w=.ok (l.map g) w:=by
   intro l
   induction l with
   | nil=>intro _; simp
   | cons f l ih=>
    intro h;obtain⟨fi,hfi⟩:=h f (List.mem_cons_self);have ih:=ih (fun f' hf'=>h f' (List.mem_cons_of_mem _ hf'));simp only[List.mapM_cons,Sem.run_bind,run_sizeOf' hfi,Result.andThen_ok,Sem.run_pure,ih,List.map_cons,g,hfi,Option.map_some,Option.getD_some]
  have hmap:(fs.mapM (fun f=>do pure (f.offset,← sizeOf f.type):Field→Sem (Nat × Nat))).run P w=.ok (fs.toList.map g).toArray w:=by
   rw[Array.mapM_eq_mapM_toList,Sem.run_map,hplaces fs.toList (fun f hf=>(hknown f hf).imp fun _ h=>h.1)];rfl
  have hpl:placeOf ty y=(fun i=>(fs.toList.map g).toArray[i]?):=by
   funext i;unfold placeOf;rw[hfields,List.getElem?_map,List.getElem?_toArray,List.getElem?_map]
   cases hfi:fs.toList[i]? with
   | none=>rfl
   | some f=>
    obtain⟨fi,h1,fy,h2,h3⟩:=hknown f (List.mem_of_getElem? hfi);simp only[Option.map_some,h2,g,h1,Option.getD_some,h3]
  rw[hpl] at hf;obtain⟨out,hout,hrep⟩:=fill_rep (w:=w) (fz:=fz) (ρ:=ρ) _ (parts.toList.map fun p=>(p.1,a.eval p.2)) _ v.cells zs cs (by simp) (parts_rep hrel parts.toList) (lits_rep hl) hf;refine⟨.agg out,?_,out,rfl,hrep⟩;simp only[execOp,ho,Instr.build,Sem.run_bind,run_zeroValue hi hiz,Result.andThen_ok,run_underlying hd,hmap,Array.toList_map,hout,Sem.run_pure]
theorem val_buildArr [Globals] (hty:∀ t y,ty t=some y→Ty.of P t=some y)(hrel:Rel w0 B f0 fz ρ s a.tmps w){t e:TypeId}{n:Nat}{parts:Array (Nat × Operand)}{y ey:Ty}{z:List Value}{zs cs:List C}(ho:o.op=.build t parts)
  (ht:ty t=some y) (hk:y.k=.array n e) (hz:y.zero=some z) (hl:lits z=some zs) (he:ty e=some ey)
  (hf:fills (fun i=>some (i*ey.size,ey.size)) zs (parts.toList.map fun p=>(p.1,opd s.tm p.2))=some cs):Val P fz ρ a w o (.agg cs):=by
 obtain⟨i,d,hi,hd,hky,_,_,hzz,_⟩:=Ty.of_some (hty t y ht);obtain⟨ei,_,hei,_,_,hes,_⟩:=Ty.of_some (hty e ey he);rw[hk] at hky;have hd':=K.of_array hky.symm;subst hd';rw[hz] at hzz
 cases hiz:i.zero with
 | none=>rw[hiz] at hzz; cases hzz
 | some v=>
  rw[hiz,Option.map_some,Option.some.injEq] at hzz;subst hzz;obtain⟨out,hout,hrep⟩:=fill_rep (w:=w) (fz:=fz) (ρ:=ρ) _ (parts.toList.map fun p=>(p.1,a.eval p.2)) _ v.cells zs cs (by simp) (parts_rep hrel parts.toList) (lits_rep hl) hf;rw[hes] at hout;refine⟨.agg out,?_,out,rfl,hrep⟩;simp only[execOp,ho,Instr.build,Sem.run_bind,run_zeroValue hi hiz,Result.andThen_ok,run_underlying hd,run_sizeOf' hei,Array.toList_map,hout,Sem.run_pure]
theorem chunks_length (sz:Nat):∀ (n:Nat) (cs:List C),(chunks sz n cs).length=n
 | 0,_=>rfl
 | n+1,cs=>by simp[chunks,chunks_length sz n]
theorem chunks_get (sz:Nat):∀ (n:Nat) (cs:List C) (i:Nat) (x:List C),(chunks sz n cs)[i]?=some x→x=(cs.drop (i*sz)).take sz∧i<n
 | 0,_,i,x,h=>by simp[chunks] at h
 | n+1,cs,0,x,h=>by
  simp only[chunks,List.getElem?_cons_zero,Option.some.injEq] at h;exact⟨by simp[h],by omega⟩
 | n+1,cs,i+1,x,h=>by
  simp only[chunks,List.getElem?_cons_succ] at h;obtain⟨h1,h2⟩:=chunks_get sz n _ i x h;refine⟨?_,by omega⟩;rw[h1,List.drop_drop];congr 2;rw[Nat.add_mul];omega
theorem new_row [Globals] (hrel:Rel w0 B f0 fz ρ s a.tmps w){cells:Array Value}{cs:List C}{e:TypeId}{d n sz:Nat}{free:Bool}(hv:RepL w fz ρ cells.toList cs)(hl:cs.length=n*sz)(hfree:free=true→∀ c∈cs,C.free c=true)
  (hrun:(execOp a.eval o).run P w=.ok (.value (.slice (some ⟨w.heap.size,0,none⟩) n n)) (w.alloc (.cells cells e))):New P fz ρ a w o d (.c (.ref d 0 n)) ⟨false,free,e,sz,chunks sz n cs⟩:=by
 refine⟨_,_,.at w.heap.size 0 n sz,hrun,.alloc w _ n sz,fun ρ' hd hr=>⟨?_,?_⟩⟩
 ·have:=RepC.ref (w:=w.alloc (.cells cells e)) (fz:=fz) d 0 n w.heap.size 0 n sz (some ⟨w.heap.size,0,none⟩) hd (by omega) (fun _=>by simp) ⟨_,rfl⟩;exact this
 ·have hsz:=hv.1;simp only[Array.length_toList] at hsz;have hin:∀ x∈chunks sz n cs,∃ i,i<n∧x=(cs.drop (i*sz)).take sz:=fun x hx=>by
   obtain⟨i,hi⟩:=List.mem_iff_getElem?.1 hx;obtain⟨h1,h2⟩:=chunks_get sz n cs i x hi;exact⟨i,h2,h1⟩
  refine repO_new hrel.fzl hr (fun x hx=>?_) (fun hf x hx c hc=>?_) (by rw[chunks_length]; omega) (by omega) (fun h=>by cases h) (fun i j x c hx hc=>?_)
  ·obtain⟨i,hi,rfl⟩:=hin x hx;rw[List.length_take,List.length_drop,hl];have:(i+1)*sz≤n*sz:=Nat.mul_le_mul_right _ (by omega);rw[Nat.add_mul] at this;omega
  ·obtain⟨i,hi,rfl⟩:=hin x hx;exact hfree hf c (List.mem_of_mem_drop (List.mem_of_mem_take hc))
  ·obtain⟨rfl,hi⟩:=chunks_get sz n cs i x hx;rw[List.getElem?_take] at hc
   split at hc
   ·rw[List.getElem?_drop] at hc;have hlt:=(List.getElem?_eq_some_iff.1 hc).1;have:i*sz+j<cells.toList.length:=by simp; omega
    refine⟨cells.toList[i*sz+j],?_,hv.2 _ _ c (List.getElem?_eq_getElem this) hc⟩;rw[← Array.getElem?_toList,List.getElem?_eq_getElem this]
   ·cases hc
theorem repeated_length (n:Nat)(z:List C):(repeated n z).length=n*z.length:=by simp[repeated,List.length_flatten]
theorem repeated_get:∀ (n:Nat) (z:List C) (i:Nat),i<n*z.length→(repeated n z)[i]?=z[i % z.length]?
 | 0,z,i,h=>by simp at h
 | n+1,z,i,h=>by
  simp only[repeated,List.replicate_succ,List.flatten_cons]
  by_cases hi:i<z.length
  ·rw[List.getElem?_append_left hi,Nat.mod_eq_of_lt hi]
  ·rw[List.getElem?_append_right (by omega)];have h':(n+1)*z.length=n*z.length+z.length:=Nat.succ_mul n z.length;have:=repeated_get n z (i-z.length) (by omega);rw[show (List.replicate n z).flatten=repeated n z from rfl,this];congr 1;exact (Nat.mod_eq_sub_mod (by omega)).symm
theorem zeros_rep {w:World}{fz:Nat→Prop}{ρ:Nat→Option Loc}{v:Value}{zs:List C}{n:Nat}(h:lits v.cells.toList=some zs)(hz:0<zs.length):
  RepL w fz ρ ((Array.range (n*zs.length)).map (v.cells[· % v.cells.size]!)).toList (repeated n zs):=by
 have hl:=(lits_rep (w:=w) (fz:=fz) (ρ:=ρ) h);have hs:=hl.1;simp only[Array.length_toList] at hs;refine⟨by simp[repeated_length],fun i u c hu hc=>?_⟩;simp only[Array.toList_map,Array.toList_range,List.getElem?_map,Option.map_eq_some_iff] at hu;obtain⟨j,hj,rfl⟩:=hu;have hlt:i<n*zs.length:=by have:=(List.getElem?_eq_some_iff.1 hj).1; simpa using this
 rw[List.getElem?_range hlt] at hj;injection hj with hj;subst hj;rw[repeated_get n zs i hlt] at hc;have hm:i % v.cells.size<v.cells.size:=Nat.mod_lt _ (by omega);rw[← hs] at hc;refine hl.2 (i % v.cells.size) _ c ?_ hc;rw[Array.getElem?_toList,Array.getElem?_eq_getElem hm,getElem!_pos v.cells _ hm]
theorem fills_length (place:Nat→Option (Nat × Nat)):∀ (ps:List (Nat × T)) (zs cs:List C),fills place zs ps=some cs→cs.length=zs.length
 | [],zs,cs,h=>by simp only[fills,Option.some.injEq] at h; rw[h]
 | (i,t)::ps,zs,cs,h=>by
  simp only[fills] at h
  split at h
  ·split at h
   ·rw[fills_length place ps _ _ h,over_length]
   ·cases h
  ·cases h
theorem new_buildSlice [Globals] (hty:∀ t y,ty t=some y→Ty.of P t=some y)(hrel:Rel w0 B f0 fz ρ s a.tmps w){t e:TypeId}{len sz d:Nat}{parts:Array (Nat × Operand)}{y:Ty}{z:List Value}{zs cs:List C}(ho:o.op=.buildSlice t len parts)
  (he:Vabs.elemOf ty t=some (e,sz)) (hy:ty e=some y) (hz:y.zero=some z) (hl:lits z=some zs) (hlen:zs.length=sz∧len*sz≤16777216)
  (hf:fills (fun i=>some (i*sz,sz)) (repeated len zs) (parts.toList.map fun p=>(p.1,opd s.tm p.2))=some cs):New P fz ρ a w o d (.c (.ref d 0 len)) ⟨false,cs.all C.free,e,sz,chunks sz len cs⟩:=by
 obtain⟨hd,inf,hinf,hsz,_⟩:=elemOf_some hty he;obtain⟨i,dd,hi,_,_,_,_,hzz,_⟩:=Ty.of_some (hty e y hy);rw[hinf] at hi;injection hi with hi;subst hi;rw[hz] at hzz
 cases hiz:inf.zero with
 | none=>rw[hiz] at hzz; cases hzz
 | some v=>
  rw[hiz,Option.map_some,Option.some.injEq] at hzz;subst hzz;obtain⟨h1,h2⟩:=hlen;subst h1;have hle:=fills_length _ _ _ _ hf;rw[repeated_length] at hle
  by_cases h0:len*zs.length=0
  ·have hrl:repeated len zs=[]:=List.eq_nil_of_length_eq_zero (by rw[repeated_length]; exact h0);rw[hrl] at hf;obtain⟨out,hout,hrep⟩:=fill_rep (w:=w) (fz:=fz) (ρ:=ρ) _ (parts.toList.map fun p=>(p.1,a.eval p.2)) _ #[] [] cs (by simp) (parts_rep hrel parts.toList) ⟨rfl,by simp⟩ hf;refine new_row hrel hrep hle (fun h c hc=>List.all_eq_true.1 h c hc) ?_;have hbig:¬ len*zs.length > 2 ^ 24:=by omega
   simp only[execOp,ho,Instr.buildSlice,Sem.run_bind,run_underlying hd,Result.andThen_ok,run_sizeOf' hinf,hsz,if_neg hbig,if_pos h0,Sem.run_pure,Array.toList_map];rw[h0];have e0:∀ f:Nat→Value,Array.map f (Array.range 0)=#[]:=fun f=>by simp
   simp only[e0,hout,Sem.run_bind,newRow,run_newObj,Result.andThen_ok,Sem.run_pure];rfl
  ·have hpos:0<zs.length:=Nat.pos_of_ne_zero fun h=>h0 (by rw[h]; simp);obtain⟨out,hout,hrep⟩:=fill_rep (w:=w) (fz:=fz) (ρ:=ρ) _ (parts.toList.map fun p=>(p.1,a.eval p.2)) _ _ _ cs (by simp) (parts_rep hrel parts.toList) (zeros_rep (n:=len) hl hpos) hf;refine new_row hrel hrep hle (fun h c hc=>List.all_eq_true.1 h c hc) ?_;have hbig:¬ len*zs.length > 2 ^ 24:=by omega
   simp only[execOp,ho,Instr.buildSlice,Sem.run_bind,run_underlying hd,Result.andThen_ok,run_sizeOf' hinf,hsz,if_neg hbig,if_neg h0,run_zeroValue hinf hiz,Sem.run_pure,Array.toList_map,hout,newRow,run_newObj];rfl
theorem chunks_repeated (zs:List C):∀ n,chunks zs.length n (repeated n zs)=List.replicate n zs
 | 0=>rfl
 | n+1=>by
  have h:repeated (n+1) zs=zs++repeated n zs:=by simp[repeated,List.replicate_succ]
  rw[chunks,h,List.take_left,List.drop_left,chunks_repeated zs n,List.replicate_succ]
theorem new_makeSlice [Globals] (hty:∀ t y,ty t=some y→Ty.of P t=some y)(hrel:Rel w0 B f0 fz ρ s a.tmps w){t e:TypeId}{sz d:Nat}{l c:Operand}{kl kc:IntKind}{nl nc:Int}{y:Ty}{z:List Value}{zs:List C}(ho:o.op=.makeSlice t l c)
  (he:Vabs.elemOf ty t=some (e,sz)) (hl:opd s.tm l=.c (.lit (.int kl nl))) (hc:opd s.tm c=.c (.lit (.int kc nc))) (hy:ty e=some y) (hz:y.zero=some z) (hlz:lits z=some zs)
  (hcond:zs.length=sz∧0≤nl∧nl≤nc∧(y.bytes:Int)*nc≤281474976710656∧nc≤9223372036854775807):New P fz ρ a w o d (.c (.ref d 0 nl.toNat)) ⟨false,true,e,sz,List.replicate nc.toNat zs⟩:=by
 obtain⟨hd,inf,hinf,hsz,_⟩:=elemOf_some hty he;obtain⟨i,dd,hi,_,_,_,hyb,hzz,_⟩:=Ty.of_some (hty e y hy);rw[hinf] at hi;injection hi with hi;subst hi;rw[hz] at hzz
 cases hiz:inf.zero with
 | none=>rw[hiz] at hzz; cases hzz
 | some v=>
  rw[hiz,Option.map_some,Option.some.injEq] at hzz;subst hzz;obtain⟨h1,h2,h3,h4,h5⟩:=hcond;subst h1;have hrun:=run_make (P:=P) w t e inf v hd hinf hiz kl kc nl nc h2 h3 (by rw[← hyb]; exact h4) h5;have hvz:v.cells.size=zs.length:=by
   obtain⟨_,rfl⟩:=lits_some hlz;simp
  have hrep:RepL w fz ρ (madeCells v.cells (nc.toNat*inf.size)).toList (repeated nc.toNat zs):=by
   rw[hsz]
   by_cases h0:zs.length=0
   ·refine⟨?_,fun i v' c' hv' hc'=>?_⟩
    ·rw[repeated_length,h0]; simp[madeCells]
    ·have:=(List.getElem?_eq_some_iff.1 hc').1;rw[repeated_length,h0] at this;omega
   ·exact zeros_rep (n:=nc.toNat) hlz (Nat.pos_of_ne_zero h0)
  have hex:(execOp a.eval o).run P w=.ok (.value (.slice (some ⟨w.heap.size,0,none⟩) nl.toNat nc.toNat)) (w.alloc (.cells (madeCells v.cells (nc.toNat*inf.size)) e)):=by
   simp only[execOp,ho,opd_lit hrel hl,opd_lit hrel hc,Sem.run_bind,hrun,Result.andThen_ok,Sem.run_pure]
  refine⟨_,_,.at w.heap.size 0 nc.toNat zs.length,hex,.alloc w _ nc.toNat zs.length,fun ρ' hd' hr=>⟨?_,?_⟩⟩
  ·have:=RepC.ref (w:=w.alloc (.cells (madeCells v.cells (nc.toNat*inf.size)) e)) (fz:=fz) d 0 nl.toNat w.heap.size 0 nc.toNat zs.length (some ⟨w.heap.size,0,none⟩) hd' (by omega) (fun _=>by simp) ⟨_,rfl⟩;rw[Nat.sub_zero] at this;exact this
  ·have hl2:(madeCells v.cells (nc.toNat*inf.size)).size=nc.toNat*zs.length:=by
    have:=hrep.1;rw[repeated_length] at this;simpa using this
   have hfree:∀ c∈zs,C.free c=true:=lits_free hlz;refine repO_new hrel.fzl hr (fun x hx=>?_) (fun hf x hx c hc=>?_) (by rw[List.length_replicate]; omega) (by omega) (fun h=>by cases h) (fun i j x c hx hc=>?_)
   ·rw[(List.mem_replicate.1 hx).2]
   ·rw[(List.mem_replicate.1 hx).2] at hc;exact hfree c hc
   ·rw[← chunks_repeated] at hx;obtain⟨rfl,hi⟩:=chunks_get _ _ _ i x hx;rw[List.getElem?_take] at hc
    split at hc
    ·rw[List.getElem?_drop] at hc;have hlt:=(List.getElem?_eq_some_iff.1 hc).1;rw[repeated_length] at hlt;have:i*zs.length+j<(madeCells v.cells (nc.toNat*inf.size)).toList.length:=by simp only[Array.length_toList]; omega
     refine⟨(madeCells v.cells (nc.toNat*inf.size)).toList[i*zs.length+j],?_,hrep.2 _ _ c (List.getElem?_eq_getElem this) hc⟩;rw[← Array.getElem?_toList,List.getElem?_eq_getElem this]
    ·cases hc
end
end Go.Vabs

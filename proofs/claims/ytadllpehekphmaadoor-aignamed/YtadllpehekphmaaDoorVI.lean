/- A library: states of the abstract interpreter: a value is put, a block is made, a block is told no more. No condition. -/
import Derived.Test.YtadllpehekphmaaDoorVH
set_option linter.unusedSimpArgs false
set_option linter.unusedVariables false
namespace Go.Vabs
open Go.RowKit
theorem hget_map (f:Ob→Ob)(l:Heap)(k:Nat):hget (l.map fun p=>(p.1,f p.2)) k=(hget l k).map f:=by
 induction l with
 | nil=>rfl
 | cons a l ih=>
  obtain⟨k',o⟩:=a;simp only[List.map_cons,hget]
  split
  ·rfl
  ·exact ih
theorem RepO.free_any {w w':World}{fz fz':Nat→Prop}{ρ ρ':Nat→Option Loc}{l:Loc}{o:Ob}(h:RepO w fz ρ l o)(hfree:o.free=true)(hl:∀ b base cap sz,l=.at b base cap sz→w'.heap[b]?=w.heap[b]?)
  (hw:∀ b,fz b→w'.heap[b]?=w.heap[b]?) (hf:∀ b,fz b→fz' b):RepO w' fz' ρ' l o:=by
 obtain⟨h1,h0,h⟩:=h;refine⟨h1,h0,?_⟩
 cases l with
 | nil=>exact h
 | «at» b base cap sz=>
  obtain⟨h1,h2,c,fr,h3,h4,h5,h6⟩:=h;refine⟨h1,h2,c,fr,(hl _ _ _ _ rfl).trans h3,h4,h5,fun i j e x he hx=>?_⟩;obtain⟨v,hv,hrep⟩:=h6 i j e x he hx;exact⟨v,hv,.frz ((hrep.of_free (h0 hfree e (List.mem_of_getElem? he) x (List.mem_of_getElem? hx))).mono hw hf)⟩
section
variable {w w':World} {fz fz':Nat→Prop} {ρ ρ':Nat→Option Loc} {v:Value}
theorem RepC.frzn {c:C}{h:Nat}{l:Loc}{o:Ob}(hc:RepC w fz ρ v c)(hl:ρ h=some l)(ho:RepO w fz ρ l o)(hfree:o.free=true)
  (hf:∀ b,fz b→fz' b) (hb:∀ b base cap sz,l=.at b base cap sz→fz' b) (hr:∀ k l,k≠h→ρ k=some l→ρ' k=some l):RepC w fz' ρ' v (c.frz h o):=by
 obtain⟨h1,h0,ho⟩:=ho
 cases hc with
 | frz hq=>
  have:c.frz h o=c:=by cases hq<;>rfl
  rw[this];exact .frz (hq.mono (fun _ _=>rfl) hf)
 | nil k e=>
  simp only[C.frz]
  split
  ·rename_i hk;subst hk;rw[hl] at e;injection e with e;subst e;simp only at ho;rw[ho.1];simp only[List.length_nil,Nat.add_zero,Nat.le_refl,if_true,List.drop_nil,List.take_nil];exact .frz (.sl none 0 0 [] o.sz (fun _ _=>undef) rfl (by simp) (Nat.le_refl _) (fun h=>absurd h (by omega)) (by simp))
  ·rename_i hk;exact .nil k (hr _ _ hk e)
 | ref k off len b base cap sz a e hc ha hs=>
  simp only[C.frz]
  split
  ·rename_i hk;subst hk;rw[hl] at e;injection e with e;subst e;obtain⟨hsz,hcap,cells,fr,hw,hsize,hfr,hcell⟩:=ho
   split
   ·rename_i hlen;have hlen':((o.es.drop off).take len).length=len:=by simp; omega
    have hcv:∀ i j,i<len→j<o.sz→∃ u,cells[base+(off+i)*sz+j]?=some u∧∀ e x,o.es[off+i]?=some e→e[j]?=some x→RepF w fz u x:=fun i j hi hj=>by
     have he:o.es[off+i]?=some o.es[off+i]:=List.getElem?_eq_getElem (by omega);have hel:o.es[off+i].length=o.sz:=h1 _ (List.getElem_mem _);have hx:o.es[off+i][j]?=some o.es[off+i][j]:=List.getElem?_eq_getElem (by omega);obtain⟨u,hu,hrep⟩:=hcell _ _ _ _ he hx;refine⟨u,hu,fun e x he' hx'=>?_⟩;rw[he] at he';injection he' with he';subst he';rw[hx] at hx';injection hx' with hx';subst hx';exact hrep.of_free (h0 hfree _ (List.getElem_mem _) _ (List.getElem_mem _))
    let cv:Nat→Nat→Value:=fun i j=>if hij:i<len∧j<o.sz then (hcv i j hij.1 hij.2).choose else undef
    have hcvs:∀ i j,i<len→j<o.sz→cells[base+(off+i)*sz+j]?=some (cv i j)∧∀ e x,o.es[off+i]?=some e→e[j]?=some x→RepF w fz (cv i j) x:=fun i j hi hj=>by
     simp only[cv,dif_pos (And.intro hi hj)];exact (hcv i j hi hj).choose_spec
    refine .frz (.sl a len (cap-off) _ o.sz cv hlen' (fun e he=>h1 e (List.mem_of_mem_drop (List.mem_of_mem_take he))) (by omega) (fun hp=>?_) (fun i j e x he hx=>?_))
    ·refine⟨b,base+off*sz,ha (by omega),hb _ _ _ _ rfl,fun i j hi hj=>?_⟩;rw[cell?_at hw];have:=(hcvs i j hi hj).1;rw[Nat.add_mul,← Nat.add_assoc] at this;rw[hsz] at this ⊢;exact this
    ·rw[List.getElem?_take] at he
     split at he
     ·rename_i hi;rw[List.getElem?_drop] at he;have hj:j<o.sz:=by
       have:=(List.getElem?_eq_some_iff.1 hx).1;rw[h1 e (List.mem_of_getElem? he)] at this;exact this
      exact ((hcvs i j hi hj).2 e x he hx).mono (fun _ _=>rfl) hf
     ·cases he
   ·exact .frz (.junk _ trivial)
  ·rename_i hk;exact .ref k off len b base cap sz a (hr _ _ hk e) hc ha hs
 | ptr k i off b base cap sz e=>
  simp only[C.frz]
  split
  ·rename_i hk;subst hk;rw[hl] at e;injection e with e;subst e;obtain⟨hsz,hcap,cells,fr,hw,hsize,hfr,hcell⟩:=ho
   split
   ·rename_i es hes;have hcv:∀ j,j<es.length→∃ u,cells[base+i*sz+j]?=some u∧∀ x,es[j]?=some x→RepF w fz u x:=fun j hj=>by
     have hx:es[j]?=some es[j]:=List.getElem?_eq_getElem hj;obtain⟨u,hu,hrep⟩:=hcell _ _ _ _ hes hx;refine⟨u,hu,fun x hx'=>?_⟩;rw[hx] at hx';injection hx' with hx';subst hx';exact hrep.of_free (h0 hfree _ (List.mem_of_getElem? hes) _ (List.getElem_mem _))
    let cv:Nat→Value:=fun j=>if hj:j<es.length then (hcv j hj).choose else undef
    have hcvs:∀ j,j<es.length→cells[base+i*sz+j]?=some (cv j)∧∀ x,es[j]?=some x→RepF w fz (cv j) x:=fun j hj=>by
     simp only[cv,dif_pos hj];exact (hcv j hj).choose_spec
    refine .frz (.fptr b (base+i*sz) off es cv (hb _ _ _ _ rfl) (fun j hj=>?_) (fun j x hx=>?_))
    ·rw[cell?_at hw];exact (hcvs j hj).1
    ·exact ((hcvs j (List.getElem?_eq_some_iff.1 hx).1).2 x hx).mono (fun _ _=>rfl) hf
   ·exact .frz (.junk _ trivial)
  ·rename_i hk;exact .ptr k i off b base cap sz (hr _ _ hk e)
end
section
variable {w0:World} {B:Bs} {f0 fz:Nat→Prop} {ρ:Nat→Option Loc} {s:St} {tm:Array Value} {w:World}
theorem Rel.put [Globals] (h:Rel w0 B f0 fz ρ s tm w){v:Value}{t:T}(d:Nat)(hv:RepT w fz ρ v t)(hi:t.noI=t):Rel w0 B f0 fz ρ { tm:=s.tm.set d t,hp:=s.hp,fr:=s.fr } (tm.setIfInBounds d v) w where
 size:=by simp[h.size]
 tmp:=fun i t' ht=>by
  simp only at ht
  by_cases hi:d=i
  ·subst hi;have hlt:=(List.getElem?_eq_some_iff.1 ht).1;rw[List.length_set] at hlt;rw[List.getElem?_set_self hlt] at ht;injection ht with ht;subst ht;have:d<tm.size:=by rw[h.size]; exact hlt
   exact⟨v,by simp[Array.getElem?_setIfInBounds,this],hv⟩
  ·rw[List.getElem?_set_ne hi] at ht;obtain⟨u,hu,hr⟩:=h.tmp i t' ht;exact⟨u,by simp[Array.getElem?_setIfInBounds,hi,hu],hr⟩
 dom1:=h.dom1
 obj:=h.obj
 inj:=h.inj
 own:=h.own
 fzl:=h.fzl
 fz0:=h.fz0
 fz1:=h.fz1
 below:=h.below
 frd:=h.frd
 glz:=h.glz
 boxes:=h.boxes
 itr:=fun i q pos ht=>by
  simp only at ht
  by_cases hid:d=i
  ·subst hid;have hlt:=(List.getElem?_eq_some_iff.1 ht).1;rw[List.length_set] at hlt;rw[List.getElem?_set_self hlt] at ht;injection ht with ht;subst ht
   cases hi
  ·rw[List.getElem?_set_ne hid] at ht;obtain⟨u,hu,hr⟩:=h.itr i q pos ht;exact⟨u,by simp[Array.getElem?_setIfInBounds,hid,hu],hr⟩
theorem ItrAt.mono {w w':World}{fz fz':Nat→Prop}{ρ ρ':Nat→Option Loc}{v:Value}{q:ByteArray}{pos:Nat}(h:ItrAt w B fz ρ v q pos)(hw:∀ b,b<w.heap.size→(∀ k b' base cap sz,ρ k=some (.at b' base cap sz)→b'≠b)→w'.heap[b]?=w.heap[b]?)
  (hf:∀ b,b<w.heap.size→B.owns b→¬ fz b→(∀ k b' base cap sz,ρ k=some (.at b' base cap sz)→b'≠b)→¬ fz' b) (hr:∀ b,b<w.heap.size→(∀ k b' base cap sz,ρ k=some (.at b' base cap sz)→b'≠b)→∀ k b' base cap sz,ρ' k=some (.at b' base cap sz)→b'≠b):ItrAt w' B fz' ρ' v q pos:=by
 obtain⟨b,rfl,hB,hh,hz,hq⟩:=h;have hlt:b<w.heap.size:=(Array.getElem?_eq_some_iff.1 hh).1;exact⟨b,rfl,hB,(hw b hlt hq).trans hh,hf b hlt hB hz hq,hr b hlt hq⟩
theorem frz_itr {h:Nat}{o:Ob}{t:T}{q:ByteArray}{pos:Nat}(ht:t.frz h o=.itr q pos):t=.itr q pos:=by
 cases t<;>first | exact ht | cases ht
theorem kill_itr {h:Nat}{t:T}{q:ByteArray}{pos:Nat}(ht:t.kill h=.itr q pos):t=.itr q pos:=by
 cases t<;>first | exact ht | cases ht
theorem Rel.make [Globals] (h:Rel w0 B f0 fz ρ s tm w){w':World}{l:Loc}{v:Value}{t:T}{ob:Ob}(d:Nat)(hB:B.n≤w.heap.size)(hnew:NewAt w w' l)(hd:hget s.hp d=none)
  (hrep:∀ ρ',ρ' d=some l→(∀ k l,ρ k=some l→ρ' k=some l)→RepT w' fz ρ' v t∧RepO w' fz ρ' l ob) (hi:t.noI=t):
  ∃ ρ',(∀ k l,ρ k=some l→ρ' k=some l)∧Rel w0 B f0 fz ρ' { tm:=s.tm.set d t,hp:=hput s.hp d ob,fr:=s.fr } (tm.setIfInBounds d v) w'∧RepT w' fz ρ' v t:=by
 have hρd:ρ d=none:=by
  cases hq:ρ d with
  | none=>rfl
  | some l'=>obtain⟨o,ho⟩:=h.dom1 d l' hq; rw[hd] at ho; cases ho
 let ρ':Nat→Option Loc:=fun k=>if k=d then some l else ρ k
 have hρ':∀ k l,ρ k=some l→ρ' k=some l:=fun k l' hk=>by
  simp only[ρ'];rw[if_neg (fun e=>by rw[e,hρd] at hk; cases hk)];exact hk
 have hdd:ρ' d=some l:=by simp[ρ']
 have hne:∀ k,k≠d→ρ' k=ρ k:=fun k hk=>by simp[ρ',hk]
 have hheap:∀ b,b<w.heap.size→w'.heap[b]?=w.heap[b]?:=fun b hb=>hnew.heap hb;have hsz:w.heap.size≤w'.heap.size:=hnew.size;have hfr:d∉s.fr:=fun hq=>by obtain⟨o,ho⟩:=h.frd d hq; rw[hd] at ho; cases ho
 obtain⟨hv,hob⟩:=hrep ρ' hdd hρ';have hown:=hnew.own;refine⟨ρ',hρ',?_,hv⟩;have base:Rel w0 B f0 fz ρ' { tm:=s.tm,hp:=hput s.hp d ob,fr:=s.fr } tm w':={
  size:=h.size
  tmp:=fun i t' ht=>by
   obtain⟨u,hu,hr⟩:=h.tmp i t' ht;exact⟨u,hu,hr.mono (fun b hb=>hheap b (h.fzl b hb)) (fun b hb=>hb) hρ'⟩
  dom1:=fun k l' hk=>by
   by_cases e:k=d
   ·subst e; exact⟨ob,hget_hput _ _ _⟩
   ·rw[hne k e] at hk;obtain⟨o,ho⟩:=h.dom1 k l' hk;exact⟨o,by rw[hgN _ _ _ _ e]; exact ho⟩
  obj:=fun k o hk=>by
   by_cases e:k=d
   ·subst e;simp only[hget_hput,Option.some.injEq] at hk;subst hk;exact⟨l,hdd,hob⟩
   ·simp only[hgN _ _ _ _ e] at hk;obtain⟨l',hl',ho⟩:=h.obj k o hk;exact⟨l',hρ' _ _ hl',ho.mono (fun b base cap sz hb=>hheap b (h.own k b base cap sz (hb▸hl')).1) (fun b hb=>hheap b (h.fzl b hb)) (fun b hb=>hb) hρ'⟩
  inj:=fun k k' b base cap sz base' cap' sz' h1 h2 h3 h4=>by
   by_cases e:k=d<;>by_cases e':k'=d
   ·rw[e,e']
   ·subst e;rw[hdd] at h3;injection h3 with h3;rw[hne k' e'] at h4;have:=(hown _ _ _ _ h3).1;have:=(h.own k' b _ _ _ h4).1;omega
   ·subst e';rw[hdd] at h4;injection h4 with h4;rw[hne k e] at h3;have:=(hown _ _ _ _ h4).1;have:=(h.own k b _ _ _ h3).1;omega
   ·rw[hne k e] at h3;rw[hne k' e'] at h4;exact h.inj k k' b base cap sz base' cap' sz' h1 h2 h3 h4
  own:=fun k b base cap sz hk=>by
   by_cases e:k=d
   ·subst e;rw[hdd] at hk;injection hk with hk;obtain⟨h1,h2⟩:=hown _ _ _ _ hk;exact⟨h2,fun _=>⟨.inl (by omega),fun hq=>by have:=h.fzl b hq; omega⟩,fun hq=>absurd hq hfr⟩
   ·rw[hne k e] at hk;obtain⟨h1,h2⟩:=h.own k b base cap sz hk;exact⟨by omega,h2⟩
  fzl:=fun b hb=>Nat.lt_of_lt_of_le (h.fzl b hb) hsz
  fz0:=h.fz0
  fz1:=h.fz1
  below:=hnew.below h.below hB
  frd:=fun k hk=>by
   by_cases e:k=d
   ·subst e; exact⟨ob,hget_hput _ _ _⟩
   ·obtain⟨o,ho⟩:=h.frd k hk;exact⟨o,by rw[hgN _ _ _ _ e]; exact ho⟩
  glz:=h.glz.mono (fun b hb=>hheap b (h.fzl b hb)) (fun b hb=>hb)
  boxes:=fun k l hk=>by
   obtain⟨h1,h2,o,h3,h4⟩:=h.boxes k l hk;have e:k≠d:=fun e=>by rw[e,hd] at h3; cases h3
   exact⟨h1,by rw[hne k e]; exact h2,o,by rw[hgN _ _ _ _ e]; exact h3,h4⟩
  itr:=fun i q pos ht=>by
   obtain⟨u,hu,hI⟩:=h.itr i q pos ht;refine⟨u,hu,hI.mono (fun b hb _=>hheap b hb) (fun b _ _ hz _=>hz) (fun b hb hq k b' base cap sz hk=>?_)⟩
   by_cases e:k=d
   ·subst e;rw[hdd] at hk;injection hk with hk;have:=(hown _ _ _ _ hk).1;omega
   ·rw[hne k e] at hk;exact hq k b' base cap sz hk }
 exact base.put d hv hi
theorem Rep1.frzn {t:T}{v:Value}{h:Nat}{l:Loc}{o:Ob}{fz':Nat→Prop}{ρ':Nat→Option Loc}(hv:Rep1 w fz ρ v t)(hl:ρ h=some l)(ho:RepO w fz ρ l o)(hfree:o.free=true)
  (hf:∀ b,fz b→fz' b) (hb:∀ b base cap sz,l=.at b base cap sz→fz' b) (hr:∀ k l,k≠h→ρ k=some l→ρ' k=some l):Rep1 w fz' ρ' v (t.frz1 h o):=by
 cases t with
 | c x=>exact RepC.frzn hv hl ho hfree hf hb hr
 | agg cs=>
  obtain⟨vs,e,hv⟩:=hv;refine⟨vs,e,by simpa using hv.1,fun i u c hu hc=>?_⟩;rw[List.getElem?_map,Option.map_eq_some_iff] at hc;obtain⟨c0,h0,rfl⟩:=hc;exact (hv.2 i u c0 hu h0).frzn hl ho hfree hf hb hr
 | tup _=>exact hv.elim
 | itr _ _=>exact hv.elim
 | junk=>trivial
theorem RepT.frzn {t:T}{v:Value}{h:Nat}{l:Loc}{o:Ob}{fz':Nat→Prop}{ρ':Nat→Option Loc}(hv:RepT w fz ρ v t)(hl:ρ h=some l)(ho:RepO w fz ρ l o)(hfree:o.free=true)
  (hf:∀ b,fz b→fz' b) (hb:∀ b base cap sz,l=.at b base cap sz→fz' b) (hr:∀ k l,k≠h→ρ k=some l→ρ' k=some l):RepT w fz' ρ' v (t.frz h o):=by
 cases t with
 | c x=>exact RepC.frzn hv hl ho hfree hf hb hr
 | agg cs=>exact Rep1.frzn (t:=.agg cs) hv hl ho hfree hf hb hr
 | tup ts=>
  obtain⟨vs,e,hs,hv⟩:=hv;refine⟨vs,e,by simpa using hs,fun i t ht=>?_⟩;rw[List.getElem?_map,Option.map_eq_some_iff] at ht;obtain⟨t0,h0,rfl⟩:=ht;obtain⟨u,hu,h1⟩:=hv i t0 h0;exact⟨u,hu,h1.frzn hl ho hfree hf hb hr⟩
 | itr _ _=>trivial
 | junk=>trivial
theorem RepO.frzn {l':Loc}{x:Ob}{h:Nat}{l:Loc}{o:Ob}{fz':Nat→Prop}{ρ':Nat→Option Loc}(hx:RepO w fz ρ l' x)(hl:ρ h=some l)(ho:RepO w fz ρ l o)(hfree:o.free=true)
  (hf:∀ b,fz b→fz' b) (hb:∀ b base cap sz,l=.at b base cap sz→fz' b) (hr:∀ k l,k≠h→ρ k=some l→ρ' k=some l):RepO w fz' ρ' l' (x.frz h o):=by
 unfold Ob.frz
 split
 ·rename_i hxf;exact hx.free_any hxf (fun _ _ _ _ _=>rfl) (fun _ _=>rfl) hf
 ·rename_i hxf;obtain⟨h1,h0,hh⟩:=hx;refine⟨fun e he=>?_,fun hq=>absurd hq hxf,?_⟩
  ·obtain⟨e0,h0,rfl⟩:=List.mem_map.1 he;rw[List.length_map];exact h1 e0 h0
  cases l' with
  | nil=>exact⟨by simp[hh.1],hh.2⟩
  | «at» b base cap sz=>
   obtain⟨h1,h2,c,fr,h3,h4,h5,h6⟩:=hh;refine⟨h1,by simpa using h2,c,fr,h3,h4,h5,fun i j e x he hx=>?_⟩;simp only[List.getElem?_map,Option.map_eq_some_iff] at he;obtain⟨e0,he0,rfl⟩:=he;rw[List.getElem?_map,Option.map_eq_some_iff] at hx;obtain⟨x0,hx0,rfl⟩:=hx;obtain⟨v,hv,hrep⟩:=h6 i j e0 x0 he0 hx0;exact⟨v,hv,hrep.frzn hl ho hfree hf hb hr⟩
theorem RepO.killF {l:Loc}{x:Ob}{h:Nat}{fz':Nat→Prop}{ρ':Nat→Option Loc}(hx:RepO w fz ρ l x)(hf:∀ b,fz b→fz' b)(hr:∀ k l,k≠h→ρ k=some l→ρ' k=some l):RepO w fz' ρ' l (x.killF h):=by
 unfold Ob.killF
 split
 ·rename_i hxf;exact hx.free_any hxf (fun _ _ _ _ _=>rfl) (fun _ _=>rfl) hf
 ·exact hx.kill h (fun _ _ _ _ _=>rfl) (fun _ _=>rfl) hf hr
theorem evict0_sound [Globals] (h:Nat)(hnm:∀ l,B.box h=some l→False)(hrel:Rel w0 B f0 fz ρ s tm w):∃ fz' ρ',Rel w0 B f0 fz' ρ' (evict0 h s) tm w∧(∀ b,fz b→fz' b)∧(∀ k,hget s.hp k=none→hget (evict0 h s).hp k=none):=by
 unfold evict0
 cases ho:hget s.hp h with
 | none=>exact⟨fz,ρ,hrel,fun _ h=>h,fun _ h=>h⟩
 | some o=>
  obtain⟨l,hl,hob⟩:=hrel.obj h o ho
  let ρ':Nat→Option Loc:=fun k=>if k=h then none else ρ k
  have hne:∀ k,k≠h→ρ' k=ρ k:=fun k hk=>by simp[ρ',hk]
  have hr:∀ k l,k≠h→ρ k=some l→ρ' k=some l:=fun k l hk hq=>(hne k hk).trans hq;have hsome:∀ k l,ρ' k=some l→k≠h∧ρ k=some l:=fun k l hk=>by
   simp only[ρ'] at hk
   split at hk
   ·cases hk
   ·rename_i e; exact⟨e,hk⟩
  simp only
  split
  ·rename_i hcond;simp only[Bool.and_eq_true,Bool.not_eq_true'] at hcond
   let fz':Nat→Prop:=fun b=>fz b∨∃ base cap sz,l=.at b base cap sz
   have hf:∀ b,fz b→fz' b:=fun b hb=>.inl hb;have hb:∀ b base cap sz,l=.at b base cap sz→fz' b:=fun b base cap sz hq=>.inr ⟨base,cap,sz,hq⟩;refine⟨fz',ρ',?_,hf,?_⟩
   ·exact {
     size:=by simp[hrel.size]
     tmp:=fun i t ht=>by
      rw[List.getElem?_map,Option.map_eq_some_iff] at ht;obtain⟨t0,h0,rfl⟩:=ht;obtain⟨u,hu,h1⟩:=hrel.tmp i t0 h0;exact⟨u,hu,h1.frzn hl hob hcond.1 hf hb hr⟩
     dom1:=fun k l' hk=>by
      obtain⟨e,hk⟩:=hsome k l' hk;obtain⟨o',ho'⟩:=hrel.dom1 k l' hk;exact⟨o'.frz h o,by rw[hget_map (fun x=>x.frz h o),hget_hdel_ne _ _ _ e,ho']; rfl⟩
     obj:=fun k o' hk=>by
      rw[hget_map (fun x=>x.frz h o),Option.map_eq_some_iff] at hk;obtain⟨x,hx,rfl⟩:=hk;have e:k≠h:=fun e=>by rw[e,hget_hdel] at hx; cases hx
      rw[hget_hdel_ne _ _ _ e] at hx;obtain⟨l',hl',hx'⟩:=hrel.obj k x hx;exact⟨l',hr _ _ e hl',hx'.frzn hl hob hcond.1 hf hb hr⟩
     inj:=fun k k' b base cap sz base' cap' sz' h1 h2 h3 h4=>by
      obtain⟨e1,h3⟩:=hsome _ _ h3;obtain⟨e2,h4⟩:=hsome _ _ h4;exact hrel.inj k k' b base cap sz base' cap' sz' (fun hq=>h1 (List.mem_filter.2 ⟨hq,by simpa using e1⟩)) (fun hq=>h2 (List.mem_filter.2 ⟨hq,by simpa using e2⟩)) h3 h4
     own:=fun k b base cap sz hk=>by
      obtain⟨e,hk⟩:=hsome _ _ hk;obtain⟨h1,h2,h3⟩:=hrel.own k b base cap sz hk;refine⟨h1,fun hq=>?_,fun hq=>hf b (h3 (List.mem_filter.1 hq).1)⟩;have hkf:k∉s.fr:=fun hm=>hq (List.mem_filter.2 ⟨hm,by simpa using e⟩);obtain⟨h4,h5⟩:=h2 hkf;refine⟨h4,fun hz=>?_⟩
      rcases hz with hz | ⟨base',cap',sz',rfl⟩
      ·exact h5 hz
      ·by_cases hm:h∈s.fr
       ·exact h5 ((hrel.own h b _ _ _ hl).2.2 hm)
       ·exact e (hrel.inj k h b base cap sz base' cap' sz' hkf hm hk hl)
     fzl:=fun b hz=>by
      rcases hz with hz | ⟨base',cap',sz',rfl⟩
      ·exact hrel.fzl b hz
      ·exact (hrel.own h b _ _ _ hl).1
     fz0:=fun b hb=>.inl (hrel.fz0 b hb)
     fz1:=fun b hz=>by
      rcases hz with hz | ⟨base',cap',sz',rfl⟩
      ·exact hrel.fz1 b hz
      ·by_cases hm:h∈s.fr
       ·exact hrel.fz1 b ((hrel.own h b _ _ _ hl).2.2 hm)
       ·exact .inr ((hrel.own h b _ _ _ hl).2.1 hm).1
     below:=hrel.below
     frd:=fun k hk=>by
      obtain⟨hm,he⟩:=List.mem_filter.1 hk;have e:k≠h:=by simpa using he
      obtain⟨o',ho'⟩:=hrel.frd k hm;exact⟨o'.frz h o,by rw[hget_map (fun x=>x.frz h o),hget_hdel_ne _ _ _ e,ho']; rfl⟩
     glz:=hrel.glz.mono (fun _ _=>rfl) hf
     boxes:=fun k l' hk=>by
      obtain⟨h1,h2,x,h3,h4⟩:=hrel.boxes k l' hk;have e:k≠h:=fun e=>hnm l' (e▸hk);refine⟨h1,hr _ _ e h2,x.frz h o,by rw[hget_map (fun x=>x.frz h o),hget_hdel_ne _ _ _ e,h3]; rfl,?_⟩;unfold Ob.frz
      split<;>exact h4
     itr:=fun i q pos ht=>by
      rw[List.getElem?_map,Option.map_eq_some_iff] at ht;obtain⟨t0,h0,ht⟩:=ht;rw[frz_itr ht] at h0;obtain⟨u,hu,hI⟩:=hrel.itr i q pos h0;refine⟨u,hu,hI.mono (fun _ _ _=>rfl) (fun b _ _ hz hq hz'=>?_) (fun b _ hq k b' base cap sz hk=>hq k b' base cap sz (hsome k _ hk).2)⟩
      rcases hz' with hz' | ⟨base,cap,sz,rfl⟩
      ·exact hz hz'
      ·exact hq h b base cap sz hl rfl }
   ·intro k hk;rw[hget_map (fun x=>x.frz h o)]
    by_cases e:k=h
    ·rw[e,hget_hdel]; rfl
    ·rw[hget_hdel_ne _ _ _ e,hk]; rfl
  ·refine⟨fz,ρ',?_,fun _ h=>h,?_⟩
   ·exact {
     size:=by simp[hrel.size]
     tmp:=fun i t ht=>by
      rw[List.getElem?_map,Option.map_eq_some_iff] at ht;obtain⟨t0,h0,rfl⟩:=ht;obtain⟨u,hu,h1⟩:=hrel.tmp i t0 h0;exact⟨u,hu,h1.kill h (fun _ _=>rfl) (fun _ hb=>hb) hr⟩
     dom1:=fun k l' hk=>by
      obtain⟨e,hk⟩:=hsome k l' hk;obtain⟨o',ho'⟩:=hrel.dom1 k l' hk;exact⟨o'.killF h,by rw[hget_map (fun x=>x.killF h),hget_hdel_ne _ _ _ e,ho']; rfl⟩
     obj:=fun k o' hk=>by
      rw[hget_map (fun x=>x.killF h),Option.map_eq_some_iff] at hk;obtain⟨x,hx,rfl⟩:=hk;have e:k≠h:=fun e=>by rw[e,hget_hdel] at hx; cases hx
      rw[hget_hdel_ne _ _ _ e] at hx;obtain⟨l',hl',hx'⟩:=hrel.obj k x hx;exact⟨l',hr _ _ e hl',hx'.killF (fun _ hb=>hb) hr⟩
     inj:=fun k k' b base cap sz base' cap' sz' h1 h2 h3 h4=>by
      obtain⟨e1,h3⟩:=hsome _ _ h3;obtain⟨e2,h4⟩:=hsome _ _ h4;exact hrel.inj k k' b base cap sz base' cap' sz' (fun hq=>h1 (List.mem_filter.2 ⟨hq,by simpa using e1⟩)) (fun hq=>h2 (List.mem_filter.2 ⟨hq,by simpa using e2⟩)) h3 h4
     own:=fun k b base cap sz hk=>by
      obtain⟨e,hk⟩:=hsome _ _ hk;obtain⟨h1,h2,h3⟩:=hrel.own k b base cap sz hk;exact⟨h1,fun hq=>h2 (fun hm=>hq (List.mem_filter.2 ⟨hm,by simpa using e⟩)),fun hq=>h3 (List.mem_filter.1 hq).1⟩
     fzl:=hrel.fzl
     fz0:=hrel.fz0
     fz1:=hrel.fz1
     below:=hrel.below
     frd:=fun k hk=>by
      obtain⟨hm,he⟩:=List.mem_filter.1 hk;have e:k≠h:=by simpa using he
      obtain⟨o',ho'⟩:=hrel.frd k hm;exact⟨o'.killF h,by rw[hget_map (fun x=>x.killF h),hget_hdel_ne _ _ _ e,ho']; rfl⟩
     glz:=hrel.glz
     boxes:=fun k l' hk=>by
      obtain⟨h1,h2,x,h3,h4⟩:=hrel.boxes k l' hk;have e:k≠h:=fun e=>hnm l' (e▸hk);refine⟨h1,hr _ _ e h2,x.killF h,by rw[hget_map (fun x=>x.killF h),hget_hdel_ne _ _ _ e,h3]; rfl,?_⟩;unfold Ob.killF
      split<;>exact h4
     itr:=fun i q pos ht=>by
      rw[List.getElem?_map,Option.map_eq_some_iff] at ht;obtain⟨t0,h0,ht⟩:=ht;rw[kill_itr ht] at h0;obtain⟨u,hu,hI⟩:=hrel.itr i q pos h0;exact⟨u,hu,hI.mono (fun _ _ _=>rfl) (fun b _ _ hz _=>hz) (fun b _ hq k b' base cap sz hk=>hq k b' base cap sz (hsome k _ hk).2)⟩ }
   ·intro k hk;rw[hget_map (fun x=>x.killF h)]
    by_cases e:k=h
    ·rw[e,hget_hdel]; rfl
    ·rw[hget_hdel_ne _ _ _ e,hk]; rfl
theorem evict_sound [Globals] (h:Nat)(hrel:Rel w0 B f0 fz ρ s tm w):∃ fz' ρ',Rel w0 B f0 fz' ρ' (evict h s) tm w∧(∀ b,fz b→fz' b)∧(∀ k,hget s.hp k=none→hget (evict h s).hp k=none):=by
 unfold evict
 cases hnm:lentNm h with
 | true=>exact⟨fz,ρ,hrel,fun _ h=>h,fun _ h=>h⟩
 | false=>
  rw[if_neg Bool.false_ne_true];exact evict0_sound h (fun l hl=>by have:=(hrel.boxes h l hl).1; rw[hnm] at this; cases this) hrel
theorem freeze_sound [Globals] (h:Nat)(hrel:Rel w0 B f0 fz ρ s tm w):∃ fz' ρ',Rel w0 B f0 fz' ρ' (freeze h s) tm w∧(∀ b,fz b→fz' b)∧(∀ k,hget s.hp k=none→hget (freeze h s).hp k=none):=by
 unfold freeze
 cases hnm:lentNm h with
 | true=>exact⟨fz,ρ,hrel,fun _ h=>h,fun _ h=>h⟩
 | false=>
 rw[if_neg Bool.false_ne_true]
 cases ho:hget s.hp h with
 | none=>exact⟨fz,ρ,hrel,fun _ h=>h,fun _ h=>h⟩
 | some o=>
  obtain⟨l,hl,hob⟩:=hrel.obj h o ho
  let ρ':Nat→Option Loc:=fun k=>if k=h then none else ρ k
  have hne:∀ k,k≠h→ρ' k=ρ k:=fun k hk=>by simp[ρ',hk]
  have hr:∀ k l,k≠h→ρ k=some l→ρ' k=some l:=fun k l hk hq=>(hne k hk).trans hq;have hsome:∀ k l,ρ' k=some l→k≠h∧ρ k=some l:=fun k l hk=>by
   simp only[ρ'] at hk
   split at hk
   ·cases hk
   ·rename_i e; exact⟨e,hk⟩
  simp only
  split
  ·rename_i hcond
   let fz':Nat→Prop:=fun b=>fz b∨∃ base cap sz,l=.at b base cap sz
   have hf:∀ b,fz b→fz' b:=fun b hb=>.inl hb;have hb:∀ b base cap sz,l=.at b base cap sz→fz' b:=fun b base cap sz hq=>.inr ⟨base,cap,sz,hq⟩;refine⟨fz',ρ',?_,hf,?_⟩
   ·exact {
     size:=by simp[hrel.size]
     tmp:=fun i t ht=>by
      rw[List.getElem?_map,Option.map_eq_some_iff] at ht;obtain⟨t0,h0,rfl⟩:=ht;obtain⟨u,hu,h1⟩:=hrel.tmp i t0 h0;exact⟨u,hu,h1.frzn hl hob hcond hf hb hr⟩
     dom1:=fun k l' hk=>by
      obtain⟨e,hk⟩:=hsome k l' hk;obtain⟨o',ho'⟩:=hrel.dom1 k l' hk;exact⟨o'.frz h o,by rw[hget_map (fun x=>x.frz h o),hget_hdel_ne _ _ _ e,ho']; rfl⟩
     obj:=fun k o' hk=>by
      rw[hget_map (fun x=>x.frz h o),Option.map_eq_some_iff] at hk;obtain⟨x,hx,rfl⟩:=hk;have e:k≠h:=fun e=>by rw[e,hget_hdel] at hx; cases hx
      rw[hget_hdel_ne _ _ _ e] at hx;obtain⟨l',hl',hx'⟩:=hrel.obj k x hx;exact⟨l',hr _ _ e hl',hx'.frzn hl hob hcond hf hb hr⟩
     inj:=fun k k' b base cap sz base' cap' sz' h1 h2 h3 h4=>by
      obtain⟨e1,h3⟩:=hsome _ _ h3;obtain⟨e2,h4⟩:=hsome _ _ h4;exact hrel.inj k k' b base cap sz base' cap' sz' (fun hq=>h1 (List.mem_filter.2 ⟨hq,by simpa using e1⟩)) (fun hq=>h2 (List.mem_filter.2 ⟨hq,by simpa using e2⟩)) h3 h4
     own:=fun k b base cap sz hk=>by
      obtain⟨e,hk⟩:=hsome _ _ hk;obtain⟨h1,h2,h3⟩:=hrel.own k b base cap sz hk;refine⟨h1,fun hq=>?_,fun hq=>hf b (h3 (List.mem_filter.1 hq).1)⟩;have hkf:k∉s.fr:=fun hm=>hq (List.mem_filter.2 ⟨hm,by simpa using e⟩);obtain⟨h4,h5⟩:=h2 hkf;refine⟨h4,fun hz=>?_⟩
      rcases hz with hz | ⟨base',cap',sz',rfl⟩
      ·exact h5 hz
      ·by_cases hm:h∈s.fr
       ·exact h5 ((hrel.own h b _ _ _ hl).2.2 hm)
       ·exact e (hrel.inj k h b base cap sz base' cap' sz' hkf hm hk hl)
     fzl:=fun b hz=>by
      rcases hz with hz | ⟨base',cap',sz',rfl⟩
      ·exact hrel.fzl b hz
      ·exact (hrel.own h b _ _ _ hl).1
     fz0:=fun b hb=>.inl (hrel.fz0 b hb)
     fz1:=fun b hz=>by
      rcases hz with hz | ⟨base',cap',sz',rfl⟩
      ·exact hrel.fz1 b hz
      ·by_cases hm:h∈s.fr
       ·exact hrel.fz1 b ((hrel.own h b _ _ _ hl).2.2 hm)
       ·exact .inr ((hrel.own h b _ _ _ hl).2.1 hm).1
     below:=hrel.below
     frd:=fun k hk=>by
      obtain⟨hm,he⟩:=List.mem_filter.1 hk;have e:k≠h:=by simpa using he
      obtain⟨o',ho'⟩:=hrel.frd k hm;exact⟨o'.frz h o,by rw[hget_map (fun x=>x.frz h o),hget_hdel_ne _ _ _ e,ho']; rfl⟩
     glz:=hrel.glz.mono (fun _ _=>rfl) hf
     boxes:=fun k l' hk=>by
      obtain⟨h1,h2,x,h3,h4⟩:=hrel.boxes k l' hk;have e:k≠h:=fun e=>by rw[← e,h1] at hnm; cases hnm
      refine⟨h1,hr _ _ e h2,x.frz h o,by rw[hget_map (fun x=>x.frz h o),hget_hdel_ne _ _ _ e,h3]; rfl,?_⟩;unfold Ob.frz
      split<;>exact h4
     itr:=fun i q pos ht=>by
      rw[List.getElem?_map,Option.map_eq_some_iff] at ht;obtain⟨t0,h0,ht⟩:=ht;rw[frz_itr ht] at h0;obtain⟨u,hu,hI⟩:=hrel.itr i q pos h0;refine⟨u,hu,hI.mono (fun _ _ _=>rfl) (fun b _ _ hz hq hz'=>?_) (fun b _ hq k b' base cap sz hk=>hq k b' base cap sz (hsome k _ hk).2)⟩
      rcases hz' with hz' | ⟨base,cap,sz,rfl⟩
      ·exact hz hz'
      ·exact hq h b base cap sz hl rfl }
   ·intro k hk;rw[hget_map (fun x=>x.frz h o)]
    by_cases e:k=h
    ·rw[e,hget_hdel]; rfl
    ·rw[hget_hdel_ne _ _ _ e,hk]; rfl
  ·exact⟨fz,ρ,hrel,fun _ h=>h,fun _ h=>h⟩
theorem freezes_sound [Globals]:∀ (hs:List Nat) {fz:Nat→Prop} {ρ:Nat→Option Loc} {s:St},Rel w0 B f0 fz ρ s tm w→∃ fz' ρ',Rel w0 B f0 fz' ρ' (freezes hs s) tm w∧(∀ b,fz b→fz' b)∧(∀ k,hget s.hp k=none→hget (freezes hs s).hp k=none)
 | [],fz,ρ,s,hrel=>⟨fz,ρ,hrel,fun _ h=>h,fun _ h=>h⟩
 | h::hs,fz,ρ,s,hrel=>by
  obtain⟨fz1,ρ1,h1,h2,h4⟩:=freeze_sound h hrel;obtain⟨fz2,ρ2,g1,g2,g4⟩:=freezes_sound hs h1;exact⟨fz2,ρ2,g1,fun b hb=>g2 b (h2 b hb),fun k hk=>g4 k (h4 k hk)⟩
theorem evicts_sound [Globals]:∀ (hs:List Nat) {fz:Nat→Prop} {ρ:Nat→Option Loc} {s:St},Rel w0 B f0 fz ρ s tm w→∃ fz' ρ',Rel w0 B f0 fz' ρ' (evicts hs s) tm w∧(∀ b,fz b→fz' b)∧(∀ k,hget s.hp k=none→hget (evicts hs s).hp k=none)
 | [],fz,ρ,s,hrel=>⟨fz,ρ,hrel,fun _ h=>h,fun _ h=>h⟩
 | h::hs,fz,ρ,s,hrel=>by
  obtain⟨fz1,ρ1,h1,h2,h4⟩:=evict_sound h hrel;obtain⟨fz2,ρ2,g1,g2,g4⟩:=evicts_sound hs h1;exact⟨fz2,ρ2,g1,fun b hb=>g2 b (h2 b hb),fun k hk=>g4 k (h4 k hk)⟩
end
theorem hget_filter (q:Nat→Bool)(l:Heap)(k:Nat):hget (l.filter fun p=>q p.1) k=if q k then hget l k else none:=by
 induction l with
 | nil=>simp[hget]
 | cons p l ih=>
  obtain⟨k',o⟩:=p;simp only[List.filter_cons]
  by_cases hk:k'=k
  ·subst hk
   cases hq:q k' with
   | true=>simp[hget]
   | false=>simp[ih,hq]
  ·cases hq:q k' with
   | true=>simp[hget,hk,ih]
   | false=>simp[hget,hk,ih]
theorem keepAt_length (ks:List Nat)(tm:List T):(keepAt ks tm).length=tm.length:=by simp[keepAt]
theorem keepAt_get (ks:List Nat)(tm:List T)(j:Nat)(t:T)(h:(keepAt ks tm)[j]?=some t):(t=.junk∧∃ t',tm[j]?=some t')∨tm[j]?=some t:=by
 unfold keepAt at h;rw[List.getElem?_mapIdx,Option.map_eq_some_iff] at h;obtain⟨t',h1,h2⟩:=h
 split at h2
 ·exact .inr (h2▸h1)
 ·exact .inl ⟨h2.symm,t',h1⟩
theorem RepC.kept {w:World}{fz:Nat→Prop}{ρ ρ':Nat→Option Loc}{v:Value}{c:C}(h:RepC w fz ρ v c)(hr:∀ k∈c.hds,ρ' k=ρ k):RepC w fz ρ' v c:=by
 cases h with
 | frz h=>exact .frz h
 | nil h e=>exact .nil h (by rw[hr h (by simp[C.hds])]; exact e)
 | ref h off len b base cap sz a e hc ha hs=>exact .ref h off len b base cap sz a (by rw[hr h (by simp[C.hds])]; exact e) hc ha hs
 | ptr h i off b base cap sz e=>exact .ptr h i off b base cap sz (by rw[hr h (by simp[C.hds])]; exact e)
theorem RepL.kept {w:World}{fz:Nat→Prop}{ρ ρ':Nat→Option Loc}{vs:List Value}{cs:List C}(h:RepL w fz ρ vs cs)(hr:∀ k∈cs.flatMap C.hds,ρ' k=ρ k):RepL w fz ρ' vs cs:=
 ⟨h.1,fun i v c hv hc=>(h.2 i v c hv hc).kept (fun k hk=>hr k (List.mem_flatMap.2 ⟨c,List.mem_of_getElem? hc,hk⟩))⟩
theorem Rep1.kept {w:World}{fz:Nat→Prop}{ρ ρ':Nat→Option Loc}{v:Value}{t:T}(h:Rep1 w fz ρ v t)(hr:∀ k∈t.hds1,ρ' k=ρ k):Rep1 w fz ρ' v t:=by
 cases t with
 | c x=>exact RepC.kept h hr
 | agg cs=>obtain⟨vs,e,h⟩:=h; exact⟨vs,e,h.kept hr⟩
 | tup _=>exact h.elim
 | itr _ _=>exact h.elim
 | junk=>trivial
theorem RepT.kept {w:World}{fz:Nat→Prop}{ρ ρ':Nat→Option Loc}{v:Value}{t:T}(h:RepT w fz ρ v t)(hr:∀ k∈t.hds,ρ' k=ρ k):RepT w fz ρ' v t:=by
 cases t with
 | c x=>exact RepC.kept h hr
 | agg cs=>obtain⟨vs,e,h⟩:=h; exact⟨vs,e,h.kept hr⟩
 | tup ts=>
  obtain⟨vs,e,hs,h⟩:=h;refine⟨vs,e,hs,fun i t ht=>?_⟩;obtain⟨v',hv,h1⟩:=h i t ht;exact⟨v',hv,h1.kept (fun k hk=>hr k (List.mem_flatMap.2 ⟨t,List.mem_of_getElem? ht,hk⟩))⟩
 | itr _ _=>trivial
 | junk=>trivial
theorem RepO.kept {w:World}{fz:Nat→Prop}{ρ ρ':Nat→Option Loc}{l:Loc}{o:Ob}(h:RepO w fz ρ l o)(hr:∀ k∈o.hds,ρ' k=ρ k):RepO w fz ρ' l o:=by
 obtain⟨h1,h0,h⟩:=h;refine⟨h1,h0,?_⟩
 cases l with
 | nil=>exact h
 | «at» b base cap sz=>
  obtain⟨h1,h2,c,fr,h3,h4,h5,h6⟩:=h;refine⟨h1,h2,c,fr,h3,h4,h5,fun i j e x he hx=>?_⟩;obtain⟨v,hv,hrep⟩:=h6 i j e x he hx;refine⟨v,hv,hrep.kept (fun k hk=>?_)⟩
  cases hf:o.free with
  | true=>
   have:=h0 hf e (List.mem_of_getElem? he) x (List.mem_of_getElem? hx)
   cases x<;>simp[C.hds] at hk<;>cases this
  | false=>exact hr k (by simp only[Ob.hds,hf,Bool.false_eq_true,if_false]; exact List.mem_flatMap.2 ⟨e,List.mem_of_getElem? he,List.mem_flatMap.2 ⟨x,List.mem_of_getElem? hx,hk⟩⟩)
theorem hget_mem:∀ {l:Heap} {k:Nat} {o:Ob},hget l k=some o→(k,o)∈l
 | [],_,_,h=>by cases h
 | (k',o')::l,k,o,h=>by
  simp only[hget] at h
  split at h
  ·rename_i hk;injection h with h;subst hk;subst h;exact List.mem_cons_self
  ·exact List.mem_cons_of_mem _ (hget_mem h)
theorem tidy1_sound [Globals] {w0:World}{B:Bs}{f0 fz:Nat→Prop}{ρ:Nat→Option Loc}{s:St}{tm:Array Value}{w:World}(live:List Nat)(ks:List Nat)(hrel:Rel w0 B f0 fz ρ s tm w):∃ ρ',Rel w0 B f0 fz ρ' (tidy1 live (keepAt ks s.tm) s) tm w:=by
 unfold tidy1
 split
 ·rename_i hc;simp only[Bool.and_eq_true,List.all_eq_true] at hc;obtain⟨⟨htm,hhp⟩,hbx⟩:=hc;refine⟨fun k=>if live.contains k then ρ k else none,?_⟩;have hin:∀ k,live.contains k=true→(if live.contains k then ρ k else none)=ρ k:=fun k hk=>if_pos hk;have hs:∀ k l,(if live.contains k then ρ k else none)=some l→live.contains k=true∧ρ k=some l:=fun k l h=>by
   split at h
   ·rename_i hk; exact⟨hk,h⟩
   ·cases h
  have hfr:∀ k,live.contains k=true→(k∈s.fr.filter live.contains↔k∈s.fr):=fun k hk=>by
   rw[List.mem_filter];exact⟨fun h=>h.1,fun h=>⟨h,hk⟩⟩
  refine⟨by rw[keepAt_length]; exact hrel.size,fun i t ht=>?_,fun k l hk=>?_,fun k o hk=>?_,fun k k' b base cap sz base' cap' sz' h1 h2 h3 h4=>?_,fun k b base cap sz hk=>?_,hrel.fzl,hrel.fz0,hrel.fz1,hrel.below,fun k hk=>?_,hrel.glz,fun i q pos ht=>?_,fun k l hk=>?_⟩
  ·rcases keepAt_get _ _ _ _ ht with ⟨rfl,t',ht'⟩ | ht'
   ·obtain⟨v,hv,_⟩:=hrel.tmp i t' ht';exact⟨v,hv,trivial⟩
   ·obtain⟨v,hv,h⟩:=hrel.tmp i t ht';exact⟨v,hv,h.kept fun k hk=>hin k (htm t (List.mem_of_getElem? ht) k hk)⟩
  ·obtain⟨h1,h2⟩:=hs k l hk;obtain⟨o,ho⟩:=hrel.dom1 k l h2;exact⟨o,by simp only; rw[hget_filter live.contains,if_pos h1]; exact ho⟩
  ·simp only at hk;rw[hget_filter live.contains] at hk
   split at hk
   ·rename_i hl;obtain⟨l,h1,h2⟩:=hrel.obj k o hk;refine⟨l,by rw[hin k hl]; exact h1,h2.kept fun k' hk'=>hin k' ?_⟩;have:=hhp _ (hget_mem hk);simp only[hl,Bool.not_true,Bool.false_or,List.all_eq_true] at this;exact this k' hk'
   ·cases hk
  ·obtain⟨h5,h6⟩:=hs _ _ h3;obtain⟨h7,h8⟩:=hs _ _ h4;exact hrel.inj k k' b base cap sz base' cap' sz' (fun h=>h1 ((hfr k h5).2 h)) (fun h=>h2 ((hfr k' h7).2 h)) h6 h8
  ·obtain⟨h1,h2⟩:=hs _ _ hk;obtain⟨h3,h4,h5⟩:=hrel.own k b base cap sz h2;exact⟨h3,fun h=>h4 (fun h'=>h ((hfr k h1).2 h')),fun h=>h5 ((hfr k h1).1 h)⟩
  ·obtain⟨h1,h2⟩:=List.mem_filter.1 hk;obtain⟨o,ho⟩:=hrel.frd k h1;exact⟨o,by simp only; rw[hget_filter live.contains,if_pos h2]; exact ho⟩
  ·rcases keepAt_get _ _ _ _ ht with ⟨h,_⟩ | ht'
   ·cases h
   ·obtain⟨v,hv,hI⟩:=hrel.itr i q pos ht';exact⟨v,hv,hI.mono (fun _ _ _=>rfl) (fun b _ _ hz _=>hz) (fun b _ hq k b' base cap sz hk=>hq k b' base cap sz (hs _ _ hk).2)⟩
  ·obtain⟨h1,h2,o,h3,h4⟩:=hrel.boxes k l hk;have hlv:live.contains k=true:=by
    have:=hbx _ (hget_mem h3);simp only[h1,Bool.not_true,Bool.false_or] at this;exact this
   exact⟨h1,by rw[hin k hlv]; exact h2,o,by simp only; rw[hget_filter live.contains,if_pos hlv]; exact h3,h4⟩
 ·refine⟨ρ,by simp only[keepAt_length]; exact hrel.size,fun i t ht=>?_,hrel.dom1,hrel.obj,hrel.inj,hrel.own,hrel.fzl,hrel.fz0,hrel.fz1,hrel.below,hrel.frd,hrel.glz,fun i q pos ht=>?_,hrel.boxes⟩
  ·rcases keepAt_get _ _ _ _ ht with ⟨rfl,t',ht'⟩ | ht'
   ·obtain⟨v,hv,_⟩:=hrel.tmp i t' ht';exact⟨v,hv,trivial⟩
   ·exact hrel.tmp i t ht'
  ·rcases keepAt_get _ _ _ _ ht with ⟨h,_⟩ | ht'
   ·cases h
   ·exact hrel.itr i q pos ht'
theorem settle_sound [Globals] {w0:World}{B:Bs}{f0 fz:Nat→Prop}{ρ:Nat→Option Loc}{s:St}{tm:Array Value}{w:World}(hrel:Rel w0 B f0 fz ρ s tm w):Rel w0 B f0 fz ρ (settle s) tm w:=by
 have hlift:∀ {l:Loc} {o:Ob},RepO w fz ρ l o→RepO w fz ρ l o.lift:=by
  intro l o h;unfold Ob.lift
  split
  ·exact h
  ·obtain⟨h1,h0,h2⟩:=h;exact⟨h1,fun hf e he x hx=>List.all_eq_true.1 (List.all_eq_true.1 hf e he) x hx,h2⟩
 refine⟨hrel.size,hrel.tmp,fun k l hk=>?_,fun k o hk=>?_,hrel.inj,hrel.own,hrel.fzl,hrel.fz0,hrel.fz1,hrel.below,fun k hk=>?_,hrel.glz,hrel.itr,fun k l hk=>?_⟩
 ·obtain⟨o,ho⟩:=hrel.dom1 k l hk;exact⟨o.lift,by simp only[settle]; rw[hget_map,ho]; rfl⟩
 ·simp only[settle] at hk;rw[hget_map,Option.map_eq_some_iff] at hk;obtain⟨o',ho,rfl⟩:=hk;obtain⟨l,h1,h2⟩:=hrel.obj k o' ho;exact⟨l,h1,hlift h2⟩
 ·obtain⟨o,ho⟩:=hrel.frd k hk;exact⟨o.lift,by simp only[settle]; rw[hget_map,ho]; rfl⟩
 ·obtain⟨h1,h2,o,h3,h4⟩:=hrel.boxes k l hk;refine⟨h1,h2,o.lift,by simp only[settle]; rw[hget_map,h3]; rfl,?_⟩;unfold Ob.lift
  split<;>exact h4
theorem nil1_sound [Globals] {w0:World}{B:Bs}{f0 fz:Nat→Prop}{ρ:Nat→Option Loc}{s:St}{tm:Array Value}{w:World}(h j e sz:Nat)(hrel:Rel w0 B f0 fz ρ s tm w):∃ ρ',Rel w0 B f0 fz ρ' (nil1 h j e sz s) tm w:=by
 unfold nil1
 split
 ·rename_i o ho
  split
  ·rename_i cs hcs
   split
   ·rename_i hc;obtain⟨hbox,hfr,hln,hnil,hfree⟩:=hc;have hj:cs[j]?=some (.lit (.slice none 0 0)):=by
     unfold nil1.isNilC at hnil
     split at hnil
     ·assumption
     ·cases hnil
    generalize hh:h+10000*(1000+j)=h' at hfree ⊢;have hne:h'≠h:=by omega
    have hln':lentNm h'=false:=by
     rw[← hh];unfold lentNm at hln ⊢;simp only[Nat.add_mul_mod_self_left] at hln ⊢;exact hln
    have hρ:ρ h'=none:=by
     cases hq:ρ h' with
     | none=>rfl
     | some l=>obtain⟨o',ho'⟩:=hrel.dom1 h' l hq; rw[ho'] at hfree; cases hfree
    have hup:∀ k l,ρ k=some l→(if k=h' then some Loc.nil else ρ k)=some l:=fun k l hk=>by
     rw[if_neg (fun e=>by rw[e,hρ] at hk; cases hk)];exact hk
    have hat:∀ k b base cap sz,(if k=h' then some Loc.nil else ρ k)=some (.at b base cap sz)→ρ k=some (.at b base cap sz):=fun k b base cap sz hk=>by
     split at hk
     ·cases hk
     ·exact hk
    have hup2:∀ {v c},RepC w fz ρ v c→RepC w fz (fun k=>if k=h' then some Loc.nil else ρ k) v c:=fun hr=>hr.mono (fun _ _=>rfl) (fun _ hz=>hz) hup;refine⟨fun k=>if k=h' then some .nil else ρ k,?_⟩;exact {
     size:=hrel.size
     tmp:=fun i t ht=>by
      obtain⟨v,hv,hr⟩:=hrel.tmp i t ht;exact⟨v,hv,hr.mono (fun _ _=>rfl) (fun _ hz=>hz) hup⟩
     dom1:=fun k l hk=>by
      by_cases e1:k=h'
      ·subst e1; exact⟨_,hget_hput _ _ _⟩
      ·simp only[if_neg e1] at hk;obtain⟨o1,ho1⟩:=hrel.dom1 k l hk;simp only[hgN _ _ _ _ e1]
       by_cases e2:k=h
       ·subst e2; exact⟨_,hget_hput _ _ _⟩
       ·exact⟨o1,by rw[hgN _ _ _ _ e2]; exact ho1⟩
     obj:=fun k o1 hk=>by
      by_cases e1:k=h'
      ·subst e1;simp only[hget_hput,Option.some.injEq] at hk;subst hk;exact⟨.nil,by simp,by simp,by simp,rfl,rfl⟩
      ·simp only[hgN _ _ _ _ e1] at hk
       by_cases e2:k=h
       ·subst e2;simp only[hget_hput,Option.some.injEq] at hk;subst hk;obtain⟨l,hl,hO⟩:=hrel.obj k o ho;refine⟨l,by simp only[if_neg e1]; exact hl,?_⟩;obtain⟨h1,h2,h3⟩:=hO;refine⟨fun x hx=>?_,(fun hf=>by cases hf),?_⟩
        ·simp only[List.mem_singleton] at hx;subst hx;rw[List.length_set];exact h1 cs (by rw[hcs]; exact List.mem_singleton.2 rfl)
        ·cases l with
         | nil=>rw[h3.2] at hbox; cases hbox
         | «at» b base cap sz'=>
          obtain⟨g1,g2,c,fr,g3,g4,g5,g6⟩:=h3;refine⟨g1,by rw[hcs] at g2; exact g2,c,fr,g3,g4,g5,fun i j' x y hx hy=>?_⟩
          cases i with
          | succ i=>simp at hx
          | zero=>
           simp only[List.getElem?_cons_zero,Option.some.injEq] at hx;subst hx;rw[List.getElem?_set] at hy
           split at hy
           ·rename_i e3;subst e3
            split at hy
            ·injection hy with hy;subst hy;obtain⟨v,hv,hr⟩:=g6 0 j cs _ (by rw[hcs]; rfl) hj;refine⟨v,hv,?_⟩
             cases hr with
             | frz hr=>cases hr; exact .nil h' (by simp)
            ·cases hy
           ·obtain⟨v,hv,hr⟩:=g6 0 j' cs y (by rw[hcs]; rfl) hy;exact⟨v,hv,hup2 hr⟩
       ·rw[hgN _ _ _ _ e2] at hk;obtain⟨l,hl,hO⟩:=hrel.obj k o1 hk;exact⟨l,by simp only[if_neg e1]; exact hl,hO.mono (fun _ _ _ _ _=>rfl) (fun _ _=>rfl) (fun _ hz=>hz) hup⟩
     inj:=fun k k' b base cap sz base' cap' sz' h1 h2 h3 h4=>hrel.inj k k' b base cap sz base' cap' sz' h1 h2 (hat _ _ _ _ _ h3) (hat _ _ _ _ _ h4)
     own:=fun k b base cap sz hk=>hrel.own k b base cap sz (hat _ _ _ _ _ hk)
     fzl:=hrel.fzl
     fz0:=hrel.fz0
     fz1:=hrel.fz1
     below:=hrel.below
     frd:=fun k hk=>by
      obtain⟨o1,ho1⟩:=hrel.frd k hk
      by_cases e1:k=h'
      ·subst e1; exact⟨_,hget_hput _ _ _⟩
      ·simp only[hgN _ _ _ _ e1]
       by_cases e2:k=h
       ·subst e2; exact⟨_,hget_hput _ _ _⟩
       ·exact⟨o1,by rw[hgN _ _ _ _ e2]; exact ho1⟩
     glz:=hrel.glz
     itr:=fun i q pos ht=>by
      obtain⟨u,hu,hI⟩:=hrel.itr i q pos ht;exact⟨u,hu,hI.mono (fun _ _ _=>rfl) (fun _ _ _ hz _=>hz) (fun b hb hq k b' base cap sz hk=>hq k b' base cap sz (hat _ _ _ _ _ hk))⟩
     boxes:=fun k l hk=>by
      obtain⟨h1,h2,o1,h3,h4⟩:=hrel.boxes k l hk;have e1:k≠h':=fun e=>by rw[e,hln'] at h1; cases h1
      have e2:k≠h:=fun e=>by rw[e,hln] at h1; cases h1
      exact⟨h1,hup _ _ h2,o1,by simp only[hgN _ _ _ _ e1,hgN _ _ _ _ e2]; exact h3,h4⟩ }
   ·exact⟨ρ,hrel⟩
  ·exact⟨ρ,hrel⟩
 ·exact⟨ρ,hrel⟩
theorem nils_sound [Globals] {w0:World}{B:Bs}{f0 fz:Nat→Prop}{tm:Array Value}{w:World}:∀ (ks:List Nat) {ρ:Nat→Option Loc} {s:St},Rel w0 B f0 fz ρ s tm w→∃ ρ',Rel w0 B f0 fz ρ' (nils ks s) tm w
 | m::h::j::e::sz::ks,ρ,s,hrel=>by
  simp only[nils]
  split
  ·obtain⟨ρ1,h1⟩:=nil1_sound h j e sz hrel;exact nils_sound ks h1
  ·exact⟨ρ,hrel⟩
 | [],ρ,s,hrel=>⟨ρ,hrel⟩
 | [_],ρ,s,hrel=>⟨ρ,hrel⟩
 | [_,_],ρ,s,hrel=>⟨ρ,hrel⟩
 | [_,_,_],ρ,s,hrel=>⟨ρ,hrel⟩
 | [_,_,_,_],ρ,s,hrel=>⟨ρ,hrel⟩
theorem tidy_sound [Globals] {w0:World}{B:Bs}{f0 fz:Nat→Prop}{ρ:Nat→Option Loc}{s:St}{tm:Array Value}{w:World}(k:Option (List Nat))(hrel:Rel w0 B f0 fz ρ s tm w):∃ fz' ρ',Rel w0 B f0 fz' ρ' (tidy k s) tm w:=by
 cases k with
 | none=>exact⟨fz,ρ,hrel⟩
 | some ks0=>
  obtain⟨ρ0,hrel⟩:=nils_sound ks0 hrel;show ∃ fz' ρ',Rel w0 B f0 fz' ρ' (tidy.settleR (tidy.tidyK (unNil ks0) (nils ks0 s))) tm w;generalize nils ks0 s=s at hrel;generalize unNil ks0=ks;obtain⟨ρ1,h1⟩:=tidy1_sound (hnext s.hp (hnext s.hp ((s.hp.map Prod.fst).filter lentNm++(keepAt ks s.tm).flatMap T.hds))) ks hrel;obtain⟨fz2,ρ2,h2,_⟩:=evicts_sound (rowRefs (tidy1 (hnext s.hp (hnext s.hp ((s.hp.map Prod.fst).filter lentNm++(keepAt ks s.tm).flatMap T.hds))) (keepAt ks s.tm) s).hp) h1;exact⟨fz2,ρ2,settle_sound h2⟩
end Go.Vabs
namespace Go.Vabs
open Go.RowKit
structure But (w w':World) (b:Nat):Prop where
 os:w'.os=w.os
 tape:w'.tape=w.tape
 output:w'.output=w.output
 size:w'.heap.size=w.heap.size
 block:∀ k,k≠b→w'.heap[k]?=w.heap[k]?
theorem But.refl (w:World)(b:Nat):But w w b:=⟨rfl,rfl,rfl,rfl,fun _ _=>rfl⟩
theorem But.trans {a b c:World}{k:Nat}(h:But a b k)(g:But b c k):But a c k:=
 ⟨g.os.trans h.os,g.tape.trans h.tape,g.output.trans h.output,g.size.trans h.size,fun i hi=>(g.block i hi).trans (h.block i hi)⟩
theorem run_storeCells' {P:Program}{b q:Nat}{e:TypeId}{fr:Nat × Nat}:∀ (vs:List Value) (i:Nat) (c:Array Value) (w:World),w.heap[b]?=some (.cells c e fr)→q+i+vs.length≤c.size→(∀ v∈vs,isCell v) →
  (∀ off,off<c.size→¬ (fr.1≤off∧off<fr.2))→∃ (w':World) (c':Array Value),(storeCells ⟨b,q,none⟩ vs i).run P w=.ok () w'∧w'.heap[b]?=some (.cells c' e fr)∧c'.toList=over c.toList (q+i) vs∧But w w' b
 | [],i,c,w,hb,hl,hv,hf=>⟨w,c,rfl,hb,by
   apply List.ext_getElem?;intro j;rw[over_get,if_neg (by simp only[List.length_nil]; omega)],But.refl _ _⟩
 | v::vs,i,c,w,hb,hl,hv,hf=>by
  simp only[List.length_cons] at hl;have hq:w.cell? ⟨b,q+i,none⟩=some (c[q+i]'(by omega)):=by rw[cell?_at hb,Array.getElem?_eq_getElem (by omega)]
  have hfz:w.frozen? ⟨b,q+i,none⟩=false:=by
   have:=hf (q+i) (by omega);simp only[World.frozen?,hb];simpa using this
  have hset:(w.setCell ⟨b,q+i,none⟩ v).heap[b]?=some (.cells (c.setIfInBounds (q+i) v) e fr):=by
   simp[World.setCell,Array.getElem?_modify,hb]
  obtain⟨w',c',h1,h2,h3,h4⟩:=run_storeCells' (P:=P) (q:=q) vs (i+1) (c.setIfInBounds (q+i) v) (w.setCell ⟨b,q+i,none⟩ v) hset (by simp; omega) (fun u hu=>hv u (List.mem_cons_of_mem _ hu)) (fun off ho=>hf off (by simpa using ho));refine⟨w',c',?_,h2,?_,But.trans (b:=w.setCell ⟨b,q+i,none⟩ v) ⟨rfl,rfl,rfl,by simp,fun k hk=>Below.heap_setCell _ _ _ _ hk⟩ h4⟩
  ·simp only[storeCells,Sem.run_bind,add_none];rw[run_store P w _ v .plain (hv v List.mem_cons_self).one,hq];simp only[hfz,Bool.false_eq_true,if_false,Result.andThen_ok];exact h1
  ·rw[h3];apply List.ext_getElem?;intro j;rw[over_get,over_get];simp only[Array.length_toList,Array.size_setIfInBounds,Array.getElem?_toList,Array.getElem?_setIfInBounds,List.length_cons]
   by_cases h1:q+(i+1)≤j∧j<q+(i+1)+vs.length∧j<c.size
   ·rw[if_pos h1,if_pos (by omega),show j-(q+i)=(j-(q+(i+1)))+1 by omega,List.getElem?_cons_succ]
   ·rw[if_neg h1]
    by_cases h2:q+i=j
    ·subst h2;rw[if_pos rfl,if_pos (by omega),if_pos (by omega)];simp
    ·rw[if_neg h2,if_neg (by omega)]
section
variable {P:Program} {ty:Tys} {w0:World} {B:Bs} {f0 fz:Nat→Prop} {ρ:Nat→Option Loc} {s:St} {a:Act} {w:World} {o:Oper}
theorem C.all_free {cs:List C}(h:cs.all C.free=true):∀ c∈cs,c.free=true:=fun c hc=>List.all_eq_true.1 h c hc
theorem Rel.write [Globals] (hrel:Rel w0 B f0 fz ρ s a.tmps w){h b base cap sz:Nat}{ob ob':Ob}{w':World}(hh:hget s.hp h=some ob)(hr:ρ h=some (.at b base cap sz))(hfr:h∉s.fr)(hbut:But w w' b)(hbox:ob'.box=ob.box)
  (hob:∀ {w'':World},w''=w'→RepO w' fz ρ (.at b base cap sz) ob'):Rel w0 B f0 fz ρ { tm:=s.tm,hp:=hput s.hp h ob',fr:=s.fr } a.tmps w':=by
 obtain⟨hb1,hb2,_⟩:=hrel.own h b base cap sz hr;obtain⟨hB,hnf⟩:=hb2 hfr;have hfz:∀ k,fz k→w'.heap[k]?=w.heap[k]?:=fun k hk=>hbut.block k (fun e=>hnf (e▸hk));exact {
  size:=hrel.size
  tmp:=fun i t ht=>by
   obtain⟨v,hv,hrep⟩:=hrel.tmp i t ht;exact⟨v,hv,hrep.mono hfz (fun _ h=>h) (fun _ _ h=>h)⟩
  dom1:=fun k l hk=>by
   by_cases e:k=h
   ·subst e; exact⟨ob',hget_hput _ _ _⟩
   ·obtain⟨o,ho⟩:=hrel.dom1 k l hk;exact⟨o,by rw[hgN _ _ _ _ e]; exact ho⟩
  obj:=fun k o hk=>by
   by_cases e:k=h
   ·subst e;simp only[hget_hput,Option.some.injEq] at hk;subst hk;exact⟨_,hr,hob rfl⟩
   ·simp only[hgN _ _ _ _ e] at hk;obtain⟨l,hl,ho⟩:=hrel.obj k o hk;refine⟨l,hl,ho.mono (fun b' base' cap' sz' hb=>?_) hfz (fun _ h=>h) (fun _ _ h=>h)⟩;refine hbut.block b' (fun e'=>?_);subst hb;subst e'
    by_cases hk:k∈s.fr
    ·exact hnf ((hrel.own k _ _ _ _ hl).2.2 hk)
    ·exact e (hrel.inj k h _ _ _ _ _ _ _ hk hfr hl hr)
  inj:=hrel.inj
  own:=fun k b' base' cap' sz' hk=>by
   obtain⟨h1,h2⟩:=hrel.own k b' base' cap' sz' hk;exact⟨by rw[hbut.size]; exact h1,h2⟩
  fzl:=fun k hk=>by rw[hbut.size]; exact hrel.fzl k hk
  fz0:=hrel.fz0
  fz1:=hrel.fz1
  below:=hrel.below.trans ⟨hbut.os,hbut.tape,hbut.output,by rw[hbut.size]; exact Nat.le_refl _,fun k hk=>hbut.block k (fun e=>hk (e▸hB))⟩
  frd:=fun k hk=>by
   by_cases e:k=h
   ·subst e; exact⟨ob',hget_hput _ _ _⟩
   ·obtain⟨o,ho⟩:=hrel.frd k hk;exact⟨o,by rw[hgN _ _ _ _ e]; exact ho⟩
  glz:=hrel.glz.mono hfz (fun _ h=>h)
  boxes:=fun k l hk=>by
   obtain⟨h1,h2,o,h3,h4⟩:=hrel.boxes k l hk
   by_cases e:k=h
   ·subst e;exact⟨h1,h2,ob',hget_hput _ _ _,by rw[hbox]; rw[h3] at hh; injection hh with hh; exact hh▸h4⟩
   ·exact⟨h1,h2,o,by rw[hgN _ _ _ _ e]; exact h3,h4⟩
  itr:=fun i q pos ht=>by
   obtain⟨u,hu,hI⟩:=hrel.itr i q pos ht;exact⟨u,hu,hI.mono (fun b' _ hq=>hbut.block b' (fun e=>hq h b base cap sz hr e.symm)) (fun _ _ _ hz _=>hz) (fun _ _ hq=>hq)⟩ }
theorem storeVar_run (hty:∀ t y,ty t=some y→Ty.of P t=some y){t:TypeId}{y:Ty}(ht:ty t=some y)(ad:Addr)(v:Value)(hs:v.cells.size=y.size):storeVar t ad v=storeVar t ad v ∧
  (storeVar t ad v).run P w=(storeCells ad v.cells.toList).run P w:=by
 obtain⟨i,d,hi,hd,hk,hsz,_⟩:=Ty.of_some (hty t y ht);refine⟨rfl,?_⟩;have:¬ v.cells.size≠i.size:=by omega
 simp only[storeVar,Sem.run_bind,run_sizeOf' hi,Result.andThen_ok,if_neg this,Sem.run_pure]
theorem evS1_sound [Globals] (hty:∀ t y,ty t=some y→Ty.of P t=some y)(hrel:Rel w0 B f0 fz ρ s a.tmps w){t:TypeId}{x ad:Operand}{s':St}(ho:o.op=.store t ad x)(h:evS1 ty t ad x s=some s'):
  ∃ w',(execOp a.eval o).run P w=.ok .skip w'∧Rel w0 B f0 fz ρ s' a.tmps w':=by
 unfold evS1 at h
 split at h
 ·rename_i k i off y cs hp ht hcs
  split at h
  ·rename_i ob hob
   split at h
   ·rename_i hcond;obtain⟨hfr,hlen,hbf⟩:=hcond;have hfr:k∉s.fr:=by simpa using hfr
    rw[Option.map_eq_some_iff] at h;obtain⟨ob',hst,rfl⟩:=h;have hpr:=opd_rep hrel ad;rw[hp] at hpr;have hpr:RepC w fz ρ (a.eval ad) (.ptr k i off):=hpr;generalize hpv:a.eval ad=pv at hpr
    cases hpr with
    | frz hf=>cases hf
    | ptr _ _ _ b base cap sz hr=>
     have hvr:=RepT.cells (opd_rep hrel x) hcs;have hvl:=hvr.1;simp only[Array.length_toList] at hvl;obtain⟨hes,hfree,hsz,hcap,c,fr,hb,hsize,hff,hcell⟩:=hrel.objAt hob hr;unfold storeO at hst
     split at hst
     ·rename_i e he
      split at hst
      ·rename_i hle;injection hst with hst;subst hst;have hel:e.length=ob.sz:=hes e (List.mem_of_getElem? he);have hi:=(List.getElem?_eq_some_iff.1 he).1;have hmul:(i+1)*sz≤cap*sz:=Nat.mul_le_mul_right _ (by omega);rw[Nat.add_mul] at hmul;obtain⟨w',c',h1,h2,h3,h4⟩:=run_storeCells' (P:=P) (b:=b) (q:=base+i*sz+off) (e:=ob.elem) (fr:=fr) (a.eval x).cells.toList 0 c w hb (by simp; omega)
        (fun v hv=>by
         obtain⟨j,hj⟩:=List.mem_iff_getElem?.1 hv;have hjl:=(List.getElem?_eq_some_iff.1 hj).1;simp only[Array.length_toList] at hjl;exact (hvr.2 j v _ hj (List.getElem?_eq_getElem (by omega))).cell) (thaw hff.1)
       have hnf:=((hrel.own k b base cap sz hr).2.1 hfr).2;have hfz:∀ q,fz q→w'.heap[q]?=w.heap[q]?:=fun q hq=>h4.block q (fun e=>hnf (e▸hq));refine⟨w',?_,hrel.write hob hr hfr h4 rfl (fun _=>?_)⟩
       ·have hrun:=(storeVar_run (P:=P) (w:=w) hty ht ⟨b,base+i*sz+off,none⟩ (a.eval x) (by omega)).2;simp only[execOp,ho,hpv,Sem.run_bind,Instr.storeAt,Instr.sureAddr,Sem.run_pure,Result.andThen_ok,hrun,h1]
       ·refine⟨fun e' he'=>?_,fun hf e' he' x' hx'=>?_,hsz,by simpa using hcap,c',fr,h2,by rw[← Array.length_toList,h3,over_length]; simpa using hsize,?_,fun i' j' e' x' he' hx'=>?_⟩
        ·rcases List.mem_or_eq_of_mem_set he' with he' | rfl
         ·exact hes e' he'
         ·rw[over_length]; exact hel
        ·simp only[Bool.and_eq_true] at hf
         rcases List.mem_or_eq_of_mem_set he' with he' | rfl
         ·exact hfree hf.1 e' he' x' hx'
         ·obtain⟨j,hj⟩:=List.mem_iff_getElem?.1 hx';rw[over_get] at hj
          split at hj
          ·exact C.all_free hf.2 x' (List.mem_of_getElem? hj)
          ·exact hfree hf.1 e (List.mem_of_getElem? he) x' (List.mem_of_getElem? hj)
        ·have:c'.size=c.size:=by rw[← Array.length_toList,h3,over_length,Array.length_toList]
         rw[this];exact hff
        ·rw[← Array.getElem?_toList,h3,over_get];simp only[Array.length_toList];have hj':j'<sz:=by
          have:=(List.getElem?_eq_some_iff.1 hx').1;have:e'.length=ob.sz:=by
           rcases List.mem_or_eq_of_mem_set (List.mem_of_getElem? he') with he' | rfl
           ·exact hes e' he'
           ·rw[over_length]; exact hel
          omega
         have hrow:∀ p,p<ob.es.length→p*sz+sz≤cap*sz:=fun p hp=>by
          have:=Nat.mul_le_mul_right sz (show p+1≤cap by omega);rw[Nat.add_mul] at this;omega
         by_cases hii:i=i'
         ·subst hii;rw[List.getElem?_set_self hi] at he';injection he' with he';subst he';rw[over_get] at hx'
          split at hx'
          ·rename_i hin;rw[if_pos (by omega)];have hlt:j'-off<(a.eval x).cells.size:=by omega
           refine⟨(a.eval x).cells.toList[j'-off]'(by simpa using hlt),?_,(hvr.2 (j'-off) _ x' (List.getElem?_eq_getElem _) hx').mono hfz (fun _ h=>h) (fun _ _ h=>h)⟩;rw[show base+i*sz+j'-(base+i*sz+off+0)=j'-off by omega];exact List.getElem?_eq_getElem _
          ·rename_i hout;rw[if_neg (by omega)];obtain⟨v,hv,hrep⟩:=hcell i j' e x' he hx';exact⟨v,by rw[Array.getElem?_toList]; exact hv,hrep.mono hfz (fun _ h=>h) (fun _ _ h=>h)⟩
         ·rw[List.getElem?_set_ne hii] at he';have hi':=(List.getElem?_eq_some_iff.1 he').1;have h1':=hrow i hi;have h2':=hrow i' hi';have:i*sz+sz≤i'*sz∨i'*sz+sz≤i*sz:=by
           rcases Nat.lt_or_gt_of_ne hii with h | h
           ·left; have:=Nat.mul_le_mul_right sz (show i+1≤i' from h); rw[Nat.add_mul] at this; omega
           ·right; have:=Nat.mul_le_mul_right sz (show i'+1≤i from h); rw[Nat.add_mul] at this; omega
          rw[if_neg (by omega)];obtain⟨v,hv,hrep⟩:=hcell i' j' e' x' he' hx';exact⟨v,by rw[Array.getElem?_toList]; exact hv,hrep.mono hfz (fun _ h=>h) (fun _ _ h=>h)⟩
      ·cases hst
     ·cases hst
   ·cases h
  ·cases h
 ·cases h
theorem loose_sound [Globals] {c:Bool}{cs:Option (List C)}(hrel:Rel w0 B f0 fz ρ s a.tmps w):∃ fz' ρ',Rel w0 B f0 fz' ρ' (loose c cs s) a.tmps w∧(∀ b,fz b→fz' b)∧(∀ k,hget s.hp k=none→hget (loose c cs s).hp k=none):=by
 unfold loose
 split
 ·split
  ·obtain⟨fz',ρ',h1,h2,h4⟩:=evicts_sound (refsOf _) hrel;exact⟨fz',ρ',h1,h2,h4⟩
  ·exact⟨fz,ρ,hrel,fun _ h=>h,fun _ h=>h⟩
 ·exact⟨fz,ρ,hrel,fun _ h=>h,fun _ h=>h⟩
theorem evS_sound [Globals] (hty:∀ t y,ty t=some y→Ty.of P t=some y)(hrel:Rel w0 B f0 fz ρ s a.tmps w){t:TypeId}{x ad:Operand}{s':St}(ho:o.op=.store t ad x)(h:evS ty t ad x s=some s'):
  ∃ w' fz' ρ',(execOp a.eval o).run P w=.ok .skip w'∧Rel w0 B f0 fz' ρ' s' a.tmps w'∧∀ b,fz b→fz' b:=by
 obtain⟨fz',ρ',h1,h2,_⟩:=loose_sound (c:=rowPtr s.hp (opd s.tm ad)) (cs:=(opd s.tm x).cells) hrel;obtain⟨w',h3,h4⟩:=evS1_sound hty h1 ho h;exact⟨w',fz',ρ',h3,h4,h2⟩
end
end Go.Vabs

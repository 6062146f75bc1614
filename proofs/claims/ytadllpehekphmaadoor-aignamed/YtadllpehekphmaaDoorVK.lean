/- A library: the abstract interpreter's appends. No condition. -/
import Derived.Test.YtadllpehekphmaaDoorVC
set_option linter.unusedSimpArgs false
set_option linter.unusedVariables false
namespace Go.Vabs
open Go.RowKit
theorem flat_get {α:Type}{sz:Nat}:∀ (es:List (List α)),(∀ e∈es,e.length=sz)→∀ (i j:Nat),j<sz→es.flatten[i*sz+j]?=(es[i]?).bind (·[j]?)
 | [],_,i,j,_=>by simp
 | e::es,h,0,j,hj=>by
  have he:=h e List.mem_cons_self;simp only[List.flatten_cons,Nat.zero_mul,Nat.zero_add,List.getElem?_cons_zero,Option.bind_some];rw[List.getElem?_append_left (by omega)]
 | e::es,h,i+1,j,hj=>by
  have he:=h e List.mem_cons_self;simp only[List.flatten_cons,List.getElem?_cons_succ];rw[List.getElem?_append_right (by rw[Nat.add_mul]; omega),← flat_get es (fun e' he'=>h e' (List.mem_cons_of_mem _ he')) i j hj];congr 1;rw[Nat.add_mul];omega
theorem flat_length {α:Type}{sz:Nat}:∀ (es:List (List α)),(∀ e∈es,e.length=sz)→es.flatten.length=es.length*sz
 | [],_=>by simp
 | e::es,h=>by
  have he:=h e List.mem_cons_self;have ih:=flat_length es (fun e' he'=>h e' (List.mem_cons_of_mem _ he'));simp only[List.flatten_cons,List.length_append,List.length_cons,ih,he,Nat.add_mul];omega
theorem flat_split {sz n k:Nat}(hk:k<n*sz):∃ i j,k=i*sz+j∧i<n∧j<sz:=by
 have hs:0<sz:=by
  rcases Nat.eq_zero_or_pos sz with h | h
  ·subst h; omega
  ·exact h
 refine⟨k / sz,k % sz,?_,?_,Nat.mod_lt _ hs⟩
 ·rw[Nat.mul_comm]; exact (Nat.div_add_mod k sz).symm
 ·exact (Nat.div_lt_iff_lt_mul hs).2 hk
section
variable {w w':World} {fz fz':Nat→Prop} {ρ ρ':Nat→Option Loc}
theorem repO_flat {b base cap:Nat}{ob:Ob}{c:Array Value}{fr:Nat × Nat}(hes:∀ e∈ob.es,e.length=ob.sz)(hfree:ob.free=true→∀ e∈ob.es,∀ x∈e,C.free x=true)(hb:w.heap[b]?=some (.cells c ob.elem fr))(hcap:ob.es.length≤cap)
  (hsize:base+cap*ob.sz≤c.size) (hff:Marks ob.box base ob.sz c.size fr) (hc:∀ k x,ob.es.flatten[k]?=some x→∃ v,c[base+k]?=some v∧RepC w fz ρ v x):RepO w fz ρ (.at b base cap ob.sz) ob:=by
 refine⟨hes,hfree,rfl,hcap,c,fr,hb,hsize,hff,fun i j e x he hx=>?_⟩;have hj:j<ob.sz:=by rw[← hes e (List.mem_of_getElem? he)]; exact (List.getElem?_eq_some_iff.1 hx).1
 obtain⟨v,hv,hr⟩:=hc (i*ob.sz+j) x (by rw[flat_get ob.es hes i j hj,he]; exact hx);exact⟨v,by rw[Nat.add_assoc]; exact hv,hr⟩
theorem flat_repO {b base cap sz:Nat}{ob:Ob}(h:RepO w fz ρ (.at b base cap sz) ob):∃ c fr,w.heap[b]?=some (.cells c ob.elem fr)∧base+cap*sz≤c.size∧Marks ob.box base sz c.size fr ∧
  ∀ k x,ob.es.flatten[k]?=some x→∃ v,c[base+k]?=some v∧RepC w fz ρ v x:=by
 obtain⟨hes,hfree,rfl,hcap,c,fr,hb,hsize,hff,hcell⟩:=h;refine⟨c,fr,hb,hsize,hff,fun k x hx=>?_⟩;have hk:=(List.getElem?_eq_some_iff.1 hx).1;rw[flat_length ob.es hes] at hk;obtain⟨i,j,rfl,hi,hj⟩:=flat_split hk;rw[flat_get ob.es hes i j hj,List.getElem?_eq_getElem hi,Option.bind_some] at hx;obtain⟨v,hv,hr⟩:=hcell i j _ x (List.getElem?_eq_getElem hi) hx;exact⟨v,by rw[← Nat.add_assoc]; exact hv,hr⟩
theorem drop_flat {α:Type}{sz:Nat}(es:List (List α))(h:∀ e∈es,e.length=sz)(off len:Nat)(hl:off+len≤es.length):((es.drop off).take len).flatten=(es.flatten.drop (off*sz)).take (len*sz):=by
 have h2:∀ e∈(es.drop off).take len,e.length=sz:=fun e he=>h e (List.mem_of_mem_drop (List.mem_of_mem_take he));apply List.ext_getElem?;intro k;have hlen:((es.drop off).take len).length=len:=by simp; omega
 by_cases hk:k<len*sz
 ·obtain⟨i,j,rfl,hi,hj⟩:=flat_split hk;rw[flat_get _ h2 i j hj,List.getElem?_take,if_pos hi,List.getElem?_drop,List.getElem?_take,if_pos hk,List.getElem?_drop];rw[show off*sz+(i*sz+j)=(off+i)*sz+j by rw[Nat.add_mul]; omega,flat_get es h (off+i) j hj]
 ·rw[List.getElem?_eq_none (by rw[flat_length _ h2,hlen]; omega),List.getElem?_take,if_neg hk]
structure Src (P:Program) (w:World) (fz:Nat→Prop) (ρ:Nat→Option Loc) (x:Value) (sz:Nat) (new:List (List C)):Prop where
 len:∀ W:World,(Builtin.lenOf x).run P W=.ok new.length W
 uni:∀ e∈new,e.length=sz
 cells:∃ vs:List Value,RepL w fz ρ vs new.flatten∧∀ W:World,(∀ b:Nat,W.heap[b]?=w.heap[b]?)→(Builtin.firstCells sz new.length x).run P W=.ok vs.toArray W
end
section
variable {P:Program} {ty:Tys} {w0:World} {B:Bs} {f0 fz:Nat→Prop} {ρ:Nat→Option Loc} {s:St} {tm:Array Value} {w:World}
theorem cellsAt_run {P:Program}{w:World}{fz:Nat→Prop}{ρ:Nat→Option Loc}{b q:Nat}{l:List C}(h:∀ k x,l[k]?=some x→∃ v,w.cell? ⟨b,q+k,none⟩=some v∧RepC w fz ρ v x):
  ∃ vs:List Value,RepL w fz ρ vs l∧∀ (sz n len cap:Nat),n*sz=l.length→∀ W:World,(∀ b:Nat,W.heap[b]?=w.heap[b]?)→(Builtin.firstCells sz n (.slice (some ⟨b,q,none⟩) len cap)).run P W=.ok vs.toArray W:=by
 have hc:∀ k,k<l.length→∃ v,w.cell? ⟨b,q+k,none⟩=some v∧∀ x,l[k]?=some x→RepC w fz ρ v x:=fun k hk=>by
  obtain⟨v,hv,hr⟩:=h k _ (List.getElem?_eq_getElem hk);refine⟨v,hv,fun x hx=>?_⟩;rw[List.getElem?_eq_getElem hk] at hx;injection hx with hx;exact hx▸hr
 let f:Nat→Value:=fun k=>if hk:k<l.length then (hc k hk).choose else undef
 have hf:∀ k,k<l.length→w.cell? ⟨b,q+k,none⟩=some (f k)∧∀ x,l[k]?=some x→RepC w fz ρ (f k) x:=fun k hk=>by
  simp only[f,dif_pos hk];exact (hc k hk).choose_spec
 refine⟨(List.range l.length).map f,⟨by simp,fun i v c hv hcc=>?_⟩,fun sz n len cap hn W hW=>?_⟩
 ·have hi:=(List.getElem?_eq_some_iff.1 hcc).1;rw[List.getElem?_map,List.getElem?_range hi,Option.map_some,Option.some.injEq] at hv;subst hv;exact (hf i hi).2 c hcc
 ·simp only[Builtin.firstCells];rw[hn];refine run_loadCells W ⟨b,q,none⟩ l.length f (fun j hj=>?_);rw[add_none];exact (cell?_of_heap (hW b)).trans (hf j hj).1
theorem src_rep [Globals] (hrel:Rel w0 B f0 fz ρ s tm w){v:Value}{X:T}{sz:Nat}{new:List (List C)}(hv:RepT w fz ρ v X)(hs:srcOf s.hp X=some new)(hz:(srcSz s.hp X).getD sz=sz):Src P w fz ρ v sz new:=by
 unfold srcOf at hs
 split at hs
 ·-- nothing
  injection hs with hs;subst hs;have hv:RepC w fz ρ v (.lit (.slice none 0 0)):=hv
  cases hv with
  | frz hf=>
   cases hf with
   | lit _ _=>exact⟨fun W=>rfl,by simp,[],⟨rfl,by simp⟩,fun W _=>run_firstCells_none W sz 0 0 0⟩
 ·-- a string
  rename_i b;injection hs with hs;subst hs;have hv:RepC w fz ρ v (.lit (.string b)):=hv;simp only[srcSz,Option.getD_some] at hz;subst hz;have hfl:∀ l:List UInt8,(l.map fun (b:UInt8)=>[C.lit (.int .u8 b.toNat)]).flatten=l.map fun (b:UInt8)=>C.lit (.int .u8 b.toNat):=by
   intro l
   induction l with
   | nil=>rfl
   | cons x l ih=>simp[ih]
  cases hv with
  | frz hf=>
   cases hf with
   | lit _ _=>
    refine⟨fun W=>by simp only[Builtin.lenOf,List.length_map]; rfl,fun e he=>?_,b.data.toList.map (fun (b:UInt8)=>Value.int .u8 b.toNat),⟨by rw[hfl,List.length_map,List.length_map],fun i u c hu hc=>?_⟩,fun W _=>?_⟩
    ·obtain⟨x,_,rfl⟩:=List.mem_map.1 he;rfl
    ·rw[hfl,List.getElem?_map,Option.map_eq_some_iff] at hc;obtain⟨x,hx,rfl⟩:=hc;rw[List.getElem?_map,hx] at hu;injection hu with hu;subst hu;exact .frz (.lit _ trivial)
    ·simp only[Builtin.firstCells,Sem.run_pure,List.length_map];have hb:b.extract 0 b.data.toList.length=b:=by
      have h1:b.data.toList.length=b.data.size:=Array.length_toList;rw[h1];apply ByteArray.ext;rw[ByteArray.data_extract];exact Array.extract_size
     rw[hb];congr 1;apply Array.ext';rw[Array.toList_map]
 ·-- what nobody writes
  rename_i sz' es;injection hs with hs;subst hs;simp only[srcSz,Option.getD_some] at hz;subst hz;have hv:RepC w fz ρ v (.sl sz' es):=hv
  cases hv with
  | frz hf=>
   cases hf with
   | sl ad len cap _ _ cv hl hs hc hcells hrep=>
    subst hl;refine⟨fun W=>rfl,hs,?_⟩
    by_cases h0:0<es.length
    ·obtain⟨b,q,rfl,hb,hcc⟩:=hcells h0;obtain⟨vs,h1,h2⟩:=cellsAt_run (P:=P) (w:=w) (fz:=fz) (ρ:=ρ) (b:=b) (q:=q) (l:=es.flatten) (fun k x hx=>by
      have hk:=(List.getElem?_eq_some_iff.1 hx).1;rw[flat_length es hs] at hk;obtain⟨i,j,rfl,hi,hj⟩:=flat_split hk;rw[flat_get es hs i j hj,List.getElem?_eq_getElem hi,Option.bind_some] at hx;exact⟨cv i j,by rw[← Nat.add_assoc]; exact hcc i j hi hj,.frz (hrep i j _ x (List.getElem?_eq_getElem hi) hx)⟩)
     exact⟨vs,h1,fun W hW=>h2 sz' es.length _ _ (by rw[flat_length es hs]) W hW⟩
    ·have:es=[]:=List.eq_nil_of_length_eq_zero (by omega);subst this;refine⟨[],⟨rfl,by simp⟩,fun W _=>?_⟩
     cases ad with
     | none=>exact run_firstCells_none W _ _ _ _
     | some ad=>simp[Builtin.firstCells,loadCells,loadCellsFrom]
 ·-- a row of one's own
  rename_i k off len
  split at hs
  ·rename_i ob hob
   split at hs
   ·rename_i hlen;injection hs with hs;subst hs;simp only[srcSz,hob,Option.map_some,Option.getD_some] at hz;have hv:RepC w fz ρ v (.ref k off len):=hv;have hnl:((ob.es.drop off).take len).length=len:=by simp; omega
    cases hv with
    | frz hf=>cases hf
    | nil _ hr=>
     refine⟨fun W=>by rw[hnl]; rfl,fun e he=>by simp at he,[],⟨by simp,by simp⟩,fun W _=>run_firstCells_none W _ _ _ _⟩
    | ref _ _ _ b base cap sz2 ad hr hc ha hsome=>
     have hO:=hrel.objAt hob hr;have hsz2:sz2=ob.sz:=hO.2.2.1;have huni:∀ e∈(ob.es.drop off).take len,e.length=ob.sz:=fun e he=>hO.1 e (List.mem_of_mem_drop (List.mem_of_mem_take he));refine⟨fun W=>by rw[hnl]; rfl,fun e he=>by rw[← hz]; exact huni e he,?_⟩;obtain⟨c,fr,hb,hsize,hff,hcell⟩:=flat_repO hO
     by_cases h0:0<len
     ·have hoc:off<cap:=by omega
      obtain⟨vs,h1,h2⟩:=cellsAt_run (P:=P) (w:=w) (fz:=fz) (ρ:=ρ) (b:=b) (q:=base+off*sz2) (l:=((ob.es.drop off).take len).flatten) (fun q x hx=>by
       rw[drop_flat ob.es hO.1 off len hlen,List.getElem?_take] at hx
       split at hx
       ·rw[List.getElem?_drop] at hx;obtain⟨u,hu,hrep⟩:=hcell _ x hx;refine⟨u,?_,hrep⟩;rw[cell?_at hb,hsz2,Nat.add_assoc];exact hu
       ·cases hx)
      refine⟨vs,h1,fun W hW=>?_⟩;rw[ha hoc];exact h2 sz _ _ _ (by rw[flat_length _ huni,hz]) W hW
     ·have:len=0:=by omega
      subst this;simp only[List.take_zero,List.flatten_nil,List.length_nil];refine⟨[],⟨rfl,by simp⟩,fun W _=>?_⟩
      cases ad with
      | none=>exact run_firstCells_none W _ _ _ _
      | some ad=>simp[Builtin.firstCells,loadCells,loadCellsFrom]
   ·cases hs
  ·cases hs
 ·cases hs
end
end Go.Vabs

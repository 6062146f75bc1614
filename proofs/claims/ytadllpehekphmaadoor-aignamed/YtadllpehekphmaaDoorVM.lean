/- A library: the abstract interpreter's appends, III. No condition. -/
import Derived.Test.YtadllpehekphmaaDoorVL
set_option linter.unusedSimpArgs false
set_option linter.unusedVariables false
namespace Go.Vabs
open Go.RowKit
section
variable {P:Program} {ty:Tys} {w0:World} {B:Bs} {f0 fz:Nat→Prop} {ρ:Nat→Option Loc} {s:St} {a:Act} {w:World} {o:Oper}
theorem run_room {t u e:TypeId}{ud:TypeDesc}{i:TypeInfo}{tt:TypeId}(ht:P.underlying t=some (.slice e))(hu:P.underlying u=some ud)(hud:∀ k,ud≠.int k)(hi:P.info? e=some i)
  {base:Option Addr} {sLen sCap n:Nat} {x:Value} {new:List Value} {w':World} (hlen:(Builtin.lenOf x).run P w=.ok n w) (hg:sLen+n≤sCap)
  (hn:(Builtin.firstCells i.size n x).run P w=.ok new.toArray w) (hst:(match base with | some ad=>storeCells (ad.add (sLen*i.size)) new | none=>pure ():Sem Unit).run P w=.ok () w'):
  (Builtin.append_ #[t,u] tt #[.slice base sLen sCap,x]).run P w=.ok (.slice base (sLen+n) sCap) w':=by
 simp only[Builtin.append_];simp only[show (#[t,u]:Array TypeId)[0]?=some t from rfl,show (#[t,u]:Array TypeId)[1]?=some u from rfl,show ∀ (p q:Value),(#[p,q]:Array Value)[0]?=some p from fun _ _=>rfl,show ∀ (p q:Value),(#[p,q]:Array Value)[1]?=some q from fun _ _=>rfl]
 cases ud
 case int k=>exact absurd rfl (hud k)
 all_goals
  simp only[Sem.run_bind,run_underlying ht,run_underlying hu,Result.andThen_ok,run_sizeOf' hi,Sem.run_pure,hlen,run_typeInfo' hi,Sem.run_ite,Bool.false_eq_true,if_false,if_pos hg,Bool.not_false,if_true,hn]
  cases base with
  | none=>simp only[Sem.run_pure,Result.ok.injEq,true_and] at hst; subst hst; rfl
  | some ad=>simp only at hst; simp only[Sem.run_bind,hst,Result.andThen_ok,Sem.run_pure]
theorem grown_rep {w:World}{fz:Nat→Prop}{ρ:Nat→Option Loc}{e:TypeId}{sz need cap:Nat}{es:List (List C)}{old new rest:List Value}(hfz:∀ b,fz b→b<w.heap.size)(hes:∀ x∈es,x.length=sz)(hfree:∀ x∈es,∀ c∈x,C.free c=true)(hn:es.length=need)(hcap:need≤cap)
  (hrep:RepL w fz ρ (old++new) es.flatten) (hrest:rest.length=(cap-need)*sz) (ρ':Nat→Option Loc):
  RepO (w.drew.alloc (.cells (old++new++rest).toArray e)) fz ρ' (.at w.heap.size 0 cap sz) ⟨false,true,e,sz,es⟩:=by
 have hl:=hrep.1;rw[flat_length es hes,hn] at hl;have hmul:need*sz+(cap-need)*sz=cap*sz:=by rw[← Nat.add_mul]; congr 1; omega
 refine repO_flat (ob:=⟨false,true,e,sz,es⟩) hes (fun _=>hfree) (heap_alloc_new w.drew _) (by simp only; omega) (by simp only[List.size_toArray,List.length_append] at hl ⊢; omega) ⟨.inl rfl,fun h=>by cases h⟩ (fun k x hx=>?_);have hk:=(List.getElem?_eq_some_iff.1 hx).1;simp only at hk hx;rw[flat_length es hes,hn] at hk;have hlt:k<(old++new).length:=by omega
 refine⟨(old++new)[k],?_,?_⟩
 ·rw[Nat.zero_add,List.getElem?_toArray,List.getElem?_append_left hlt,List.getElem?_eq_getElem hlt]
 ·obtain⟨i,j,rfl,hi,hj⟩:=flat_split hk;have h1:=hrep.2 _ _ x (List.getElem?_eq_getElem hlt) hx;rw[flat_get es hes i j hj,List.getElem?_eq_getElem (by omega),Option.bind_some] at hx;exact .frz ((h1.of_free (hfree _ (List.getElem_mem _) x (List.mem_of_getElem? hx))).mono (fun b hb=>heap_alloc w.drew _ (hfz b hb)) (fun _ h=>h))
theorem RepL.append {w:World}{fz:Nat→Prop}{ρ:Nat→Option Loc}{us vs:List Value}{cs ds:List C}(h1:RepL w fz ρ us cs)(h2:RepL w fz ρ vs ds):RepL w fz ρ (us++vs) (cs++ds):=by
 refine⟨by simp[h1.1,h2.1],fun i v c hv hc=>?_⟩;have e:=h1.1
 by_cases hi:i<us.length
 ·rw[List.getElem?_append_left hi] at hv;rw[List.getElem?_append_left (by omega)] at hc;exact h1.2 i v c hv hc
 ·rw[List.getElem?_append_right (by omega)] at hv;rw[List.getElem?_append_right (by omega),← e] at hc;exact h2.2 _ v c hv hc
theorem zeroRest (z:Array Value)(n:Nat):∃ rest:List Value,Builtin.zeroCells z n=rest.toArray∧rest.length=n*z.size:=by
 refine⟨(Builtin.zeroCells z n).toList,by simp,?_⟩;rw[Array.length_toList,zeroCells_size]
theorem base_rep [Globals] (hrel:Rel w0 B f0 fz ρ s a.tmps w){v:Value}{h off len:Nat}{ob:Ob}(hv:RepC w fz ρ v (.ref h off len))(hob:hget s.hp h=some ob)(hlen:off+len≤ob.es.length):
  (v=.slice none 0 0∧off=0∧len=0∧ob.es=[]∧ρ h=some .nil) ∨
  ∃ b base cap ad c fr,v=.slice (some ad) len (cap-off)∧ρ h=some (.at b base cap ob.sz)∧off+len≤cap∧(∃ o,ad=⟨b,o,none⟩)∧(off<cap→ad=⟨b,base+off*ob.sz,none⟩)∧w.heap[b]?=some (.cells c ob.elem fr)∧base+cap*ob.sz≤c.size ∧
   (fr.1=fr.2∨c.size≤fr.1)∧(∀ k x,ob.es.flatten[k]?=some x→∃ u,c[base+k]?=some u∧RepC w fz ρ u x):=by
 cases hv with
 | frz hf=>cases hf
 | nil _ hr=>
  obtain⟨l,hl,hO⟩:=hrel.obj h ob hob;rw[hr] at hl;injection hl with hl;subst hl;exact .inl ⟨rfl,rfl,rfl,hO.2.2.1,hr⟩
 | ref _ _ _ b base cap sz ad hr hc ha hsome=>
  have hO:=hrel.objAt hob hr;have hsz:sz=ob.sz:=hO.2.2.1;subst hsz;obtain⟨c,fr,h1,h2,h3,h4⟩:=flat_repO hO;obtain⟨oo,rfl⟩:=hsome;exact .inr ⟨b,base,cap,_,c,fr,rfl,hr,hc,⟨oo,rfl⟩,fun hlt=>by have:=ha hlt; injection this,h1,h2,h3.1,h4⟩
theorem evA2_sound [Globals] (hty:∀ t y,ty t=some y→Ty.of P t=some y)(hB:B.n≤w.heap.size)(hrel:Rel w0 B f0 fz ρ s a.tmps w){d:Nat}{b x:Operand}{t u:TypeId}{s':St}{c:Call}(ho:o.op=.call c)(hc:c.callee=.builtin .append)(hargs:c.args=#[b,x])(htys:c.argTypes=#[t,u])
  (h:evA2 ty d b x t u s=some s'):∃ v w' ρ',(execOp a.eval o).run P w=.ok (.value v) w'∧Rel w0 B f0 fz ρ' s' (a.tmps.setIfInBounds d v) w':=by
 have hexec:∀ v w',(Builtin.append_ #[t,u] o.type #[a.eval b,a.eval x]).run P w=.ok v w'→(execOp a.eval o).run P w=.ok (.value v) w':=by
  intro v w' hq;simp only[execOp,ho,resolve,hc,hargs,htys,Sem.run_bind,Sem.run_pure,Result.andThen_ok,invoke,builtin];simp only[List.map_toArray,List.map_cons,List.map_nil,hq,Result.andThen_ok]
 unfold evA2 at h
 split at h
 ·rename_i e sz uk new he huk hsrc;obtain⟨hd,inf,hinf,hsz,_⟩:=elemOf_some hty he
  split at h
  ·rename_i y hy;obtain⟨inf',ed,hinf',_,_,hys,hyb,hyz,_⟩:=Ty.of_some (hty e y hy);rw[hinf] at hinf';injection hinf' with hinf';subst hinf'
   split at h
   ·rename_i hcond;obtain⟨hnoint,hgz,hfr,hz,hby⟩:=hcond;rw[Option.map_eq_some_iff] at huk;obtain⟨uy,huy,huyk⟩:=huk;obtain⟨_,ud,_,hud,hukd,_⟩:=Ty.of_some (hty u uy huy);rw[huyk] at hukd;have hudn:∀ k,ud≠.int k:=fun k e=>by subst e; simp only[K.of] at hukd; subst hukd; simp[K.isInt] at hnoint
    have hS:=src_rep (P:=P) hrel (opd_rep hrel x) hsrc hgz;have hfree:∀ e∈new,∀ x∈e,C.free x=true:=by
     rcases hfr with h | h
     ·exact src_free hrel (opd_rep hrel x) hsrc h
     ·exact fun e he x hx=>List.all_eq_true.1 (List.all_eq_true.1 h e he) x hx
    obtain⟨vs,hvs,hcells⟩:=hS.cells;rw[← hsz] at hcells;rw[Option.map_eq_some_iff] at hz;obtain⟨zl,hzl,hzlen⟩:=hz;rw[hzl] at hyz
    cases hiz:inf.zero with
    | none=>rw[hiz] at hyz; cases hyz
    | some zv=>
     rw[hiz,Option.map_some,Option.some.injEq] at hyz;subst hyz;have hzs:zv.cells.size=sz:=by rw[← hzlen]; simp
     have hnil0:new.length=0→vs=[]:=fun h0=>by
      have:new=[]:=List.eq_nil_of_length_eq_zero h0;subst this;have:=hvs.1;exact List.eq_nil_of_length_eq_zero (by simpa using this)
     split at h
     ·-- on nothing
      rename_i hb
      split at h
      ·rename_i hbytes
       split at h
       ·rename_i hfresh;injection h with h;subst h;have hbv:a.eval b=.slice none 0 0:=opd_lit hrel hb
        by_cases h0:new.length=0
        ·have hnew:new=[]:=List.eq_nil_of_length_eq_zero h0;have hv0:=hnil0 h0;have hrun:=run_room (tt:=o.type) hd hud hudn hinf (base:=none) (sLen:=0) (sCap:=0) (n:=new.length) (x:=a.eval x) (new:=vs) (w':=w) (hS.len w) (by omega) (hcells w (fun _=>rfl)) rfl;rw[← hbv] at hrun;obtain⟨ρ',hρ,hR,_⟩:=Rel.make (w':=w) (l:=.nil) (v:=.slice none (0+new.length) 0) (t:=.c (.ref d 0 new.length)) (ob:=⟨false,true,e,sz,new⟩) hrel d hB (.inl ⟨rfl,rfl⟩) hfresh (fun ρ' h1 h2=>⟨by
          rw[h0]; exact RepC.nil d h1,by rw[hnew]; exact⟨by simp,by simp,rfl,rfl⟩⟩) rfl
         exact⟨_,w,ρ',hexec _ _ hrun,hR⟩
        ·obtain⟨rest,hrest,hrl⟩:=zeroRest zv.cells (grownCap w (0+new.length) 0 e-(0+new.length));have hrun:=run_grow (w:=w) (tt:=o.type) hd hud hudn hinf hiz (base:=none) (sLen:=0) (sCap:=0) (n:=new.length) (x:=a.eval x) (old:=[]) (new:=vs) (hS.len w) (by omega) (by omega) (by rw[Nat.zero_add,← hyb]; exact hbytes)
          (run_firstCells_none _ _ _ _ _) (hcells w.drew (fun _=>rfl))
         rw[← hbv,hrest] at hrun;have hcapge:=le_grownCap w (0+new.length) 0 e;have hG:∀ ρ',RepO (w.drew.alloc (.cells ([]++vs++rest).toArray e)) fz ρ' (.at w.heap.size 0 (grownCap w (0+new.length) 0 e) sz) ⟨false,true,e,sz,new⟩:=fun ρ'=>
          grown_rep (old:=[]) (new:=vs) (need:=0+new.length) hrel.fzl hS.uni hfree (by omega) hcapge (by simpa using hvs) (by rw[hrl,hzs]) ρ'
         obtain⟨ρ',hρ,hR,_⟩:=Rel.make (w':=w.drew.alloc (.cells ([]++vs++rest).toArray e)) (l:=.at w.heap.size 0 (grownCap w (0+new.length) 0 e) sz) (v:=.slice (some ⟨w.heap.size,0,none⟩) (0+new.length) (grownCap w (0+new.length) 0 e)) (t:=.c (.ref d 0 new.length)) (ob:=⟨false,true,e,sz,new⟩) hrel d hB (.inr ⟨_,_,_,rfl,rfl,rfl,rfl,rfl⟩) hfresh (fun ρ' h1 h2=>⟨by
          have:=RepC.ref (w:=w.drew.alloc (.cells ([]++vs++rest).toArray e)) (fz:=fz) d 0 (0+new.length) w.heap.size 0 _ sz (some ⟨w.heap.size,0,none⟩) h1 (by omega) (fun _=>by simp) ⟨_,rfl⟩;rw[Nat.sub_zero,Nat.zero_add] at this;rw[Nat.zero_add];exact this,hG ρ'⟩) rfl
         refine⟨_,_,ρ',hexec _ _ ?_,hR⟩;rw[hrun];simp only[List.append_toArray,List.nil_append]
       ·cases h
      ·cases h
     ·-- on a row of one's own
      rename_i k off len hb
      split at h
      ·rename_i ob hob
       split at h
       ·rename_i hcond;obtain⟨hbox,helem,hosz,hofree,hofr,hlen,hbytes⟩:=hcond;injection h with h;subst h;have hnfr:k∉s.fr:=by simpa using hofr
        have hbr:=opd_rep hrel b;rw[hb] at hbr;have hbr:RepC w fz ρ (a.eval b) (.ref k off len):=hbr;have hO:RepO w fz ρ ((ρ k).get (by obtain⟨l,hl,_⟩:=hrel.obj k ob hob; rw[hl]; rfl)) ob:=by
         obtain⟨l,hl,hO⟩:=hrel.obj k ob hob;simp only[hl,Option.get_some];exact hO
        have huni:∀ e∈(ob.es.drop off).take len++new,e.length=sz:=fun e he=>by
         rcases List.mem_append.1 he with he | he
         ·rw[← hosz]; exact hO.1 e (List.mem_of_mem_drop (List.mem_of_mem_take he))
         ·exact hS.uni e he
        have hfrees:∀ e∈(ob.es.drop off).take len++new,∀ x∈e,C.free x=true:=fun e he=>by
         rcases List.mem_append.1 he with he | he
         ·exact hO.2.1 hofree e (List.mem_of_mem_drop (List.mem_of_mem_take he))
         ·exact hfree e he
        have hnl:((ob.es.drop off).take len++new).length=len+new.length:=by simp; omega
        rcases base_rep hrel hbr hob hlen with ⟨hbv,rfl,rfl,hes,hρk⟩ | ⟨blk,base,cap,ad,cc,fr,hbv,hρk,hoc,hblk,hadr,hheap,hsize,hff,hcell⟩
        ·-- a nil slice
         by_cases h0:new.length=0
         ·have hnew:new=[]:=List.eq_nil_of_length_eq_zero h0;have hv0:=hnil0 h0;have hrun:=run_room (tt:=o.type) hd hud hudn hinf (base:=none) (sLen:=0) (sCap:=0) (n:=new.length) (x:=a.eval x) (new:=vs) (w':=w) (hS.len w) (by omega) (hcells w (fun _=>rfl)) rfl;rw[← hbv] at hrun;obtain⟨ρ',hρ',hR⟩:=hrel.moved (ob':=⟨false,true,e,sz,(ob.es.drop 0).take 0++new⟩) (l':=.nil) (w':=w) hob hbox hρk hnfr (fun _ _=>rfl) (fun _ _ _ _ _ _ _=>rfl) (fun _ _ _ _ h=>by cases h) (Nat.le_refl _) hrel.below
           (fun ρ'=>by rw[hnew]; exact⟨by simp,by simp,by simp,rfl⟩) ⟨fun _ _ _=>rfl,fun _ _ _ _ h=>by cases h⟩
          exact⟨_,w,ρ',hexec _ _ hrun,hR.put d (by rw[h0]; exact RepC.nil k hρ') rfl⟩
         ·obtain⟨rest,hrest,hrl⟩:=zeroRest zv.cells (grownCap w (0+new.length) 0 e-(0+new.length));have hrun:=run_grow (w:=w) (tt:=o.type) hd hud hudn hinf hiz (base:=none) (sLen:=0) (sCap:=0) (n:=new.length) (x:=a.eval x) (old:=[]) (new:=vs) (hS.len w) (by omega) (by omega) (by rw[← hyb]; exact hbytes)
           (run_firstCells_none _ _ _ _ _) (hcells w.drew (fun _=>rfl))
          rw[← hbv,hrest] at hrun;have hcapge:=le_grownCap w (0+new.length) 0 e;have hG:∀ ρ',RepO (w.drew.alloc (.cells ([]++vs++rest).toArray e)) fz ρ' (.at w.heap.size 0 (grownCap w (0+new.length) 0 e) sz) ⟨false,true,e,sz,(ob.es.drop 0).take 0++new⟩:=fun ρ'=>
           grown_rep (old:=[]) (new:=vs) (need:=0+new.length) hrel.fzl huni hfrees hnl hcapge (by simpa using hvs) (by rw[hrl,hzs]) ρ'
          obtain⟨ρ',hρ',hR⟩:=hrel.moved (ob':=⟨false,true,e,sz,(ob.es.drop 0).take 0++new⟩) (l':=.at w.heap.size 0 (grownCap w (0+new.length) 0 e) sz) (w':=w.drew.alloc (.cells ([]++vs++rest).toArray e)) hob hbox hρk hnfr
           (fun b hb=>heap_alloc w.drew _ (hrel.fzl b hb)) (fun k b base cap sz _ hk=>heap_alloc w.drew _ (hrel.own k b base cap sz hk).1)
           (fun b base cap sz hl=>by cases hl; exact⟨.inl hB,by simp,fun hq=>absurd (hrel.fzl _ hq) (by omega),fun k' _ _ _ _ _ hk'=>absurd (hrel.own k' _ _ _ _ hk').1 (by omega)⟩) (by simp) (hrel.below.drew.alloc hB _) hG ⟨fun b hb _=>heap_alloc w.drew _ hb,fun b base cap sz hl=>by cases hl; exact .inl (Nat.le_refl _)⟩
          have hq:(([]:List Value).toArray++vs.toArray++rest.toArray)=([]++vs++rest).toArray:=by simp only[List.append_toArray]
          rw[hq] at hrun;refine⟨_,_,ρ',hexec _ _ hrun,hR.put d ?_ rfl⟩;have:=RepC.ref (w:=w.drew.alloc (.cells ([]++vs++rest).toArray e)) (fz:=fz) k 0 (0+new.length) w.heap.size 0 _ sz (some ⟨w.heap.size,0,none⟩) hρ' (by omega) (fun _=>by simp) ⟨_,rfl⟩;rw[Nat.sub_zero] at this;exact this
        ·-- a row
         obtain⟨hBb,hnfz⟩:=(hrel.own k blk base cap _ hρk).2.1 hnfr;have holdrep:∀ q x,((ob.es.drop off).take len).flatten[q]?=some x→∃ v,w.cell? ⟨blk,base+off*ob.sz+q,none⟩=some v∧RepC w fz ρ v x:=fun q x hx=>by
          rw[drop_flat ob.es hO.1 off len hlen,List.getElem?_take] at hx
          split at hx
          ·rw[List.getElem?_drop] at hx;obtain⟨u,hu,hrep⟩:=hcell _ x hx;exact⟨u,by rw[cell?_at hheap,Nat.add_assoc]; exact hu,hrep⟩
          ·cases hx
         have hnob:∀ k' base' cap' sz',k'≠k→k'∉s.fr→ρ k'≠some (.at blk base' cap' sz'):=fun k' base' cap' sz' hne hnf hq=>hne (hrel.inj k' k blk _ _ _ _ _ _ hnf hnfr hq hρk)
         by_cases hroom:len+new.length≤cap-off
         ·-- room
          by_cases hoff:off<cap
          ·have hade:=hadr hoff;subst hade;have hvl:=hvs.1;rw[flat_length new hS.uni] at hvl;have hm1:(off+(len+new.length))*ob.sz≤cap*ob.sz:=Nat.mul_le_mul_right _ (by omega);have e1:(off+(len+new.length))*ob.sz=off*ob.sz+(len*ob.sz+new.length*ob.sz):=by rw[Nat.add_mul,Nat.add_mul]
           obtain⟨w',c',h1,h2,h3,h4⟩:=run_storeCells' (P:=P) (b:=blk) (q:=base+off*ob.sz+len*ob.sz) (e:=ob.elem) (fr:=fr) vs 0 cc w hheap (by rw[← hosz] at hvl; omega)
            (fun v hv=>by
             obtain⟨j,hj⟩:=List.mem_iff_getElem?.1 hv;have hjl:=(List.getElem?_eq_some_iff.1 hj).1;exact (hvs.2 j v _ hj (List.getElem?_eq_getElem (by have:=hvs.1; omega))).cell) (thaw hff)
           have hrun:=run_room (tt:=o.type) hd hud hudn hinf (base:=some ⟨blk,base+off*ob.sz,none⟩) (sLen:=len) (sCap:=cap-off) (n:=new.length) (x:=a.eval x) (new:=vs) (w':=w') (hS.len w) hroom (hcells w (fun _=>rfl))
            (by simp only[add_none,hsz,← hosz]; exact h1)
           rw[← hbv] at hrun;have hfzw:∀ q,fz q→w'.heap[q]?=w.heap[q]?:=fun q hq=>h4.block q (fun e=>hnfz (e▸hq));have hcs:c'.size=cc.size:=by rw[← Array.length_toList,h3,over_length,Array.length_toList]
           have hR0:∀ ρ',RepO w' fz ρ' (.at blk (base+off*ob.sz) (cap-off) sz) ⟨false,true,e,sz,(ob.es.drop off).take len++new⟩:=fun ρ'=>by
            refine repO_flat (ob:=⟨false,true,e,sz,(ob.es.drop off).take len++new⟩) huni (fun _=>hfrees) (by rw[helem] at h2; exact h2) (by rw[hnl]; exact hroom) ?_ ⟨by rw[hcs]; exact hff,fun h=>by cases h⟩ (fun q x hx=>?_)
            ·simp only;rw[hcs,← hosz];have:(cap-off)*ob.sz+off*ob.sz=cap*ob.sz:=by rw[← Nat.add_mul]; congr 1; omega
             omega
            ·have hol:((ob.es.drop off).take len).flatten.length=len*sz:=by
              rw[flat_length (sz:=sz) _ (fun e he=>huni e (List.mem_append_left _ he))];congr 1;simp;omega
             simp only[List.flatten_append] at hx;have hfr':C.free x=true:=by
              have hm:=List.mem_of_getElem? hx
              rcases List.mem_append.1 hm with hm | hm
              ·obtain⟨l,hl,hxl⟩:=List.mem_flatten.1 hm;exact hfrees l (List.mem_append_left _ hl) x hxl
              ·obtain⟨l,hl,hxl⟩:=List.mem_flatten.1 hm;exact hfrees l (List.mem_append_right _ hl) x hxl
             have hql:=(List.getElem?_eq_some_iff.1 hx).1;rw[List.length_append,hol,flat_length new hS.uni] at hql;rw[← Array.getElem?_toList,h3,over_get];simp only[Array.length_toList]
             by_cases hq:q<len*sz
             ·rw[List.getElem?_append_left (by omega)] at hx;obtain⟨v,hv,hrep⟩:=holdrep q x hx;rw[cell?_at hheap] at hv;rw[if_neg (by rw[hosz]; omega),Array.getElem?_toList];exact⟨v,hv,.frz ((hrep.of_free hfr').mono hfzw (fun _ h=>h))⟩
             ·rw[List.getElem?_append_right (by omega),hol] at hx;have:q-len*sz<vs.length:=by have:=(List.getElem?_eq_some_iff.1 hx).1; rw[flat_length new hS.uni] at this; omega
              refine⟨vs[q-len*sz],?_,.frz (((hvs.2 _ _ x (List.getElem?_eq_getElem this) hx).of_free hfr').mono hfzw (fun _ h=>h))⟩;rw[if_pos (by rw[hosz] at hm1 e1 hsize ⊢; omega),show base+off*ob.sz+q-(base+off*ob.sz+len*ob.sz+0)=q-len*sz by rw[hosz]; omega];exact List.getElem?_eq_getElem this
           obtain⟨ρ',hρ',hR⟩:=hrel.moved (ob':=⟨false,true,e,sz,(ob.es.drop off).take len++new⟩) (l':=.at blk (base+off*ob.sz) (cap-off) sz) (w':=w') hob hbox hρk hnfr hfzw
            (fun k' b' base' cap' sz' hne hk'=>h4.block b' (fun e'=>by
             subst e'
             by_cases hm:k'∈s.fr
             ·exact hnfz ((hrel.own k' _ _ _ _ hk').2.2 hm)
             ·exact hnob k' _ _ _ hne hm hk'))
            (fun b' base' cap' sz' hl=>by cases hl; exact⟨hBb,by rw[h4.size]; exact (hrel.own k _ _ _ _ hρk).1,hnfz,hnob⟩) (by rw[h4.size]; exact Nat.le_refl _)
            (hrel.below.trans ⟨h4.os,h4.tape,h4.output,by rw[h4.size]; exact Nat.le_refl _,fun q hq=>h4.block q (fun e=>hq (e▸hBb))⟩) hR0 ⟨fun b hb hq=>h4.block b (fun e=>hq k _ _ _ _ hρk e.symm),fun b base' cap' sz' hl=>by cases hl; exact .inr ⟨_,_,_,hρk⟩⟩
           refine⟨_,w',ρ',hexec _ _ hrun,hR.put d ?_ rfl⟩;have:=RepC.ref (w:=w') (fz:=fz) k 0 (len+new.length) blk (base+off*ob.sz) (cap-off) sz (some ⟨blk,base+off*ob.sz,none⟩) hρ' (by omega) (fun _=>by simp) ⟨_,rfl⟩;rw[Nat.sub_zero] at this;exact this
          ·-- nothing is appended to nothing
           have hl0:len=0:=by omega
           have hn0:new.length=0:=by omega
           have hv0:=hnil0 hn0;have hnew:new=[]:=List.eq_nil_of_length_eq_zero hn0;have hrun:=run_room (tt:=o.type) hd hud hudn hinf (base:=some ad) (sLen:=len) (sCap:=cap-off) (n:=new.length) (x:=a.eval x) (new:=vs) (w':=w) (hS.len w) hroom (hcells w (fun _=>rfl)) (by rw[hv0]; rfl);rw[← hbv] at hrun;have hoffc:off=cap:=by omega
           obtain⟨ρ',hρ',hR⟩:=hrel.moved (ob':=⟨false,true,e,sz,(ob.es.drop off).take len++new⟩) (l':=.at blk (base+off*ob.sz) (cap-off) sz) (w':=w) hob hbox hρk hnfr (fun _ _=>rfl) (fun _ _ _ _ _ _ _=>rfl)
            (fun b' base' cap' sz' hl=>by cases hl; exact⟨hBb,(hrel.own k _ _ _ _ hρk).1,hnfz,hnob⟩) (Nat.le_refl _) hrel.below
            (fun ρ'=>by
             have hemp:(ob.es.drop off).take len++new=[]:=by rw[hl0,hnew]; simp
             rw[hemp];refine repO_flat (ob:=⟨false,true,e,sz,[]⟩) (by simp) (by simp) (by rw[← helem]; exact hheap) (Nat.zero_le _) ?_ ⟨hff,fun h=>by cases h⟩ (by simp);simp only;have:cap-off=0:=by omega
             rw[this,Nat.zero_mul,hoffc];omega) ⟨fun _ _ _=>rfl,fun b base' cap' sz' hl=>by cases hl; exact .inr ⟨_,_,_,hρk⟩⟩
           refine⟨_,w,ρ',hexec _ _ hrun,hR.put d ?_ rfl⟩;have:=RepC.ref (w:=w) (fz:=fz) k 0 (len+new.length) blk (base+off*ob.sz) (cap-off) sz (some ad) hρ' (by omega) (fun hq=>by omega) (hblk.imp fun _ h=>congrArg some h);rw[Nat.sub_zero] at this;exact this
         ·-- a new block
          have hold:∃ olds:List Value,RepL w fz ρ olds ((ob.es.drop off).take len).flatten∧(Builtin.firstCells inf.size len (.slice (some ad) len (cap-off))).run P w.drew=.ok olds.toArray w.drew:=by
           by_cases h0:0<len
           ·have hade:=hadr (by omega);obtain⟨olds,h1,h2⟩:=cellsAt_run (P:=P) holdrep;refine⟨olds,h1,?_⟩;rw[hade];refine h2 inf.size len len (cap-off) ?_ w.drew (fun _=>rfl);rw[flat_length (sz:=sz) _ (fun e he=>huni e (List.mem_append_left _ he)),hsz];congr 1;simp;omega
           ·have:len=0:=by omega
            subst this;refine⟨[],⟨by simp,by simp⟩,?_⟩;simp only[Builtin.firstCells,Nat.zero_mul,loadCells,loadCellsFrom,Sem.run_pure]
          obtain⟨olds,holds,horun⟩:=hold;obtain⟨rest,hrest,hrl⟩:=zeroRest zv.cells (grownCap w (len+new.length) (cap-off) e-(len+new.length));have hrun:=run_grow (w:=w) (tt:=o.type) hd hud hudn hinf hiz (base:=some ad) (sLen:=len) (sCap:=cap-off) (n:=new.length) (x:=a.eval x) (old:=olds) (new:=vs) (hS.len w) (by omega) (by omega) (by rw[← hyb]; exact hbytes) horun (hcells w.drew (fun _=>rfl));rw[← hbv,hrest] at hrun;have hcapge:=le_grownCap w (len+new.length) (cap-off) e;have hG:∀ ρ',RepO (w.drew.alloc (.cells (olds++vs++rest).toArray e)) fz ρ' (.at w.heap.size 0 (grownCap w (len+new.length) (cap-off) e) sz) ⟨false,true,e,sz,(ob.es.drop off).take len++new⟩:=fun ρ'=>
           grown_rep (old:=olds) (new:=vs) (need:=len+new.length) hrel.fzl huni hfrees hnl hcapge (by rw[List.flatten_append]; exact holds.append hvs) (by rw[hrl,hzs]) ρ'
          obtain⟨ρ',hρ',hR⟩:=hrel.moved (ob':=⟨false,true,e,sz,(ob.es.drop off).take len++new⟩) (l':=.at w.heap.size 0 (grownCap w (len+new.length) (cap-off) e) sz) (w':=w.drew.alloc (.cells (olds++vs++rest).toArray e)) hob hbox hρk hnfr
           (fun b hb=>heap_alloc w.drew _ (hrel.fzl b hb)) (fun k b base cap sz _ hk=>heap_alloc w.drew _ (hrel.own k b base cap sz hk).1)
           (fun b base cap sz hl=>by cases hl; exact⟨.inl hB,by simp,fun hq=>absurd (hrel.fzl _ hq) (by omega),fun k' _ _ _ _ _ hk'=>absurd (hrel.own k' _ _ _ _ hk').1 (by omega)⟩) (by simp) (hrel.below.drew.alloc hB _) hG ⟨fun b hb _=>heap_alloc w.drew _ hb,fun b base cap sz hl=>by cases hl; exact .inl (Nat.le_refl _)⟩
          have hq:(olds.toArray++vs.toArray++rest.toArray)=(olds++vs++rest).toArray:=by simp only[List.append_toArray]
          rw[hq] at hrun;refine⟨_,_,ρ',hexec _ _ hrun,hR.put d ?_ rfl⟩;have:=RepC.ref (w:=w.drew.alloc (.cells (olds++vs++rest).toArray e)) (fz:=fz) k 0 (len+new.length) w.heap.size 0 _ sz (some ⟨w.heap.size,0,none⟩) hρ' (by omega) (fun _=>by simp) ⟨_,rfl⟩;rw[Nat.sub_zero] at this;exact this
       ·cases h
      ·cases h
     ·cases h
   ·cases h
  ·cases h
 ·cases h
theorem run_zeros {P:Program}{w:World}{t u e:TypeId}{k:IntKind}{i:TypeInfo}{z:Value}{tt:TypeId}{kx:IntKind}{n:Int}(ht:P.underlying t=some (.slice e))(hu:P.underlying u=some (.int k))(hi:P.info? e=some i)(hz:i.zero=some z)(hzs:z.cells.size=i.size)(hn:0<n)(hby:0<i.bytes)(hfit:n.toNat*i.bytes≤140737488355328):
  (Builtin.append_ #[t,u] tt #[.slice none 0 0,.int kx n]).run P w=.ok (.slice (some ⟨w.heap.size,0,none⟩) n.toNat (grownCap w n.toNat 0 e))
   (w.drew.alloc (.cells (Builtin.zeroCells z.cells n.toNat++Builtin.zeroCells z.cells (grownCap w n.toNat 0 e-n.toNat)) e)):=by
 have h1:n.toNat≤140737488355328:=by
  have:n.toNat*1≤n.toNat*i.bytes:=Nat.mul_le_mul_left _ hby;omega
 have wl:IntKind.i64.wrap n=n:=by rw[IntKind.wrap_i64]; omega
 have n1:¬ n<0:=by omega
 have hnn:(n.toNat:Int)=n:=by omega
 have n2:¬ (n*(i.bytes:Int) > 2 ^ 48):=by
  have:((n.toNat*i.bytes:Nat):Int)=n*i.bytes:=by rw[Int.natCast_mul,hnn]
  omega
 have hg:0<0+n.toNat:=by omega
 have n3:¬ (0+n.toNat≤0):=by omega
 have n4:¬ ((((0+n.toNat:Nat):Int) > IntKind.i64.max)∧(true=true∨i.bytes=0)):=fun hq=>by
  have:=hq.1;rw[i64_max] at this;omega
 have n5:¬ (Builtin.nextslicecap (0+n.toNat) 0*i.bytes > 2 ^ 48):=by
  have:=growslice_fits (need:=0+n.toNat) (old:=0) (bytes:=i.bytes) hg (by rw[Nat.zero_add]; exact hfit);omega
 have hchoose:(choose (.appendCap (0+n.toNat) 0 e)).run P w=.ok (grownCap w (0+n.toNat) 0 e) w.drew:=by
  rw[run_choose];simp only[Question.forced,Bool.false_eq_true,if_false];rfl
 have hnew:∀ (W:World) (cs:Array Value),(newRow e cs).run P W=.ok ⟨W.heap.size,0,none⟩ (W.alloc (.cells cs e)):=fun W cs=>by
  simp only[newRow,Sem.run_bind,run_newObj,Result.andThen_ok,Sem.run_pure];rfl
 have hzc:(if n.toNat*i.size=0 then #[] else Builtin.zeroCells z.cells n.toNat)=Builtin.zeroCells z.cells n.toNat:=by
  split
  ·rename_i h0;refine (Array.eq_empty_of_size_eq_zero ?_).symm;rw[zeroCells_size,hzs,h0]
  ·rfl
 simp only[Builtin.append_];simp only[show (#[t,u]:Array TypeId)[0]?=some t from rfl,show (#[t,u]:Array TypeId)[1]?=some u from rfl,show ∀ (p q:Value),(#[p,q]:Array Value)[0]?=some p from fun _ _=>rfl,show ∀ (p q:Value),(#[p,q]:Array Value)[1]?=some q from fun _ _=>rfl];simp only[Sem.run_bind,run_underlying ht,run_underlying hu,Result.andThen_ok,run_sizeOf' hi,Sem.run_pure,Sem.run_ite,if_true,asInt,asIntOf,wl,if_neg n1,run_typeInfo' hi,if_neg n2,if_neg n3];rw[if_neg (by simpa using n4)];simp only[if_neg n5,hchoose,Result.andThen_ok,run_askRoom,run_firstCells_none,Bool.not_true,Bool.false_eq_true,if_false]
 have hz2:∀ (W:World) (f:Array Value→World→Result Value),((if n.toNat*i.size=0 then Result.ok #[] W else Result.ok (Builtin.zeroCells z.cells n.toNat) W).andThen f)=f (Builtin.zeroCells z.cells n.toNat) W:=fun W f=>by
  have:(if n.toNat*i.size=0 then Result.ok #[] W else Result.ok (Builtin.zeroCells z.cells n.toNat) W)=Result.ok (Builtin.zeroCells z.cells n.toNat) W:=by
   rw[← hzc]
   split<;>rfl
  rw[this];rfl
 simp only[run_zeroValue hi hz,Result.andThen_ok,hnew,Nat.zero_add,hz2,Array.empty_append];rfl
theorem evZ_sound [Globals] (hty:∀ t y,ty t=some y→Ty.of P t=some y)(hB:B.n≤w.heap.size)(hrel:Rel w0 B f0 fz ρ s a.tmps w){d:Nat}{b x:Operand}{t u:TypeId}{k:IntKind}{s':St}{c:Call}(ho:o.op=.call c)(hc:c.callee=.builtin .append)(hargs:c.args=#[b,x])(htys:c.argTypes=#[t,u])
  (huk:(ty u).map Ty.k=some (.int k)) (h:evZ ty d b x t s=some s'):∃ v w' ρ',(execOp a.eval o).run P w=.ok (.value v) w'∧Rel w0 B f0 fz ρ' s' (a.tmps.setIfInBounds d v) w':=by
 have hexec:∀ v w',(Builtin.append_ #[t,u] o.type #[a.eval b,a.eval x]).run P w=.ok v w'→(execOp a.eval o).run P w=.ok (.value v) w':=by
  intro v w' hq;simp only[execOp,ho,resolve,hc,hargs,htys,Sem.run_bind,Sem.run_pure,Result.andThen_ok,invoke,builtin];simp only[List.map_toArray,List.map_cons,List.map_nil,hq,Result.andThen_ok]
 rw[Option.map_eq_some_iff] at huk;obtain⟨uy,huy,huyk⟩:=huk;obtain⟨_,ud,_,hud,hukd,_⟩:=Ty.of_some (hty u uy huy);rw[huyk] at hukd;have hud':=K.of_int hukd.symm;subst hud';unfold evZ at h
 split at h
 ·rename_i e sz kx n he hb hx;obtain⟨hd,inf,hinf,hsz,_⟩:=elemOf_some hty he
  split at h
  ·rename_i y hy;obtain⟨inf',ed,hinf',_,_,hys,hyb,hyz,_⟩:=Ty.of_some (hty e y hy);rw[hinf] at hinf';injection hinf' with hinf';subst hinf'
   split at h
   ·rename_i z hz
    split at h
    ·rename_i zs hlz
     split at h
     ·rename_i hcond;obtain⟨hzl,hby,hn,hfit⟩:=hcond
      split at h
      ·rename_i hfresh;injection h with h;subst h;rw[hz] at hyz
       cases hiz:inf.zero with
       | none=>rw[hiz] at hyz; cases hyz
       | some v=>
        rw[hiz,Option.map_some,Option.some.injEq] at hyz;subst hyz;have hvz:v.cells.size=zs.length:=by
         obtain⟨_,rfl⟩:=lits_some hlz;simp
        have hrun:=run_zeros (w:=w) (tt:=o.type) (kx:=kx) (n:=n) hd hud hinf hiz (by rw[hvz,hzl,hsz]) hn (by rw[← hyb]; exact hby) (by rw[← hyb]; exact hfit);rw[← show a.eval b=.slice none 0 0 from opd_lit hrel hb,← show a.eval x=.int kx n from opd_lit hrel hx] at hrun;obtain⟨rest,hrest,hrl⟩:=zeroRest v.cells (grownCap w n.toNat 0 e-n.toNat);have hzz:RepL w fz ρ (Builtin.zeroCells v.cells n.toNat).toList (repeated n.toNat zs):=by
         by_cases h0:zs.length=0
         ·refine⟨?_,fun i v' c' hv' hc'=>?_⟩
          ·rw[repeated_length,h0,Array.length_toList,zeroCells_size,hvz,h0]
          ·have:=(List.getElem?_eq_some_iff.1 hc').1;rw[repeated_length,h0] at this;omega
         ·have:=zeros_rep (w:=w) (fz:=fz) (ρ:=ρ) (n:=n.toNat) hlz (Nat.pos_of_ne_zero h0);rw[← hvz] at this;exact this
        have hcapge:=le_grownCap w n.toNat 0 e;have hG:∀ ρ',RepO (w.drew.alloc (.cells ([]++(Builtin.zeroCells v.cells n.toNat).toList++rest).toArray e)) fz ρ' (.at w.heap.size 0 (grownCap w n.toNat 0 e) sz) ⟨false,true,e,sz,List.replicate n.toNat zs⟩:=fun ρ'=>
         grown_rep (old:=[]) (new:=(Builtin.zeroCells v.cells n.toNat).toList) (need:=n.toNat) hrel.fzl (fun x hx=>by rw[(List.mem_replicate.1 hx).2]; exact hzl) (fun x hx=>by rw[(List.mem_replicate.1 hx).2]; exact lits_free hlz) (by simp) hcapge (by simpa[repeated] using hzz) (by rw[hrl,hvz,hzl]) ρ'
        obtain⟨ρ',hρ,hR,_⟩:=Rel.make (w':=w.drew.alloc (.cells ([]++(Builtin.zeroCells v.cells n.toNat).toList++rest).toArray e)) (l:=.at w.heap.size 0 (grownCap w n.toNat 0 e) sz) (v:=.slice (some ⟨w.heap.size,0,none⟩) n.toNat (grownCap w n.toNat 0 e)) (t:=.c (.ref d 0 n.toNat)) (ob:=⟨false,true,e,sz,List.replicate n.toNat zs⟩) hrel d hB (.inr ⟨_,_,_,rfl,rfl,rfl,rfl,rfl⟩) hfresh (fun ρ' h1 h2=>⟨by
         have:=RepC.ref (w:=w.drew.alloc (.cells ([]++(Builtin.zeroCells v.cells n.toNat).toList++rest).toArray e)) (fz:=fz) d 0 n.toNat w.heap.size 0 _ sz (some ⟨w.heap.size,0,none⟩) h1 (by omega) (fun _=>by simp) ⟨_,rfl⟩;rw[Nat.sub_zero] at this;exact this,hG ρ'⟩) rfl
        refine⟨_,_,ρ',hexec _ _ ?_,hR⟩;rw[hrun,hrest];have hq:Builtin.zeroCells v.cells n.toNat++rest.toArray=([]++(Builtin.zeroCells v.cells n.toNat).toList++rest).toArray:=by
         rw[← List.append_toArray,List.nil_append,Array.toArray_toList]
        rw[hq]
      ·cases h
     ·cases h
    ·cases h
   ·cases h
  ·cases h
 ·cases h
theorem evA1_sound [Globals] (hty:∀ t y,ty t=some y→Ty.of P t=some y)(hB:B.n≤w.heap.size)(hrel:Rel w0 B f0 fz ρ s a.tmps w){d:Nat}{b x:Operand}{t u:TypeId}{s':St}{c:Call}(ho:o.op=.call c)(hc:c.callee=.builtin .append)(hargs:c.args=#[b,x])(htys:c.argTypes=#[t,u])
  (h:evA1 ty d b x t u s=some s'):∃ v w' ρ',(execOp a.eval o).run P w=.ok (.value v) w'∧Rel w0 B f0 fz ρ' s' (a.tmps.setIfInBounds d v) w':=by
 unfold evA1 at h
 split at h
 ·rename_i k huk;exact evZ_sound hty hB hrel ho hc hargs htys huk h
 ·exact evA2_sound hty hB hrel ho hc hargs htys h
end
end Go.Vabs

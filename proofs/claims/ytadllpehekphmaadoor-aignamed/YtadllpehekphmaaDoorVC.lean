/- A library: each operation of the abstract interpreter is as the model's, I: numbers, what is read. No condition. -/
import Derived.Test.YtadllpehekphmaaDoorVB
import Derived.Laws.AppendOwn
import Derived.Laws.Small
set_option linter.unusedSimpArgs false
set_option linter.unusedVariables false
namespace Go.Vabs
open Go.RowKit
theorem isCell.one {v:Value}(h:isCell v):v.oneCell'=true:=by cases v<;>first | exact h.elim | rfl
theorem isCellB_iff {v:Value}:isCellB v=true↔isCell v:=by cases v<;>simp[isCellB,isCell]
section
variable {P:Program} {ty:Tys}
theorem Ty.of_some {t:TypeId}{y:Ty}(h:Ty.of P t=some y):∃ i d,P.info? t=some i∧P.underlying t=some d∧y.k=K.of d∧y.size=i.size∧y.bytes=i.bytes∧y.zero=i.zero.map (fun v=>v.cells.toList) ∧
  y.fields=(match d with | .struct fs=>fs.toList.map fun f=>(f.offset,f.type) | _=>[]):=by
 unfold Ty.of at h
 cases hi:P.info? t with
 | none=>rw[hi] at h; simp at h
 | some i=>
  cases hd:P.underlying t with
  | none=>rw[hi,hd] at h; simp at h
  | some d=>
   rw[hi,hd] at h;simp only[Option.some.injEq] at h;subst h;exact⟨i,d,rfl,rfl,rfl,rfl,rfl,rfl,rfl⟩
theorem run_typeInfo' {t:TypeId}{i:TypeInfo}(h:P.info? t=some i)(w:World):(typeInfo t).run P w=.ok i w:=by simp[typeInfo,h]
theorem run_sizeOf' {t:TypeId}{i:TypeInfo}(h:P.info? t=some i)(w:World):(sizeOf t).run P w=.ok i.size w:=by simp[sizeOf,typeInfo,h]
theorem run_isAgg {t:TypeId}{d:TypeDesc}(h:P.underlying t=some d)(w:World):(isAgg t).run P w=.ok (match K.of d with | .struct=>true | .array _ _=>true | _=>false) w:=by
 unfold isAgg;simp only[Sem.run_bind,run_underlying h,Result.andThen_ok]
 cases d<;>simp[K.of]
theorem run_zeroValue {t:TypeId}{i:TypeInfo}{v:Value}(h:P.info? t=some i)(hz:i.zero=some v)(w:World):(zeroValue t).run P w=.ok v w:=by simp[zeroValue,typeInfo,h,hz]
theorem K.of_slice {d:TypeDesc}{e:TypeId}(h:K.of d=.slice e):d=.slice e:=by cases d<;>simp[K.of] at h<;>subst h<;>rfl
theorem K.of_str {d:TypeDesc}(h:K.of d=.str):d=.string:=by cases d<;>simp[K.of] at h<;>rfl
theorem K.of_bool {d:TypeDesc}(h:K.of d=.bool):d=.bool:=by cases d<;>simp[K.of] at h<;>rfl
theorem K.of_int {d:TypeDesc}{k:IntKind}(h:K.of d=.int k):d=.int k:=by cases d<;>simp[K.of] at h<;>subst h<;>rfl
theorem K.of_array {d:TypeDesc}{n:Nat}{e:TypeId}(h:K.of d=.array n e):d=.array n e:=by
 cases d<;>simp[K.of] at h
 obtain⟨rfl,rfl⟩:=h;rfl
theorem K.of_struct {d:TypeDesc}(h:K.of d=.struct):∃ fs,d=.struct fs:=by cases d<;>simp[K.of] at h; exact⟨_,rfl⟩
theorem elemOf_some (hty:∀ t y,ty t=some y→Ty.of P t=some y){t e:TypeId}{sz:Nat}(h:Vabs.elemOf ty t=some (e,sz)):
  P.underlying t=some (.slice e)∧∃ i,P.info? e=some i∧i.size=sz∧∃ y,ty e=some y∧y.size=sz:=by
 unfold Vabs.elemOf at h
 cases ht:ty t with
 | none=>rw[ht] at h; cases h
 | some y=>
  rw[ht] at h;obtain⟨i,d,_,hd,hk,_⟩:=Ty.of_some (hty t y ht)
  cases hy:y.k with
  | slice e'=>
   simp only[hy] at h
   cases he:ty e' with
   | none=>rw[he] at h; cases h
   | some z=>
    rw[he] at h;simp only[Option.some.injEq,Prod.mk.injEq] at h;obtain⟨rfl,rfl⟩:=h;obtain⟨i2,d2,hi2,_,_,hs2,_⟩:=Ty.of_some (hty e' z he);rw[hy] at hk;rw[K.of_slice hk.symm] at hd;exact⟨hd,i2,hi2,hs2.symm,z,he,rfl⟩
  | _=>simp[hy] at h
theorem tOf_rep {w:World}{fz:Nat→Prop}{ρ:Nat→Option Loc}(v:Value):RepT w fz ρ v (tOf v):=by
 cases v with
 | agg cs=>
  simp only[tOf]
  split
  ·rename_i h;refine⟨cs,rfl,by simp,fun i v c hv hc=>?_⟩;rw[List.getElem?_map,hv] at hc;injection hc with hc;subst hc;exact .frz (.lit _ (isCellB_iff.1 (List.all_eq_true.1 h v (List.mem_of_getElem? hv))))
  ·trivial
 | tuple=>trivial
 | _=>exact .frz (.lit _ trivial)
end
section
variable {P:Program} {ty:Tys} {w0:World} {B:Bs} {f0 fz:Nat→Prop} {ρ:Nat→Option Loc} {s:St} {a:Act} {w:World}
theorem RepT.noI {v:Value}{t:T}(h:RepT w fz ρ v t):RepT w fz ρ v t.noI:=by
 cases t<;>first | exact h | trivial
theorem opd_noI [Globals] (tm:List T)(x:Operand):(opd tm x).noI=opd tm x:=by
 cases x with
 | tmp t=>simp only[opd]; cases (tm[t]?).getD .junk<;>rfl
 | const v=>simp only[opd,tOf]; cases v<;>first | rfl | (simp only; split<;>rfl)
 | global g=>
  simp only[opd]
  split
  ·split<;>rfl
  ·rfl
 | func f=>rfl
theorem opd_rep [Globals] (h:Rel w0 B f0 fz ρ s a.tmps w)(x:Operand):RepT w fz ρ (a.eval x) (opd s.tm x):=by
 cases x with
 | tmp t=>
  simp only[opd,Act.eval]
  cases ht:s.tm[t]? with
  | none=>trivial
  | some y=>
   obtain⟨v,hv,hr⟩:=h.tmp t y ht;have:a.tmps.getD t undef=v:=by simp[Array.getD_eq_getD_getElem?,hv]
   rw[this];exact hr.noI
 | const v=>exact tOf_rep v
 | global g=>
  simp only[opd,Act.eval]
  cases hg:Globals.gl g with
  | none=>trivial
  | some cs=>
   simp only
   split
   ·rename_i hc;obtain⟨h1,h2,_⟩:=h.glz g cs hg;refine .frz (.fptr g 0 0 (cs.map .lit) (fun j=>(cs[j]?).getD undef) h1 (fun j hj=>?_) (fun j c hc'=>?_))
    ·rw[List.length_map] at hj;rw[Nat.zero_add,h2 j _ (List.getElem?_eq_getElem hj),List.getElem?_eq_getElem hj];rfl
    ·rw[List.getElem?_map,Option.map_eq_some_iff] at hc';obtain⟨v,hv,rfl⟩:=hc';rw[hv];exact .lit _ (isCellB_iff.1 (List.all_eq_true.1 hc v (List.mem_of_getElem? hv)))
   ·trivial
 | func f=>exact .frz (.lit _ trivial)
theorem opd_lit [Globals] (h:Rel w0 B f0 fz ρ s a.tmps w){x:Operand}{v:Value}(hx:opd s.tm x=.c (.lit v)):a.eval x=v:=by
 have h1:=opd_rep h x;rw[hx] at h1;generalize a.eval x=u at h1;have h1:RepC w fz ρ u (.lit v):=h1
 cases h1 with
 | frz h2=>cases h2; rfl
theorem bits_run {op:BinOp}{k:IntKind}{x y:Int}{v:Value}(h:bitsOp op k x y=some v):Op.intBits op k x y=pure v:=by
 cases op<;>simp only[bitsOp,Option.some.injEq,reduceCtorEq] at h<;>subst h<;>rfl
theorem bin_run (hty:∀ t y,ty t=some y→Ty.of P t=some y){op:BinOp}{t:TypeId}{x y v:Value}(h:bin ty op t x y=some v)(W:World)(ox oy:Operand):
  (do eqGuard op t ox oy x y; binOp op t x y:Sem Value).run P W=.ok v W:=by
 cases x<;>cases y<;>try (simp[bin] at h; done)
 ·-- bool
  rename_i p q;simp only[bin] at h
  cases hy:ty t with
  | none=>simp[hy] at h
  | some z=>
   obtain⟨i,d,hi,hd,hk,_⟩:=Ty.of_some (hty t z hy);simp only[hy,Option.map_some] at h
   cases hz:z.k with
   | bool=>
    rw[hz] at hk;have hd':=K.of_bool hk.symm;subst hd';simp only[hz] at h;have he:=run_equal_bool (P:=P) W t p q hd
    cases op<;>simp only[boolOp,Option.some.injEq,reduceCtorEq] at h<;>subst h
    ·simp[eqGuard,binOp,he]
    ·simp[eqGuard,binOp,he]
   | _=>simp[hz] at h
 ·-- int
  rename_i k p k' q;have hg:(eqGuard op t ox oy (.int k p) (.int k' q)).run P W=.ok () W:=by
   unfold eqGuard
   cases op<;>simp
  simp only[Sem.run_bind,hg,Result.andThen_ok]
  cases op<;>simp only[bin] at h<;>simp only[binOp]
  case shl=>
   split at h
   ·cases h
   ·rename_i hq;injection h with h; subst h;simp[Op.shift,hq]
  case shr=>
   split at h
   ·cases h
   ·rename_i hq;injection h with h; subst h;simp[Op.shift,hq]
  case quo=>
   split at h
   ·rename_i hk; subst hk;simp only[intOp] at h
    split at h
    ·cases h
    ·rename_i hq; injection h with h; subst h; simp[Op.intDiv,hq]
   ·cases h
  case rem=>
   split at h
   ·rename_i hk; subst hk;simp only[intOp] at h
    split at h
    ·cases h
    ·rename_i hq; injection h with h; subst h; simp[Op.intDiv,hq]
   ·cases h
  all_goals
   split at h
   ·rename_i hk;subst hk;simp only[intOp] at h
    first
     | (rw[if_neg (by simp),bits_run h]; rfl)
     | (injection h with h; subst h; simp[Op.intArith,Op.intCmp])
   ·cases h
 ·-- string
  rename_i p q;have hg:(eqGuard op t ox oy (.string p) (.string q)).run P W=.ok () W:=by
   unfold eqGuard
   cases op<;>simp
  simp only[Sem.run_bind,hg,Result.andThen_ok]
  cases op<;>simp[bin,strOp] at h
  ·obtain⟨h1,rfl⟩:=h;simp[binOp,Op.stringOp];have:IntKind.i64.max=9223372036854775807:=by decide
   omega
  ·subst h;simp[binOp,Op.stringOp]
  ·subst h;simp[binOp,Op.stringOp,bne]
theorem un_run {op:UnOp}{x v:Value}(h:un op x=some v)(W:World):(Op.unary op x).run P W=.ok v W:=by
 cases op<;>cases x<;>simp[un] at h
 ·subst h;simp[Op.unary,Op.intArith]
 ·simp only[Op.unary];rw[bits_run h];rfl
 ·subst h;simp[Op.unary]
end
end Go.Vabs
namespace Go.Vabs
open Go.RowKit
theorem add_none (b o j:Nat):(⟨b,o,none⟩:Addr).add j=⟨b,o+j,none⟩:=by
 unfold Addr.add
 split
 ·rename_i h; subst h; rfl
 ·rfl
theorem cell?_at {w:World}{b o:Nat}{c:Array Value}{e:TypeId}{fr:Nat × Nat}(h:w.heap[b]?=some (.cells c e fr)):w.cell? ⟨b,o,none⟩=c[o]?:=by
 simp[World.cell?,h]
section
variable {P:Program} {ty:Tys} {w0:World} {B:Bs} {f0 fz:Nat→Prop} {ρ:Nat→Option Loc} {s:St} {tm:Array Value} {w:World}
theorem Rel.objAt [Globals] (h:Rel w0 B f0 fz ρ s tm w){k b base cap sz:Nat}{o:Ob}(hk:hget s.hp k=some o)(hr:ρ k=some (.at b base cap sz)):RepO w fz ρ (.at b base cap sz) o:=by
 obtain⟨l,hl,ho⟩:=h.obj k o hk;rw[hr] at hl;injection hl with hl;subst hl;exact ho
theorem deref_rep [Globals] (h:Rel w0 B f0 fz ρ s tm w){v:Value}{t:T}{cs:List C}{off:Nat}(hv:RepT w fz ρ v t)(hd:deref s.hp t=some (cs,off)):
  ∃ b o,v=.pointer (some ⟨b,o+off,none⟩)∧∀ j c,cs[j]?=some c→∃ u,w.cell? ⟨b,o+j,none⟩=some u∧RepC w fz ρ u c:=by
 unfold deref at hd
 split at hd
 ·rename_i k i off'
  split at hd
  ·rename_i ob hk
   split at hd
   ·rename_i e he;simp only[Option.some.injEq,Prod.mk.injEq] at hd;obtain⟨rfl,rfl⟩:=hd;have hv:RepC w fz ρ v (.ptr k i off'):=hv
    cases hv with
    | frz hf=>cases hf
    | ptr _ _ _ b base cap sz hr=>
     obtain⟨_,_,_,_,c,fr,hb,_,_,hc⟩:=h.objAt hk hr;refine⟨b,base+i*sz,rfl,fun j x hx=>?_⟩;obtain⟨u,hu,hrep⟩:=hc i j e x he hx;exact⟨u,by rw[cell?_at hb]; exact hu,hrep⟩
   ·cases hd
  ·cases hd
 ·rename_i cs' off';simp only[Option.some.injEq,Prod.mk.injEq] at hd;obtain⟨rfl,rfl⟩:=hd;have hv:RepC w fz ρ v (.fptr cs' off'):=hv
  cases hv with
  | frz hf=>
   cases hf with
   | fptr b o _ _ cv hb hcells hrep=>
    refine⟨b,o,rfl,fun j c hc=>⟨cv j,hcells j (List.getElem?_eq_some_iff.1 hc).1,.frz (hrep j c hc)⟩⟩
 ·cases hd
theorem loadAt_rep (hty:∀ t y,ty t=some y→Ty.of P t=some y){t:TypeId}{cs:List C}{off b o:Nat}{x:T}(hl:loadAt ty t cs off=some x)
  (hc:∀ j c,cs[j]?=some c→∃ u,w.cell? ⟨b,o+j,none⟩=some u∧RepC w fz ρ u c):∃ v,(loadVar t ⟨b,o+off,none⟩).run P w=.ok v w∧RepT w fz ρ v x:=by
 unfold loadAt at hl
 cases ht:ty t with
 | none=>rw[ht] at hl; cases hl
 | some y=>
  rw[ht] at hl;obtain⟨i,d,hi,hd,hk,hs,_⟩:=Ty.of_some (hty t y ht);have hagg:(isAgg t).run P w=.ok y.isAgg w:=by rw[run_isAgg hd,← hk]; rfl
  simp only at hl
  cases hy:y.isAgg with
  | true=>
   rw[hy] at hl hagg;simp only[if_true] at hl
   split at hl
   ·rename_i hle;injection hl with hl;subst hl;have hcell:∀ j,j<y.size→∃ u,w.cell? ((⟨b,o+off,none⟩:Addr).add j)=some u∧∀ c,cs[off+j]?=some c→RepC w fz ρ u c:=fun j hj=>by
     obtain⟨u,hu,hrep⟩:=hc (off+j) _ (List.getElem?_eq_getElem (by omega));refine⟨u,by rw[add_none,Nat.add_assoc]; exact hu,fun c hcc=>?_⟩;rw[List.getElem?_eq_getElem (by omega)] at hcc;injection hcc with hcc;rw[← hcc];exact hrep
    let f:Nat→Value:=fun j=>if hj:j<y.size then (hcell j hj).choose else undef
    have hf:∀ j,j<y.size→w.cell? ((⟨b,o+off,none⟩:Addr).add j)=some (f j)∧∀ c,cs[off+j]?=some c→RepC w fz ρ (f j) c:=fun j hj=>by
     simp only[f,hj,dif_pos];exact (hcell j hj).choose_spec
    have hrun:=run_loadCells (P:=P) w ⟨b,o+off,none⟩ y.size f (fun j hj=>(hf j hj).1);refine⟨.agg ((List.range y.size).map f).toArray,?_,_,rfl,?_,?_⟩
    ·unfold loadVar;simp only[Sem.run_bind,hagg,Result.andThen_ok,if_true,run_sizeOf' hi,← hs,hrun];rfl
    ·simp; omega
    ·intro j v c hv hcc;simp only[List.getElem?_map] at hv;rw[Option.map_eq_some_iff] at hv;obtain⟨j',hj',rfl⟩:=hv;have hj:j<y.size:=by have:=(List.getElem?_eq_some_iff.1 hj').1; simpa using this
     rw[List.getElem?_range hj] at hj';injection hj' with hj';subst hj';rw[List.getElem?_take,if_pos hj,List.getElem?_drop] at hcc;exact (hf j hj).2 c hcc
   ·cases hl
  | false=>
   rw[hy] at hl hagg;simp only[Bool.false_eq_true,if_false,Option.map_eq_some_iff] at hl;obtain⟨c,hcc,rfl⟩:=hl;obtain⟨u,hu,hrep⟩:=hc off c hcc;refine⟨u,?_,hrep⟩;unfold loadVar;simp only[Sem.run_bind,hagg,Result.andThen_ok,Bool.false_eq_true,if_false,run_load,hu]
theorem part_rep (hty:∀ t y,ty t=some y→Ty.of P t=some y){t:TypeId}{cs:List C}{off:Nat}{x:T}{vs:Array Value}(hl:loadAt ty t cs off=some x)(hc:RepL w fz ρ vs.toList cs):
  ∃ v,(part t vs off).run P w=.ok v w∧RepT w fz ρ v x:=by
 unfold loadAt at hl
 cases ht:ty t with
 | none=>rw[ht] at hl; cases hl
 | some y=>
  rw[ht] at hl;obtain⟨i,d,hi,hd,hk,hs,_⟩:=Ty.of_some (hty t y ht);have hagg:(isAgg t).run P w=.ok y.isAgg w:=by rw[run_isAgg hd,← hk]; rfl
  simp only at hl
  cases hy:y.isAgg with
  | true=>
   rw[hy] at hl hagg;simp only[if_true] at hl
   split at hl
   ·rename_i hle;injection hl with hl;subst hl;refine⟨.agg (vs.extract off (off+y.size)),?_,_,rfl,?_,?_⟩
    ·unfold part;simp only[Sem.run_bind,hagg,Result.andThen_ok,if_true,run_sizeOf' hi,← hs];rfl
    ·have:=hc.1; simp at this ⊢; omega
    ·intro j v c hv hcc;have h1:=hc.1;simp only[Array.toList_extract,List.extract_eq_take_drop,Nat.add_sub_cancel_left] at hv;rw[List.getElem?_take] at hv hcc
     split at hv
     ·rename_i hj;rw[if_pos hj] at hcc;rw[List.getElem?_drop] at hv hcc;exact hc.2 _ v c hv hcc
     ·cases hv
   ·cases hl
  | false=>
   rw[hy] at hl hagg;simp only[Bool.false_eq_true,if_false,Option.map_eq_some_iff] at hl;obtain⟨c,hcc,rfl⟩:=hl;have h1:=hc.1;have hlt:off<vs.size:=by have:=(List.getElem?_eq_some_iff.1 hcc).1; simp at h1; omega
   refine⟨vs[off],?_,hc.2 off _ c (by simp[Array.getElem?_toList,hlt]) hcc⟩;unfold part;simp only[Sem.run_bind,hagg,Result.andThen_ok,Bool.false_eq_true,if_false,Array.getElem?_eq_getElem hlt];rfl
theorem lenT_rep [Globals] (h:Rel w0 B f0 fz ρ s tm w){v:Value}{t:T}{n:Nat}(hv:RepT w fz ρ v t)(hl:lenT s.hp t=some n):
  (∃ b,v=.string b∧b.size=n∧t=.c (.lit (.string b)))∨∃ a c,v=.slice a n c∧n≤c∨(v=.slice a n c∧t=.c (.lit (.slice a n c))):=by
 unfold lenT at hl
 split at hl
 ·rename_i b;injection hl with hl;have hv:RepC w fz ρ v (.lit (.string b)):=hv
  cases hv with
  | frz hf=>cases hf; exact .inl ⟨b,rfl,hl,rfl⟩
 ·rename_i a n' c;injection hl with hl;subst hl;have hv:RepC w fz ρ v (.lit (.slice a n' c)):=hv
  cases hv with
  | frz hf=>cases hf; exact .inr ⟨a,c,.inr ⟨rfl,rfl⟩⟩
 ·rename_i sz es;injection hl with hl;subst hl;have hv:RepC w fz ρ v (.sl sz es):=hv
  cases hv with
  | frz hf=>
   cases hf with
   | sl a len cap _ _ cv hl hs hc hcells hrep=>subst hl; exact .inr ⟨a,cap,.inl ⟨rfl,hc⟩⟩
 ·rename_i k off len;injection hl with hl;subst hl;have hv:RepC w fz ρ v (.ref k off len):=hv
  cases hv with
  | frz hf=>cases hf
  | nil=>exact .inr ⟨none,0,.inl ⟨rfl,Nat.le_refl _⟩⟩
  | ref _ _ _ b base cap sz a hr hc ha hs=>exact .inr ⟨a,cap-off,.inl ⟨rfl,by omega⟩⟩
 ·cases hl
end
end Go.Vabs

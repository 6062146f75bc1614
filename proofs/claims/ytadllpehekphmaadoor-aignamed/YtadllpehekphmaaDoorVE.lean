/- A library: each operation of the abstract interpreter is as the model's, III: operations that neither store nor call. No condition. -/
import Derived.Test.YtadllpehekphmaaDoorVC
set_option linter.unusedSimpArgs false
set_option linter.unusedVariables false
namespace Go.Vabs
open Go.RowKit
theorem K.struct_fields {y:Ty}{d:TypeDesc}{fs:Array Field}(hd:d=.struct fs)(hf:y.fields=(match d with | .struct fs=>fs.toList.map fun f=>(f.offset,f.type) | _=>[])):
  y.fields=fs.toList.map fun f=>(f.offset,f.type):=by subst hd; exact hf
section
variable {P:Program} {ty:Tys} {w0:World} {B:Bs} {f0 fz:Nat→Prop} {ρ:Nat→Option Loc} {s:St} {a:Act} {w:World} {o:Oper}
abbrev Val (P:Program) (fz:Nat→Prop) (ρ:Nat→Option Loc) (a:Act) (w:World) (o:Oper) (t:T):Prop:=∃ v,(execOp a.eval o).run P w=.ok (.value v) w∧RepT w fz ρ v t
theorem rep_lit {w:World}{fz:Nat→Prop}{ρ:Nat→Option Loc}{v:Value}(h:isCell v):RepT w fz ρ v (.c (.lit v)):=RepC.frz (.lit v h)
theorem bin_cell {op:BinOp}{t:TypeId}{x y v:Value}(h:bin ty op t x y=some v):isCell v:=by
 cases x<;>cases y<;>try (simp[bin] at h; done)
 ·simp only[bin] at h
  split at h
  ·cases op<;>simp only[boolOp,Option.some.injEq,reduceCtorEq] at h<;>subst h<;>trivial
  ·cases h
 ·cases op<;>simp only[bin] at h
  case shl=>split at h<;>cases h; trivial
  case shr=>split at h<;>cases h; trivial
  case quo=>
   split at h
   ·simp only[intOp] at h; split at h<;>cases h; trivial
   ·cases h
  case rem=>
   split at h
   ·simp only[intOp] at h; split at h<;>cases h; trivial
   ·cases h
  all_goals
   split at h
   ·simp only[intOp,bitsOp] at h; cases h; trivial
   ·cases h
 ·cases op<;>simp only[bin,strOp] at h
  case add=>split at h<;>cases h; trivial
  all_goals first | (cases h; done) | (cases h; trivial)
theorem un_cell {op:UnOp}{x v:Value}(h:un op x=some v):isCell v:=by
 cases op<;>cases x<;>simp[un,bitsOp] at h<;>subst h<;>trivial
theorem val_move [Globals] (hrel:Rel w0 B f0 fz ρ s a.tmps w){x:Operand}(ho:o.op=.move x∨o.op=.assign x):Val P fz ρ a w o (opd s.tm x):=by
 refine⟨a.eval x,?_,opd_rep hrel x⟩
 rcases ho with ho | ho<;>simp[execOp,ho]
theorem val_pick [Globals] (hrel:Rel w0 B f0 fz ρ s a.tmps w){c x y:Operand}{b:Bool}(ho:o.op=.pick c x y)(hc:opd s.tm c=.c (.lit (.bool b))):Val P fz ρ a w o (if b then opd s.tm x else opd s.tm y):=by
 cases b with
 | true=>exact⟨a.eval x,by simp[execOp,ho,opd_lit hrel hc,asBool],opd_rep hrel x⟩
 | false=>exact⟨a.eval y,by simp[execOp,ho,opd_lit hrel hc,asBool],opd_rep hrel y⟩
theorem val_bin [Globals] (hty:∀ t y,ty t=some y→Ty.of P t=some y)(hrel:Rel w0 B f0 fz ρ s a.tmps w){op:BinOp}{t t':TypeId}{x y:Operand}{u v r:Value}(ho:o.op=.binOp op t x y t')
  (hx:opd s.tm x=.c (.lit u)) (hy:opd s.tm y=.c (.lit v)) (h:bin ty op t u v=some r):Val P fz ρ a w o (.c (.lit r)):=by
 refine⟨r,?_,rep_lit (bin_cell h)⟩;have hb:=bin_run hty h w x y;simp only[execOp,ho,opd_lit hrel hx,opd_lit hrel hy];simp only[Sem.run_bind] at hb ⊢;rw[hb];rfl
theorem val_un [Globals] (hrel:Rel w0 B f0 fz ρ s a.tmps w){op:UnOp}{t:TypeId}{x:Operand}{u r:Value}(ho:o.op=.unOp op t x)(hx:opd s.tm x=.c (.lit u))(h:un op u=some r):Val P fz ρ a w o (.c (.lit r)):=by
 refine⟨r,?_,rep_lit (un_cell h)⟩;simp only[execOp,ho,opd_lit hrel hx,Sem.run_bind,un_run h w];rfl
theorem val_load [Globals] (hty:∀ t y,ty t=some y→Ty.of P t=some y)(hrel:Rel w0 B f0 fz ρ s a.tmps w){t:TypeId}{x:Operand}{cs:List C}{off:Nat}{r:T}(ho:o.op=.load t x)
  (hd:deref s.hp (opd s.tm x)=some (cs,off)) (hl:loadAt ty t cs off=some r):Val P fz ρ a w o r:=by
 obtain⟨b,of',hv,hc⟩:=deref_rep hrel (opd_rep hrel x) hd;obtain⟨v,hrun,hrep⟩:=loadAt_rep hty hl hc;refine⟨v,?_,hrep⟩;simp only[execOp,ho,hv,Sem.run_bind,Instr.loadAt,Instr.sureAddr,Sem.run_pure,Result.andThen_ok,hrun]
theorem val_nil [Globals] (hrel:Rel w0 B f0 fz ρ s a.tmps w){x:Operand}{c:C}(ho:o.op=.nilCheck x)(hx:opd s.tm x=.c c)(hp:(∃ h i off,c=.ptr h i off)∨∃ cs off,c=.fptr cs off):Val P fz ρ a w o (.c c):=by
 have hr:=opd_rep hrel x;rw[hx] at hr;have hr:RepC w fz ρ (a.eval x) c:=hr;have:∃ ad,a.eval x=.pointer (some ad):=by
  generalize a.eval x=u at hr
  rcases hp with ⟨h,i,off,rfl⟩ | ⟨cs,off,rfl⟩
  ·cases hr with
   | frz hf=>cases hf
   | ptr _ _ _ b base cap sz hr=>exact⟨_,rfl⟩
  ·cases hr with
   | frz hf=>cases hf with | fptr=>exact⟨_,rfl⟩
 obtain⟨ad,he⟩:=this;refine⟨a.eval x,?_,hr⟩;simp[execOp,ho,he]
theorem val_field [Globals] (hty:∀ t y,ty t=some y→Ty.of P t=some y)(hrel:Rel w0 B f0 fz ρ s a.tmps w){t:TypeId}{x:Operand}{f fo:Nat}{ft:TypeId}{y:Ty}{cs:List C}{r:T}(ho:o.op=.field t x f)
  (ht:ty t=some y) (hk:y.k=.struct) (hf:y.fields[f]?=some (fo,ft)) (hx:opd s.tm x=.agg cs) (hl:loadAt ty ft cs fo=some r):Val P fz ρ a w o r:=by
 obtain⟨i,d,hi,hd,hky,_,_,_,hfs⟩:=Ty.of_some (hty t y ht);rw[hk] at hky;obtain⟨fs,rfl⟩:=K.of_struct hky.symm;have hr:=opd_rep hrel x;rw[hx] at hr;obtain⟨vs,hv,hrl⟩:=hr;obtain⟨v,hrun,hrep⟩:=part_rep hty hl hrl;rw[K.struct_fields rfl hfs,List.getElem?_map,Option.map_eq_some_iff] at hf;obtain⟨fd,hfd,he⟩:=hf;simp only[Prod.mk.injEq] at he;obtain⟨rfl,rfl⟩:=he;rw[Array.getElem?_toList] at hfd;refine⟨v,?_,hrep⟩;simp only[execOp,ho,hv,Sem.run_bind,Instr.field,run_underlying hd,Result.andThen_ok,hfd,asAgg,Sem.run_pure,hrun]
theorem val_fieldAddr [Globals] (hty:∀ t y,ty t=some y→Ty.of P t=some y)(hrel:Rel w0 B f0 fz ρ s a.tmps w){t:TypeId}{x:Operand}{f fo:Nat}{ft:TypeId}{y:Ty}{n:Nat}{c c':C}(ho:o.op=.fieldAddr t x f)
  (ht:ty t=some y) (hk:y.k=.struct) (hf:y.fields[f]?=some (fo,ft)) (hs:(ty ft).map Ty.size=some (n+1)) (hx:opd s.tm x=.c c)
  (hp:(∃ h i off,c=.ptr h i off∧c'=.ptr h i (off+fo))∨∃ cs off,c=.fptr cs off∧c'=.fptr cs (off+fo)):Val P fz ρ a w o (.c c'):=by
 obtain⟨i,d,hi,hd,hky,_,_,_,hfs⟩:=Ty.of_some (hty t y ht);rw[hk] at hky;obtain⟨fs,rfl⟩:=K.of_struct hky.symm;rw[Option.map_eq_some_iff] at hs;obtain⟨fy,hfy,hsz⟩:=hs;obtain⟨fi,_,hfi,_,_,hsize,_⟩:=Ty.of_some (hty ft fy hfy);rw[K.struct_fields rfl hfs,List.getElem?_map,Option.map_eq_some_iff] at hf;obtain⟨fd,hfd,he⟩:=hf;simp only[Prod.mk.injEq] at he;obtain⟨rfl,rfl⟩:=he;rw[Array.getElem?_toList] at hfd;have hr:=opd_rep hrel x;rw[hx] at hr;have hr:RepC w fz ρ (a.eval x) c:=hr;have:∃ b q,a.eval x=.pointer (some ⟨b,q,none⟩)∧RepC w fz ρ (.pointer (some ⟨b,q+fd.offset,none⟩)) c':=by
  generalize a.eval x=u at hr
  rcases hp with ⟨h,i,off,rfl,rfl⟩ | ⟨cs,off,rfl,rfl⟩
  ·cases hr with
   | frz hf=>cases hf
   | ptr _ _ _ b base cap sz hr=>exact⟨b,_,rfl,by rw[Nat.add_assoc]; exact .ptr h i (off+fd.offset) b base cap sz hr⟩
  ·cases hr with
   | frz hf=>
    cases hf with
    | fptr b q _ _ cv hb hcells hrep=>exact⟨b,_,rfl,by rw[Nat.add_assoc]; exact .frz (.fptr b q (off+fd.offset) cs cv hb hcells hrep)⟩
 obtain⟨b,q,he,hrep⟩:=this;refine⟨_,?_,hrep⟩;have hnz:¬ fi.size=0:=by omega
 simp[execOp,ho,he,Instr.fieldAt,run_underlying hd,hfd,Instr.sureAddr,fieldPlace,run_sizeOf' hfi,hnz,add_none]
theorem val_extract [Globals] (hrel:Rel w0 B f0 fz ρ s a.tmps w){x:Operand}{i:Nat}{ts:List T}{t:T}(ho:o.op=.extract x i)(hx:opd s.tm x=.tup ts)(ht:ts[i]?=some t):Val P fz ρ a w o t:=by
 have hr:=opd_rep hrel x;rw[hx] at hr;obtain⟨vs,hv,hs,h⟩:=hr;obtain⟨v,hvi,hrep⟩:=h i t ht;refine⟨v,?_,?_⟩
 ·simp only[execOp,ho,hv,Instr.extract,hvi,Sem.run_bind,Sem.run_pure,Result.andThen_ok]
 ·cases t with
  | c x=>exact hrep
  | agg cs=>exact hrep
  | tup _=>exact hrep.elim
  | itr _ _=>exact hrep.elim
  | junk=>trivial
theorem val_index [Globals] (hty:∀ t y,ty t=some y→Ty.of P t=some y)(hrel:Rel w0 B f0 fz ρ s a.tmps w){t:TypeId}{x ix:Operand}{k:IntKind}{i:Int}{b:ByteArray}{u:UInt8}(ho:o.op=.index t x ix)
  (hi:opd s.tm ix=.c (.lit (.int k i))) (hx:opd s.tm x=.c (.lit (.string b))) (hk:(ty t).map Ty.k=some .str) (h0:0≤i) (hu:b[i.toNat]?=some u):Val P fz ρ a w o (.c (.lit (.int .u8 u.toNat))):=by
 rw[Option.map_eq_some_iff] at hk;obtain⟨y,ht,hk⟩:=hk;obtain⟨_,d,_,hd,hky,_⟩:=Ty.of_some (hty t y ht);rw[hk] at hky;have hd':=K.of_str hky.symm;subst hd';refine⟨_,?_,rep_lit trivial⟩;simp[execOp,ho,opd_lit hrel hi,opd_lit hrel hx,Instr.index,asIntOf,run_underlying hd,h0,hu]
theorem val_indexArr [Globals] (hty:∀ t y,ty t=some y→Ty.of P t=some y)(hrel:Rel w0 B f0 fz ρ s a.tmps w){t e:TypeId}{x ix:Operand}{k:IntKind}{i:Int}{cs:List C}{n:Nat}{y ey:Ty}{r:T}(ho:o.op=.index t x ix)
  (hi:opd s.tm ix=.c (.lit (.int k i))) (hx:opd s.tm x=.agg cs) (ht:ty t=some y) (hk:y.k=.array n e) (he:ty e=some ey) (h0:0≤i∧i.toNat<n) (hl:loadAt ty e cs (i.toNat*ey.size)=some r):Val P fz ρ a w o r:=by
 obtain⟨_,d,_,hd,hky,_⟩:=Ty.of_some (hty t y ht);obtain⟨ei,_,hei,_,_,hes,_⟩:=Ty.of_some (hty e ey he);rw[hk] at hky;have hd':=K.of_array hky.symm;subst hd';have hr:=opd_rep hrel x;rw[hx] at hr;obtain⟨vs,hv,hrl⟩:=hr;obtain⟨v,hrun,hrep⟩:=part_rep hty hl hrl;have hcond:0≤i∧i<(n:Int):=by omega
 refine⟨v,?_,hrep⟩;simp only[execOp,ho,opd_lit hrel hi,hv,Instr.index,asIntOf,Sem.run_bind,Sem.run_pure,Result.andThen_ok,run_underlying hd,Sem.run_ite,if_pos hcond,run_sizeOf' hei,← hes,hrun]
theorem val_indexAddr [Globals] (hty:∀ t y,ty t=some y→Ty.of P t=some y)(hrel:Rel w0 B f0 fz ρ s a.tmps w){t e:TypeId}{x ix:Operand}{k:IntKind}{i:Int}{z:Nat}{c c':C}(ho:o.op=.indexAddr t x ix)
  (hi:opd s.tm ix=.c (.lit (.int k i))) (hx:opd s.tm x=.c c) (he:Vabs.elemOf ty t=some (e,z)) (h0:0≤i)
  (hp:(∃ es l,c=.sl z es∧es[i.toNat]?=some l∧c'=.fptr l 0)∨∃ h off len ob,c=.ref h off len∧hget s.hp h=some ob∧z=ob.sz∧i.toNat<len∧c'=.ptr h (off+i.toNat) 0):Val P fz ρ a w o (.c c'):=by
 obtain⟨hd,inf,hinf,hsz,_⟩:=elemOf_some hty he;have hr:=opd_rep hrel x;rw[hx] at hr;have hr:RepC w fz ρ (a.eval x) c:=hr;have:∃ b q n cap,a.eval x=.slice (some ⟨b,q,none⟩) n cap∧i<(n:Int)∧RepC w fz ρ (.pointer (some ⟨b,q+i.toNat*z,none⟩)) c':=by
  generalize a.eval x=u at hr
  rcases hp with ⟨es,l,rfl,hl,rfl⟩ | ⟨h,off,len,ob,rfl,hob,hz,hlt,rfl⟩
  ·cases hr with
   | frz hf=>
    cases hf with
    | sl ad len cap _ _ cv hle hs hc hcells hrep=>
     have hlt:=(List.getElem?_eq_some_iff.1 hl).1;obtain⟨b,q,rfl,hb,hcc⟩:=hcells (by omega);refine⟨b,q,len,cap,rfl,by omega,?_⟩;have hll:l.length=z:=hs l (List.mem_of_getElem? hl);have:=RepF.fptr (w:=w) (fz:=fz) b (q+i.toNat*z) 0 l (fun j=>cv i.toNat j) hb (fun j hj=>hcc i.toNat j (by omega) (by omega)) (fun j c hj=>hrep i.toNat j l c hl hj);exact .frz this
  ·cases hr with
   | frz hf=>cases hf
   | nil=>omega
   | ref _ _ _ b base cap sz ad hrho hc ha hs=>
    have:=hrel.objAt hob hrho;have hsz':sz=ob.sz:=this.2.2.1;have hcap:off<cap:=by omega
    refine⟨b,base+off*sz,len,cap-off,by rw[ha hcap],by omega,?_⟩;have:=RepC.ptr (w:=w) (fz:=fz) h (off+i.toNat) 0 b base cap sz hrho;rw[hz,← hsz',Nat.add_assoc,← Nat.add_mul];exact this
 obtain⟨b,q,n,cap,hv,hlt,hrep⟩:=this;refine⟨_,?_,hrep⟩;have hcond:0≤i∧i<(n:Int):=⟨h0,hlt⟩;simp only[execOp,ho,opd_lit hrel hi,hv,Instr.indexAt,asIntOf,Sem.run_bind,Sem.run_pure,Result.andThen_ok,run_underlying hd,Sem.run_ite,if_pos hcond,run_sizeOf' hinf,hsz,add_none]
theorem arrOf_some (hty:∀ t y,ty t=some y→Ty.of P t=some y){t:TypeId}{n z:Nat}(h:arrOf ty t=some (n,z)):∃ e inf,P.underlying t=some (.array n e)∧P.info? e=some inf∧z=inf.size:=by
 unfold arrOf at h
 split at h
 ·rename_i y hy
  split at h
  ·rename_i n' e hk;rw[Option.map_eq_some_iff] at h;obtain⟨ey,hey,he⟩:=h;simp only[Prod.mk.injEq] at he;obtain⟨rfl,rfl⟩:=he;obtain⟨_,d,_,hd,hky,_⟩:=Ty.of_some (hty t y hy);obtain⟨ei,_,hei,_,_,hes,_⟩:=Ty.of_some (hty e ey hey);rw[hk] at hky;have hd':=K.of_array hky.symm;subst hd';exact⟨e,ei,hd,hei,hes⟩
  ·cases h
 ·cases h
theorem val_arrAddr [Globals] (hty:∀ t y,ty t=some y→Ty.of P t=some y)(hrel:Rel w0 B f0 fz ρ s a.tmps w){t:TypeId}{x ix:Operand}{k:IntKind}{i:Int}{r:T}(ho:o.op=.indexAddr t x ix)
  (hi:opd s.tm ix=.c (.lit (.int k i))) (h:arrAddr ty t (opd s.tm x) i=some r):Val P fz ρ a w o r:=by
 have hr:=opd_rep hrel x;unfold arrAddr at h;have fin:∀ (n z:Nat) (b q:Nat) (c':C),arrOf ty t=some (n,z)→0≤i∧i.toNat<n→a.eval x=.pointer (some ⟨b,q,none⟩)→RepC w fz ρ (.pointer (some ⟨b,q+i.toNat*z,none⟩)) c'→Val P fz ρ a w o (.c c'):=by
  intro n z b q c' ha hc hv hrep;obtain⟨e,inf,hd,hinf,hsz⟩:=arrOf_some hty ha;refine⟨_,?_,hrep⟩;have hcond:0≤i∧i<(n:Int):=by omega
  simp only[execOp,ho,opd_lit hrel hi,hv,Instr.indexAt,Instr.sureAddr,asIntOf,Sem.run_bind,Sem.run_pure,Result.andThen_ok,run_underlying hd,Sem.run_ite,if_pos hcond,run_sizeOf' hinf,hsz,add_none]
 split at h
 ·rename_i n z hh j off ha hx
  split at h
  ·rename_i hc;injection h with h;subst h;rw[hx] at hr;have hr:RepC w fz ρ (a.eval x) (.ptr hh j off):=hr;generalize hu:a.eval x=u at hr
   cases hr with
   | frz hf=>cases hf
   | ptr _ _ _ b base cap sz hr=>exact fin n z b _ _ ha hc hu (by rw[Nat.add_assoc]; exact .ptr hh j (off+i.toNat*z) b base cap sz hr)
  ·cases h
 ·rename_i n z cs off ha hx
  split at h
  ·rename_i hc;injection h with h;subst h;rw[hx] at hr;have hr:RepC w fz ρ (a.eval x) (.fptr cs off):=hr;generalize hu:a.eval x=u at hr
   cases hr with
   | frz hf=>
    cases hf with
    | fptr b q _ _ cv hb hcells hrep=>exact fin n z b _ _ ha hc hu (by rw[Nat.add_assoc]; exact .frz (.fptr b q (off+i.toNat*z) cs cv hb hcells hrep))
  ·cases h
 ·cases h
theorem val_len [Globals] (hty:∀ t y,ty t=some y→Ty.of P t=some y)(hrel:Rel w0 B f0 fz ρ s a.tmps w){c:Call}{x:T}{t:TypeId}{n:Nat}(ho:o.op=.call c)(hc:c.callee=.builtin .len)
  (ha:c.args.toList.map (opd s.tm)=[x]) (ht:c.argTypes.toList=[t]) (hl:lenT s.hp x=some n) (hk:(∃ e,(ty t).map Ty.k=some (.slice e))∨(ty t).map Ty.k=some .str)
  (h1:∀ e,(ty t).map Ty.k=some (.slice e)→∀ b,x≠.c (.lit (.string b))) (h2:(ty t).map Ty.k=some .str→∃ b,x=.c (.lit (.string b))):Val P fz ρ a w o (.c (.lit (.int .i64 n))):=by
 refine⟨.int .i64 n,?_,rep_lit trivial⟩;obtain⟨x0,hx0⟩:∃ x0,c.args.toList=[x0]:=by
  cases hcl:c.args.toList with
  | nil=>rw[hcl] at ha; cases ha
  | cons p q=>cases q with
   | nil=>exact⟨p,rfl⟩
   | cons q r=>rw[hcl] at ha; simp at ha
 rw[hx0] at ha;simp only[List.map_cons,List.map_nil,List.cons.injEq,and_true] at ha;have hargs:c.args=#[x0]:=by rw[← Array.toArray_toList (xs:=c.args),hx0]
 have htys:c.argTypes=#[t]:=by rw[← Array.toArray_toList (xs:=c.argTypes),ht]
 have hr:=opd_rep hrel x0;rw[ha] at hr;have hrun:(Builtin.len_ #[t] o.type #[a.eval x0]).run P w=.ok (.int .i64 n) w:=by
  rcases hk with ⟨e,hk⟩ | hk
  ·have hk':=hk;rw[Option.map_eq_some_iff] at hk;obtain⟨y,hty',hky⟩:=hk;obtain⟨_,d,_,hd,hkd,_⟩:=Ty.of_some (hty t y hty');rw[hky] at hkd;have hd':=K.of_slice hkd.symm;subst hd'
   rcases lenT_rep hrel hr hl with ⟨b,_,_,hb⟩ | ⟨ad,cap,h | ⟨h,_⟩⟩
   ·exact absurd hb (h1 e hk' b)
   ·simp[Builtin.len_,run_underlying hd,h.1,goInt]
   ·simp[Builtin.len_,run_underlying hd,h,goInt]
  ·obtain⟨b,hb⟩:=h2 hk;rw[Option.map_eq_some_iff] at hk;obtain⟨y,hty',hky⟩:=hk;obtain⟨_,d,_,hd,hkd,_⟩:=Ty.of_some (hty t y hty');rw[hky] at hkd;have hd':=K.of_str hkd.symm;subst hd';subst hb;have hv:a.eval x0=.string b:=opd_lit hrel ha;simp only[lenT,Option.some.injEq] at hl;simp[Builtin.len_,run_underlying hd,hv,goInt,hl]
 simp only[execOp,ho,resolve,hc,hargs,htys,Sem.run_bind,Sem.run_pure,Result.andThen_ok,invoke,builtin];simp only[List.map_toArray,List.map_cons,List.map_nil,hrun,Result.andThen_ok]
end
end Go.Vabs
namespace Go.Vabs
open Go.RowKit
section
variable {P:Program} {ty:Tys} {w0:World} {B:Bs} {f0 fz:Nat→Prop} {ρ:Nat→Option Loc} {s:St} {a:Act} {w:World} {o:Oper}
theorem bound_run [Globals] (hrel:Rel w0 B f0 fz ρ s a.tmps w){x:Operand}{n d r m:Nat}(h:boundOf s.tm n d (some x)=some r)(hm:n≤m)(code:Instr.sliceBound=Instr.sliceBound)(cd:BoundsCode):
  (Instr.sliceBound (a.eval x) m cd).run P w=.ok r w∧r≤n:=by
 unfold boundOf at h
 split at h
 ·rename_i heq; cases heq
 ·rename_i x' hx;injection hx with hx;subst hx
  split at h
  ·rename_i k i hi
   split at h
   ·rename_i hb;injection h with h;subst h;have hc:0≤i∧i≤(m:Int):=by omega
    refine⟨?_,hb.2⟩;simp only[Instr.sliceBound,opd_lit hrel hi,asIntOf,Sem.run_bind,Sem.run_pure,Result.andThen_ok,Sem.run_ite,if_pos hc]
   ·cases h
  ·cases h
theorem bounds_run [Globals] (hrel:Rel w0 B f0 fz ρ s a.tmps w){lo hi:Option Operand}{n cap l h:Nat}(isSlice:Bool)(hcap:n≤cap)(hh:boundOf s.tm n n hi=some h)(hl:boundOf s.tm h 0 lo=some l):
  (Instr.sliceBounds isSlice n cap (lo.map a.eval) (hi.map a.eval) none).run P w=.ok (l,h,cap) w∧l≤h∧h≤n:=by
 have h1:∀ (cd:BoundsCode),(match hi.map a.eval with | some v=>Instr.sliceBound v cap cd | none=>pure n:Sem Nat).run P w=.ok h w∧h≤n:=by
  intro cd
  cases hi with
  | none=>simp only[boundOf,Option.some.injEq] at hh; subst hh; exact⟨rfl,Nat.le_refl _⟩
  | some x=>exact bound_run hrel hh hcap rfl cd
 have h2:∀ (cd:BoundsCode),(match lo.map a.eval with | some v=>Instr.sliceBound v h cd | none=>pure 0:Sem Nat).run P w=.ok l w∧l≤h:=by
  intro cd
  cases lo with
  | none=>simp only[boundOf,Option.some.injEq] at hl; subst hl; exact⟨rfl,Nat.zero_le _⟩
  | some x=>exact bound_run hrel hl (Nat.le_refl _) rfl cd
 refine⟨?_,(h2 .sliceB).2,(h1 .sliceB).2⟩;unfold Instr.sliceBounds
 cases hi with
 | none=>
  have h1':=(h1 .sliceB).1;simp only[Option.map_none,Sem.run_pure,Result.ok.injEq] at h1';obtain⟨rfl,_⟩:=h1'
  cases lo with
  | none=>
   have h2':=(h2 .sliceB).1;simp only[Option.map_none,Sem.run_pure,Result.ok.injEq] at h2';obtain⟨rfl,_⟩:=h2';simp
  | some x=>
   have h2':=(h2 .sliceB).1;simp only[Option.map_some] at h2';simp[h2']
 | some y=>
  have h1':=(h1 (if isSlice=true then .sliceAcap else .sliceAlen)).1;simp only[Option.map_some] at h1'
  cases lo with
  | none=>
   have h2':=(h2 .sliceB).1;simp only[Option.map_none,Sem.run_pure,Result.ok.injEq] at h2';obtain⟨rfl,_⟩:=h2';simp[h1']
  | some x=>
   have h2':=(h2 .sliceB).1;simp only[Option.map_some] at h2';simp[h1',h2']
theorem val_slice [Globals] (hty:∀ t y,ty t=some y→Ty.of P t=some y)(hrel:Rel w0 B f0 fz ρ s a.tmps w){t:TypeId}{x:Operand}{lo hi:Option Operand}{n l h:Nat}{r:T}(ho:o.op=.slice t x lo hi none)
  (hn:lenT s.hp (opd s.tm x)=some n) (hh:boundOf s.tm n n hi=some h) (hl:boundOf s.tm h 0 lo=some l) (hs:sliceT ty t s.hp (opd s.tm x) l h=some r):Val P fz ρ a w o r:=by
 have hr:=opd_rep hrel x;generalize hX:opd s.tm x=X at hr hn hs;unfold sliceT at hs
 split at hs
 ·-- a string
  rename_i b
  split at hs
  ·rename_i hk;injection hs with hs;subst hs;rw[Option.map_eq_some_iff] at hk;obtain⟨y,hty',hky⟩:=hk;obtain⟨_,d,_,hd,hkd,_⟩:=Ty.of_some (hty t y hty');rw[hky] at hkd;have hd':=K.of_str hkd.symm;subst hd';have hv:a.eval x=.string b:=opd_lit hrel hX;simp only[lenT,Option.some.injEq] at hn;subst hn;have hb:=(bounds_run (P:=P) (w:=w) hrel false (Nat.le_refl b.size) hh hl).1;refine⟨_,?_,rep_lit trivial⟩;simp[execOp,ho,hv,Instr.sliceAt,run_underlying hd,Instr.slice,hb]
  ·cases hs
 ·-- nothing
  split at hs
  ·rename_i e z he;injection hs with hs;subst hs;obtain⟨hd,inf,hinf,hsz,_⟩:=elemOf_some hty he;have hv:a.eval x=.slice none 0 0:=opd_lit hrel hX;simp only[lenT,Option.some.injEq] at hn;subst hn;obtain⟨hb,hlh,hhn⟩:=bounds_run (P:=P) (w:=w) hrel true (Nat.le_refl 0) hh hl;obtain rfl:h=0:=by omega
   obtain rfl:l=0:=by omega
   refine⟨.slice none 0 0,?_,rep_lit trivial⟩;simp[execOp,ho,hv,Instr.sliceAt,run_underlying hd,Instr.slice,hb,run_sizeOf' hinf,hsz]
  ·cases hs
 ·-- what nobody writes
  rename_i sz es
  split at hs
  ·rename_i e z he
   split at hs
   ·rename_i hz;subst hz;injection hs with hs;subst hs;obtain⟨hd,inf,hinf,hsz,_⟩:=elemOf_some hty he;have hr:RepC w fz ρ (a.eval x) (.sl z es):=hr;simp only[lenT,Option.some.injEq] at hn;subst hn;generalize hv:a.eval x=u at hr
    cases hr with
    | frz hf=>
     cases hf with
     | sl ad len cap _ _ cv hle hss hc hcells hrep=>
      subst hle;obtain⟨hb,hlh,hhn⟩:=bounds_run (P:=P) (w:=w) hrel true hc hh hl;refine⟨.slice (if cap=l then ad else ad.map (·.add (l*z))) (h-l) (cap-l),?_,?_⟩
      ·simp[execOp,ho,hv,Instr.sliceAt,run_underlying hd,Instr.slice,hb,run_sizeOf' hinf,hsz]
      ·refine RepC.frz (.sl _ (h-l) (cap-l) _ z (fun i j=>cv (l+i) j) (by simp; omega) (fun e' he'=>hss e' (List.mem_of_mem_drop (List.mem_of_mem_take he'))) (by omega) (fun hp=>?_) (fun i j e' c hi hj=>?_))
       ·obtain⟨b,q,rfl,hbz,hcc⟩:=hcells (by omega);refine⟨b,q+l*z,?_,hbz,fun i j hi hj=>?_⟩
        ·rw[if_neg (by omega)]; simp[add_none]
        ·have:=hcc (l+i) j (by omega) hj;rw[Nat.add_mul,← Nat.add_assoc] at this;exact this
       ·rw[List.getElem?_take] at hi
        split at hi
        ·rw[List.getElem?_drop] at hi;exact hrep (l+i) j e' c hi hj
        ·cases hi
   ·cases hs
  ·cases hs
 ·-- a row of one's own
  rename_i k off len
  split at hs
  ·rename_i e z ob he hob
   split at hs
   ·rename_i hz;injection hs with hs;subst hs;obtain⟨hd,inf,hinf,hsz,_⟩:=elemOf_some hty he;have hr:RepC w fz ρ (a.eval x) (.ref k off len):=hr;simp only[lenT,Option.some.injEq] at hn;subst hn;generalize hv:a.eval x=u at hr
    cases hr with
    | frz hf=>cases hf
    | nil _ hrho=>
     obtain⟨hb,hlh,hhn⟩:=bounds_run (P:=P) (w:=w) hrel true (Nat.le_refl 0) hh hl;obtain rfl:h=0:=by omega
     obtain rfl:l=0:=by omega
     refine⟨.slice none 0 0,?_,RepC.nil k hrho⟩;simp[execOp,ho,hv,Instr.sliceAt,run_underlying hd,Instr.slice,hb,run_sizeOf' hinf,hsz]
    | ref _ _ _ b base cap sz ad hrho hc ha hsome=>
     have hsz':sz=ob.sz:=(hrel.objAt hob hrho).2.2.1;obtain⟨hb,hlh,hhn⟩:=bounds_run (P:=P) (w:=w) hrel true (show len≤cap-off by omega) hh hl;refine⟨.slice (if cap-off=l then ad else ad.map (·.add (l*z))) (h-l) (cap-off-l),?_,?_⟩
     ·simp[execOp,ho,hv,Instr.sliceAt,run_underlying hd,Instr.slice,hb,run_sizeOf' hinf,hsz]
     ·rw[Nat.sub_sub];refine RepC.ref k (off+l) (h-l) b base cap sz _ hrho (by omega) (fun hlt=>?_) ?_
      ·rw[if_neg (by omega),ha (by omega)];simp only[Option.map_some,add_none];rw[hz,← hsz',Nat.add_mul,← Nat.add_assoc]
      ·obtain⟨o,rfl⟩:=hsome
       split
       ·exact⟨_,rfl⟩
       ·exact⟨_,by rw[Option.map_some,add_none]⟩
   ·cases hs
  ·cases hs
 ·cases hs
theorem args_two [Globals] {c:Call}{tm:List T}{x y:T}(h:c.args.toList.map (opd tm)=[x,y]):∃ p q,c.args=#[p,q]∧opd tm p=x∧opd tm q=y:=by
 cases hc:c.args.toList with
 | nil=>rw[hc] at h; cases h
 | cons p r=>cases r with
  | nil=>rw[hc] at h; simp at h
  | cons q r=>cases r with
   | nil=>
    rw[hc] at h;simp only[List.map_cons,List.map_nil,List.cons.injEq,and_true] at h;exact⟨p,q,by rw[← Array.toArray_toList (xs:=c.args),hc],h.1,h.2⟩
   | cons _ _=>rw[hc] at h; simp at h
theorem val_max [Globals] (hrel:Rel w0 B f0 fz ρ s a.tmps w){c:Call}{k:IntKind}{x y:Int}(ho:o.op=.call c)(hc:c.callee=.builtin .max)(ha:c.args.toList.map (opd s.tm)=[.c (.lit (.int k x)),.c (.lit (.int k y))]):
  Val P fz ρ a w o (.c (.lit (.int k (max x y)))):=by
 obtain⟨p,q,hargs,hp,hq⟩:=args_two ha;refine⟨_,?_,rep_lit trivial⟩;have h1:Builtin.max2 (.int k x) (.int k y)=pure (.int k (max x y)):=by
  simp only[Builtin.max2];congr 2
  split<;>omega
 simp only[execOp,ho,resolve,hc,hargs,Sem.run_bind,Sem.run_pure,Result.andThen_ok,invoke,builtin];simp[Builtin.max_,opd_lit hrel hp,opd_lit hrel hq,h1]
theorem val_min [Globals] (hrel:Rel w0 B f0 fz ρ s a.tmps w){c:Call}{k:IntKind}{x y:Int}(ho:o.op=.call c)(hc:c.callee=.builtin .min)(ha:c.args.toList.map (opd s.tm)=[.c (.lit (.int k x)),.c (.lit (.int k y))]):
  Val P fz ρ a w o (.c (.lit (.int k (min x y)))):=by
 obtain⟨p,q,hargs,hp,hq⟩:=args_two ha;refine⟨_,?_,rep_lit trivial⟩;have h1:Builtin.min2 (.int k x) (.int k y)=pure (.int k (min x y)):=by
  simp only[Builtin.min2];congr 2
  split<;>omega
 simp only[execOp,ho,resolve,hc,hargs,Sem.run_bind,Sem.run_pure,Result.andThen_ok,invoke,builtin];simp[Builtin.min_,opd_lit hrel hp,opd_lit hrel hq,h1]
theorem val_cap [Globals] (hty:∀ t y,ty t=some y→Ty.of P t=some y)(hrel:Rel w0 B f0 fz ρ s a.tmps w){c:Call}{t e:TypeId}(ho:o.op=.call c)(hc:c.callee=.builtin .cap)(ha:c.args.toList.map (opd s.tm)=[.c (.lit (.slice none 0 0))])(ht:c.argTypes.toList=[t])(hk:(ty t).map Ty.k=some (.slice e)):Val P fz ρ a w o (.c (.lit (.int .i64 0))):=by
 obtain⟨p,hargs,hp⟩:∃ p,c.args=#[p]∧opd s.tm p=.c (.lit (.slice none 0 0)):=by
  rcases List.map_eq_cons_iff.1 ha with ⟨p,l,h1,h2,h3⟩
  rw[List.map_eq_nil_iff] at h3;subst h3;exact⟨p,Array.toList_inj.1 (by simpa using h1),h2⟩
 have htys:c.argTypes=#[t]:=by rw[← Array.toArray_toList (xs:=c.argTypes),ht]
 rw[Option.map_eq_some_iff] at hk;obtain⟨y,hty',hky⟩:=hk;obtain⟨_,d,_,hd,hkd,_⟩:=Ty.of_some (hty t y hty');rw[hky] at hkd;have hd':=K.of_slice hkd.symm;subst hd';refine⟨_,?_,rep_lit trivial⟩;simp only[execOp,ho,resolve,hc,hargs,htys,Sem.run_bind,Sem.run_pure,Result.andThen_ok,invoke,builtin];simp[Builtin.cap_,run_underlying hd,opd_lit hrel hp,goInt]
theorem val_convInt [Globals] (hty:∀ t y,ty t=some y→Ty.of P t=some y)(hrel:Rel w0 B f0 fz ρ s a.tmps w){src dst:TypeId}{x:Operand}{k k' k2:IntKind}{n:Int}(ho:o.op=.convert src dst x)
  (h1:(ty src).map Ty.k=some (.int k')) (h2:(ty dst).map Ty.k=some (.int k)) (hx:opd s.tm x=.c (.lit (.int k2 n))):Val P fz ρ a w o (.c (.lit (.int k (k.wrap n)))):=by
 rw[Option.map_eq_some_iff] at h1 h2;obtain⟨y1,hy1,hk1⟩:=h1;obtain⟨y2,hy2,hk2⟩:=h2;obtain⟨_,d1,_,hd1,he1,_⟩:=Ty.of_some (hty src y1 hy1);obtain⟨_,d2,_,hd2,he2,_⟩:=Ty.of_some (hty dst y2 hy2);rw[hk1] at he1;rw[hk2] at he2;have e1:=K.of_int he1.symm;have e2:=K.of_int he2.symm;subst e1;subst e2;refine⟨_,?_,rep_lit trivial⟩;simp[execOp,ho,opd_lit hrel hx,convert,run_underlying hd1,run_underlying hd2,Conv.intToInt]
theorem val_convStr [Globals] (hty:∀ t y,ty t=some y→Ty.of P t=some y)(hrel:Rel w0 B f0 fz ρ s a.tmps w){src dst:TypeId}{x:Operand}{b:ByteArray}(ho:o.op=.convert src dst x)
  (h1:(ty src).map Ty.k=some .str) (h2:(ty dst).map Ty.k=some .str) (hx:opd s.tm x=.c (.lit (.string b))):Val P fz ρ a w o (.c (.lit (.string b))):=by
 rw[Option.map_eq_some_iff] at h1 h2;obtain⟨y1,hy1,hk1⟩:=h1;obtain⟨y2,hy2,hk2⟩:=h2;obtain⟨_,d1,_,hd1,he1,_⟩:=Ty.of_some (hty src y1 hy1);obtain⟨_,d2,_,hd2,he2,_⟩:=Ty.of_some (hty dst y2 hy2);rw[hk1] at he1;rw[hk2] at he2;have e1:=K.of_str he1.symm;have e2:=K.of_str he2.symm;subst e1;subst e2;refine⟨_,?_,rep_lit trivial⟩;simp[execOp,ho,opd_lit hrel hx,convert,run_underlying hd1,run_underlying hd2]
end
end Go.Vabs

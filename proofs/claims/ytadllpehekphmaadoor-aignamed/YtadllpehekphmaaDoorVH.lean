/- A library: each operation of the abstract interpreter is as the model's, VI: all that neither store nor call, together; the state behind it. No condition. -/
import Derived.Test.YtadllpehekphmaaDoorVG
import Derived.Test.YtadllpehekphmaaDoorVK
import Derived.Laws.BytesString
import Derived.Laws.Externs
import Derived.Laws.StructEq
set_option linter.unusedSimpArgs false
set_option linter.unusedVariables false
namespace Go.Vabs
open Go.RowKit
section
variable {P:Program} {ty:Tys} {w0:World} {B:Bs} {f0 fz:Nat→Prop} {ρ:Nat→Option Loc} {s:St} {a:Act} {w:World} {o:Oper}
def EqOK [Globals] (P : Program) : Prop := ∀ t, Globals.eq t = true → P.stoodInHeld t = false ∧ P.eqGuardType P.depth t = false ∧ (P.fieldsOf t).all (fun f => f.name != "_") = true
def IxOK [Globals] (P : Program) : Prop := EqOK P ∧ ∀ f, Globals.ix f = true → ∃ fn, P.funcs[f]? = some fn ∧ (fn.name == "runtime.NumGoroutine") = false ∧ fn.body.isNone = true ∧ Extern.findNext fn = none ∧ Extern.find fn = some Extern.BytealgIndexByte.indexByte
theorem byteOf_some {e:List C}{n:Int}(h:byteOf e=some n):e=[.lit (.int .u8 n)]:=by
 unfold byteOf at h
 split at h
 ·injection h with h; rw[h]
 ·cases h
theorem bytes_some:∀ {es:List (List C)} {ns:List Int},es.mapM byteOf=some ns→es=ns.map fun n=>[.lit (.int .u8 n)]
 | [],ns,h=>by
  simp only[List.mapM_nil,Option.pure_def,Option.some.injEq] at h;subst h;rfl
 | e::es,ns,h=>by
  simp only[List.mapM_cons,Option.pure_def,Option.bind_eq_bind,Option.bind_eq_some_iff] at h;obtain⟨n,hn,ns',hns,he⟩:=h;injection he with he;subst he;rw[byteOf_some hn,bytes_some hns];rfl
theorem bytesT_src {hp:Heap}{X:T}{b:ByteArray}(h:bytesT hp X=some b):∃ ns:List Int,srcOf hp X=some (ns.map fun n=>[.lit (.int .u8 n)])∧(srcSz hp X).getD 1=1∧b=strOf ns∧∀ q,X≠.c (.lit (.string q)):=by
 unfold bytesT at h
 split at h
 ·injection h with h;exact⟨[],rfl,rfl,h.symm,by simp⟩
 ·rename_i sz es
  split at h
  ·rename_i hsz;subst hsz;simp only[bytesE,Option.map_eq_some_iff] at h;obtain⟨ns,hns,rfl⟩:=h;exact⟨ns,by rw[srcOf,bytes_some hns],rfl,rfl,by simp⟩
  ·cases h
 ·rename_i k off len
  split at h
  ·rename_i ob hob
   split at h
   ·rename_i hc;simp only[bytesE,Option.map_eq_some_iff] at h;obtain⟨ns,hns,rfl⟩:=h;refine⟨ns,?_,by simp[srcSz,hob,hc.1],rfl,by simp⟩;simp only[srcOf,hob,if_pos hc.2];rw[bytes_some hns]
   ·cases h
  ·cases h
 ·cases h
theorem flat_ones (ns:List Int):(ns.map fun n=>[C.lit (.int .u8 n)]).flatten=ns.map fun n=>C.lit (.int .u8 n):=by
 induction ns with
 | nil=>rfl
 | cons n ns ih=>simp[ih]
theorem repL_bytes {w:World}{fz:Nat→Prop}{ρ:Nat→Option Loc}{vs:List Value}{ns:List Int}(h:RepL w fz ρ vs (ns.map fun n=>C.lit (.int .u8 n))):vs=ns.map (Value.int .u8):=by
 have hl:vs.length=ns.length:=by simpa using h.1
 refine List.ext_getElem? fun i=>?_
 by_cases hi:i<vs.length
 ·have hn:i<ns.length:=by omega
  have:=h.2 i vs[i] (.lit (.int .u8 ns[i])) (List.getElem?_eq_getElem hi) (by rw[List.getElem?_map,List.getElem?_eq_getElem hn]; rfl);rw[List.getElem?_map,List.getElem?_eq_getElem hn,List.getElem?_eq_getElem hi,Option.map_some];generalize vs[i]=v at this
  cases this with
  | frz h=>cases h; rfl
 ·rw[List.getElem?_eq_none (by omega),List.getElem?_eq_none (by simp; omega)]
theorem val_bytesStr [Globals] (hty:∀ t y,ty t=some y→Ty.of P t=some y)(hrel:Rel w0 B f0 fz ρ s a.tmps w){src dst e:TypeId}{x:Operand}{b:ByteArray}(ho:o.op=.convert src dst x)
  (h1:(ty src).map Ty.k=some (.slice e)) (h2:(ty dst).map Ty.k=some .str) (he:(ty e).map Ty.k=some (.int .u8)) (hx:bytesT s.hp (opd s.tm x)=some b):Val P fz ρ a w o (.c (.lit (.string b))):=by
 rw[Option.map_eq_some_iff] at h1 h2 he;obtain⟨y1,hy1,hk1⟩:=h1;obtain⟨y2,hy2,hk2⟩:=h2;obtain⟨y3,hy3,hk3⟩:=he;obtain⟨_,d1,_,hd1,he1,_⟩:=Ty.of_some (hty src y1 hy1);obtain⟨_,d2,_,hd2,he2,_⟩:=Ty.of_some (hty dst y2 hy2);obtain⟨_,d3,_,hd3,he3,_⟩:=Ty.of_some (hty e y3 hy3);rw[hk1] at he1;rw[hk2] at he2;rw[hk3] at he3;have e1:=K.of_slice he1.symm;have e2:=K.of_str he2.symm;have e3:=K.of_int he3.symm;subst e1;subst e2;subst e3;obtain⟨ns,hs,hz,rfl,hns⟩:=bytesT_src hx;have hrep:=opd_rep hrel x;have hsrc:=src_rep (P:=P) hrel hrep hs hz;obtain⟨vs,hvs,hrun⟩:=hsrc.cells;rw[flat_ones] at hvs;have hvs:=repL_bytes hvs
 subst hvs;have hr:=hrun w (fun _=>rfl);have hlen:=hsrc.len w;rw[List.length_map] at hr hlen;have hshape:∃ ad l c,a.eval x=.slice ad l c:=by
  generalize a.eval x=v at hrep;generalize opd s.tm x=X at hrep hs hns;unfold srcOf at hs
  split at hs
  ·have hrep:RepC w fz ρ v (.lit (.slice none 0 0)):=hrep
   cases hrep with
   | frz h=>cases h; exact⟨_,_,_,rfl⟩
  ·rename_i q;exact absurd rfl (hns q)
  ·rename_i sz es;have hrep:RepC w fz ρ v (.sl sz es):=hrep
   cases hrep with
   | frz h=>cases h; exact⟨_,_,_,rfl⟩
  ·rename_i k off len;have hrep:RepC w fz ρ v (.ref k off len):=hrep
   cases hrep with
   | frz h=>cases h
   | nil=>exact⟨_,_,_,rfl⟩
   | ref=>exact⟨_,_,_,rfl⟩
  ·cases hs
 obtain⟨ad,l,c,hv⟩:=hshape;rw[hv] at hr hlen;have hl:l=ns.length:=by
  simp only[Builtin.lenOf,Sem.run_pure,Result.ok.injEq,and_true] at hlen;exact hlen
 subst hl;refine⟨_,?_,rep_lit trivial⟩;simp only[execOp,ho,hv,Sem.run_bind,run_convert_bytes_string w src dst e ad ns.length c hd1 hd3 hd2]
 cases ad with
 | none=>
  have:ns=[]:=by
   simp only[Builtin.firstCells,Sem.run_pure,Result.ok.injEq,and_true] at hr
   cases ns with
   | nil=>rfl
   | cons n ns=>simp at hr
  subst this;rfl
 | some ad=>
  have hr:(loadCells ad (ns.length*1)).run P w=.ok (ns.map (Value.int .u8)).toArray w:=hr;rw[Nat.mul_one] at hr;rw[run_bytesToString w ad ns.length c ns hr];rfl
theorem run_strBytes {P:Program}{e:TypeId}(q:ByteArray)(w:World):∃ cap W,(Conv.stringToBytes e q).run P w=.ok (.slice (some ⟨w.heap.size,0,none⟩) q.size cap) W∧q.size≤cap ∧
  W.heap=w.heap.push (.cells ((q.data.map fun b=>Value.int .u8 b.toNat)++Array.replicate (cap-q.size) (.int .u8 0)) e (cap,cap+1))∧W.os=w.os∧W.tape=w.tape∧W.output=w.output:=by
 have hge:=grownCap_ge w q.size 0 e;generalize hcap:grownCap w q.size 0 e=cap at hge;have hchoose:(choose (.appendCap q.size 0 e)).run P w=.ok cap w.drew:=by
  rw[run_choose,← hcap];simp only[Question.forced,Bool.false_eq_true,if_false];rfl
 have hsz:((q.data.map fun b=>Value.int .u8 b.toNat)++Array.replicate (cap-q.size) (Value.int .u8 0)).size=cap:=by
  rw[Array.size_append,Array.size_map,Array.size_replicate];have:q.data.size=q.size:=rfl;omega
 generalize hC:((q.data.map fun b=>Value.int .u8 b.toNat)++Array.replicate (cap-q.size) (Value.int .u8 0))=cells at hsz ⊢;refine⟨cap,(w.drew.alloc (.cells cells e)).freeze ⟨w.heap.size,cap,none⟩ 1,?_,hge,?_,rfl,rfl,rfl⟩
 ·have hsh:(w.drew.alloc (.cells cells e)).shape? w.heap.size=some (e,cap):=by
   have:(w.drew.alloc (.cells cells e)).heap[w.heap.size]?=some (.cells cells e):=by
    show (w.heap.push _)[w.heap.size]?=_;rw[Array.getElem?_push,if_pos rfl]
   simp only[World.shape?,this,hsz]
  simp only[Conv.stringToBytes,Sem.run_bind,hchoose,Result.andThen_ok,newRow,run_newObj,Sem.run_pure,hC];simp only[markStringish,Sem.run_bind,run_shape,Result.andThen_ok];rw[show w.drew.heap.size=w.heap.size from rfl];have hsh':World.shape? { heap:=w.drew.heap.push (Obj.cells cells e),tape:=w.drew.tape,drawn:=w.drew.drawn,os:=w.drew.os,output:=w.drew.output } w.heap.size=some (e,cap):=hsh;rw[hsh'];rfl
 ·simp only[World.freeze,if_neg (show ¬ (1=0) by decide)];show (w.heap.push (.cells cells e)).modify w.heap.size _=_;apply Array.ext
  ·simp
  ·intro i h1 h2;rw[Array.getElem_modify]
   by_cases hi:w.heap.size=i
   ·subst hi;simp[hC]
   ·rw[if_neg hi];have:i<w.heap.size:=by simp at h2; omega
    rw[Array.getElem_push_lt this,Array.getElem_push_lt this]
theorem new_strBytes [Globals] (hty:∀ t y,ty t=some y→Ty.of P t=some y)(hrel:Rel w0 B f0 fz ρ s a.tmps w){src dst e:TypeId}{x:Operand}{q:ByteArray}{d:Nat}(ho:o.op=.convert src dst x)
  (h1:(ty src).map Ty.k=some .str) (h2:(ty dst).map Ty.k=some (.slice e)) (he:(ty e).map Ty.k=some (.int .u8)) (hx:opd s.tm x=.c (.lit (.string q))):New P fz ρ a w o d (.c (.ref d 0 q.size)) ⟨false,true,e,1,byteEs q⟩:=by
 rw[Option.map_eq_some_iff] at h1 h2 he;obtain⟨y1,hy1,hk1⟩:=h1;obtain⟨y2,hy2,hk2⟩:=h2;obtain⟨y3,hy3,hk3⟩:=he;obtain⟨_,d1,_,hd1,he1,_⟩:=Ty.of_some (hty src y1 hy1);obtain⟨_,d2,_,hd2,he2,_⟩:=Ty.of_some (hty dst y2 hy2);obtain⟨_,d3,_,hd3,he3,_⟩:=Ty.of_some (hty e y3 hy3);rw[hk1] at he1;rw[hk2] at he2;rw[hk3] at he3;have e1:=K.of_str he1.symm;have e2:=K.of_slice he2.symm;have e3:=K.of_int he3.symm;subst e1;subst e2;subst e3;obtain⟨cap,W,hrun,hcap,hheap,h4,h5,h6⟩:=run_strBytes (P:=P) (e:=e) q w;have hex:(execOp a.eval o).run P w=.ok (.value (.slice (some ⟨w.heap.size,0,none⟩) q.size cap)) W:=by
  simp only[execOp,ho,opd_lit hrel hx,convert,Sem.run_bind,run_underlying hd1,run_underlying hd2,run_underlying hd3,Result.andThen_ok,hrun,Sem.run_pure]
 have hq:q.data.size=q.size:=rfl;have hold:∀ b,fz b→W.heap[b]?=w.heap[b]?:=fun b hb=>by
  have:=hrel.fzl b hb;rw[hheap,Array.getElem?_push,if_neg (by omega)]
 refine⟨_,W,.at w.heap.size 0 cap 1,hex,.inr ⟨_,cap,1,hheap,h4,h5,h6,rfl⟩,fun ρ' hd' hr=>⟨?_,?_⟩⟩
 ·have:=RepC.ref (w:=W) (fz:=fz) d 0 q.size w.heap.size 0 cap 1 (some ⟨w.heap.size,0,none⟩) hd' (by omega) (fun _=>by simp) ⟨_,rfl⟩;rw[Nat.sub_zero] at this;exact this
 ·refine⟨fun x hx=>?_,fun _ x hx c hc=>?_,rfl,by simp[byteEs]; omega,_,(cap,cap+1),(by rw[hheap,Array.getElem?_push,if_pos rfl]),?_,⟨Or.inr ?_,fun h=>by cases h⟩,fun i j x c hx hc=>?_⟩
  ·obtain⟨b,_,rfl⟩:=List.mem_map.1 hx;rfl
  ·obtain⟨b,_,rfl⟩:=List.mem_map.1 hx;rw[List.mem_singleton.1 hc];rfl
  ·rw[Array.size_append,Array.size_map,Array.size_replicate];omega
  ·rw[Array.size_append,Array.size_map,Array.size_replicate];simp only;omega
  ·simp only[byteEs,List.getElem?_map,Option.map_eq_some_iff] at hx;obtain⟨b,hb,rfl⟩:=hx
   cases j with
   | succ j=>simp at hc
   | zero=>
    simp only[List.getElem?_cons_zero,Option.some.injEq] at hc;subst hc;have hi:i<q.data.size:=by
     have:=(List.getElem?_eq_some_iff.1 hb).1;simpa using this
    refine⟨_,?_,.frz (.lit (.int .u8 b.toNat) trivial)⟩;rw[Nat.mul_one,Nat.zero_add,Nat.add_zero,Array.getElem?_append,if_pos (by simpa using hi),Array.getElem?_map];rw[Array.getElem?_toList] at hb;rw[hb];rfl
theorem capC_rep {w:World}{fz:Nat→Prop}{ρ:Nat→Option Loc}{v:Value}{t:T}{c:C}(h:RepT w fz ρ v t)(hc:capC t=some c):RepF w fz v c:=by
 unfold capC at hc
 split at hc
 ·rename_i x
  split at hc
  ·rename_i hf;injection hc with hc;subst hc;exact RepC.of_free h hf
  ·cases hc
 ·cases hc
theorem caps_rep [Globals] (hrel:Rel w0 B f0 fz ρ s a.tmps w):∀ {xs:List Operand} {cs:List C},xs.mapM (fun x=>capC (opd s.tm x))=some cs→xs.length=cs.length∧∀ (j:Nat) (x:Operand) (c:C),xs[j]?=some x→cs[j]?=some c→RepF w fz (a.eval x) c
 | [],cs,h=>by
  simp only[List.mapM_nil,Option.pure_def,Option.some.injEq] at h;subst h;exact⟨rfl,by simp⟩
 | x::xs,cs,h=>by
  simp only[List.mapM_cons,Option.pure_def,Option.bind_eq_bind,Option.bind_eq_some_iff] at h;obtain⟨c,hc,cs',hcs,he⟩:=h;injection he with he;subst he;obtain⟨h1,h2⟩:=caps_rep hrel hcs;refine⟨by simp[h1],fun j y d hy hd=>?_⟩
  cases j with
  | zero=>
   simp only[List.getElem?_cons_zero,Option.some.injEq] at hy hd;subst hy;subst hd;exact capC_rep (opd_rep hrel x) hc
  | succ j=>
   simp only[List.getElem?_cons_succ] at hy hd;exact h2 j y d hy hd
theorem val_makeFunc [Globals] (hrel:Rel w0 B f0 fz ρ s a.tmps w){f:FuncId}{first caps:Array Operand}{cs:List C}(ho:o.op=.makeFunc (.func f) first caps)(hf:first.isEmpty=true)
  (hc:caps.toList.mapM (fun x=>capC (opd s.tm x))=some cs):Val P fz ρ a w o (fnT f cs):=by
 obtain⟨h1,h2⟩:=caps_rep hrel hc;have hfe:first=#[]:=by simpa using hf
 refine⟨.func (.func f) #[] (caps.map a.eval),?_,?_⟩
 ·simp[execOp,ho,hfe,Instr.makeFunc]
 ·unfold fnT
  cases cs with
  | nil=>
   have:caps=#[]:=by
    have:caps.toList=[]:=List.eq_nil_of_length_eq_zero (by simpa using h1);simpa using this
   subst this;rw[Array.map_empty];exact rep_lit (v:=.func (.func f) #[] #[]) trivial
  | cons c cs=>
   refine .frz (.fn f _ _ (by simpa using h1) (fun j v d hv hd=>?_));rw[Array.getElem?_map,Option.map_eq_some_iff] at hv;obtain⟨x,hx,rfl⟩:=hv;exact h2 j x d (by simpa using hx) hd
theorem val_makeIface [Globals] (hty:∀ t y,ty t=some y→Ty.of P t=some y)(hrel:Rel w0 B f0 fz ρ s a.tmps w){u:TypeId}{x:Operand}{cs:List C}(ho:o.op=.makeInterface u x)(hk:(ty u).map Ty.k=some .struct)(hx:opd s.tm x=.agg cs)(hl:cs.all C.isLit=true):
  Val P fz ρ a w o (.c (.lit (.iface u (.agg (cs.map C.val).toArray)))):=by
 have hrep:=opd_rep hrel x;rw[hx] at hrep;obtain⟨vs,hv,hlen,hr⟩:=hrep;have hvs:vs=(cs.map C.val).toArray:=by
  apply Array.ext';rw[List.toList_toArray];apply List.ext_getElem?;intro i;rw[List.getElem?_map]
  by_cases hi:i<cs.length
  ·have hc:cs[i]?=some cs[i]:=List.getElem?_eq_getElem hi;have hu:vs.toList[i]?=some (vs.toList[i]'(by omega)):=List.getElem?_eq_getElem (by omega);have:=hr i _ _ hu hc;rw[hu,hc,Option.map_some];have hlit:=List.all_eq_true.1 hl _ (List.getElem_mem hi);generalize cs[i]=c at this hlit;generalize vs.toList[i]'(by omega)=u at this
   cases c with
   | lit v=>cases this with | frz h=>cases h; rfl
   | _=>cases hlit
  ·rw[List.getElem?_eq_none (by omega),List.getElem?_eq_none (by omega)];rfl
 refine⟨.iface u (.agg vs),?_,by rw[hvs]; exact rep_lit trivial⟩;rw[Option.map_eq_some_iff] at hk;obtain⟨y,hy,hk⟩:=hk;obtain⟨_,d1,_,hd1,he1,_⟩:=Ty.of_some (hty u y hy);rw[hk] at he1;simp only[execOp,ho,hv,Instr.makeInterface,Sem.run_bind,run_underlying hd1,Result.andThen_ok]
 cases d1<;>first | rfl | cases he1
theorem fnOf_rep {w:World}{fz:Nat→Prop}{ρ:Nat→Option Loc}{v:Value}{t:T}{f:FuncId}{cs:List C}(h:RepT w fz ρ v t)(hf:fnOf t=some (f,cs)):
  ∃ vs:Array Value,v=.func (.func f) #[] vs∧vs.size=cs.length∧∀ (j:Nat) (u:Value) (c:C),vs[j]?=some u→cs[j]?=some c→RepF w fz u c:=by
 unfold fnOf at hf
 split at hf
 ·rename_i g p q
  split at hf
  ·rename_i hpq;simp only[Option.some.injEq,Prod.mk.injEq] at hf;obtain⟨rfl,rfl⟩:=hf;simp only[Bool.and_eq_true,Array.isEmpty_iff] at hpq;obtain⟨rfl,rfl⟩:=hpq;have h:RepC w fz ρ v (.lit (.func (.func g) #[] #[])):=h
   cases h with
   | frz h=>cases h; exact⟨#[],rfl,rfl,by simp⟩
  ·cases hf
 ·rename_i g ds;simp only[Option.some.injEq,Prod.mk.injEq] at hf;obtain⟨rfl,rfl⟩:=hf;have h:RepC w fz ρ v (.fn g ds):=h
  cases h with
  | frz h=>
   cases h with
   | fn _ vs _ hn hrep=>exact⟨vs,rfl,hn,hrep⟩
 ·cases hf
theorem val_find [Globals] (hix:IxOK P)(hrel:Rel w0 B f0 fz ρ s a.tmps w){c:Call}{x:Operand}{f:FuncId}{q:ByteArray}{n:Int}(ho:o.op=.call c)(hc:c.callee=.value x)(hf:fnOf (opd s.tm x)=some (f,[]))(hi:Globals.ix f=true)
  (ha:c.args.toList.map (opd s.tm)=[.c (.lit (.string q)),.c (.lit (.int .u8 n))]):Val P fz ρ a w o (.c (.lit (.int .i64 (findB q n)))):=by
 obtain⟨vs,hv,hs,_⟩:=fnOf_rep (opd_rep hrel x) hf;have:vs=#[]:=by simpa using hs
 subst this;obtain⟨fn,h1,h2,h3,h4,h5⟩:=hix.2 f hi;refine⟨_,?_,rep_lit trivial⟩;have hargs:c.args.map a.eval=#[.string q,.int .u8 n]:=by
  have hl:c.args.toList.length=2:=by rw[← List.length_map (f:=opd s.tm),ha]; rfl
  obtain⟨p,r,hpr⟩:∃ p r,c.args.toList=[p,r]:=by
   match hm:c.args.toList with
   | [p,r]=>exact⟨p,r,rfl⟩
   | []=>rw[hm] at hl; cases hl
   | [_]=>rw[hm] at hl; cases hl
   | _::_::_::_=>rw[hm] at hl; cases hl
  rw[hpr] at ha;simp only[List.map_cons,List.map_nil,List.cons.injEq,and_true] at ha;apply Array.ext';rw[Array.toList_map,hpr,List.map_cons,List.map_cons,List.map_nil,opd_lit hrel ha.1,opd_lit hrel ha.2]
 simp only[execOp,ho,resolve,hc,hv,Deferred.ofValue,Sem.run_bind,Sem.run_pure,Result.andThen_ok,hargs,invoke,Array.empty_append,Array.append_empty];rw[run_callFunc_extern h1 h2 h3 h4 h5,run_indexByte_string];rfl
theorem eqV_run {w:World}{t:TypeId}{d:TypeDesc}{a b:Value}{r:Bool}(n:Nat)(hd:P.underlying t=some d)(h:eqV (K.of d) a b=some r):(Op.equalIn (n+1) t a b).run P w=.ok r w∧(match K.of d with | .struct=>true | .array _ _=>true | _=>false)=false:=by
 unfold eqV at h
 split at h
 ·rename_i k k1 m k2 n' hk
  split at h
  ·rename_i e;subst e;injection h with h;subst h;have:=K.of_int hk;subst this;exact⟨run_equalIn_int _ _ _ _ _ _ _ hd,rfl⟩
  ·cases h
 ·rename_i a b hk;injection h with h;subst h;have:=K.of_str hk;subst this;exact⟨run_equalIn_string _ _ _ _ _ hd,rfl⟩
 ·rename_i a b hk;injection h with h;subst h;have:=K.of_bool hk;subst this;exact⟨run_equalIn_bool' _ _ _ _ _ hd,rfl⟩
 ·cases h
theorem eqF_run {w : World} {fz : Nat → Prop} {ρ : Nat → Option Loc} (hty : ∀ t y, ty t = some y → Ty.of P t = some y) {cs ds : List C} {xs ys : Array Value} (hx : RepL w fz ρ xs.toList cs) (hy : RepL w fz ρ ys.toList ds) : ∀ (fs : List Field), (∀ f ∈ fs, f.name ≠ "_") → ∀ r, eqF ty cs ds (fs.map fun f => (f.offset, f.type)) = some r → (Op.eqFields 9999 xs ys fs).run P w = .ok r w
 | [],_,r,h=>by
  simp only[List.map_nil,eqF,Option.some.injEq] at h;subst h;simp[Op.eqFields]
 | f::fs,hn,r,h=>by
  simp only[List.map_cons,eqF] at h
  split at h
  ·rename_i k a b hk ha hb;rw[Option.bind_eq_some_iff] at h;obtain⟨q,hq,h⟩:=h;rw[Option.map_eq_some_iff] at h;obtain⟨q',hq',rfl⟩:=h;rw[Option.map_eq_some_iff] at hk;obtain⟨y,hy',hk⟩:=hk;obtain⟨_,d,_,hd,hkd,_⟩:=Ty.of_some (hty _ y hy');rw[hk] at hkd;subst hkd;obtain⟨h1,h2⟩:=eqV_run (w:=w) 9998 hd hq;have cell:∀ {zs:Array Value} {es:List C} {v:Value},RepL w fz ρ zs.toList es→es[f.offset]?=some (.lit v)→(part f.type zs f.offset).run P w=.ok v w:=fun {zs es v} hr he=>by
    have hl:=(List.getElem?_eq_some_iff.1 he).1;have hz:zs.toList[f.offset]?=some (zs.toList[f.offset]'(by rw[hr.1]; exact hl)):=List.getElem?_eq_getElem _;have hrep:=hr.2 _ _ _ hz he;generalize zs.toList[f.offset]'(by rw[hr.1]; exact hl)=u at hz hrep;have:u=v:=by cases hrep with | frz hf=>cases hf; rfl
    subst this;rw[Array.getElem?_toList] at hz;have h3:(isAgg f.type).run P w=.ok false w:=(run_isAgg hd w).trans (congrArg (fun b=>Result.ok b w) h2);simp only[part,Sem.run_bind,h3,Result.andThen_ok,Bool.false_eq_true,if_false,hz,Sem.run_pure]
   have hrest:=eqF_run hty hx hy fs (fun g hg=>hn g (List.mem_cons_of_mem _ hg)) q' hq';simp only[Op.eqFields,hn f List.mem_cons_self,ne_eq,not_false_eq_true,if_true,Sem.run_bind,cell hx ha,cell hy hb,h1,Result.andThen_ok]
   cases q with
   | false=>simp
   | true=>simpa using hrest
  ·cases h
theorem val_eqAgg [Globals] (hix:EqOK P)(hty:∀ t y,ty t=some y→Ty.of P t=some y)(hrel:Rel w0 B f0 fz ρ s a.tmps w){op:BinOp}{t t':TypeId}{x y:Operand}{cs ds:List C}{r:Value}(ho:o.op=.binOp op t x y t')
  (hx:opd s.tm x=.agg cs) (hy:opd s.tm y=.agg ds) (h:eqAgg ty op t cs ds=some r):Val P fz ρ a w o (.c (.lit r)):=by
 have h1:=opd_rep hrel x;have h2:=opd_rep hrel y;rw[hx] at h1;rw[hy] at h2;obtain⟨xs,ex,hxs⟩:=h1;obtain⟨ys,ey,hys⟩:=h2;unfold eqAgg at h
 split at h
 ·rename_i he;obtain⟨e1,e2,e3⟩:=hix t he
  split at h
  ·rename_i yt hyt;obtain⟨_,d,_,hd,hkd,_,_,_,hf⟩:=Ty.of_some (hty t yt hyt);have main:∀ b,yt.k=.struct→eqF ty cs ds yt.fields=some b→(Op.equalIn 10000 t (.agg xs) (.agg ys)).run P w=.ok b w:=fun b hk hb=>by
    rw[hk] at hkd;obtain⟨fs,rfl⟩:=K.of_struct hkd.symm;have hfo:P.fieldsOf t=fs:=by simp[Program.fieldsOf,hd]
    rw[run_equalIn_struct w 9999 t xs ys (by rw[hfo]; exact hd) e1,hfo];rw[hf] at hb;rw[hfo] at e3;exact eqF_run hty hxs hys fs.toList (fun f hf=>by
     have:=Array.all_eq_true_iff_forall_mem.1 e3 f (Array.mem_toList_iff.1 hf);simpa using this) b hb
   split at h
   ·rename_i hk;rw[Option.map_eq_some_iff] at h;obtain⟨b,hb,rfl⟩:=h;refine⟨.bool b,?_,rep_lit trivial⟩;simp only[execOp,ho,ex,ey,Sem.run_bind,run_eqGuard_agg w _ _ _ _ _ _ e2,Result.andThen_ok,run_eql_struct,main b hk hb];rfl
   ·rename_i hk;rw[Option.map_eq_some_iff] at h;obtain⟨b,hb,rfl⟩:=h;refine⟨.bool (!b),?_,rep_lit trivial⟩;simp only[execOp,ho,ex,ey,Sem.run_bind,run_eqGuard_agg w _ _ _ _ _ _ e2,Result.andThen_ok,run_neq_struct,main b hk hb];rfl
   ·cases h
  ·cases h
 ·cases h
theorem evP_sound [Globals] (hix:IxOK P)(hty:∀ t y,ty t=some y→Ty.of P t=some y)(hrel:Rel w0 B f0 fz ρ s a.tmps w){t:T}{oo:Option Ob}(h:evP ty o s.tm s.hp=some (t,oo)):
  (oo=none∧Val P fz ρ a w o t)∨∃ ob d,oo=some ob∧o.dst=some d∧New P fz ρ a w o d t ob:=by
 have hmove:∀ x,o.op=.move x∨o.op=.assign x→(if nilConst x then match Vabs.elemOf ty o.type with
   | some (e,sz)=>match o.dst with
    | some d=>some (T.c (.ref d 0 0),some (⟨false,true,e,sz,[]⟩:Ob))
    | none=>none
   | none=>some (.c (.lit (.slice none 0 0)),none)
  else some (opd s.tm x,none))=some (t,oo)→(oo=none∧Val P fz ρ a w o t)∨∃ ob d,oo=some ob∧o.dst=some d∧New P fz ρ a w o d t ob:=by
  intro x ho h
  split at h
  ·rename_i hx
   split at h
   ·rename_i e sz he
    split at h
    ·rename_i d hd;simp only[Option.some.injEq,Prod.mk.injEq] at h;obtain⟨rfl,rfl⟩:=h;exact .inr ⟨_,d,rfl,hd,new_nil hty ho hx he⟩
    ·cases h
   ·simp only[Option.some.injEq,Prod.mk.injEq] at h;obtain⟨rfl,rfl⟩:=h;exact .inl ⟨rfl,val_nilConst ho hx⟩
  ·simp only[Option.some.injEq,Prod.mk.injEq] at h;obtain⟨rfl,rfl⟩:=h;exact .inl ⟨rfl,val_move hrel ho⟩
 have hmap:∀ {x:Option T},(x.map fun v=>(v,(none:Option Ob)))=some (t,oo)→x=some t∧oo=none:=by
  intro x h;rw[Option.map_eq_some_iff] at h;obtain⟨v,hv,he⟩:=h;simp only[Prod.mk.injEq] at he;exact⟨by rw[hv,he.1],he.2.symm⟩
 unfold evP at h
 split at h
 ·rename_i x ho; exact hmove x (.inl ho) h
 ·rename_i x ho; exact hmove x (.inr ho) h
 ·-- alloc
  rename_i e ho
  split at h
  ·rename_i y d hy hd
   split at h
   ·rename_i z hz
    split at h
    ·rename_i cs hl;simp only[Option.some.injEq,Prod.mk.injEq] at h;obtain⟨rfl,rfl⟩:=h;exact .inr ⟨_,d,rfl,hd,new_alloc hty hrel ho hy hz hl⟩
    ·cases h
   ·cases h
  ·cases h
 ·-- box
  rename_i e x ho
  split at h
  ·rename_i cs d hc hd;simp only[Option.some.injEq,Prod.mk.injEq] at h;obtain⟨rfl,rfl⟩:=h;exact .inr ⟨_,d,rfl,hd,new_boxOp hrel ho hc⟩
  ·cases h
 ·-- build
  rename_i u parts ho
  split at h
  ·rename_i y hy
   split at h
   ·rename_i z hk hz
    split at h
    ·rename_i zs hl
     split at h
     ·rename_i hall;rw[Option.map_eq_some_iff] at h;obtain⟨cs,hf,he⟩:=h;simp only[Prod.mk.injEq] at he;obtain⟨rfl,rfl⟩:=he;exact .inl ⟨rfl,val_build hty hrel ho hy hk hz hl hall hf⟩
     ·cases h
    ·cases h
   ·rename_i n e z hk hz
    split at h
    ·rename_i zs ey hl he;rw[Option.map_eq_some_iff] at h;obtain⟨cs,hf,hh⟩:=h;simp only[Prod.mk.injEq] at hh;obtain⟨rfl,rfl⟩:=hh;exact .inl ⟨rfl,val_buildArr hty hrel ho hy hk hz hl he hf⟩
    ·cases h
   ·cases h
  ·cases h
 ·-- buildSlice
  rename_i u len parts ho
  split at h
  ·rename_i e sz d he hd
   split at h
   ·rename_i y hy
    split at h
    ·rename_i z hz
     split at h
     ·rename_i zs hl
      split at h
      ·rename_i hlen
       split at h
       ·rename_i cs hf;simp only[Option.some.injEq,Prod.mk.injEq] at h;obtain⟨rfl,rfl⟩:=h;exact .inr ⟨_,d,rfl,hd,new_buildSlice hty hrel ho he hy hz hl hlen hf⟩
       ·cases h
      ·cases h
     ·cases h
    ·cases h
   ·cases h
  ·cases h
 ·-- makeSlice
  rename_i u l c ho
  split at h
  ·rename_i e sz d kl nl kc nc he hd hl hc
   split at h
   ·rename_i y hy
    split at h
    ·rename_i z hz
     split at h
     ·rename_i zs hlz
      split at h
      ·rename_i hcond;simp only[Option.some.injEq,Prod.mk.injEq] at h;obtain⟨rfl,rfl⟩:=h;exact .inr ⟨_,d,rfl,hd,new_makeSlice hty hrel ho he hl hc hy hz hlz hcond⟩
      ·cases h
     ·cases h
    ·cases h
   ·cases h
  ·cases h
 ·-- pick
  rename_i c x y ho
  split at h
  ·rename_i b hc;have hv:=val_pick (P:=P) (w:=w) hrel ho hc
   split at h
   ·rename_i hb;simp only[Option.some.injEq,Prod.mk.injEq] at h;obtain⟨rfl,rfl⟩:=h;rw[if_pos hb] at hv;exact .inl ⟨rfl,hv⟩
   ·rename_i hb;simp only[Option.some.injEq,Prod.mk.injEq] at h;obtain⟨rfl,rfl⟩:=h;rw[if_neg hb] at hv;exact .inl ⟨rfl,hv⟩
  ·cases h
 ·-- load
  rename_i u x ho
  split at h
  ·rename_i cs off hd;obtain⟨hl,rfl⟩:=hmap h;exact .inl ⟨rfl,val_load hty hrel ho hd hl⟩
  ·cases h
 ·-- nilCheck
  rename_i x ho
  split at h
  ·rename_i k i off hx;simp only[Option.some.injEq,Prod.mk.injEq] at h;obtain⟨rfl,rfl⟩:=h;exact .inl ⟨rfl,val_nil hrel ho hx (.inl ⟨_,_,_,rfl⟩)⟩
  ·rename_i cs off hx;simp only[Option.some.injEq,Prod.mk.injEq] at h;obtain⟨rfl,rfl⟩:=h;exact .inl ⟨rfl,val_nil hrel ho hx (.inr ⟨_,_,rfl⟩)⟩
  ·cases h
 ·-- binOp
  rename_i op u x y u' ho
  split at h
  ·rename_i p q hx hy;rw[Option.map_eq_some_iff] at h;obtain⟨v,hb,he⟩:=h;simp only[Prod.mk.injEq] at he;obtain⟨rfl,rfl⟩:=he;exact .inl ⟨rfl,val_bin hty hrel ho hx hy hb⟩
  ·rename_i cs ds hx hy;rw[Option.map_eq_some_iff] at h;obtain⟨v,hb,he⟩:=h;simp only[Prod.mk.injEq] at he;obtain⟨rfl,rfl⟩:=he;exact .inl ⟨rfl,val_eqAgg hix.1 hty hrel ho hx hy hb⟩
  ·cases h
 ·-- unOp
  rename_i op u x ho
  split at h
  ·rename_i p hx;rw[Option.map_eq_some_iff] at h;obtain⟨v,hb,he⟩:=h;simp only[Prod.mk.injEq] at he;obtain⟨rfl,rfl⟩:=he;exact .inl ⟨rfl,val_un hrel ho hx hb⟩
  ·cases h
 ·-- convert
  rename_i src dst x ho
  split at h
  ·rename_i k' k k2 n h1 h2 hx;simp only[Option.some.injEq,Prod.mk.injEq] at h;obtain⟨rfl,rfl⟩:=h;exact .inl ⟨rfl,val_convInt hty hrel ho h1 h2 hx⟩
  ·rename_i b h1 h2 hx;simp only[Option.some.injEq,Prod.mk.injEq] at h;obtain⟨rfl,rfl⟩:=h;exact .inl ⟨rfl,val_convStr hty hrel ho h1 h2 hx⟩
  ·rename_i e h1 h2
   split at h
   ·rename_i b he hb;simp only[Option.some.injEq,Prod.mk.injEq] at h;obtain⟨rfl,rfl⟩:=h;exact .inl ⟨rfl,val_bytesStr hty hrel ho h1 h2 he hb⟩
   ·cases h
  ·rename_i e q h1 h2 hx
   split at h
   ·rename_i d he hd;simp only[Option.some.injEq,Prod.mk.injEq] at h;obtain⟨rfl,rfl⟩:=h;exact .inr ⟨_,d,rfl,hd,new_strBytes hty hrel ho h1 h2 he hx⟩
   ·cases h
  ·cases h
 ·-- makeInterface
  rename_i u x ho
  split at h
  ·rename_i cs hk hx
   split at h
   ·rename_i hl;simp only[Option.some.injEq,Prod.mk.injEq] at h;obtain⟨rfl,rfl⟩:=h;exact .inl ⟨rfl,val_makeIface hty hrel ho hk hx hl⟩
   ·cases h
  ·cases h
 ·-- makeFunc
  rename_i f first caps ho
  split at h
  ·rename_i hf;rw[Option.map_eq_some_iff] at h;obtain⟨cs,hc,he⟩:=h;simp only[Prod.mk.injEq] at he;obtain⟨rfl,rfl⟩:=he;exact .inl ⟨rfl,val_makeFunc hrel ho hf hc⟩
  ·cases h
 ·-- fieldAddr
  rename_i u x f ho
  split at h
  ·rename_i y hy
   split at h
   ·rename_i fo ft hk hf
    split at h
    ·rename_i n k i off hs hx;simp only[Option.some.injEq,Prod.mk.injEq] at h;obtain⟨rfl,rfl⟩:=h;exact .inl ⟨rfl,val_fieldAddr hty hrel ho hy hk hf hs hx (.inl ⟨_,_,_,rfl,rfl⟩)⟩
    ·rename_i n cs off hs hx;simp only[Option.some.injEq,Prod.mk.injEq] at h;obtain⟨rfl,rfl⟩:=h;exact .inl ⟨rfl,val_fieldAddr hty hrel ho hy hk hf hs hx (.inr ⟨_,_,rfl,rfl⟩)⟩
    ·cases h
   ·cases h
  ·cases h
 ·-- field
  rename_i u x f ho
  split at h
  ·rename_i y hy
   split at h
   ·rename_i fo ft cs hk hf hx;obtain⟨hl,rfl⟩:=hmap h;exact .inl ⟨rfl,val_field hty hrel ho hy hk hf hx hl⟩
   ·cases h
  ·cases h
 ·-- indexAddr
  rename_i u x ix ho
  split at h
  ·rename_i k i hi
   split at h
   ·rename_i sz es e z hx he
    split at h
    ·rename_i hc;obtain⟨rfl,h0⟩:=hc
     split at h
     ·rename_i l hl;simp only[Option.some.injEq,Prod.mk.injEq] at h;obtain⟨rfl,rfl⟩:=h;exact .inl ⟨rfl,val_indexAddr hty hrel ho hi hx he h0 (.inl ⟨es,l,rfl,hl,rfl⟩)⟩
     ·cases h
    ·cases h
   ·rename_i k' off len e z hx he
    split at h
    ·rename_i ob hob
     split at h
     ·rename_i hc;simp only[Option.some.injEq,Prod.mk.injEq] at h;obtain⟨rfl,rfl⟩:=h;exact .inl ⟨rfl,val_indexAddr hty hrel ho hi hx he hc.2.1 (.inr ⟨k',off,len,ob,rfl,hob,hc.1,hc.2.2,rfl⟩)⟩
     ·cases h
    ·cases h
   ·obtain⟨hl,rfl⟩:=hmap h;exact .inl ⟨rfl,val_arrAddr hty hrel ho hi hl⟩
  ·cases h
 ·-- index
  rename_i u x ix ho
  split at h
  ·rename_i k i b hi hx
   split at h
   ·rename_i hk
    split at h
    ·rename_i h0
     split at h
     ·rename_i c hc;simp only[Option.some.injEq,Prod.mk.injEq] at h;obtain⟨rfl,rfl⟩:=h;exact .inl ⟨rfl,val_index hty hrel ho hi hx hk h0 hc⟩
     ·cases h
    ·cases h
   ·cases h
  ·rename_i k i cs hi hx
   split at h
   ·rename_i y hy
    split at h
    ·rename_i n e hk
     split at h
     ·rename_i ey he
      split at h
      ·rename_i h0;obtain⟨hl,rfl⟩:=hmap h;exact .inl ⟨rfl,val_indexArr hty hrel ho hi hx hy hk he h0 hl⟩
      ·cases h
     ·cases h
    ·cases h
   ·cases h
  ·cases h
 ·-- slice
  rename_i u x lo hi ho
  split at h
  ·rename_i n hn
   split at h
   ·rename_i hh hhh
    split at h
    ·rename_i l hl;obtain⟨hs,rfl⟩:=hmap h;exact .inl ⟨rfl,val_slice hty hrel ho hn hhh hl hs⟩
    ·cases h
   ·cases h
  ·cases h
 ·-- extract
  rename_i x i ho
  split at h
  ·rename_i ts hx
   split at h
   ·rename_i t' ht;simp only[Option.some.injEq,Prod.mk.injEq] at h;obtain⟨rfl,rfl⟩:=h;exact .inl ⟨rfl,val_extract hrel ho hx ht⟩
   ·cases h
  ·cases h
 ·-- builtins
  rename_i c ho
  split at h
  ·rename_i hc
   split at h
   ·rename_i x u ha ht
    split at h
    ·rename_i e hk;rw[Option.map_eq_some_iff] at h;obtain⟨n,hl,he⟩:=h;simp only[Prod.mk.injEq] at he;obtain⟨rfl,rfl⟩:=he;obtain⟨h1,h2⟩:=lenS_T (hp:=s.hp) hl;exact .inl ⟨rfl,val_len hty hrel ho hc ha ht h1 (.inl ⟨e,hk⟩) (fun _ _=>h2) (fun h=>by rw[hk] at h; cases h)⟩
    ·rename_i hk;rw[Option.map_eq_some_iff] at h;obtain⟨n,hl,he⟩:=h;simp only[Prod.mk.injEq] at he;obtain⟨rfl,rfl⟩:=he;obtain⟨h1,h2⟩:=lenStr_T (hp:=s.hp) hl;exact .inl ⟨rfl,val_len hty hrel ho hc ha ht h1 (.inr hk) (fun e h=>by rw[hk] at h; cases h) (fun _=>h2)⟩
    ·cases h
   ·cases h
  ·rename_i hc
   split at h
   ·rename_i u ha ht
    split at h
    ·rename_i e hk;simp only[Option.some.injEq,Prod.mk.injEq] at h;obtain⟨rfl,rfl⟩:=h;exact .inl ⟨rfl,val_cap hty hrel ho hc ha ht hk⟩
    ·cases h
   ·cases h
  ·rename_i hc
   split at h
   ·rename_i k x k' y ha
    split at h
    ·rename_i hk;subst hk;simp only[Option.some.injEq,Prod.mk.injEq] at h;obtain⟨rfl,rfl⟩:=h;exact .inl ⟨rfl,val_max hrel ho hc ha⟩
    ·cases h
   ·cases h
  ·rename_i hc
   split at h
   ·rename_i k x k' y ha
    split at h
    ·rename_i hk;subst hk;simp only[Option.some.injEq,Prod.mk.injEq] at h;obtain⟨rfl,rfl⟩:=h;exact .inl ⟨rfl,val_min hrel ho hc ha⟩
    ·cases h
   ·cases h
  ·rename_i x hc
   split at h
   ·rename_i f hf
    split at h
    ·rename_i hi
     split at h
     ·rename_i q n ha;simp only[Option.some.injEq,Prod.mk.injEq] at h;obtain⟨rfl,rfl⟩:=h;exact .inl ⟨rfl,val_find hix hrel ho hc hf hi ha⟩
     ·cases h
    ·cases h
   ·cases h
  ·cases h
 ·cases h
theorem loadAt_noI {ty:Tys}{t:TypeId}{cs:List C}{off:Nat}{r:T}(h:loadAt ty t cs off=some r):r.noI=r:=by
 unfold loadAt at h
 split at h
 ·split at h
  ·split at h
   ·injection h with h; rw[← h]; rfl
   ·cases h
  ·rw[Option.map_eq_some_iff] at h;obtain⟨c,_,rfl⟩:=h;rfl
 ·cases h
theorem sliceT_noI {ty:Tys}{t:TypeId}{hp:Heap}{x r:T}{lo hi:Nat}(h:sliceT ty t hp x lo hi=some r):r.noI=r:=by
 unfold sliceT at h
 repeat' split at h
 all_goals first | (cases h; done) | (injection h with h; rw[← h]; rfl)
theorem arrAddr_noI {ty:Tys}{t:TypeId}{x r:T}{i:Int}(h:arrAddr ty t x i=some r):r.noI=r:=by
 unfold arrAddr at h
 repeat' split at h
 all_goals first | (cases h; done) | (injection h with h; rw[← h]; rfl)
theorem evP_noI [Globals] (hrel:Rel w0 B f0 fz ρ s a.tmps w){t:T}{oo:Option Ob}(h:evP ty o s.tm s.hp=some (t,oo)):t.noI=t:=by
 unfold evP at h
 repeat' split at h
 all_goals first
  | (cases h; done)
  | (simp only[Option.some.injEq,Prod.mk.injEq] at h; obtain⟨rfl,_⟩:=h; first | rfl | exact opd_noI _ _)
  | (rw[Option.map_eq_some_iff] at h; obtain⟨v,hv,he⟩:=h; simp only[Prod.mk.injEq] at he; obtain⟨rfl,_⟩:=he; first | rfl | exact loadAt_noI hv | exact sliceT_noI hv | exact arrAddr_noI hv | (rename_i cs; cases v<;>rfl))
  | skip
 ·rename_i _ x i _ _ ts hx _ t' ht;simp only[Option.some.injEq,Prod.mk.injEq] at h;obtain⟨rfl,_⟩:=h;have hr:=opd_rep hrel x;rw[hx] at hr;obtain⟨vs,hv,hs,h⟩:=hr;obtain⟨v,hvi,hrep⟩:=h i t' ht
  cases t'<;>first | rfl | exact hrep.elim
end
end Go.Vabs

/- Plain laws: a model's text, line by line. No condition. -/
import Derived.Test.YtadllpehekphmaaDoorP1
set_option linter.unusedSimpArgs false
set_option linter.unusedVariables false
set_option maxRecDepth 20000
namespace Go.Vid
open Go.Vabs
def txs {α:Type}(T:Nat→α→List Int):Nat→List α→List Int
 | _,[]=>[]
 | k,x::l=>T k x++txs T (k+1) l
theorem txs_append {α:Type}(T:Nat→α→List Int):∀ (l m:List α) (k:Nat),txs T k (l++m)=txs T k l++txs T (k+l.length) m
 | [],m,k=>rfl
 | x::l,m,k=>by
  rw[List.cons_append,txs,txs,txs_append T l m (k+1),List.append_assoc,List.length_cons,show k+1+l.length=k+(l.length+1) by omega]
theorem txs_one {α:Type}(T:Nat→α→List Int)(k:Nat)(x:α):txs T k [x]=T k x:=by rw[txs,txs,List.append_nil]
theorem txs_snoc {α:Type}(T:Nat→α→List Int){l:List α}{k:Nat}(h:k<l.length):txs T 0 (l.take (k+1))=txs T 0 (l.take k)++T k l[k]:=by
 rw[take_snoc h,txs_append,txs_one,List.length_take,show 0+min k l.length=k by omega]
theorem txs_take_le {α:Type}(T:Nat→α→List Int)(l:List α)(k:Nat):(txs T 0 (l.take k)).length≤(txs T 0 l).length:=by
 have:=txs_append T (l.take k) (l.drop k) 0;rw[List.take_append_drop] at this;rw[this,List.length_append];omega
theorem txs_isB {α:Type}{T:Nat→α→List Int}:∀ (l:List α) (k:Nat),(∀ x∈l,∀ k,IsB (T k x))→IsB (txs T k l)
 | [],k,h=>fun c hc=>by cases hc
 | x::l,k,h=>(h x List.mem_cons_self k).append (txs_isB l (k+1) (fun y hy=>h y (List.mem_cons_of_mem _ hy)))
theorem txs_bd {α:Type}{T:Nat→α→List Int}{n:Nat}:∀ (l:List α) (k:Nat),(∀ x∈l,∀ k',k'<k+l.length→(T k' x).length≤n)→(txs T k l).length≤l.length*n
 | [],k,h=>Nat.zero_le _
 | x::l,k,h=>by
  have h1:=h x List.mem_cons_self k (by simp);have h2:=txs_bd l (k+1) (fun y hy k' hk=>h y (List.mem_cons_of_mem _ hy) k' (by simp only[List.length_cons]; omega));rw[txs,List.length_append,List.length_cons,Nat.succ_mul];omega
def lnT:List Int→List Int
 | []=>[10]
 | x::r=>numB x++((r.flatMap fun y=>32::numB y)++[10])
theorem lnT_isB (l:List Int):IsB (lnT l):=by
 cases l with
 | nil=>exact IsB.one (by omega)
 | cons x r=>
  refine (numB_isB x).append (IsB.append (fun c hc=>?_) (IsB.one (by omega)));rw[List.mem_flatMap] at hc;obtain⟨y,_,hy⟩:=hc
  rcases List.mem_cons.1 hy with rfl | hy
  ·omega
  ·exact numB_isB y c hy
theorem lnT_len {l:List Int}(h:∀ x∈l,I64 x):(lnT l).length≤l.length*22+1:=by
 cases l with
 | nil=>simp[lnT]
 | cons x r=>
  have h1:=numB_len (h x List.mem_cons_self);have h2:∀ r:List Int,(∀ x∈r,I64 x)→(r.flatMap fun y=>32::numB y).length≤r.length*22:=by
   intro r
   induction r with
   | nil=>intro _; simp
   | cons y r ih=>
    intro hr;have:=ih (fun x hx=>hr x (List.mem_cons_of_mem _ hx));have h3:=numB_len (hr y List.mem_cons_self);rw[List.flatMap_cons,List.length_append,List.length_cons,List.length_cons];omega
  have h3:=h2 r (fun y hy=>h y (List.mem_cons_of_mem _ hy));simp only[lnT,List.length_append,List.length_cons,List.length_nil];omega
theorem joined_sp (x:ByteArray)(r:List ByteArray):bytesOf (joined (x::r) ⟨#[32]⟩)=bytesOf x++r.flatMap fun y=>32::bytesOf y:=by
 unfold joined;rw[bytesOf_mk,List.map_cons,Go.Lib.join_cons,List.map_append];refine congrArg _ ?_;unfold Go.Lib.joinTail
 induction r with
 | nil=>rfl
 | cons y r ih=>
  rw[List.map_cons,List.map_cons,List.flatten_cons,List.map_append,ih,List.flatMap_cons];rfl
theorem Join_sp {x:ByteArray}{r:List ByteArray}(h1:r.length≤1000)(h2:(bytesOf (joined (x::r) ⟨#[32]⟩)).length≤1000000000):strings_Join (x::r) ⟨#[32]⟩=some (joined (x::r) ⟨#[32]⟩):=by
 unfold joined at h2;rw[bytesOf_mk,List.length_map] at h2;unfold strings_Join;rw[if_pos ⟨by simp,by simp only[List.length_cons]; omega,by omega⟩]
theorem map_numeral (r:List Int):((r.map numeral).flatMap fun y=>32::bytesOf y)=r.flatMap fun y=>32::numB y:=by
 induction r with
 | nil=>rfl
 | cons y r ih=>rw[List.map_cons,List.flatMap_cons,ih,List.flatMap_cons]; rfl
theorem line_eq {l:List Int}(h0:0<l.length)(hl:∀ x∈l,I64 x)(hn:l.length≤1000):aig_line l=some (strOf (lnT l)):=by
 have hlen:=lnT_len hl;have hL:loopF (aig_line_B0 l) ([],0)=some (l.map numeral):=by
  refine loopF_count (body:=aig_line_B0 l) (fun k=>((l.take k).map numeral,(k:Int))) l.length (fun k hk=>?_) ?_
  ·unfold aig_line_B0;simp only;rw[if_pos (by rw[lt_len]; exact hk),getI_nat,List.getElem?_eq_getElem hk,Option.bind_some,Itoa_eq (hl _ (List.getElem_mem hk)),Option.bind_some,if_pos (by rw[capN_iff,lenN_eq,List.length_append,List.length_map,List.length_take,List.length_singleton]; omega),take_snoc hk,List.map_append,inc_ok (by omega)];rfl
  ·unfold aig_line_B0;simp only;rw[if_neg (by rw[lt_len]; omega),List.take_length]
 unfold aig_line;rw[hL,Option.bind_some]
 cases l with
 | nil=>simp at h0
 | cons x r=>
  have hj:bytesOf (joined (numeral x::r.map numeral) ⟨#[32]⟩)=numB x++r.flatMap fun y=>32::numB y:=by rw[joined_sp,map_numeral]; rfl
  have hjl:(numB x++r.flatMap fun y=>32::numB y).length≤1000000000:=by
   have:(numB x++r.flatMap fun y=>32::numB y).length+1=(lnT (x::r)).length:=by
    rw[lnT]; simp only[List.length_append,List.length_singleton]; omega
   omega
  rw[List.map_cons,Join_sp (by rw[List.length_map]; simp only[List.length_cons] at hn; omega) (by rw[hj]; exact hjl),Option.bind_some];rw[if_pos (by rw[addOk_iff,hj,show bytesOf ({ data:=#[10] }:ByteArray)=[10] from rfl]; simp only[List.length_singleton]; omega)];congr 1;apply bytesOf_inj;rw[bytesOf_append,hj,bytesOf_strOf (lnT_isB _),lnT,show bytesOf ({ data:=#[10] }:ByteArray)=[10] from rfl,List.append_assoc]
def inT (k:Nat)(_:Unit):List Int:=lnT [2*((k:Int)+1)]
def laT (I:Int)(k:Nat)(x:Latch):List Int:=lnT [2*(I+k+1),x.next,x.reset]
def gaT (M:Int)(k:Nat)(x:And):List Int:=lnT [2*(M+k+1),x.a,x.b]
def liT (_:Nat)(x:Int):List Int:=lnT [x]
def naT (_:Nat)(x:Name):List Int:=x.kind::(numB x.pos++(32::(bytesOf x.s++[10])))
def hdT (a:Aig):List Int:=[97,97,103,32]++lnT [varsN a,a.I,a.L.length,a.outs.length,a.G.length,a.bad.length,a.con.length]
def ins (a:Aig):List Int:=txs inT 0 (List.replicate a.I.toNat ())
def las (a:Aig):List Int:=txs (laT a.I) 0 a.L
def gas (a:Aig):List Int:=txs (gaT (a.I+a.L.length)) 0 a.G
def nas (a:Aig):List Int:=txs naT 0 a.names
def lis (a:Aig):List Int:=txs liT 0 (a.outs++(a.bad++a.con))
def tx (a:Aig):List Int:=hdT a++(ins a++(las a++(lis a++(gas a++nas a))))
theorem naT_isB {x:Name}(h:0≤x.kind∧x.kind≤255)(k:Nat):IsB (naT k x):=
 (IsB.one h).append ((numB_isB _).append ((IsB.one (c:=32) (by omega)).append ((bytesOf_isB _).append (IsB.one (by omega)))))
theorem hdT_isB (a:Aig):IsB (hdT a):=IsB.append (fun c hc=>by simp at hc; omega) (lnT_isB _)
theorem ins_isB (a:Aig):IsB (ins a):=txs_isB _ _ (fun _ _ _=>lnT_isB _)
theorem las_isB (a:Aig):IsB (las a):=txs_isB _ _ (fun _ _ _=>lnT_isB _)
theorem lis_isB (a:Aig):IsB (lis a):=txs_isB _ _ (fun _ _ _=>lnT_isB _)
theorem gas_isB (a:Aig):IsB (gas a):=txs_isB _ _ (fun _ _ _=>lnT_isB _)
theorem nas_isB {a:Aig}(h:∀ x∈a.names,0≤x.kind∧x.kind≤255):IsB (nas a):=txs_isB _ _ (fun x hx k=>naT_isB (h x hx) k)
theorem tx_isB {a:Aig}(h:∀ x∈a.names,0≤x.kind∧x.kind≤255):IsB (tx a):=(hdT_isB a).append ((ins_isB a).append ((las_isB a).append ((lis_isB a).append ((gas_isB a).append (nas_isB h)))))
theorem i64_of {n:Int}(h0:-1000000000000000≤n)(h1:n≤1000000000000000):I64 n:=⟨by omega,by omega⟩
theorem put_loop {α:Type}{B:List Int × Int→Option ((List Int × Int) ⊕ List Int)}(T:Nat→α→List Int)(l:List α)(q:List Int)(hq:q.length+(txs T 0 l).length≤1000000000)
  (h1:∀ (k:Nat) (h:k<l.length) (p:List Int),p.length+(T k l[k]).length≤1000000000→B (p,(k:Int))=some (.inl (p++T k l[k],((k+1:Nat):Int)))) (h2:∀ p,B (p,(l.length:Int))=some (.inr p)):loopF B (q,0)=some (q++txs T 0 l):=by
 have:=loopF_count (body:=B) (fun k=>(q++txs T 0 (l.take k),(k:Int))) l.length (r:=q++txs T 0 l) (fun k hk=>?_) ?_
 ·simpa[txs] using this
 ·have h3:=txs_take_le T l (k+1);rw[txs_snoc T hk,List.length_append] at h3;rw[h1 k hk _ (by rw[List.length_append]; omega),txs_snoc T hk,List.append_assoc]
 ·rw[List.take_length,h2]
theorem put_line {l:List Int}(h0:0<l.length)(hl:∀ x∈l,I64 x)(hn:l.length≤1000){p:List Int}(hp:p.length+(lnT l).length≤1000000000){β:Type}(F:ByteArray→Int × List Int→Option β):
  (Option.bind (aig_line l) fun v=>Option.bind (strings_Builder_WriteString1 v p) (F v))=F (strOf (lnT l)) (sizI (strOf (lnT l)),p++lnT l):=by
 rw[line_eq h0 hl hn,Option.bind_some,Write1_eq _ _ (by rw[bytesOf_strOf (lnT_isB _)]; omega),Option.bind_some,bytesOf_strOf (lnT_isB _)]
end Go.Vid
namespace Go.Vid
open Go.Vabs
theorem b10:bytesOf ({ data:=#[10] }:ByteArray)=[10]:=rfl
theorem b32:bytesOf ({ data:=#[32] }:ByteArray)=[32]:=rfl
theorem baag:bytesOf ({ data:=#[97,97,103,32] }:ByteArray)=[97,97,103,32]:=rfl
theorem bnum (n:Int):bytesOf (numeral n)=numB n:=rfl
theorem name_line {x:Name}(h:0≤x.kind∧x.kind≤255)(k:Nat):strOf [x.kind]++numeral x.pos++{ data:=#[32] }++x.s++{ data:=#[10] }=strOf (naT k x):=by
 apply bytesOf_inj;rw[bytesOf_strOf (naT_isB h k)];simp only[bytesOf_append,bytesOf_strOf (IsB.one h),b10,b32,bnum,naT,List.append_assoc,List.cons_append,List.nil_append]
structure NamsI (a:Aig):Prop where
 kinds:∀ x∈a.names,(0≤x.kind∧x.kind≤255)∧I64 x.pos∧-9223372036854775807≤x.pos
 len:a.names.length≤100000000000000
theorem naT_len (k:Nat)(x:Name):(naT k x).length=(numB x.pos).length+(bytesOf x.s).length+3:=by
 simp only[naT,List.length_cons,List.length_append,List.length_nil]; omega
theorem Names_eq {a:Aig}(h:NamsI a)(s:ByteArray)(hl:(bytesOf s).length+(nas a).length≤1000000000):aig_Names a s=some (strOf (bytesOf s++nas a)):=by
 have hlen:=h.len;have hL:loopF (aig_Names_B0 a s) (bytesOf s,0)=some (bytesOf s++nas a):=by
  refine put_loop naT a.names _ hl (fun k hk p hp=>?_) (fun p=>?_)
  ·have hx:=h.kinds _ (List.getElem_mem hk);have hn:=naT_len k a.names[k];unfold aig_Names_B0;simp only;rw[if_pos (by rw[lt_len]; exact hk),getI_nat,List.getElem?_eq_getElem hk,Option.bind_some,Itoa_eq hx.2.1,Option.bind_some];have hb:=naT_isB hx.1 k;have e1:(bytesOf (strOf [a.names[k].kind]))=[a.names[k].kind]:=bytesOf_strOf (IsB.one hx.1);rw[if_pos (by simp only[addOk_iff,bytesOf_append,e1,bnum,b32,b10,List.length_append,List.length_cons,List.length_nil]; omega),
    if_pos (by simp only[addOk_iff,bytesOf_append,e1,bnum,b32,b10,List.length_append,List.length_cons,List.length_nil]; omega),
    if_pos (by simp only[addOk_iff,bytesOf_append,e1,bnum,b32,b10,List.length_append,List.length_cons,List.length_nil]; omega),
    if_pos (by simp only[addOk_iff,bytesOf_append,e1,bnum,b32,b10,List.length_append,List.length_cons,List.length_nil]; omega),
    name_line hx.1 k,Write1_eq _ _ (by rw[bytesOf_strOf hb]; omega),Option.bind_some,bytesOf_strOf hb,inc_ok (by omega)]
  ·unfold aig_Names_B0;simp only;rw[if_neg (by rw[lt_len]; omega)]
 unfold aig_Names;rw[Write0_eq _ (by omega),Option.bind_some];simp only;rw[hL,Option.bind_some];unfold strings_Builder_String;rw[if_pos (by rw[List.length_append]; omega)];rfl
theorem Concat_eq {x y z:List Int}(hx:x.length≤1000000)(hy:y.length≤1000000)(hz:z.length≤1000000):slices_Concat [x,y,z]=some (x++(y++z)):=by
 have n3:lenI [x,y,z]=3:=rfl;have h0:loopF (slices_Concat_B0 [x,y,z]) (0,0)=some ((x.length+y.length+z.length:Nat):Int):=by
  have s:∀ (k:Nat) (l:List Int) (t:Nat),k<3→[x,y,z][k]?=some l→l.length≤1000000→t≤10000000→slices_Concat_B0 [x,y,z] ((t:Int),(k:Int))=some (.inl (((t+l.length:Nat):Int),((k+1:Nat):Int))):=by
   intro k l t hk hl hll ht;unfold slices_Concat_B0;simp only;rw[if_pos (by rw[ilt_iff,n3]; omega),getI_nat,hl,Option.bind_some,lenI_eq,iadd_ok (by omega) (by omega),if_neg (by rw[ilt_iff]; omega),inc_ok (by omega)];congr 3
  show loopF _ (((0:Nat):Int),((0:Nat):Int))=_;rw[loopF_inl (s 0 x 0 (by omega) rfl hx (by omega)),loopF_inl (s 1 y _ (by omega) rfl hy (by omega)),loopF_inl (s 2 z _ (by omega) rfl hz (by omega)),loopF_inr (r:=((x.length+y.length+z.length:Nat):Int))];unfold slices_Concat_B0;simp only;rw[if_neg (by rw[ilt_iff,n3]; omega)];congr 3;omega
 have h1:slices_Grow_nil0 ((x.length+y.length+z.length:Nat):Int)=some []:=by
  unfold slices_Grow_nil0;rw[if_neg (by rw[ilt_iff]; omega)];rw[show isub .i64 (((x.length+y.length+z.length:Nat):Int)) (isub .i64 0 0)=((x.length+y.length+z.length:Nat):Int) by rw[isub_ok (a:=0) (b:=0) (by omega) (by omega),isub_ok (by omega) (by omega)]; omega]
  split
  ·rename_i hpos;rw[ilt_iff] at hpos;rw[if_pos (by rfl),if_pos (by simp only[zOk,decide_eq_true_eq]; omega),if_pos (by simp[cutOk])]
  ·rfl
 have h2:loopF (slices_Concat_B1 [x,y,z]) ([],0)=some (x++(y++z)):=by
  have s:∀ (k:Nat) (l t:List Int),k<3→[x,y,z][k]?=some l→l.length≤1000000→t.length≤10000000→slices_Concat_B1 [x,y,z] (t,(k:Int))=some (.inl (t++l,((k+1:Nat):Int))):=by
   intro k l t hk hl hll ht;unfold slices_Concat_B1;simp only;rw[if_pos (by rw[ilt_iff,n3]; omega),getI_nat,hl,Option.bind_some,if_pos (by rw[capN_iff,lenN_eq,List.length_append]; omega),inc_ok (by omega)]
  show loopF _ (([]:List Int),((0:Nat):Int))=_;rw[loopF_inl (s 0 x [] (by omega) rfl hx (by simp)),loopF_inl (s 1 y _ (by omega) rfl hy (by simp; omega)),loopF_inl (s 2 z _ (by omega) rfl hz (by simp; omega)),loopF_inr];unfold slices_Concat_B1;simp only;rw[if_neg (by rw[ilt_iff,n3]; omega)];simp
 unfold slices_Concat;rw[h0,Option.bind_some,h1,Option.bind_some,h2];rfl
end Go.Vid
namespace Go.Vid
open Go.Vabs
theorem RightI.bd {a:Aig}(h:RightI a):0≤a.I∧a.I≤20000∧a.L.length≤20000∧a.G.length≤20000∧0≤varsN a∧varsN a≤20000∧a.I+a.L.length+a.G.length≤20000:=by
 have h1:=h.pos;have h2:=h.few;unfold varsN at *;omega
theorem RightI.las {a:Aig}(h:RightI a){k:Nat}(hk:k<a.L.length):(0≤a.L[k].next∧a.L[k].next≤40001)∧0≤a.L[k].reset∧a.L[k].reset≤100000:=by
 obtain⟨h1,h2,h3⟩:=h.lat k hk _ (List.getElem?_eq_getElem hk);have hb:=h.bd;omega
theorem RightI.gas {a:Aig}(h:RightI a){k:Nat}(hk:k<a.G.length):(0≤a.G[k].a∧a.G[k].a≤200000)∧0≤a.G[k].b∧a.G[k].b≤200000:=by
 obtain⟨h1,h2,h3⟩:=h.gat k hk _ (List.getElem?_eq_getElem hk);have hb:=h.bd;omega
theorem RightI.lits {a:Aig}(h:RightI a):∀ x∈a.outs++(a.bad++a.con),0≤x∧x≤2*varsN a+1:=by
 intro x hx;have g:∀ l,LitsI a l→x∈l→0≤x∧x≤2*varsN a+1:=by
  intro l hl hx;obtain⟨k,hk,rfl⟩:=List.mem_iff_getElem.1 hx;exact hl.1 k hk _ (List.getElem?_eq_getElem hk)
 rcases List.mem_append.1 hx with hx | hx
 ·exact g _ h.outs hx
 ·rcases List.mem_append.1 hx with hx | hx
  ·exact g _ h.bad hx
  ·exact g _ h.con hx
theorem manyN_le {a:Aig}(h:RightI a)(c:Int):manyN a c≤20000:=by
 have hb:=h.bd;have h1:=h.outs.2;have h2:=h.bad.2;have h3:=h.con.2;unfold manyN
 repeat' split
 all_goals omega
theorem RightI.nams {a:Aig}(h:RightI a)(ho:Okay a):NamsI a where
 kinds:=fun x hx=>by
  have h1:=ho.kinds x hx;obtain⟨k,hk,rfl⟩:=List.mem_iff_getElem.1 hx;obtain⟨g1,g2,_⟩:=h.nam k hk _ (List.getElem?_eq_getElem hk);have:=manyN_le h a.names[k].kind;exact⟨h1.1,i64_of (by omega) (by omega),by omega⟩
 len:=ho.lens.2.2.2.2.2
theorem hd_nums {a:Aig}(h:RightI a):∀ x∈[varsN a,a.I,(a.L.length:Int),(a.outs.length:Int),(a.G.length:Int),(a.bad.length:Int),(a.con.length:Int)],I64 x:=by
 have hb:=h.bd;have h1:=h.outs.2;have h2:=h.bad.2;have h3:=h.con.2;intro x hx;simp only[List.mem_cons,List.not_mem_nil,or_false] at hx
 rcases hx with rfl | rfl | rfl | rfl | rfl | rfl | rfl<;>exact i64_of (by omega) (by omega)
theorem mem1 {P:Int→Prop}{a:Int}(h:P a):∀ x∈[a],P x:=fun x hx=>by rw[List.mem_singleton] at hx; subst hx; exact h
theorem mem3 {P:Int→Prop}{a b c:Int}(h:P a)(g:P b)(i:P c):∀ x∈[a,b,c],P x:=fun x hx=>by
 simp only[List.mem_cons,List.not_mem_nil,or_false] at hx
 rcases hx with rfl | rfl | rfl
 ·exact h
 ·exact g
 ·exact i
theorem putI {a:Aig}(h:RightI a)(q:List Int)(hq:q.length+(ins a).length≤1000000000):loopF (aig_Print_B0 a) (q,0)=some (q++ins a):=by
 have hb:=h.bd;refine put_loop inT (List.replicate a.I.toNat ()) q hq (fun k hk p hp=>?_) (fun p=>?_)
 ·rw[List.length_replicate] at hk;unfold aig_Print_B0;simp only;rw[if_pos (by rw[ilt_iff]; omega),inc_ok (by omega),imul_ok (by omega) (by omega)];rw[put_line (l:=[2*((k+1:Nat):Int)]) (by simp) (mem1 (i64_of (by omega) (by omega))) (by simp) (p:=p) (by unfold inT at hp; exact hp)];rfl
 ·unfold aig_Print_B0;simp only;rw[if_neg (by rw[ilt_iff,List.length_replicate]; omega)]
theorem putL {a:Aig}(h:RightI a)(q:List Int)(hq:q.length+(las a).length≤1000000000):loopF (aig_Print_B1 a) (q,0)=some (q++las a):=by
 have hb:=h.bd;refine put_loop (laT a.I) a.L q hq (fun k hk p hp=>?_) (fun p=>?_)
 ·have hx:=h.las hk;unfold aig_Print_B1;simp only;rw[if_pos (by rw[lt_len]; exact hk),getI_nat,List.getElem?_eq_getElem hk,Option.bind_some,iadd_ok (a:=a.I) (by omega) (by omega),iadd_ok (a:=a.I+1) (by omega) (by omega),imul_ok (by omega) (by omega),show a.I+1+(k:Int)=a.I+k+1 by omega];rw[put_line (l:=[2*(a.I+k+1),a.L[k].next,a.L[k].reset]) (by simp) (mem3 (i64_of (by omega) (by omega)) (i64_of (by omega) (by omega)) (i64_of (by omega) (by omega))) (by simp) (p:=p) (by unfold laT at hp; exact hp),inc_ok (by omega)];rfl
 ·unfold aig_Print_B1;simp only;rw[if_neg (by rw[lt_len]; omega)]
theorem putR {a:Aig}(h:RightI a)(q:List Int)(hq:q.length+(lis a).length≤1000000000):loopF (aig_Print_B2 (a.outs++(a.bad++a.con))) (q,0)=some (q++lis a):=by
 have hb:=h.bd;have h1:=h.outs.2;have h2:=h.bad.2;have h3:=h.con.2;have hll:(a.outs++(a.bad++a.con)).length≤6000:=by rw[List.length_append,List.length_append]; omega
 have hx:=h.lits;unfold lis at *;generalize a.outs++(a.bad++a.con)=l at *;refine put_loop liT l q hq (fun k hk p hp=>?_) (fun p=>?_)
 ·have:=hx _ (List.getElem_mem hk);unfold aig_Print_B2;simp only;rw[if_pos (by rw[lt_len]; exact hk),if_pos (by simp[inI,lenN]; omega),nthI_nat,List.getElem?_eq_getElem hk,Option.bind_some];rw[put_line (l:=[l[k]]) (by simp) (mem1 (i64_of (by omega) (by omega))) (by simp) (p:=p) (by unfold liT at hp; exact hp),inc_ok (by omega)];rfl
 ·unfold aig_Print_B2;simp only;rw[if_neg (by rw[lt_len]; omega)]
theorem putG {a:Aig}(h:RightI a)(q:List Int)(hq:q.length+(gas a).length≤1000000000):loopF (aig_Print_B3 a) (q,0)=some (q++gas a):=by
 have hb:=h.bd;refine put_loop (gaT (a.I+a.L.length)) a.G q hq (fun k hk p hp=>?_) (fun p=>?_)
 ·have hx:=h.gas hk;unfold aig_Print_B3;simp only;rw[if_pos (by rw[lt_len]; exact hk),getI_nat,List.getElem?_eq_getElem hk,Option.bind_some,lenI_eq,iadd_ok (a:=a.I) (by omega) (by omega),iadd_ok (a:=a.I+_) (b:=1) (by omega) (by omega),iadd_ok (a:=a.I+_+1) (by omega) (by omega),imul_ok (by omega) (by omega),show a.I+(a.L.length:Int)+1+(k:Int)=a.I+a.L.length+k+1 by omega];rw[put_line (l:=[2*(a.I+a.L.length+k+1),a.G[k].a,a.G[k].b]) (by simp) (mem3 (i64_of (by omega) (by omega)) (i64_of (by omega) (by omega)) (i64_of (by omega) (by omega))) (by simp) (p:=p) (by unfold gaT at hp; exact hp),inc_ok (by omega)]
  rfl
 ·unfold aig_Print_B3;simp only;rw[if_neg (by rw[lt_len]; omega)]
theorem Print_eq {a:Aig}(h:RightI a)(ho:Okay a)(hl:(tx a).length≤1000000000):aig_Print a=some (strOf (tx a),0):=by
 have hk:∀ x∈a.names,0≤x.kind∧x.kind≤255:=fun x hx=>(ho.kinds x hx).1;have hlen:(hdT a).length+((ins a).length+((las a).length+((lis a).length+((gas a).length+(nas a).length))))≤1000000000:=by
  have:=hl;unfold tx at this;simpa only[List.length_append] using this
 have h7:=lnT_len (hd_nums h);have hq:bytesOf ({ data:=#[97,97,103,32] }++strOf (lnT [varsN a,a.I,a.L.length,a.outs.length,a.G.length,a.bad.length,a.con.length]))=hdT a:=by
  rw[bytesOf_append,baag,bytesOf_strOf (lnT_isB _)];rfl
 unfold aig_Print;rw[(right_says ho).true_ h,Option.bind_some,if_pos rfl,(vars_eq h).1,Option.bind_some];simp only[lenI_eq];rw[line_eq (by simp) (hd_nums h) (by simp),Option.bind_some,if_pos (by rw[addOk_iff,baag,bytesOf_strOf (lnT_isB _)]; simp only[List.length_cons,List.length_nil] at *; omega),Write0_eq _ (by rw[hq]; omega),Option.bind_some];simp only;rw[hq,putI h _ (by omega),Option.bind_some,putL h _ (by rw[List.length_append]; omega),Option.bind_some,Concat_eq (by have:=h.outs.2; omega) (by have:=h.bad.2; omega) (by have:=h.con.2; omega),Option.bind_some,
  putR h _ (by simp only[List.length_append]; omega),Option.bind_some,putG h _ (by simp only[List.length_append]; omega),Option.bind_some]
 have hB:IsB (hdT a++ins a++las a++lis a++gas a):=((((hdT_isB a).append (ins_isB a)).append (las_isB a)).append (lis_isB a)).append (gas_isB a);unfold strings_Builder_String;rw[if_pos (by simp only[List.length_append]; omega),Option.bind_some,Names_eq (h.nams ho) _ (by rw[bytesOf_strOf hB]; simp only[List.length_append]; omega),Option.bind_some,bytesOf_strOf hB];unfold tx;simp only[List.append_assoc]
end Go.Vid
namespace Go.Vid
open Go.Vabs
theorem txs_li (l:List Int):∀ k,txs liT k l=txs liT 0 l:=by
 induction l with
 | nil=>intro k; rfl
 | cons x l ih=>intro k; rw[txs,txs,ih (k+1),ih (0+1)]; rfl
theorem lis_eq (a:Aig):lis a=txs liT 0 a.outs++(txs liT 0 a.bad++txs liT 0 a.con):=by
 unfold lis;rw[txs_append,txs_append,txs_li a.bad,txs_li a.con]
theorem RightI.poss {a:Aig}(h:RightI a):∀ x∈a.names,-1000000000000000≤x.pos∧x.pos≤1000000000000000:=fun x hx=>by
 obtain⟨k,hk,rfl⟩:=List.mem_iff_getElem.1 hx;obtain⟨g1,g2,_⟩:=h.nam k hk _ (List.getElem?_eq_getElem hk);have:=manyN_le h a.names[k].kind;omega
end Go.Vid

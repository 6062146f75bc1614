/- Plain laws: a text's words, numbers and rows, read. No condition. -/
import Derived.Test.YtadllpehekphmaaDoorP8
set_option linter.unusedSimpArgs false
set_option linter.unusedVariables false
set_option maxRecDepth 20000
namespace Go.Vid
open Go.Vabs
section
variable {b:List Int}
theorem le_of_drop {X Y:List Int}{a:Nat}(ha:a≤b.length)(h:b.drop a=X++Y):a+X.length≤b.length:=by
 have:=congrArg List.length h;rw[List.length_drop,List.length_append] at this;omega
theorem word_text (hb:IsB b)(hl:b.length≤1000000000){a:Nat}(ha:a≤b.length){s:ByteArray}{Y:List Int}(h:b.drop a=bytesOf s++Y):aig_reader_word s ⟨b,(a:Int)⟩=some (.inr ⟨b,((a+(bytesOf s).length:Nat):Int)⟩):=by
 unfold aig_reader_word;rw[Is_eq hb hl];simp only;rw[if_pos ⟨by omega,by omega⟩,Int.toNat_natCast,if_pos (by rw[h]; exact pre_app _ _),Option.bind_some];simp only[if_true];rfl
theorem number_text (hb:IsB b)(hl:b.length≤1000000000){a:Nat}(ha:a≤b.length){most n:Int}{t:ByteArray}{Y:List Int}(hY:lead dig (bytesOf t++Y)=0)(h0:0≤n)(h1:n≤most)(h2:most≤2147483647)
  (h:b.drop a=numB n++(bytesOf t++Y)):aig_reader_number most t ⟨b,(a:Int)⟩=some (.inr (n,⟨b,((a+((numB n).length+(bytesOf t).length):Nat):Int)⟩)):=by
 obtain⟨m,rfl⟩:=Int.eq_ofNat_of_zero_le h0;unfold aig_reader_number;rw[Number_eq hb hl ⟨by simp only; omega,by simp only; omega⟩];simp only[Int.toNat_natCast];have hn:numL (b.drop a) most=((m:Int),(numB (m:Int)).length,0):=by
  rw[h,numB_nat,num_fig m _ hY,if_neg (by omega)]
 rw[hn];simp only[Option.bind_some];have h3:=le_of_drop ha h;rw[if_pos (by rw[ieq_iff]),show (a:Int)+((numB (m:Int)).length:Int)=((a+(numB (m:Int)).length:Nat):Int) by omega,word_text hb hl h3 (drop_step h),Option.bind_some];simp only;congr 5;omega
end
section
variable {b:List Int} {α σ ρ:Type} {B:σ→Option (σ ⊕ ((Int × Int) ⊕ ρ))} {enc:List α→Nat→Nat→σ} {ret:List α→Nat→ρ} {T:Nat→α→List Int} {P:Nat→α→Prop} {n:Nat}
theorem rows_text (h1:∀ (k:Nat) (acc:List α) (a:Nat) (v:α) (Y:List Int),k<n→acc.length=k→a≤b.length→P k v→b.drop a=T k v++Y→B (enc acc a k)=some (.inl (enc (acc++[v]) (a+(T k v).length) (k+1))))
  (h2:∀ (acc:List α) (a:Nat),acc.length=n→B (enc acc a n)=some (.inr (.inr (ret acc a)))):
  ∀ (vs:List α) (k:Nat) (acc:List α) (a:Nat) (Y:List Int),k+vs.length=n→acc.length=k→a≤b.length→(∀ i v,vs[i]?=some v→P (k+i) v)→b.drop a=txs T k vs++Y→loopF B (enc acc a k)=some (.inr (ret (acc++vs) (a+(txs T k vs).length)))
 | [],k,acc,a,Y,hk,hacc,ha,hP,h=>by
  have hkn:k=n:=by simpa using hk
  subst hkn;rw[loopF_inr (h2 acc a hacc)];simp[txs]
 | v::vs,k,acc,a,Y,hk,hacc,ha,hP,h=>by
  rw[List.length_cons] at hk;rw[txs,List.append_assoc] at h;rw[loopF_inl (h1 k acc a v _ (by omega) hacc ha (hP 0 v rfl) h),rows_text h1 h2 vs (k+1) (acc++[v]) _ Y (by omega) (by rw[List.length_append,List.length_singleton]; omega) (le_of_drop ha h) (fun i w hw=>by have:=hP (i+1) w hw; rwa [show k+1+i=k+(i+1) by omega]) (drop_step h)];rw[txs,List.length_append,List.append_assoc];rw[show a+((T k v).length+(txs T (k+1) vs).length)=a+(T k v).length+(txs T (k+1) vs).length by omega];rfl
end
end Go.Vid
namespace Go.Vid
open Go.Vabs
theorem mod1 {i:Int}(h0:0≤i)(h1:i≤1000000):vidimus_aig_reader_model_1 i=some (2*(i+1)):=by
 unfold vidimus_aig_reader_model_1;rw[iadd_ok (by omega) (by omega),imul_ok (by omega) (by omega)]
theorem len1 (x:Int):(lnT [x]).length=(numB x).length+1:=by simp[lnT]
theorem len3 (x y z:Int):(lnT [x,y,z]).length=(numB x).length+(numB y).length+(numB z).length+3:=by simp[lnT]; omega
theorem eq1 (x:Int)(Y:List Int):lnT [x]++Y=numB x++([10]++Y):=by simp[lnT]
theorem eq3 (x y z:Int)(Y:List Int):lnT [x,y,z]++Y=(numB x++[32])++(numB y++([32]++(numB z++([10]++Y)))):=by simp[lnT]
theorem bline {x:Int}(h:I64 x):aig_line [x]=some (strOf (lnT [x])):=line_eq (by simp) (mem1 h) (by simp)
theorem bhead (x:Int):bytesOf (numeral x++{ data:=#[32] })=numB x++[32]:=by rw[bytesOf_append,b32]; rfl
theorem addH {x:Int}(h:I64 x):addOk (numeral x) { data:=#[32] }=true:=by
 have:=numB_len h;rw[addOk_iff,bnum,b32,List.length_singleton];omega
section
variable {b:List Int} (hb:IsB b) (hl:b.length≤1000000000)
def eI (b:List Int)(_:List Unit)(a k:Nat):List Int × Int × Int:=(b,(a:Int),(k:Int))
def rI (b:List Int)(_:List Unit)(a:Nat):List Int × Int:=(b,(a:Int))
include hb hl in
theorem inI_text {n:Nat}(hn:n≤20000)(k:Nat)(acc:List Unit)(a:Nat)(v:Unit)(Y:List Int)(hk:k<n)(ha:a≤b.length)(h:b.drop a=inT k v++Y):aig_reader_model_B0 (n:Int) (eI b acc a k)=some (.inl (eI b (acc++[v]) (a+(inT k v).length) (k+1))):=by
 unfold aig_reader_model_B0 eI;simp only;rw[if_pos (by rw[ilt_iff]; omega),mod1 (by omega) (by omega),Option.bind_some,bline (i64_of (by omega) (by omega)),Option.bind_some,word_text hb hl ha (Y:=Y) (by rw[bytesOf_strOf (lnT_isB _)]; exact h),Option.bind_some];simp only;rw[bytesOf_strOf (lnT_isB _),inc_ok (by omega)];rfl
theorem inI_end {n:Nat}(acc:List Unit)(a:Nat):aig_reader_model_B0 (n:Int) (eI b acc a n)=some (.inr (.inr (rI b acc a))):=by
 unfold aig_reader_model_B0 eI rI;simp only;rw[if_neg (by rw[ilt_iff]; omega)]
def eA {α:Type}(b:List Int)(acc:List α)(a k:Nat):List α × List Int × Int × Int:=(acc,b,(a:Int),(k:Int))
def rA {α:Type}(b:List Int)(acc:List α)(a:Nat):List α × List Int × Int:=(acc,b,(a:Int))
def LatP (I most:Int)(k:Nat)(x:Latch):Prop:=0≤x.next∧x.next≤most∧0≤x.reset∧x.reset≤most∧(x.reset≤1∨x.reset=2*(I+k+1))
include hb hl in
theorem la_text {I n last:Nat}(hI:I≤20000)(hn:n≤20000)(hla:last≤20000)(k:Nat)(acc:List Latch)(a:Nat)(v:Latch)(Y:List Int)(hk:k<n)(hacc:acc.length=k)(ha:a≤b.length)(hP:LatP I (2*last+1) k v)(h:b.drop a=laT I k v++Y):
  aig_reader_model_B1 (I:Int) (n:Int) (2*((last:Int)+1)) (eA b acc a k)=some (.inl (eA b (acc++[v]) (a+(laT I k v).length) (k+1))):=by
 obtain⟨p1,p2,p3,p4,p5⟩:=hP;have hlen:(laT I k v).length=_:=len3 _ _ _;unfold laT at h;rw[eq3] at h;have a1:=le_of_drop ha h;have h1:=drop_step h;have h1':=h1;rw[← List.append_assoc] at h1';have a2:=le_of_drop a1 h1';have h2:=drop_step h1';have e4:(numB v.next++[32]).length=(numB v.next).length+1:=by simp
 rw[e4] at a2 h2;unfold aig_reader_model_B1 eA;simp only;rw[if_pos (by rw[ilt_iff]; omega),iadd_ok (by omega) (by omega),mod1 (by omega) (by omega),Option.bind_some,Itoa_eq (i64_of (by omega) (by omega)),Option.bind_some,if_pos (addH (i64_of (by omega) (by omega))),word_text hb hl ha (by rw[bhead]; exact h),Option.bind_some];simp only;rw[bhead,isub_ok (by omega) (by omega),number_text hb hl a1 (t:={ data:=#[32] }) (lead_sp _) p1 (by omega) (by omega) h1,Option.bind_some];simp only;rw[b32,List.length_singleton,number_text hb hl a2 (t:={ data:=#[10] }) (lead_lf _) p3 (by omega) (by omega) h2,Option.bind_some]
 simp only[ilt_iff,ieq_iff];have hc:capN (lenN (acc++[({ next:=v.next,reset:=v.reset }:Latch)])) 16=true:=by rw[capN_iff,lenN_eq,List.length_append,List.length_singleton]; omega
 rw[b10,List.length_singleton,inc_ok (by omega)];rw[hlen,List.length_append,List.length_singleton];rw[show a+((numB (2*((I:Int)+k+1))).length+1)+((numB v.next).length+1)+((numB v.reset).length+1)=a+((numB (2*((I:Int)+k+1))).length+(numB v.next).length+(numB v.reset).length+3) by omega]
 by_cases q:1<v.reset
 ·rw[if_pos q,if_pos (by omega),if_pos hc]
 ·rw[if_neg q,if_pos hc]
theorem la_end {I n last:Nat}(acc:List Latch)(a:Nat):aig_reader_model_B1 (I:Int) (n:Int) (2*((last:Int)+1)) (eA b acc a n)=some (.inr (.inr (rA b acc a))):=by
 unfold aig_reader_model_B1 eA rA;simp only;rw[if_neg (by rw[ilt_iff]; omega)]
def LitP (most:Int)(_:Nat)(x:Int):Prop:=0≤x∧x≤most
include hb hl in
theorem li_text {n:Nat}{most:Int}(hn:n≤20000)(hm:most≤2147483647)(k:Nat)(acc:List Int)(a:Nat)(v:Int)(Y:List Int)(hk:k<n)(hacc:acc.length=k)(ha:a≤b.length)(hP:LitP most k v)(h:b.drop a=liT k v++Y):
  aig_reader_lits_B0 (n:Int) most (eA b acc a k)=some (.inl (eA b (acc++[v]) (a+(liT k v).length) (k+1))):=by
 unfold liT at *;rw[eq1] at h;unfold aig_reader_lits_B0 eA;simp only;rw[if_pos (by rw[ilt_iff]; omega),number_text hb hl ha (t:={ data:=#[10] }) (lead_lf _) hP.1 hP.2 hm h,Option.bind_some];simp only;rw[b10,if_pos (by rw[capN_iff,lenN_eq,List.length_append,List.length_singleton]; omega),inc_ok (by omega),len1];rfl
theorem li_end {n:Nat}{most:Int}(acc:List Int)(a:Nat):aig_reader_lits_B0 (n:Int) most (eA b acc a n)=some (.inr (.inr (rA b acc a))):=by
 unfold aig_reader_lits_B0 eA rA;simp only;rw[if_neg (by rw[ilt_iff]; omega)]
def GatP (M:Int)(k:Nat)(x:And):Prop:=0≤x.a∧x.a≤2*(M+k+1)-1∧0≤x.b∧x.b≤x.a
include hb hl in
theorem ga_text {I m n:Nat}(hI:I≤20000)(hm:m≤20000)(hn:n≤20000)(k:Nat)(acc:List And)(a:Nat)(v:And)(Y:List Int)(hk:k<n)(hacc:acc.length=k)(ha:a≤b.length)(hP:GatP ((I:Int)+m) k v)(h:b.drop a=gaT ((I:Int)+m) k v++Y):
  aig_reader_model_B2 (I:Int) (m:Int) (n:Int) (eA b acc a k)=some (.inl (eA b (acc++[v]) (a+(gaT ((I:Int)+m) k v).length) (k+1))):=by
 obtain⟨p1,p2,p3,p4⟩:=hP;have hlen:(gaT ((I:Int)+m) k v).length=_:=len3 _ _ _;unfold gaT at h;rw[eq3] at h;have a1:=le_of_drop ha h;have h1:=drop_step h;have h1':=h1;rw[← List.append_assoc] at h1';have a2:=le_of_drop a1 h1';have h2:=drop_step h1';have e4:(numB v.a++[32]).length=(numB v.a).length+1:=by simp
 rw[e4] at a2 h2;unfold aig_reader_model_B2 eA;simp only;rw[if_pos (by rw[ilt_iff]; omega),iadd_ok (a:=(I:Int)) (by omega) (by omega),iadd_ok (b:=(k:Int)) (by omega) (by omega),mod1 (by omega) (by omega),Option.bind_some,Itoa_eq (i64_of (by omega) (by omega)),Option.bind_some,if_pos (addH (i64_of (by omega) (by omega))),word_text hb hl ha (by rw[bhead]; exact h),Option.bind_some];simp only;rw[bhead,isub_ok (by omega) (by omega),number_text hb hl a1 (t:={ data:=#[32] }) (lead_sp _) p1 (by omega) (by omega) h1,Option.bind_some];simp only;rw[b32,List.length_singleton,number_text hb hl a2 (t:={ data:=#[10] }) (lead_lf _) p3 (by omega) (by omega) h2,Option.bind_some]
 simp only;rw[b10,List.length_singleton,inc_ok (by omega),if_pos (by rw[capN_iff,lenN_eq,List.length_append,List.length_singleton]; omega)];rw[hlen,List.length_append,List.length_singleton];rw[show a+((numB (2*((I:Int)+m+k+1))).length+1)+((numB v.a).length+1)+((numB v.b).length+1)=a+((numB (2*((I:Int)+m+k+1))).length+(numB v.a).length+(numB v.b).length+3) by omega]
theorem ga_end {I m n:Nat}(acc:List And)(a:Nat):aig_reader_model_B2 (I:Int) (m:Int) (n:Int) (eA b acc a n)=some (.inr (.inr (rA b acc a))):=by
 unfold aig_reader_model_B2 eA rA;simp only;rw[if_neg (by rw[ilt_iff]; omega)]
end
end Go.Vid
namespace Go.Vid
open Go.Vabs
def NamS (q:Aig)(l:List Name):Prop:=∀ k x,l[k]?=some x→0≤x.pos∧x.pos<manyN q x.kind∧nameB (bytesOf x.s)=true∧(0≤x.kind∧x.kind≤255)∧∀ y,0<k→l[k-1]?=some y→BehP y x
theorem many_kind {q:Aig}{c:Int}(h:0<manyN q c):0≤kindN c:=by
 unfold manyN at h;unfold kindN
 repeat' split
 all_goals first | omega | (simp_all)
theorem NamS.left {q:Aig}{l m:List Name}(h:NamS q (l++m)):NamS q l:=by
 intro k x hx;have hk:=(List.getElem?_eq_some_iff.1 hx).1;obtain⟨g1,g2,g3,g4,g5⟩:=h k x (by rw[List.getElem?_append_left hk]; exact hx);exact⟨g1,g2,g3,g4,fun y hy hy'=>g5 y hy (by rw[List.getElem?_append_left (by omega)]; exact hy')⟩
section
variable {b:List Int} (hb:IsB b) (hl:b.length≤1000000000)
theorem nl_name {s:List Int}(h:nameB s=true):nl s=s.length:=by
 unfold nameB at h
 split at h
 ·cases h
 ·rename_i k hk;exact chars_no10 _ _ k rfl hk
theorem name_text {a:Nat}(ha:a≤b.length){s:ByteArray}{Y:List Int}(hs:nameB (bytesOf s)=true)(h:b.drop a=bytesOf s++([10]++Y)):nameAt b (a:Int)=(s,((a+(bytesOf s).length:Nat):Int),0):=by
 unfold nameAt;rw[if_pos ⟨by omega,by omega⟩,Int.toNat_natCast,h];have e:nl (bytesOf s++([10]++Y))=(bytesOf s).length:=nl_append (nl_name hs);rw[e,List.take_left,if_pos hs,strOf_bytesOf];congr 2
theorem at_drop {a:Nat}{c:Int}{Y:List Int}(h:b.drop a=c::Y):a<b.length∧b[a]?=some c:=by
 have h1:=congrArg List.length h;rw[List.length_drop,List.length_cons] at h1;refine⟨by omega,?_⟩;have h2:(b.drop a)[0]?=some c:=by rw[h]; rfl
 rw[List.getElem?_drop] at h2;exact h2
include hb hl in
theorem nam_text {q:Aig}(hq:∀ c,0≤manyN q c∧manyN q c≤20000){acc:List Name}{a:Nat}{x:Name}{Y:List Int}(hlen:acc.length<2000)(hN:NamS q (acc++[x]))(h:b.drop a=naT 0 x++Y):
  aig_reader_names_B0 q (acc,b,(a:Int))=some (.inl (acc++[x],b,((a+(naT 0 x).length:Nat):Int))):=by
 obtain⟨g1,g2,g3,g4,g5⟩:=hN acc.length x (by rw[List.getElem?_append_right (Nat.le_refl _),Nat.sub_self]; rfl);have hm:=hq x.kind;have h':b.drop a=x.kind::(numB x.pos++([32]++(bytesOf x.s++([10]++Y)))):=by rw[h]; simp[naT]
 obtain⟨ha,hc⟩:=at_drop h';have a1:a+1≤b.length:=ha;have h1:b.drop (a+1)=numB x.pos++([32]++(bytesOf x.s++([10]++Y))):=drop_step (X:=[x.kind]) h';have h1':=h1;rw[← List.append_assoc] at h1';have a2:=le_of_drop a1 h1';have h2:=drop_step h1';have e4:(numB x.pos++[32]).length=(numB x.pos).length+1:=by simp
 rw[e4] at a2 h2;have a3:=le_of_drop a2 h2;have h3:=drop_step h2;have hkind:=many_kind (q:=q) (c:=x.kind) (by omega);have hlenT:=naT_len 0 x;unfold aig_reader_names_B0;simp only;rw[if_pos (by rw[lt_len]; exact ha),getI_nat,hc,Option.bind_some,if_neg (by rw[ieq_iff,lenI_eq]; omega),IndexByte_kinds g4.1 g4.2,Option.bind_some,if_neg (by rw[ilt_iff]; omega),many_eq,Option.bind_some];rw[show manyN ({ I:=q.I,L:=q.L,G:=q.G,outs:=q.outs,bad:=q.bad,con:=q.con,names:=acc }:Aig) x.kind=manyN q x.kind from rfl];rw[inc_ok (by omega),isub_ok (by omega) (by omega),number_text hb hl a1 (t:={ data:=#[32] }) (lead_sp _) g1 (by omega) (by omega) h1,Option.bind_some]
 simp only;rw[b32,List.length_singleton,Name_eq hb hl,Option.bind_some,name_text a2 g3 h2];simp only[ieq_iff,if_true];rw[word_text hb hl a3 (Y:=Y) (by rw[b10]; exact h3),Option.bind_some];simp only;have hc2:capN (lenN (acc++[({ kind:=x.kind,pos:=x.pos,s:=x.s }:Name)])) 32=true:=by rw[capN_iff,lenN_eq,List.length_append,List.length_singleton]; omega
 have hpos:a+1+((numB x.pos).length+1)+(bytesOf x.s).length+(bytesOf ({ data:=#[10] }:ByteArray)).length=a+(naT 0 x).length:=by rw[b10,hlenT,List.length_singleton]; omega
 rw[hpos];simp only[ilt_iff,lenI_eq]
 by_cases h0:(0:Int)<acc.length
 ·have e3:isub .i64 (acc.length:Int) 1=((acc.length-1:Nat):Int):=by rw[isub_ok (by omega) (by omega)]; omega
  rw[if_pos h0];simp only[e3];rw[if_pos (by simp[inI,lenN]; omega),nthI_nat,List.getElem?_eq_getElem (by omega:acc.length-1<acc.length),Option.bind_some];have hy:=hN (acc.length-1) acc[acc.length-1] (by rw[List.getElem?_append_left (by omega)]; exact List.getElem?_eq_getElem _);rw[(behind_says (x:=acc[acc.length-1]) (y:=x) hy.2.2.2.1 g4).true_ (g5 _ (by omega) (by rw[List.getElem?_append_left (by omega)]; exact List.getElem?_eq_getElem _)),Option.bind_some,if_pos rfl,if_pos hc2]
 ·rw[if_neg h0,if_pos hc2]
theorem nam_end {q:Aig}(acc:List Name):aig_reader_names_B0 q (acc,b,(b.length:Int))=some (.inr (.inr (acc,b,(b.length:Int)))):=by
 unfold aig_reader_names_B0;simp only;rw[if_neg (by rw[lt_len]; omega)]
include hb hl in
theorem nams_text {q:Aig}(hq:∀ c,0≤manyN q c∧manyN q c≤20000):∀ (ns acc:List Name) (k a:Nat) (Y:List Int),acc.length+ns.length≤2000→NamS q (acc++ns)→b.drop a=txs naT k ns++Y→loopF (aig_reader_names_B0 q) (acc,b,(a:Int))=loopF (aig_reader_names_B0 q) (acc++ns,b,((a+(txs naT k ns).length:Nat):Int))
 | [],acc,k,a,Y,hlen,hN,h=>by simp[txs]
 | x::ns,acc,k,a,Y,hlen,hN,h=>by
  rw[List.length_cons] at hlen;rw[txs,List.append_assoc] at h;have h:b.drop a=naT 0 x++(txs naT (k+1) ns++Y):=h;have e:acc++x::ns=(acc++[x])++ns:=by simp
  rw[e] at hN;rw[loopF_inl (nam_text hb hl hq (by omega) hN.left h),nams_text hq ns (acc++[x]) (k+1) _ Y (by rw[List.length_append,List.length_singleton]; omega) hN (drop_step h),e,txs,List.length_append];rw[show a+((naT k x).length+(txs naT (k+1) ns).length)=a+(naT 0 x).length+(txs naT (k+1) ns).length by rw[show naT k x=naT 0 x from rfl]; omega]
end
end Go.Vid
namespace Go.Vid
open Go.Vabs
section
variable {b:List Int} (hb:IsB b) (hl:b.length≤1000000000)
include hb hl in
theorem word_go {a:Nat}(ha:a≤b.length){s:ByteArray}{Y:List Int}(h:b.drop a=bytesOf s++Y):∃ p:Nat,aig_reader_word s ⟨b,(a:Int)⟩=some (.inr ⟨b,(p:Int)⟩)∧b.drop p=Y∧p≤b.length:=⟨_,word_text hb hl ha h,drop_step h,le_of_drop ha h⟩
include hb hl in
theorem number_go {a:Nat}(ha:a≤b.length){most n:Int}{t:ByteArray}{Y:List Int}(hY:lead dig (bytesOf t++Y)=0)(h0:0≤n)(h1:n≤most)(h2:most≤2147483647)
  (h:b.drop a=numB n++(bytesOf t++Y)):∃ p:Nat,aig_reader_number most t ⟨b,(a:Int)⟩=some (.inr (n,⟨b,(p:Int)⟩))∧b.drop p=Y∧p≤b.length:=by
 have h':=h;rw[← List.append_assoc] at h';have e:=drop_step h';have g:=le_of_drop ha h';rw[List.length_append] at e g;exact⟨_,number_text hb hl ha hY h0 h1 h2 h,e,g⟩
include hb hl in
theorem ins_go {n a:Nat}(hn:n≤20000)(ha:a≤b.length){Y:List Int}(h:b.drop a=txs inT 0 (List.replicate n ())++Y):∃ p:Nat,loopF (aig_reader_model_B0 (n:Int)) (b,(a:Int),0)=some (.inr (b,(p:Int)))∧b.drop p=Y∧p≤b.length:=
 ⟨_,rows_text (enc:=eI b) (ret:=rI b) (T:=inT) (P:=fun _ _=>True) (n:=n) (B:=aig_reader_model_B0 (n:Int)) (fun k acc a v Y hk _ ha _ h=>inI_text hb hl hn k acc a v Y hk ha h) (fun acc a _=>inI_end acc a) (List.replicate n ()) 0 [] a Y (by simp) rfl ha (fun _ _ _=>trivial) h,drop_step h,le_of_drop ha h⟩
include hb hl in
theorem las_go {I last a:Nat}{L:List Latch}(hI:I≤20000)(hn:L.length≤20000)(hla:last≤20000)(ha:a≤b.length)(hP:∀ i v,L[i]?=some v→LatP I (2*last+1) (0+i) v){Y:List Int}(h:b.drop a=txs (laT I) 0 L++Y):∃ p:Nat,loopF (aig_reader_model_B1 (I:Int) (L.length:Int) (2*((last:Int)+1))) ([],b,(a:Int),0)=some (.inr (L,b,(p:Int)))∧b.drop p=Y∧p≤b.length:=
 ⟨_,rows_text (enc:=eA b) (ret:=rA b) (T:=laT I) (P:=LatP I (2*last+1)) (n:=L.length) (B:=aig_reader_model_B1 (I:Int) (L.length:Int) (2*((last:Int)+1))) (fun k acc a v Y hk hacc ha hP h=>la_text hb hl hI hn hla k acc a v Y hk hacc ha hP h) (fun acc a _=>la_end acc a) L 0 [] a Y (by simp) rfl ha hP h,drop_step h,le_of_drop ha h⟩
include hb hl in
theorem lis_go {a:Nat}{most:Int}{l:List Int}(hn:l.length≤20000)(hm:most≤2147483647)(ha:a≤b.length)(hP:∀ x∈l,0≤x∧x≤most){Y:List Int}(h:b.drop a=txs liT 0 l++Y):∃ p:Nat,aig_reader_lits (l.length:Int) most ⟨b,(a:Int)⟩=some (.inr (l,⟨b,(p:Int)⟩))∧b.drop p=Y∧p≤b.length:=by
 refine⟨_,?_,drop_step h,le_of_drop ha h⟩;unfold aig_reader_lits;have:=rows_text (enc:=eA b) (ret:=rA b) (T:=liT) (P:=LitP most) (n:=l.length) (B:=aig_reader_lits_B0 (l.length:Int) most) (fun k acc a v Y hk hacc ha hP h=>li_text hb hl hn hm k acc a v Y hk hacc ha hP h) (fun acc a _=>li_end acc a) l 0 [] a Y (by simp) rfl ha (fun i v hv=>hP v (List.mem_of_getElem? hv)) h;unfold eA rA at this;simp only;rw[show ((0:Nat):Int)=0 from rfl] at this;rw[this];rfl
include hb hl in
theorem gas_go {I m a:Nat}{G:List And}(hI:I≤20000)(hm:m≤20000)(hn:G.length≤20000)(ha:a≤b.length)(hP:∀ i v,G[i]?=some v→GatP ((I:Int)+m) (0+i) v){Y:List Int}(h:b.drop a=txs (gaT ((I:Int)+m)) 0 G++Y):∃ p:Nat,loopF (aig_reader_model_B2 (I:Int) (m:Int) (G.length:Int)) ([],b,(a:Int),0)=some (.inr (G,b,(p:Int)))∧b.drop p=Y∧p≤b.length:=
 ⟨_,rows_text (enc:=eA b) (ret:=rA b) (T:=gaT ((I:Int)+m)) (P:=GatP ((I:Int)+m)) (n:=G.length) (B:=aig_reader_model_B2 (I:Int) (m:Int) (G.length:Int)) (fun k acc a v Y hk hacc ha hP h=>ga_text hb hl hI hm hn k acc a v Y hk hacc ha hP h) (fun acc a _=>ga_end acc a) G 0 [] a Y (by simp) rfl ha hP h,drop_step h,le_of_drop ha h⟩
end
end Go.Vid
namespace Go.Vid
open Go.Vabs
theorem hd_eq (v i l o g d c:Int)(Y:List Int):[97,97,103,32]++lnT [v,i,l,o,g,d,c]++Y=bytesOf { data:=#[97,97,103,32] }++(numB v++(bytesOf { data:=#[32] }++(numB i++(bytesOf { data:=#[32] }++(numB l++(bytesOf { data:=#[32] }++(numB o++(bytesOf { data:=#[32] }++(numB g++(bytesOf { data:=#[32] }++(numB d++(bytesOf { data:=#[32] }++(numB c++(bytesOf { data:=#[10] }++Y)))))))))))))):=by
 simp[lnT,baag,b32,b10]
def afterN (q:Aig):((Int × Int) ⊕ (List Name × List Int × Int))→((Int × Int) ⊕ (Aig × Reader_aig))
 | .inl (x,e)=>.inl (x,e)
 | .inr (ns,b',p)=>.inr (⟨q.I,q.L,q.G,q.outs,q.bad,q.con,ns⟩,⟨b',p⟩)
section
variable {b:List Int} (hb:IsB b) (hl:b.length≤1000000000)
include hb hl in
theorem model_text {I:Nat}{L:List Latch}{G:List And}{outs bad con:List Int}{names:List Name}(h:RightI ⟨I,L,G,outs,bad,con,names⟩)(hN:NamS ⟨I,L,G,outs,bad,con,[]⟩ names){Y:List Int}(hbt:b=tx ⟨I,L,G,outs,bad,con,names⟩++Y)
  {R:(Int × Int) ⊕ (List Name × List Int × Int)} (hR:loopF (aig_reader_names_B0 ⟨I,L,G,outs,bad,con,[]⟩) (names,b,((tx ⟨I,L,G,outs,bad,con,names⟩).length:Int))=some R):
  aig_reader_model ⟨b,0⟩=some (afterN ⟨I,L,G,outs,bad,con,[]⟩ R):=by
 have hbd:=h.bd;have l1:=h.outs.2;have l2:=h.bad.2;have l3:=h.con.2;have hn:=h.nms;simp only at hbd l1 l2 l3 hn;have hv:varsN ⟨I,L,G,outs,bad,con,names⟩=((I+L.length+G.length:Nat):Int):=by unfold varsN; simp only; omega
 have hv':I+L.length+G.length≤20000:=by omega
 have hq:∀ c,0≤manyN ⟨I,L,G,outs,bad,con,[]⟩ c∧manyN ⟨I,L,G,outs,bad,con,[]⟩ c≤20000:=by
  intro c;unfold manyN;simp only
  repeat' split
  all_goals omega
 have tot:=congrArg List.length hbt;rw[List.length_append] at tot;have h0:b.drop 0=[97,97,103,32]++lnT [((I+L.length+G.length:Nat):Int),(I:Int),(L.length:Int),(outs.length:Int),(G.length:Int),(bad.length:Int),(con.length:Int)]++(txs inT 0 (List.replicate I ())++(txs (laT I) 0 L++(txs liT 0 outs++(txs liT 0 bad++(txs liT 0 con++(txs (gaT ((I:Int)+L.length)) 0 G++(txs naT 0 names++Y))))))):=by
  rw[List.drop_zero]
  conv=>lhs; rw[hbt]
  unfold tx hdT ins las gas nas;rw[lis_eq,hv];simp only[Int.toNat_natCast,List.append_assoc]
 rw[hd_eq] at h0;obtain⟨p0,s0,d0,q0⟩:=word_go hb hl (Nat.zero_le _) h0;obtain⟨p1,s1,d1,q1⟩:=number_go (most:=20000) hb hl q0 (lead_sp _) (by omega) (by omega) (by omega) d0;obtain⟨p2,s2,d2,q2⟩:=number_go (most:=20000) hb hl q1 (lead_sp _) (by omega) (by omega) (by omega) d1;obtain⟨p3,s3,d3,q3⟩:=number_go (most:=20000) hb hl q2 (lead_sp _) (by omega) (by omega) (by omega) d2;obtain⟨p4,s4,d4,q4⟩:=number_go (most:=2000) hb hl q3 (lead_sp _) (by omega) (by omega) (by omega) d3;obtain⟨p5,s5,d5,q5⟩:=number_go (most:=20000) hb hl q4 (lead_sp _) (by omega) (by omega) (by omega) d4;obtain⟨p6,s6,d6,q6⟩:=number_go (most:=2000) hb hl q5 (lead_sp _) (by omega) (by omega) (by omega) d5
 obtain⟨p7,s7,d7,q7⟩:=number_go (most:=2000) hb hl q6 (lead_lf _) (by omega) (by omega) (by omega) d6;obtain⟨p8,s8,d8,q8⟩:=ins_go hb hl (by omega) q7 d7;obtain⟨p9,s9,d9,q9⟩:=las_go hb hl (last:=I+L.length+G.length) (by omega) (by omega) hv' q8 (fun i v hiv=>by
  have hi:=(List.getElem?_eq_some_iff.1 hiv).1;obtain⟨g1,g2,g3⟩:=h.lat i hi v hiv;rw[hv] at g2;simp only at g3;exact⟨g1,by omega,by omega,by omega,by omega⟩) d8
 have hlit:∀ x∈outs++(bad++con),0≤x∧x≤2*((I+L.length+G.length:Nat):Int)+1:=fun x hx=>by have:=h.lits x hx; rw[hv] at this; exact this
 obtain⟨pA,sA,dA,qA⟩:=lis_go hb hl (most:=2*((I+L.length+G.length:Nat):Int)+1) (by omega) (by omega) q9 (fun x hx=>hlit x (List.mem_append_left _ hx)) d9;obtain⟨pB,sB,dB,qB⟩:=lis_go hb hl (most:=2*((I+L.length+G.length:Nat):Int)+1) (by omega) (by omega) qA (fun x hx=>hlit x (List.mem_append_right _ (List.mem_append_left _ hx))) dA;obtain⟨pC,sC,dC,qC⟩:=lis_go hb hl (most:=2*((I+L.length+G.length:Nat):Int)+1) (by omega) (by omega) qB (fun x hx=>hlit x (List.mem_append_right _ (List.mem_append_right _ hx))) dB;obtain⟨pD,sD,dD,qD⟩:=gas_go hb hl (I:=I) (m:=L.length) (by omega) (by omega) (by omega) qC (fun i v hiv=>by
  have hi:=(List.getElem?_eq_some_iff.1 hiv).1;obtain⟨g1,g2,g3⟩:=h.gat i hi v hiv;simp only at g3;exact⟨by omega,by omega,by omega,by omega⟩) dC
 have sE:=nams_text hb hl hq names [] 0 pD Y (by simpa using hn) (by simpa using hN) dD;have hpos:pD+(txs naT 0 names).length=(tx ⟨I,L,G,outs,bad,con,names⟩).length:=by
  have:=congrArg List.length dD;rw[List.length_drop,List.length_append] at this;omega
 rw[hpos,List.nil_append,hR] at sE;unfold aig_reader_model;rw[show (0:Int)=((0:Nat):Int) from rfl,s0,Option.bind_some];simp only;rw[s1,Option.bind_some];simp only;rw[s2,Option.bind_some];simp only;rw[s3,Option.bind_some];simp only;rw[s4,Option.bind_some];simp only;rw[s5,Option.bind_some];simp only;rw[s6,Option.bind_some];simp only;rw[s7,Option.bind_some];simp only;rw[iadd_ok (a:=(I:Int)) (by omega) (by omega),iadd_ok (by omega) (by omega),if_pos (by rw[ieq_iff]; omega),mod1 (by omega) (by omega),Option.bind_some];rw[show ((0:Nat):Int)=0 from rfl,s8,Option.bind_some];simp only;rw[s9,Option.bind_some]
 simp only;rw[isub_ok (by omega) (by omega),show 2*(((I+L.length+G.length:Nat):Int)+1)-1=2*((I+L.length+G.length:Nat):Int)+1 by omega,sA,Option.bind_some];simp only;rw[sB,Option.bind_some];simp only;rw[sC,Option.bind_some];simp only;rw[sD,Option.bind_some];simp only;unfold aig_reader_names;simp only;rw[sE,Option.bind_some]
 cases R with
 | inl r=>obtain⟨x,e⟩:=r; rfl
 | inr r=>obtain⟨ns,b',p⟩:=r; rfl
end
end Go.Vid

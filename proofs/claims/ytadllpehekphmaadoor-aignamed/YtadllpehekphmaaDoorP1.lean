/- Plain laws: which models are right. No condition. -/
import Derived.Test.YtadllpehekphmaaDoorAigN0
import Derived.Test.YtadllpehekphmaaDoorGw
set_option linter.unusedSimpArgs false
set_option linter.unusedVariables false
set_option maxRecDepth 20000
namespace Go.Vid
open Go.Vabs
def Says (m:Option Bool)(p:Prop):Prop:=∃ b,m=some b∧(b=true↔p)
theorem Says.yes {p:Prop}(h:p):Says (some true) p:=⟨_,rfl,by simp[h]⟩
theorem Says.no {p:Prop}(h:¬ p):Says (some false) p:=⟨_,rfl,by simp[h]⟩
theorem Says.iff {m:Option Bool}{p q:Prop}(h:Says m p)(e:p↔q):Says m q:=by obtain⟨b,h1,h2⟩:=h; exact⟨b,h1,h2.trans e⟩
theorem loop_all {b:Int→Option (Int ⊕ (Unit ⊕ Unit))}(n:Nat)(p:Nat→Prop)(h1:∀ k:Nat,k<n→(p k∧b (k:Int)=some (.inl ((k+1:Nat):Int)))∨(¬ p k∧b (k:Int)=some (.inr (.inl ()))))(h2:b (n:Int)=some (.inr (.inr ()))):
  (loopF b 0=some (.inl ())∧¬ ∀ k,k<n→p k)∨(loopF b 0=some (.inr ())∧∀ k,k<n→p k):=by
 classical
 refine Or.elim (loop_find (b:=b) n (fun k=>decide (¬ p k)) (fun _=>()) () (fun k hk=>?_) h2) ?_ ?_
 ·rcases h1 k hk with ⟨h,e⟩ | ⟨h,e⟩
  ·rw[e,if_neg (by simp[h])]
  ·rw[e,if_pos (by simp[h])]
 ·rintro⟨k,hk,hq,e⟩;exact .inl ⟨e,fun h=>(of_decide_eq_true hq) (h k hk)⟩
 ·rintro⟨hq,e⟩;refine .inr ⟨e,fun k hk=>?_⟩;have:=of_decide_eq_false (hq k hk);exact Classical.not_not.1 this
def kindN (c:Int):Int:=if c=105 then 0 else if c=108 then 1 else if c=111 then 2 else if c=98 then 3 else if c=99 then 4 else -1
def manyN (a:Aig)(c:Int):Int:=if c=105 then a.I else if c=108 then a.L.length else if c=111 then a.outs.length else if c=98 then a.bad.length else if c=99 then a.con.length else 0
def BehP (x y:Name):Prop:=kindN x.kind<kindN y.kind∨kindN x.kind=kindN y.kind∧x.pos<y.pos
theorem findB_kinds:∀ c:Nat,c<256→findB { data:=#[105,108,111,98,99] } (c:Int)=kindN (c:Int):=by decide +kernel
theorem IndexByte_kinds {c:Int}(h0:0≤c)(h1:c≤255):strings_IndexByte { data:=#[105,108,111,98,99] } c=some (kindN c):=by
 obtain⟨n,rfl⟩:=Int.eq_ofNat_of_zero_le h0;unfold strings_IndexByte internal_stringslite_IndexByte;rw[Option.bind_some,findB_kinds n (by omega)]
theorem refkind_eq (c:Int):ref06_kind c=some (kindN c):=by
 have s:∀ (k:Nat) (t:Int),k<5→([105,108,111,98,99]:List Int)[k]?=some t→ref06_kind_B0 c (k:Int)=some (if t=c then .inr (.inl (k:Int)) else .inl ((k+1:Nat):Int)):=by
  intro k t hk ht;unfold ref06_kind_B0;simp only;rw[if_pos (by rw[ilt_iff]; omega),if_pos (by simp[inI]; omega),nthI_nat,ht,Option.bind_some]
  by_cases h:t=c
  ·rw[if_pos h,if_pos (by rw[ieq_iff]; exact h)]
  ·rw[if_neg h,if_neg (by rw[ieq_iff]; exact h),inc_ok (by omega)]
 unfold ref06_kind kindN
 by_cases h0:c=105
 ·rw[if_pos h0,loopF_inr (r:=.inl 0) (by rw[show (0:Int)=((0:Nat):Int) from rfl,s 0 105 (by omega) rfl,if_pos h0.symm])];rfl
 rw[if_neg h0,loopF_inl (j:=((1:Nat):Int)) (by rw[show (0:Int)=((0:Nat):Int) from rfl,s 0 105 (by omega) rfl,if_neg (Ne.symm h0)])]
 by_cases h1:c=108
 ·rw[if_pos h1,loopF_inr (r:=.inl 1) (by rw[s 1 108 (by omega) rfl,if_pos h1.symm]; rfl)];rfl
 rw[if_neg h1,loopF_inl (j:=((2:Nat):Int)) (by rw[s 1 108 (by omega) rfl,if_neg (Ne.symm h1)])]
 by_cases h2:c=111
 ·rw[if_pos h2,loopF_inr (r:=.inl 2) (by rw[s 2 111 (by omega) rfl,if_pos h2.symm]; rfl)];rfl
 rw[if_neg h2,loopF_inl (j:=((3:Nat):Int)) (by rw[s 2 111 (by omega) rfl,if_neg (Ne.symm h2)])]
 by_cases h3:c=98
 ·rw[if_pos h3,loopF_inr (r:=.inl 3) (by rw[s 3 98 (by omega) rfl,if_pos h3.symm]; rfl)];rfl
 rw[if_neg h3,loopF_inl (j:=((4:Nat):Int)) (by rw[s 3 98 (by omega) rfl,if_neg (Ne.symm h3)])]
 by_cases h4:c=99
 ·rw[if_pos h4,loopF_inr (r:=.inl 4) (by rw[s 4 99 (by omega) rfl,if_pos h4.symm]; rfl)];rfl
 rw[if_neg h4,loopF_inl (j:=((5:Nat):Int)) (by rw[s 4 99 (by omega) rfl,if_neg (Ne.symm h4)]),loopF_inr (r:=.inr ()) (by rfl)];rfl
theorem many_eq (a:Aig)(c:Int):aig_many a c=some (manyN a c):=by
 unfold aig_many manyN;simp only[ieq_iff,lenI_eq]
 repeat' split
 all_goals first | rfl | omega
theorem refmany_eq (a:Aig)(c:Int):ref06_many a (kindN c)=some (manyN a c):=by
 unfold ref06_many manyN kindN;simp only[ieq_iff,lenI_eq]
 repeat' split
 all_goals first | rfl | omega
theorem behind_says {x y:Name}(hx:0≤x.kind∧x.kind≤255)(hy:0≤y.kind∧y.kind≤255):Says (aig_behind x y) (BehP x y):=by
 unfold aig_behind BehP;rw[IndexByte_kinds hx.1 hx.2,IndexByte_kinds hy.1 hy.2,Option.bind_some,Option.bind_some];simp only[ilt_iff,ieq_iff]
 split
 ·exact .yes (.inl (by assumption))
 ·split
  ·rename_i h1 h2
   by_cases h:x.pos<y.pos
   ·rw[show ilt x.pos y.pos=true by rw[ilt_iff]; exact h]; exact .yes (.inr ⟨h2,h⟩)
   ·rw[show ilt x.pos y.pos=false by rw[← Bool.not_eq_true,ilt_iff]; exact h]; exact .no (fun e=>e.elim h1 (fun e=>h e.2))
  ·rename_i h1 h2;exact .no (fun e=>e.elim h1 (fun e=>h2 e.1))
theorem refBehind_says (x y:Name):Says (ref06_Behind x y) (BehP x y):=by
 unfold ref06_Behind BehP;rw[refkind_eq,refkind_eq,Option.bind_some,Option.bind_some];simp only[ilt_iff,ieq_iff]
 split
 ·exact .yes (.inl (by assumption))
 ·split
  ·rename_i h1 h2
   by_cases h:x.pos<y.pos
   ·rw[show ilt x.pos y.pos=true by rw[ilt_iff]; exact h]; exact .yes (.inr ⟨h2,h⟩)
   ·rw[show ilt x.pos y.pos=false by rw[← Bool.not_eq_true,ilt_iff]; exact h]; exact .no (fun e=>e.elim h1 (fun e=>h e.2))
  ·rename_i h1 h2;exact .no (fun e=>e.elim h1 (fun e=>h2 e.1))
end Go.Vid
namespace Go.Vid
open Go.Vabs
def varsN (a:Aig):Int:=a.I+a.L.length+a.G.length
def LitsI (a:Aig)(l:List Int):Prop:=(∀ k,k<l.length→∀ x,l[k]?=some x→0≤x∧x≤2*varsN a+1)∧l.length≤2000
def LatI (a:Aig)(k:Nat):Prop:=∀ x,a.L[k]?=some x→0≤x.next∧x.next≤2*varsN a+1∧(x.reset=0∨x.reset=1∨x.reset=2*(a.I+k+1))
def GatI (a:Aig)(k:Nat):Prop:=∀ x,a.G[k]?=some x→0≤x.b∧x.b≤x.a∧x.a<2*(a.I+a.L.length+k+1)
def NamI (a:Aig)(k:Nat):Prop:=∀ x,a.names[k]?=some x→0≤x.pos∧x.pos<manyN a x.kind∧nameB (bytesOf x.s)=true∧(∀ y,0<k→a.names[k-1]?=some y→BehP y x)
structure RightI (a:Aig):Prop where
 pos:0≤a.I
 few:varsN a≤20000
 lat:∀ k,k<a.L.length→LatI a k
 gat:∀ k,k<a.G.length→GatI a k
 outs:LitsI a a.outs
 bad:LitsI a a.bad
 con:LitsI a a.con
 nam:∀ k,k<a.names.length→NamI a k
 nms:a.names.length≤2000
structure Okay (a:Aig):Prop where
 kinds:∀ x∈a.names,(0≤x.kind∧x.kind≤255)∧x.s.size≤1000000000
 lens:a.L.length≤100000000000000∧a.G.length≤100000000000000∧a.outs.length≤100000000000000∧a.bad.length≤100000000000000∧a.con.length≤100000000000000∧a.names.length≤100000000000000
 fit:-9223372036854775808≤a.I∧a.I≤9223372036854775807
theorem ilt_says (a b:Int):Says (some (ilt a b)) (a<b):=⟨_,rfl,by rw[ilt_iff]⟩
theorem odd_says {a:Aig}(hv:0≤varsN a∧varsN a≤20000)(hI:0≤a.I)(l:Int):Says (aig_Right_1_odd l a) (¬ (0≤l∧l≤2*varsN a+1)):=by
 unfold aig_Right_1_odd aig_Vars;unfold varsN at *;simp only[ilt_iff,lenI_eq,Option.bind_some];rw[iadd_ok (a:=a.I) (by omega) (by omega),iadd_ok (a:=a.I+_) (by omega) (by omega),imul_ok (by omega) (by omega),iadd_ok (by omega) (by omega)]
 split
 ·exact .yes (by omega)
 ·exact (ilt_says _ _).iff (by omega)
theorem IndexOdd {a:Aig}(hv:0≤varsN a∧varsN a≤20000)(hI:0≤a.I)(l:List Int)(hl:l.length≤100000000000000):Says (slices_ContainsFunc_odd l a) (¬ ∀ k,k<l.length→∀ x,l[k]?=some x→0≤x∧x≤2*varsN a+1):=by
 unfold slices_ContainsFunc_odd slices_IndexFunc_odd
 classical
 refine Or.elim (loop_find (b:=slices_IndexFunc_odd_B0 l a) l.length (fun k=>decide (¬ ∀ x,l[k]?=some x→0≤x∧x≤2*varsN a+1)) (fun k=>(k:Int)) () (fun k hk=>?_) ?_) ?_ ?_
 ·unfold slices_IndexFunc_odd_B0;simp only;obtain⟨b,h1,h2⟩:=odd_says hv hI l[k];rw[if_pos (by rw[lt_len]; exact hk),getI_nat,List.getElem?_eq_getElem hk,Option.bind_some,h1,Option.bind_some]
  by_cases h:b=true
  ·rw[if_pos h,if_pos (by have:=h2.1 h; simp only[decide_eq_true_eq]; intro e; exact this (e _ rfl))]
  ·rw[if_neg h,if_neg (by
    have:¬ ¬ (0≤l[k]∧l[k]≤2*varsN a+1):=fun e=>h (h2.2 e);simp only[decide_eq_true_eq,Classical.not_not];intro x hx;injection hx with hx;subst hx;exact Classical.not_not.1 this),inc_ok (by omega)]
 ·unfold slices_IndexFunc_odd_B0;simp only;rw[if_neg (by rw[lt_len]; omega)]
 ·rintro⟨k,hk,hq,e⟩;rw[e];simp only[Option.bind_some];rw[show ile 0 (k:Int)=true by rw[ile_iff]; omega];exact .yes (fun h=>of_decide_eq_true hq (h k hk))
 ·rintro⟨hq,e⟩;rw[e];simp only[Option.bind_some];refine .no (fun h=>h (fun k hk=>?_));have:=of_decide_eq_false (hq k hk);exact Classical.not_not.1 this
theorem lits_says {a:Aig}(hv:0≤varsN a∧varsN a≤20000)(l:List Int)(hl:l.length≤100000000000000):Says (ref06_lits l (varsN a)) (LitsI a l):=by
 unfold ref06_lits LitsI;refine Or.elim (loop_all (b:=ref06_lits_B0 l (varsN a)) l.length (fun k=>∀ x,l[k]?=some x→0≤x∧x≤2*varsN a+1) (fun k hk=>?_) ?_) ?_ ?_
 ·unfold ref06_lits_B0;simp only;rw[if_pos (by rw[lt_len]; exact hk),getI_nat,List.getElem?_eq_getElem hk,Option.bind_some,imul_ok (by omega) (by omega),iadd_ok (a:=2*varsN a) (by omega) (by omega),inc_ok (by omega)];simp only[ilt_iff]
  by_cases h1:l[k]<0
  ·rw[if_pos h1];exact .inr ⟨fun e=>by have:=e _ rfl; omega,rfl⟩
  ·rw[if_neg h1]
   by_cases h2:2*varsN a+1<l[k]
   ·rw[if_pos h2];exact .inr ⟨fun e=>by have:=e _ rfl; omega,rfl⟩
   ·rw[if_neg h2];refine .inl ⟨fun x hx=>?_,rfl⟩;injection hx with hx;omega
 ·unfold ref06_lits_B0;simp only;rw[if_neg (by rw[lt_len]; omega)]
 ·rintro⟨e,hq⟩;rw[e];exact .no (fun h=>hq h.1)
 ·rintro⟨e,hq⟩;rw[e];refine⟨_,rfl,?_⟩;rw[ile_iff,lenI_eq];exact⟨fun h=>⟨hq,by omega⟩,fun h=>by have:=h.2; omega⟩
end Go.Vid
namespace Go.Vid
open Go.Vabs
def LoopSays (m:Option (Unit ⊕ Unit))(p:Prop):Prop:=(m=some (.inl ())∧¬ p)∨(m=some (.inr ())∧p)
theorem lat_loop {a:Aig}(hv:0≤varsN a∧varsN a≤20000)(hI:0≤a.I):LoopSays (loopF (aig_Right_B0 a) 0) (∀ k,k<a.L.length→LatI a k):=by
 have hv':=hv;unfold varsN at hv';refine loop_all a.L.length (LatI a) (fun k hk=>?_) ?_
 ·unfold aig_Right_B0 LatI;simp only;obtain⟨b,h1,h2⟩:=odd_says hv hI a.L[k].next;rw[if_pos (by rw[lt_len]; exact hk),getI_nat,List.getElem?_eq_getElem hk,Option.bind_some,h1,Option.bind_some,iadd_ok (a:=a.I) (by omega) (by omega),iadd_ok (a:=a.I+1) (by omega) (by omega),imul_ok (by omega) (by omega),inc_ok (by omega)];simp only[ieq_iff]
  by_cases hb:b=true
  ·rw[if_pos hb];exact .inr ⟨fun e=>h2.1 hb (by have:=e _ rfl; exact⟨this.1,this.2.1⟩),rfl⟩
  ·rw[if_neg hb];have hn:=Classical.not_not.1 (fun e=>hb (h2.2 e))
   by_cases r0:a.L[k].reset=0
   ·rw[if_pos r0];exact .inl ⟨fun x hx=>by injection hx with hx; subst hx; exact⟨hn.1,hn.2,.inl r0⟩,rfl⟩
   rw[if_neg r0]
   by_cases r1:a.L[k].reset=1
   ·rw[if_pos r1];exact .inl ⟨fun x hx=>by injection hx with hx; subst hx; exact⟨hn.1,hn.2,.inr (.inl r1)⟩,rfl⟩
   rw[if_neg r1]
   by_cases r2:a.L[k].reset=2*(a.I+1+k)
   ·rw[if_pos r2];exact .inl ⟨fun x hx=>by injection hx with hx; subst hx; exact⟨hn.1,hn.2,.inr (.inr (by omega))⟩,rfl⟩
   rw[if_neg r2];exact .inr ⟨fun e=>by have:=(e _ rfl).2.2; omega,rfl⟩
 ·unfold aig_Right_B0;simp only;rw[if_neg (by rw[lt_len]; omega)]
theorem reflat_loop {a:Aig}(hv:0≤varsN a∧varsN a≤20000)(hI:0≤a.I):LoopSays (loopF (ref06_Right_B0 a (varsN a)) 0) (∀ k,k<a.L.length→LatI a k):=by
 have hv':=hv;unfold varsN at hv';refine loop_all a.L.length (LatI a) (fun k hk=>?_) ?_
 ·unfold ref06_Right_B0 LatI;simp only;rw[if_pos (by rw[lt_len]; exact hk),getI_nat,List.getElem?_eq_getElem hk,Option.bind_some,imul_ok (a:=2) (b:=varsN a) (by omega) (by omega),iadd_ok (a:=2*varsN a) (by omega) (by omega),iadd_ok (a:=a.I) (by omega) (by omega),iadd_ok (a:=a.I+k) (by omega) (by omega),imul_ok (by omega) (by omega),inc_ok (by omega)];simp only[ieq_iff,ilt_iff]
  by_cases h1:a.L[k].next<0
  ·rw[if_pos h1];exact .inr ⟨fun e=>by have:=e _ rfl; omega,rfl⟩
  rw[if_neg h1]
  by_cases h2:2*varsN a+1<a.L[k].next
  ·rw[if_pos h2];exact .inr ⟨fun e=>by have:=e _ rfl; omega,rfl⟩
  rw[if_neg h2]
  by_cases r0:a.L[k].reset=0
  ·rw[if_pos r0];exact .inl ⟨fun x hx=>by injection hx with hx; subst hx; exact⟨by omega,by omega,.inl r0⟩,rfl⟩
  rw[if_neg r0]
  by_cases r1:a.L[k].reset=1
  ·rw[if_pos r1];exact .inl ⟨fun x hx=>by injection hx with hx; subst hx; exact⟨by omega,by omega,.inr (.inl r1)⟩,rfl⟩
  rw[if_neg r1]
  by_cases r2:a.L[k].reset=2*(a.I+k+1)
  ·rw[if_pos r2];exact .inl ⟨fun x hx=>by injection hx with hx; subst hx; exact⟨by omega,by omega,.inr (.inr (by omega))⟩,rfl⟩
  rw[if_neg r2];exact .inr ⟨fun e=>by have:=(e _ rfl).2.2; omega,rfl⟩
 ·unfold ref06_Right_B0;simp only;rw[if_neg (by rw[lt_len]; omega)]
theorem gat_loop {a:Aig}(hv:0≤varsN a∧varsN a≤20000)(hI:0≤a.I):LoopSays (loopF (aig_Right_B1 a) 0) (∀ k,k<a.G.length→GatI a k):=by
 have hv':=hv;unfold varsN at hv';refine loop_all a.G.length (GatI a) (fun k hk=>?_) ?_
 ·unfold aig_Right_B1 GatI;simp only;rw[if_pos (by rw[lt_len]; exact hk),getI_nat,List.getElem?_eq_getElem hk,Option.bind_some,lenI_eq,iadd_ok (a:=a.I) (by omega) (by omega),iadd_ok (a:=a.I+_) (b:=1) (by omega) (by omega),iadd_ok (a:=a.I+_+1) (by omega) (by omega),imul_ok (by omega) (by omega),inc_ok (by omega)];simp only[ile_iff,ilt_iff]
  by_cases h1:a.G[k].b<0
  ·rw[if_pos h1];exact .inr ⟨fun e=>by have:=e _ rfl; omega,rfl⟩
  rw[if_neg h1]
  by_cases h2:a.G[k].a<a.G[k].b
  ·rw[if_pos h2];exact .inr ⟨fun e=>by have:=e _ rfl; omega,rfl⟩
  rw[if_neg h2]
  by_cases h3:2*(a.I+(a.L.length:Int)+1+k)≤a.G[k].a
  ·rw[if_pos h3];exact .inr ⟨fun e=>by have:=e _ rfl; omega,rfl⟩
  rw[if_neg h3];exact .inl ⟨fun x hx=>by injection hx with hx; subst hx; omega,rfl⟩
 ·unfold aig_Right_B1;simp only;rw[if_neg (by rw[lt_len]; omega)]
theorem refgat_loop {a:Aig}(hv:0≤varsN a∧varsN a≤20000)(hI:0≤a.I):LoopSays (loopF (ref06_Right_B1 a) 0) (∀ k,k<a.G.length→GatI a k):=by
 have hv':=hv;unfold varsN at hv';refine loop_all a.G.length (GatI a) (fun k hk=>?_) ?_
 ·unfold ref06_Right_B1 GatI;simp only;rw[if_pos (by rw[lt_len]; exact hk),getI_nat,List.getElem?_eq_getElem hk,Option.bind_some,lenI_eq,iadd_ok (a:=a.I) (by omega) (by omega),iadd_ok (a:=a.I+_) (b:=k) (by omega) (by omega),iadd_ok (a:=a.I+_+k) (by omega) (by omega),imul_ok (by omega) (by omega),inc_ok (by omega)];simp only[ile_iff,ilt_iff]
  by_cases h1:a.G[k].b<0
  ·rw[if_pos h1];exact .inr ⟨fun e=>by have:=e _ rfl; omega,rfl⟩
  rw[if_neg h1]
  by_cases h2:a.G[k].a<a.G[k].b
  ·rw[if_pos h2];exact .inr ⟨fun e=>by have:=e _ rfl; omega,rfl⟩
  rw[if_neg h2]
  by_cases h3:2*(a.I+(a.L.length:Int)+k+1)≤a.G[k].a
  ·rw[if_pos h3];exact .inr ⟨fun e=>by have:=e _ rfl; omega,rfl⟩
  rw[if_neg h3];exact .inl ⟨fun x hx=>by injection hx with hx; subst hx; omega,rfl⟩
 ·unfold ref06_Right_B1;simp only;rw[if_neg (by rw[lt_len]; omega)]
theorem nam_loop {a:Aig}(ho:Okay a):LoopSays (loopF (aig_isNames_B0 a) 0) (∀ k,k<a.names.length→NamI a k):=by
 refine loop_all a.names.length (NamI a) (fun k hk=>?_) ?_
 ·have hlen:=ho.lens.2.2.2.2.2;unfold aig_isNames_B0 NamI;simp only;have hx:=ho.kinds _ (List.getElem_mem hk);rw[if_pos (by rw[lt_len]; exact hk),getI_nat,List.getElem?_eq_getElem hk,Option.bind_some,many_eq,Option.bind_some,IsName_eq hx.2,Option.bind_some,inc_ok (by omega)];simp only[ile_iff,ilt_iff]
  by_cases h1:a.names[k].pos<0
  ·rw[if_pos h1];exact .inr ⟨fun e=>by have:=e _ rfl; omega,rfl⟩
  rw[if_neg h1]
  by_cases h2:manyN a a.names[k].kind≤a.names[k].pos
  ·rw[if_pos h2];exact .inr ⟨fun e=>by have:=e _ rfl; omega,rfl⟩
  rw[if_neg h2]
  by_cases h3:nameB (bytesOf a.names[k].s)=true
  ·rw[if_pos h3]
   by_cases h4:(0:Int)<k
   ·rw[if_pos h4,isub_ok (by omega) (by omega),show (k:Int)-1=((k-1:Nat):Int) by omega,getI_nat,List.getElem?_eq_getElem (by omega:k-1<a.names.length),Option.bind_some];have hy:=ho.kinds _ (List.getElem_mem (by omega:k-1<a.names.length));obtain⟨b,e1,e2⟩:=behind_says hy.1 hx.1;rw[e1,Option.bind_some]
    by_cases hb:b=true
    ·rw[if_pos hb];refine .inl ⟨fun x hx=>?_,rfl⟩;injection hx with hx;subst hx;refine⟨by omega,by omega,h3,fun y _ hy=>?_⟩;injection hy with hy;subst hy;exact e2.1 hb
    ·rw[if_neg hb];exact .inr ⟨fun e=>hb (e2.2 ((e _ rfl).2.2.2 _ (by omega) rfl)),rfl⟩
   ·rw[if_neg h4];refine .inl ⟨fun x hx=>?_,rfl⟩;injection hx with hx;subst hx;exact⟨by omega,by omega,h3,fun y h=>by omega⟩
  ·rw[if_neg h3];exact .inr ⟨fun e=>h3 (e _ rfl).2.2.1,rfl⟩
 ·unfold aig_isNames_B0;simp only;rw[if_neg (by rw[lt_len]; omega)]
theorem refnam_loop {a:Aig}(ho:Okay a):LoopSays (loopF (ref06_Right_B2 a) 0) (∀ k,k<a.names.length→NamI a k):=by
 refine loop_all a.names.length (NamI a) (fun k hk=>?_) ?_
 ·have hlen:=ho.lens.2.2.2.2.2;unfold ref06_Right_B2 NamI;simp only;have hx:=ho.kinds _ (List.getElem_mem hk);rw[if_pos (by rw[lt_len]; exact hk),getI_nat,List.getElem?_eq_getElem hk,Option.bind_some,refkind_eq,Option.bind_some,refmany_eq,Option.bind_some,refIsName_eq hx.2,Option.bind_some,inc_ok (by omega)];simp only[ile_iff,ilt_iff]
  by_cases h3:nameB (bytesOf a.names[k].s)=true
  ·rw[if_pos h3]
   by_cases h1:a.names[k].pos<0
   ·rw[if_pos h1];exact .inr ⟨fun e=>by have:=e _ rfl; omega,rfl⟩
   rw[if_neg h1]
   by_cases h2:manyN a a.names[k].kind≤a.names[k].pos
   ·rw[if_pos h2];exact .inr ⟨fun e=>by have:=e _ rfl; omega,rfl⟩
   rw[if_neg h2]
   by_cases h4:(0:Int)<k
   ·rw[if_pos h4,isub_ok (by omega) (by omega),show (k:Int)-1=((k-1:Nat):Int) by omega,getI_nat,List.getElem?_eq_getElem (by omega:k-1<a.names.length),Option.bind_some];obtain⟨b,e1,e2⟩:=refBehind_says a.names[k-1] a.names[k];rw[e1,Option.bind_some]
    by_cases hb:b=true
    ·rw[if_pos hb];refine .inl ⟨fun x hx=>?_,rfl⟩;injection hx with hx;subst hx;refine⟨by omega,by omega,h3,fun y _ hy=>?_⟩;injection hy with hy;subst hy;exact e2.1 hb
    ·rw[if_neg hb];exact .inr ⟨fun e=>hb (e2.2 ((e _ rfl).2.2.2 _ (by omega) rfl)),rfl⟩
   ·rw[if_neg h4];refine .inl ⟨fun x hx=>?_,rfl⟩;injection hx with hx;subst hx;exact⟨by omega,by omega,h3,fun y h=>by omega⟩
  ·rw[if_neg h3];exact .inr ⟨fun e=>h3 (e _ rfl).2.2.1,rfl⟩
 ·unfold ref06_Right_B2;simp only;rw[if_neg (by rw[lt_len]; omega)]
end Go.Vid
namespace Go.Vid
open Go.Vabs
theorem rows_loop {a:Aig}(hv:0≤varsN a∧varsN a≤20000)(hI:0≤a.I)(ho:Okay a):LoopSays (loopF (aig_Right_B2 a) 0) (LitsI a a.outs∧LitsI a a.bad∧LitsI a a.con):=by
 have s:∀ (k:Nat) (l:List Int),k<3→([a.outs,a.bad,a.con]:List (List Int))[k]?=some l→l.length≤100000000000000→(LitsI a l∧aig_Right_B2 a (k:Int)=some (.inl ((k+1:Nat):Int)))∨(¬ LitsI a l∧aig_Right_B2 a (k:Int)=some (.inr (.inl ()))):=by
  intro k l hk hl hlen;unfold aig_Right_B2;simp only;obtain⟨b,e1,e2⟩:=IndexOdd hv hI l hlen;rw[if_pos (by rw[ilt_iff]; omega),if_pos (by simp[inI]; omega),nthI_nat,hl,Option.bind_some,e1,Option.bind_some,lenI_eq,inc_ok (by omega)];simp only[ilt_iff]
  by_cases h1:(2000:Int)<l.length
  ·rw[if_pos h1];exact .inr ⟨fun e=>by have:=e.2; omega,rfl⟩
  rw[if_neg h1]
  by_cases hb:b=true
  ·rw[if_pos hb];exact .inr ⟨fun e=>e2.1 hb e.1,rfl⟩
  ·rw[if_neg hb];exact .inl ⟨⟨Classical.not_not.1 (fun e=>hb (e2.2 e)),by omega⟩,rfl⟩
 have hl:=ho.lens;unfold LoopSays
 rcases s 0 a.outs (by omega) rfl hl.2.2.1 with ⟨h0,e0⟩ | ⟨h0,e0⟩
 ·rw[loopF_inl (i:=0) (j:=((1:Nat):Int)) e0]
  rcases s 1 a.bad (by omega) rfl hl.2.2.2.1 with ⟨h1,e1⟩ | ⟨h1,e1⟩
  ·rw[loopF_inl (j:=((2:Nat):Int)) e1]
   rcases s 2 a.con (by omega) rfl hl.2.2.2.2.1 with ⟨h2,e2⟩ | ⟨h2,e2⟩
   ·rw[loopF_inl (j:=((3:Nat):Int)) e2,loopF_inr (r:=.inr ()) (by rfl)];exact .inr ⟨rfl,h0,h1,h2⟩
   ·rw[loopF_inr e2];exact .inl ⟨rfl,fun e=>h2 e.2.2⟩
  ·rw[loopF_inr e1];exact .inl ⟨rfl,fun e=>h1 e.2.1⟩
 ·rw[loopF_inr (i:=0) e0];exact .inl ⟨rfl,fun e=>h0 e.1⟩
theorem isNames_says {a:Aig}(ho:Okay a):Says (aig_isNames a) ((∀ k,k<a.names.length→NamI a k)∧a.names.length≤2000):=by
 unfold aig_isNames
 rcases nam_loop ho with ⟨e,h⟩ | ⟨e,h⟩
 ·rw[e];exact .no (fun f=>h f.1)
 ·rw[e];refine⟨_,rfl,?_⟩;rw[ile_iff,lenI_eq];exact⟨fun f=>⟨h,by omega⟩,fun f=>by have:=f.2; omega⟩
theorem right_says {a:Aig}(ho:Okay a):Says (aig_Right a) (RightI a):=by
 have hlen:=ho.lens;have hfit:=ho.fit;unfold aig_Right;simp only[ilt_iff,lenI_eq]
 by_cases h0:a.I<0
 ·rw[if_pos h0]; exact .no (fun h=>by have:=h.pos; omega)
 rw[if_neg h0]
 by_cases h1:20000<a.I
 ·rw[if_pos h1]; exact .no (fun h=>by have:=h.few; unfold varsN at this; omega)
 rw[if_neg h1]
 by_cases h2:(20000:Int)<a.L.length
 ·rw[if_pos h2]; exact .no (fun h=>by have:=h.few; unfold varsN at this; omega)
 rw[if_neg h2]
 by_cases h3:(20000:Int)<a.G.length
 ·rw[if_pos h3]; exact .no (fun h=>by have:=h.few; unfold varsN at this; omega)
 rw[if_neg h3];unfold aig_Vars;simp only[lenI_eq,Option.bind_some];rw[iadd_ok (a:=a.I) (by omega) (by omega),iadd_ok (a:=a.I+_) (by omega) (by omega)]
 by_cases h4:20000<a.I+a.L.length+a.G.length
 ·rw[if_pos h4]; exact .no (fun h=>by have:=h.few; unfold varsN at this; omega)
 rw[if_neg h4];have hv:0≤varsN a∧varsN a≤20000:=by unfold varsN; omega
 have hI:0≤a.I:=by omega
 rcases lat_loop hv hI with ⟨e,hl⟩ | ⟨e,hl⟩
 ·rw[e]; exact .no (fun h=>hl h.lat)
 rw[e]
 rcases gat_loop hv hI with ⟨e,hg⟩ | ⟨e,hg⟩
 ·rw[Option.bind_some];simp only;rw[e]; exact .no (fun h=>hg h.gat)
 rw[Option.bind_some];simp only;rw[e]
 rcases rows_loop hv hI ho with ⟨e,hr⟩ | ⟨e,hr⟩
 ·rw[Option.bind_some];simp only;rw[e]; exact .no (fun h=>hr ⟨h.outs,h.bad,h.con⟩)
 rw[Option.bind_some];simp only;rw[e];obtain⟨b,e1,e2⟩:=isNames_says ho;rw[Option.bind_some];simp only;rw[e1];exact⟨b,rfl,e2.trans ⟨fun h=>⟨hI,hv.2,hl,hg,hr.1,hr.2.1,hr.2.2,h.1,h.2⟩,fun h=>⟨h.nam,h.nms⟩⟩⟩
theorem refright_says {a:Aig}(ho:Okay a):Says (ref06_Right a) (RightI a):=by
 have hlen:=ho.lens;have hfit:=ho.fit;unfold ref06_Right;simp only[ilt_iff,lenI_eq]
 by_cases h0:a.I<0
 ·rw[if_pos h0]; exact .no (fun h=>by have:=h.pos; omega)
 rw[if_neg h0]
 by_cases h1:20000<a.I
 ·rw[if_pos h1]; exact .no (fun h=>by have:=h.few; unfold varsN at this; omega)
 rw[if_neg h1]
 by_cases h2:(20000:Int)<a.L.length
 ·rw[if_pos h2]; exact .no (fun h=>by have:=h.few; unfold varsN at this; omega)
 rw[if_neg h2]
 by_cases h3:(20000:Int)<a.G.length
 ·rw[if_pos h3]; exact .no (fun h=>by have:=h.few; unfold varsN at this; omega)
 rw[if_neg h3];unfold ref06_Vars;simp only[lenI_eq,Option.bind_some];rw[iadd_ok (a:=a.I) (by omega) (by omega),iadd_ok (a:=a.I+_) (by omega) (by omega)]
 by_cases h4:20000<a.I+a.L.length+a.G.length
 ·rw[if_pos h4]; exact .no (fun h=>by have:=h.few; unfold varsN at this; omega)
 rw[if_neg h4]
 by_cases h5:(2000:Int)<a.names.length
 ·rw[if_pos h5]; exact .no (fun h=>by have:=h.nms; omega)
 rw[if_neg h5];have hv:0≤varsN a∧varsN a≤20000:=by unfold varsN; omega
 have hI:0≤a.I:=by omega
 obtain⟨x,e1,x1⟩:=lits_says hv a.outs hlen.2.2.1;obtain⟨y,e2,y1⟩:=lits_says hv a.bad hlen.2.2.2.1;obtain⟨z,e3,z1⟩:=lits_says hv a.con hlen.2.2.2.2.1;rw[show a.I+(a.L.length:Int)+(a.G.length:Int)=varsN a from rfl,e1,e2,e3];simp only[Option.bind_some]
 by_cases hx:x=true
 ·rw[if_pos hx]
  by_cases hy:y=true
  ·rw[if_pos hy]
   by_cases hz:z=true
   ·rw[if_pos hz]
    rcases reflat_loop hv hI with ⟨e,hl⟩ | ⟨e,hl⟩
    ·rw[e]; exact .no (fun h=>hl h.lat)
    rw[e]
    rcases refgat_loop hv hI with ⟨e,hg⟩ | ⟨e,hg⟩
    ·rw[Option.bind_some];simp only;rw[e]; exact .no (fun h=>hg h.gat)
    rw[Option.bind_some];simp only;rw[e]
    rcases refnam_loop ho with ⟨e,hn⟩ | ⟨e,hn⟩
    ·rw[Option.bind_some];simp only;rw[e]; exact .no (fun h=>hn h.nam)
    rw[Option.bind_some];simp only;rw[e];exact .yes ⟨hI,hv.2,hl,hg,x1.1 hx,y1.1 hy,z1.1 hz,hn,by omega⟩
   ·rw[if_neg hz]; exact .no (fun h=>hz (z1.2 h.con))
  ·rw[if_neg hy]; exact .no (fun h=>hy (y1.2 h.bad))
 ·rw[if_neg hx]; exact .no (fun h=>hx (x1.2 h.outs))
def SmallI (a:Aig):Prop:=a.I≤40∧a.L.length≤40∧a.G.length≤40∧a.outs.length≤40∧a.bad.length≤40∧a.con.length≤40∧a.names.length≤40∧∀ k,k<a.names.length→∀ x,a.names[k]?=some x→x.s.size≤200
theorem small_says (a:Aig):Says (ref06_Small a 40) (SmallI a):=by
 unfold ref06_Small SmallI;simp only[ilt_iff,lenI_eq]
 by_cases h0:40<a.I
 ·rw[if_pos h0]; exact .no (by omega)
 rw[if_neg h0]
 by_cases h1:(40:Int)<a.L.length
 ·rw[if_pos h1]; exact .no (by omega)
 rw[if_neg h1]
 by_cases h2:(40:Int)<a.G.length
 ·rw[if_pos h2]; exact .no (by omega)
 rw[if_neg h2]
 by_cases h3:(40:Int)<a.outs.length
 ·rw[if_pos h3]; exact .no (by omega)
 rw[if_neg h3]
 by_cases h4:(40:Int)<a.bad.length
 ·rw[if_pos h4]; exact .no (by omega)
 rw[if_neg h4]
 by_cases h5:(40:Int)<a.con.length
 ·rw[if_pos h5]; exact .no (by omega)
 rw[if_neg h5]
 by_cases h6:(40:Int)<a.names.length
 ·rw[if_pos h6]; exact .no (by omega)
 rw[if_neg h6];have hl:LoopSays (loopF (ref06_Small_B0 a) 0) (∀ k,k<a.names.length→∀ x,a.names[k]?=some x→x.s.size≤200):=by
  refine loop_all a.names.length _ (fun k hk=>?_) ?_
  ·unfold ref06_Small_B0;simp only;rw[if_pos (by rw[lt_len]; exact hk),getI_nat,List.getElem?_eq_getElem hk,Option.bind_some,inc_ok (by omega)];simp only[ilt_iff,sizI]
   by_cases h:(200:Int)<a.names[k].s.size
   ·rw[if_pos h];exact .inr ⟨fun e=>by have:=e _ rfl; omega,rfl⟩
   ·rw[if_neg h];exact .inl ⟨fun x hx=>by injection hx with hx; subst hx; omega,rfl⟩
  ·unfold ref06_Small_B0;simp only;rw[if_neg (by rw[lt_len]; omega)]
 rcases hl with ⟨e,h⟩ | ⟨e,h⟩
 ·rw[e]; exact .no (fun f=>h f.2.2.2.2.2.2.2)
 ·rw[e]; exact .yes ⟨by omega,by omega,by omega,by omega,by omega,by omega,by omega,h⟩
end Go.Vid
namespace Go.Vid
open Go.Vabs
theorem okay_of {a:Aig}(hw:a.Wf)(hs:SmallI a):Okay a where
 kinds:=fun x hx=>by
  obtain⟨_,_,_,_,_,_,⟨_,h⟩,_⟩:=hw;obtain⟨k,hk,rfl⟩:=List.mem_iff_getElem.1 hx;have h1:=h _ hx;have h2:=hs.2.2.2.2.2.2.2 k hk _ (List.getElem?_eq_getElem hk);exact⟨⟨h1.1.1,h1.1.2⟩,by omega⟩
 lens:=by obtain⟨_,h1,h2,h3,h4,h5,h6,_⟩:=hs; omega
 fit:=by
  obtain⟨h,_⟩:=hw;exact⟨h.1,h.2⟩
theorem litsI_nil (a:Aig):LitsI a []:=⟨fun k hk=>absurd hk (Nat.not_lt_zero _),Nat.zero_le _⟩
theorem Says.true_ {m:Option Bool}{p:Prop}(h:Says m p)(hp:p):m=some true:=by
 obtain⟨b,h1,h2⟩:=h;rw[h1,h2.2 hp]
theorem vars_eq {a:Aig}(h:RightI a):aig_Vars a=some (varsN a)∧ref06_Vars a=some (varsN a):=by
 have h1:=h.pos;have h2:=h.few;unfold aig_Vars ref06_Vars varsN at *;simp only[lenI_eq];rw[iadd_ok (a:=a.I) (by omega) (by omega),iadd_ok (a:=a.I+_) (by omega) (by omega)];exact⟨rfl,rfl⟩
end Go.Vid
namespace Go.Vid
open Go.Vabs Classical
def EN {α:Type}(f:α→α→Bool)(s1 s2:List α)(x:Int):Option (Int ⊕ (Unit ⊕ Unit)):=
 if (ilt x (lenI s1))=true then
  Option.bind (getI s1 x) fun v20=>
  Option.bind (getI s2 x) fun v22=>
  if (f v20 v22)=true then some (.inr (.inl ())) else some (.inl (iadd IntKind.i64 x 1))
 else some (.inr (.inr ()))
theorem EN_says {α:Type}{f:α→α→Bool}{s1 s2:List α}(hf:∀ a∈s1,∀ b,f a b=false↔a=b)(hn:s1.length=s2.length)(hl:s1.length≤1000000000000000):
  (loopF (EN f s1 s2) 0=some (.inr ())∧s1=s2)∨(loopF (EN f s1 s2) 0=some (.inl ())∧s1≠s2):=by
 have e:EN f s1 s2=EB (fun x y=>some (!f x y)) s1 s2:=by
  funext x;unfold EN EB
  split
  ·cases getI s1 x with
   | none=>rfl
   | some v20=>
    cases getI s2 x with
    | none=>rfl
    | some v22=>
     simp only[Option.bind_some]
     cases f v20 v22<;>rfl
  ·rfl
 rw[e];refine EB_eq (fun a ha b=>⟨_,rfl,?_⟩) hn hl;rw[← hf a ha b]
 cases f a b<;>simp
theorem lat_ne (x y:Latch):(!ieq x.next y.next||!ieq x.reset y.reset)=false↔x=y:=by
 cases x; cases y
 rw[Bool.or_eq_false_iff,Bool.not_eq_false',Bool.not_eq_false',ieq_iff,ieq_iff];simp
theorem and_ne (x y:And):(!ieq x.a y.a||!ieq x.b y.b)=false↔x=y:=by
 cases x; cases y
 rw[Bool.or_eq_false_iff,Bool.not_eq_false',Bool.not_eq_false',ieq_iff,ieq_iff];simp
theorem nam_ne (x y:Name):(!ieq x.kind y.kind||(!ieq x.pos y.pos||!seq x.s y.s))=false↔x=y:=by
 cases x; cases y
 rw[Bool.or_eq_false_iff,Bool.or_eq_false_iff,Bool.not_eq_false',Bool.not_eq_false',Bool.not_eq_false',ieq_iff,ieq_iff,seq_iff];simp
theorem EqL {a b:List Latch}(hl:a.length≤1000000000000000):slices_Equal' a b=some (decide (a=b)):=by
 unfold slices_Equal';simp only[ieq_iff,lenI_eq]
 by_cases hn:a.length=b.length
 ·rw[if_pos (by omega),show slices_Equal'_B0 a b=EN (fun x y=>(!ieq x.next y.next||!ieq x.reset y.reset)) a b from rfl]
  rcases EN_says (f:=fun (x y:Latch)=>(!ieq x.next y.next||!ieq x.reset y.reset)) (s1:=a) (s2:=b) (fun x _ y=>lat_ne x y) hn hl with ⟨h,e⟩ | ⟨h,e⟩
  ·rw[h,decide_eq_true e]; rfl
  ·rw[h,decide_eq_false e]; rfl
 ·rw[if_neg (by omega),decide_eq_false (fun e=>hn (by rw[e]))]
theorem EqG {a b:List And}(hl:a.length≤1000000000000000):slices_Equal'' a b=some (decide (a=b)):=by
 unfold slices_Equal'';simp only[ieq_iff,lenI_eq]
 by_cases hn:a.length=b.length
 ·rw[if_pos (by omega),show slices_Equal''_B0 a b=EN (fun x y=>(!ieq x.a y.a||!ieq x.b y.b)) a b from rfl]
  rcases EN_says (f:=fun (x y:And)=>(!ieq x.a y.a||!ieq x.b y.b)) (s1:=a) (s2:=b) (fun x _ y=>and_ne x y) hn hl with ⟨h,e⟩ | ⟨h,e⟩
  ·rw[h,decide_eq_true e]; rfl
  ·rw[h,decide_eq_false e]; rfl
 ·rw[if_neg (by omega),decide_eq_false (fun e=>hn (by rw[e]))]
theorem EqN {a b:List Name}(hl:a.length≤1000000000000000):slices_Equal''' a b=some (decide (a=b)):=by
 unfold slices_Equal''';simp only[ieq_iff,lenI_eq]
 by_cases hn:a.length=b.length
 ·rw[if_pos (by omega),show slices_Equal'''_B0 a b=EN (fun x y=>(!ieq x.kind y.kind||(!ieq x.pos y.pos||!seq x.s y.s))) a b from rfl]
  rcases EN_says (f:=fun (x y:Name)=>(!ieq x.kind y.kind||(!ieq x.pos y.pos||!seq x.s y.s))) (s1:=a) (s2:=b) (fun x _ y=>nam_ne x y) hn hl with ⟨h,e⟩ | ⟨h,e⟩
  ·rw[h,decide_eq_true e]; rfl
  ·rw[h,decide_eq_false e]; rfl
 ·rw[if_neg (by omega),decide_eq_false (fun e=>hn (by rw[e]))]
def LensI (a:Aig):Prop:=a.L.length≤100000000000000∧a.G.length≤100000000000000∧a.outs.length≤100000000000000∧a.bad.length≤100000000000000∧a.con.length≤100000000000000∧a.names.length≤100000000000000
theorem same_says {a:Aig}(b:Aig)(h:LensI a):Says (aig_Same a b) (a=b):=by
 obtain⟨h1,h2,h3,h4,h5,h6⟩:=h;unfold aig_Same;rw[Equal_eq _ (by omega),Equal_eq _ (by omega),Equal_eq _ (by omega),EqL (by omega),EqG (by omega),EqN (by omega)];simp only[Option.bind_some,decide_eq_true_eq,ieq_iff]
 by_cases e1:a.outs=b.outs
 case neg=>rw[if_neg e1]; exact .no (fun e=>e1 (by rw[e]))
 rw[if_pos e1]
 by_cases e2:a.bad=b.bad
 case neg=>rw[if_neg e2]; exact .no (fun e=>e2 (by rw[e]))
 rw[if_pos e2]
 by_cases e3:a.con=b.con
 case neg=>rw[if_neg e3]; exact .no (fun e=>e3 (by rw[e]))
 rw[if_pos e3]
 by_cases e4:a.I=b.I
 case neg=>rw[if_neg e4]; exact .no (fun e=>e4 (by rw[e]))
 rw[if_pos e4]
 by_cases e5:a.L=b.L
 case neg=>rw[if_neg e5]; exact .no (fun e=>e5 (by rw[e]))
 rw[if_pos e5]
 by_cases e6:a.G=b.G
 case neg=>rw[if_neg e6]; exact .no (fun e=>e6 (by rw[e]))
 rw[if_pos e6];refine⟨_,rfl,?_⟩;rw[decide_eq_true_eq];refine⟨fun e=>?_,fun e=>by rw[e]⟩
 cases a; cases b
 simp only at *;subst e1 e2 e3 e4 e5 e6 e;rfl
end Go.Vid

/- Plain laws: models said to be right, the same, printed and read. No condition. -/
import Derived.Test.YtadllpehekphmaaDoorPH
set_option linter.unusedSimpArgs false
set_option linter.unusedVariables false
set_option maxRecDepth 20000
namespace Go.Vid
open Go.Vabs
end Go.Vid
namespace Go.Vid
open Go.Vabs
def NokI (a:Aig)(n:Name):Prop:=0≤n.pos∧n.pos<manyN a n.kind∧nameB (bytesOf n.s)=true
def LastI (l:List Name)(n:Name):Prop:=∀ y,0<l.length→l[l.length-1]?=some y→BehP y n
theorem right_one {a:Aig}(h:RightI a)(n:Name):RightI ⟨a.I,a.L,a.G,a.outs,a.bad,a.con,[n]⟩↔NokI a n:=by
 constructor
 ·intro g;obtain⟨g1,g2,g3,_⟩:=g.nam 0 (by simp) n rfl;exact⟨g1,g2,g3⟩
 ·rintro⟨g1,g2,g3⟩;exact⟨h.pos,h.few,h.lat,h.gat,h.outs,h.bad,h.con,fun k hk x hx=>by
   have hk0:k=0:=by have:k<1:=hk; omega
   subst hk0;injection hx with hx;subst hx;exact⟨g1,g2,g3,fun y hy=>absurd hy (Nat.lt_irrefl _)⟩,show 1≤2000 by omega⟩
theorem right_snoc {a:Aig}(h:RightI a)(hl:a.names.length<2000)(n:Name):RightI ⟨a.I,a.L,a.G,a.outs,a.bad,a.con,a.names++[n]⟩↔NokI a n∧LastI a.names n:=by
 constructor
 ·intro g;obtain⟨g1,g2,g3,g4⟩:=g.nam a.names.length (by simp) n (by rw[List.getElem?_append_right (Nat.le_refl _),Nat.sub_self]; rfl);exact⟨⟨g1,g2,g3⟩,fun y hy hy'=>g4 y hy (by rw[List.getElem?_append_left (by omega)]; exact hy')⟩
 ·rintro⟨⟨g1,g2,g3⟩,g4⟩;exact⟨h.pos,h.few,h.lat,h.gat,h.outs,h.bad,h.con,fun k hk x hx=>by
   have hx:(a.names++[n])[k]?=some x:=hx;have hk:k<(a.names++[n]).length:=hk;rw[List.length_append,List.length_singleton] at hk
   by_cases hk':k<a.names.length
   ·rw[List.getElem?_append_left hk'] at hx;obtain⟨i1,i2,i3,i4⟩:=h.nam k hk' x hx;exact⟨i1,i2,i3,fun y hy hy'=>i4 y hy (by
     have hy':(a.names++[n])[k-1]?=some y:=hy'
     rwa [List.getElem?_append_left (by omega)] at hy')⟩
   ·have hk0:k=a.names.length:=by omega
    subst hk0;rw[List.getElem?_append_right (Nat.le_refl _),Nat.sub_self] at hx;injection hx with hx;subst hx;exact⟨g1,g2,g3,fun y hy hy'=>g4 y hy (by
     have hy':(a.names++[n])[a.names.length-1]?=some y:=hy'
     rwa [List.getElem?_append_left (by omega)] at hy')⟩,show (a.names++[n]).length≤2000 by rw[List.length_append,List.length_singleton]; omega⟩
theorem okay_names {a:Aig}(h:Okay a){l:List Name}(hl:∀ x∈l,(0≤x.kind∧x.kind≤255)∧x.s.size≤1000000000)(hn:l.length≤1000000):Okay ⟨a.I,a.L,a.G,a.outs,a.bad,a.con,l⟩ where
 kinds:=hl
 lens:=by
  obtain⟨g1,g2,g3,g4,g5,g6⟩:=h.lens;exact⟨g1,g2,g3,g4,g5,show l.length≤100000000000000 by omega⟩
 fit:=h.fit
theorem names_more {a:Aig}{n:Name}{s:ByteArray}(h:RightI a)(ho:Okay a)(hs:SmallI a)(hz:(bytesOf s).length≤200)(hn:(bytesOf n.s).length≤200)(hk:0≤n.kind∧n.kind≤255)(hg:RightI ⟨a.I,a.L,a.G,a.outs,a.bad,a.con,a.names++[n]⟩)(ho2:Okay ⟨a.I,a.L,a.G,a.outs,a.bad,a.con,a.names++[n]⟩)(hg1:RightI ⟨a.I,a.L,a.G,a.outs,a.bad,a.con,[n]⟩)(ho1:Okay ⟨a.I,a.L,a.G,a.outs,a.bad,a.con,[n]⟩):
  (Option.bind (aig_Names ⟨a.I,a.L,a.G,a.outs,a.bad,a.con,a.names++[n]⟩ s) fun v21=>
   Option.bind (aig_Names a s) fun v23=>
   Option.bind (aig_Names ⟨a.I,a.L,a.G,a.outs,a.bad,a.con,[n]⟩ { data:=#[] }) fun v25=>
   if (addOk v23 v25)=true then some ((seq v21 (v23++v25))) else none)=some true:=by
 have ht:=small_tx h hs;have hna:(nas a).length≤20000:=by
  have:(nas a).length≤(tx a).length:=by unfold tx; simp only[List.length_append]; omega
  omega
 have e1:nas ⟨a.I,a.L,a.G,a.outs,a.bad,a.con,a.names++[n]⟩=nas a++naT 0 n:=by
  unfold nas;rw[txs_append,txs_one];rfl
 have e2:nas ⟨a.I,a.L,a.G,a.outs,a.bad,a.con,[n]⟩=naT 0 n:=by unfold nas; rw[txs_one]
 have hnl:(naT 0 n).length≤300:=by
  have p:=hg1.poss n List.mem_cons_self;have q:=numB_len (i64_of p.1 p.2);rw[naT_len];omega
 have k0:∀ x∈a.names,0≤x.kind∧x.kind≤255:=fun x hx=>(ho.kinds x hx).1;have i1:IsB (bytesOf s++nas a):=(bytesOf_isB _).append (nas_isB k0);have i2:IsB (naT 0 n):=naT_isB hk 0;rw[Names_eq (hg.nams ho2) _ (by rw[e1,List.length_append]; omega),Option.bind_some,Names_eq (h.nams ho) _ (by omega),Option.bind_some,Names_eq (hg1.nams ho1) _ (by rw[e2,bytesOf_nil]; simp only[List.length_nil]; omega),Option.bind_some,e1,e2,bytesOf_nil,List.nil_append];rw[if_pos (by rw[addOk_iff,bytesOf_strOf i1,bytesOf_strOf i2,List.length_append]; omega),strOf_append i1 i2,List.append_assoc];rw[show seq (strOf (bytesOf s++(nas a++naT 0 n))) (strOf (bytesOf s++(nas a++naT 0 n)))=true by rw[seq_iff]]
theorem AigNamed_all {x0:Aig}{x1:Name}{x2:ByteArray}(h0:x0.Wf)(h1:x1.Wf):law06_AigNamed x0 x1 x2=some true:=by
 unfold law06_AigNamed;rw[shown_true,Option.bind_some];obtain⟨b,e1,e2⟩:=small_says x0;rw[e1,Option.bind_some]
 by_cases hb:b=true
 case neg=>rw[if_neg hb]
 rw[if_pos hb];have hs:=e2.1 hb;have ho:=okay_of h0 hs;obtain⟨p,g1,g2⟩:=refright_says ho;rw[g1,Option.bind_some]
 by_cases hp:p=true
 case neg=>rw[if_neg hp]
 rw[if_pos hp];have hr:=g2.1 hp
 by_cases hz1:(200:Int)<sizI x1.s
 ·rw[if_pos (by rw[ilt_iff]; exact hz1)]
 rw[if_neg (by rw[ilt_iff]; exact hz1)]
 by_cases hz2:(200:Int)<sizI x2
 ·rw[if_pos (by rw[ilt_iff]; exact hz2)]
 rw[if_neg (by rw[ilt_iff]; exact hz2)];rw[sizI_eq'] at hz1 hz2;have hnl:x0.names.length≤40:=hs.2.2.2.2.2.2.1;have hk:0≤x1.kind∧x1.kind≤255:=by
  obtain⟨h,_⟩:=h1;exact⟨h.1,h.2⟩
 have hk1:∀ x∈[x1],(0≤x.kind∧x.kind≤255)∧x.s.size≤1000000000:=fun x hx=>by
  rw[List.mem_singleton] at hx;subst hx;rw[size_eq];exact⟨hk,by omega⟩
 have ho2:=okay_names ho (l:=x0.names++[x1]) (fun x hx=>(List.mem_append.1 hx).elim (fun hx=>ho.kinds x hx) (hk1 x)) (by rw[List.length_append,List.length_singleton]; omega);have ho1:=okay_names ho (l:=[x1]) hk1 (by simp);obtain⟨m,m1,m2⟩:=(right_says ho2).iff (right_snoc hr (by omega) x1);obtain⟨q,q1,q2⟩:=(right_says ho1).iff (right_one hr x1);rw[if_pos (by rw[capN_iff,lenN_eq]; omega),if_pos (by rw[capN_iff,lenN_eq,List.length_append,List.length_singleton]; omega)];have hfin:m=true→(Option.bind (aig_Names ⟨x0.I,x0.L,x0.G,x0.outs,x0.bad,x0.con,x0.names++[x1]⟩ x2) fun v21=>
   Option.bind (aig_Names x0 x2) fun v23=>
   Option.bind (aig_Names ⟨x0.I,x0.L,x0.G,x0.outs,x0.bad,x0.con,[x1]⟩ { data:=#[] }) fun v25=>
   if (addOk v23 v25)=true then some ((seq v21 (v23++v25))) else none)=some true:=fun hm=>by
  have hg:=(right_snoc hr (by omega) x1).2 (m2.1 hm);have hg1:=(right_one hr x1).2 (m2.1 hm).1;exact names_more hr ho hs (by omega) (by omega) hk hg ho2 hg1 ho1
 by_cases hn:x0.names.length=0
 ·have hlast:LastI x0.names x1:=fun y hy=>by omega
  rw[if_pos (by rw[ieq_iff,lenI_eq]; omega),m1,Option.bind_some,q1,Option.bind_some]
  by_cases hq:q=true
  ·have hm:m=true:=m2.2 ⟨q2.1 hq,hlast⟩;rw[if_pos hq,if_pos (by rw[beq2_iff]; exact hm),if_pos rfl,if_pos hm];exact hfin hm
  ·have hm:¬ m=true:=fun e=>hq (q2.2 (m2.1 e).1);rw[if_neg hq,if_pos (by rw[beq2_iff]; simpa using hm),if_pos rfl,if_neg hm]
 ·rw[if_neg (by rw[ieq_iff,lenI_eq]; omega)];have e3:isub .i64 (lenI x0.names) 1=((x0.names.length-1:Nat):Int):=by rw[lenI_eq,isub_ok (by omega) (by omega)]; omega
  obtain⟨w,w1,w2⟩:=refBehind_says (x0.names[x0.names.length-1]'(by omega)) x1;have hlast:LastI x0.names x1↔w=true:=by
   rw[w2];refine⟨fun h=>h _ (by omega) (List.getElem?_eq_getElem (by omega)),fun h y hy hy'=>?_⟩;rw[List.getElem?_eq_getElem (by omega)] at hy';injection hy' with hy';subst hy';exact h
  rw[e3,getI_nat,List.getElem?_eq_getElem (by omega:x0.names.length-1<x0.names.length),Option.bind_some,w1,Option.bind_some,m1,Option.bind_some,q1,Option.bind_some]
  by_cases hq:q=true
  ·have hmw:m=w:=by
    rw[Bool.eq_iff_iff,m2,← hlast];exact⟨fun h=>h.2,fun h=>⟨q2.1 hq,h⟩⟩
   rw[if_pos hq,if_pos (by rw[beq2_iff]; exact hmw),if_pos rfl]
   by_cases hm:m=true
   ·rw[if_pos hm];exact hfin hm
   ·rw[if_neg hm]
  ·have hm:¬ m=true:=fun e=>hq (q2.2 (m2.1 e).1);rw[if_neg hq,if_pos (by rw[beq2_iff]; simpa using hm),if_pos rfl,if_neg hm]
end Go.Vid

/- Plain laws: models said to be right, the same, printed and read. No condition. -/
import Derived.Test.YtadllpehekphmaaDoorPH
set_option linter.unusedSimpArgs false
set_option linter.unusedVariables false
set_option maxRecDepth 20000
namespace Go.Vid
open Go.Vabs
end Go.Vid
namespace Go.Vid
open Go.Vabs
def cnt (l:List Int):Nat:=l.count 10
theorem cnt_append (l m:List Int):cnt (l++m)=cnt l+cnt m:=List.count_append
theorem cnt_no {l:List Int}(h:∀ c∈l,c≠10):cnt l=0:=List.count_eq_zero.2 (fun hm=>h 10 hm rfl)
theorem cnt_num (n:Nat):cnt (numB (n:Int))=0:=cnt_no (fun c hc=>by
 rw[numB_nat] at hc;have:=fig_dig n c hc;intro e;subst e;revert this;decide)
theorem cnt_int {n:Int}(h:0≤n):cnt (numB n)=0:=by
 obtain⟨m,rfl⟩:=Int.eq_ofNat_of_zero_le h;exact cnt_num m
theorem cnt_ln {l:List Int}(h:∀ x∈l,0≤x):cnt (lnT l)=1:=by
 cases l with
 | nil=>rfl
 | cons x r=>
  have g:∀ r:List Int,(∀ x∈r,0≤x)→cnt (r.flatMap fun y=>32::numB y)=0:=by
   intro r
   induction r with
   | nil=>intro _; rfl
   | cons y r ih=>
    intro hr;rw[List.flatMap_cons,cnt_append,ih (fun x hx=>hr x (List.mem_cons_of_mem _ hx))];rw[show (32::numB y)=[32]++numB y from rfl,cnt_append,cnt_int (hr y List.mem_cons_self)];rfl
  rw[lnT,cnt_append,cnt_append,cnt_int (h x List.mem_cons_self),g r (fun y hy=>h y (List.mem_cons_of_mem _ hy))];rfl
theorem cnt_txs {α:Type}{T:Nat→α→List Int}:∀ {l:List α} {k:Nat},(∀ i v,l[i]?=some v→cnt (T (k+i) v)=1)→cnt (txs T k l)=l.length
 | [],k,h=>rfl
 | x::l,k,h=>by
  have h0:cnt (T k x)=1:=h 0 x rfl;rw[txs,cnt_append,h0,cnt_txs (k:=k+1) (fun i v hv=>by have:=h (i+1) v hv; rwa [show k+1+i=k+(i+1) by omega]),List.length_cons];omega
theorem cnt_name {x:Name}(h0:0≤x.pos)(h1:nameB (bytesOf x.s)=true)(h2:0≤kindN x.kind)(k:Nat):cnt (naT k x)=1:=by
 have e:naT k x=[x.kind]++(numB x.pos++([32]++(bytesOf x.s++[10]))):=rfl;have hk:cnt [x.kind]=0:=cnt_no (fun c hc=>by
  rw[List.mem_singleton] at hc;subst hc;intro e;rw[e] at h2;exact absurd h2 (by decide))
 have hs:cnt (bytesOf x.s)=0:=cnt_no (fun c hc e=>by
  subst e;obtain⟨i,hi,hi'⟩:=List.mem_iff_getElem.1 hc;exact nl_no (nl_name h1) i (by rw[List.getElem?_eq_getElem hi,hi']))
 rw[e,cnt_append,cnt_append,cnt_append,cnt_append,hk,cnt_int h0,hs];rfl
def restT (a:Aig):List Int:=ins a++(las a++(lis a++(gas a++nas a)))
theorem tx_rest (a:Aig):tx a=[97,97,103,32]++lnT [varsN a,a.I,a.L.length,a.outs.length,a.G.length,a.bad.length,a.con.length]++restT a:=rfl
theorem cnt_rest {a:Aig}(h:RightI a):cnt (restT a)=a.I.toNat+(a.L.length+(a.outs.length+(a.bad.length+a.con.length)+(a.G.length+a.names.length))):=by
 have hbd:=h.bd;have c1:cnt (ins a)=a.I.toNat:=by
  unfold ins;rw[cnt_txs (fun i v _=>cnt_ln (fun x hx=>by rw[List.mem_singleton] at hx; subst hx; omega)),List.length_replicate]
 have c2:cnt (las a)=a.L.length:=cnt_txs (fun i v hv=>cnt_ln (by
  have hi:=(List.getElem?_eq_some_iff.1 hv).1;obtain⟨g1,g2,g3⟩:=h.lat i hi v hv;exact mem3 (P:=fun x=>0≤x) (by omega) (by omega) (by omega)))
 have c3:cnt (lis a)=a.outs.length+(a.bad.length+a.con.length):=by
  unfold lis;rw[cnt_txs (fun i v hv=>cnt_ln (mem1 (P:=fun x=>0≤x) (h.lits v (List.mem_of_getElem? hv)).1)),List.length_append,List.length_append]
 have c4:cnt (gas a)=a.G.length:=cnt_txs (fun i v hv=>cnt_ln (by
  have hi:=(List.getElem?_eq_some_iff.1 hv).1;obtain⟨g1,g2,g3⟩:=h.gat i hi v hv;exact mem3 (P:=fun x=>0≤x) (by omega) (by omega) (by omega)))
 have c5:cnt (nas a)=a.names.length:=cnt_txs (fun i v hv=>by
  have hi:=(List.getElem?_eq_some_iff.1 hv).1;obtain⟨g1,g2,g3,_⟩:=h.nam i hi v hv;exact cnt_name g1 g3 (many_kind (q:=a) (by omega)) _)
 unfold restT;rw[cnt_append,cnt_append,cnt_append,cnt_append,c1,c2,c3,c4,c5]
def Ends (l:List Int):Prop:=l=[]∨∃ z,l=z++[10]
theorem Ends.append {l m:List Int}(h:Ends l)(g:Ends m):Ends (l++m):=by
 rcases g with rfl | ⟨z,rfl⟩
 ·rw[List.append_nil]; exact h
 ·exact .inr ⟨l++z,by rw[List.append_assoc]⟩
theorem Ends.ln (l:List Int):Ends (lnT l):=by
 cases l with
 | nil=>exact .inr ⟨[],rfl⟩
 | cons x r=>exact .inr ⟨numB x++r.flatMap fun y=>32::numB y,by rw[lnT,List.append_assoc]⟩
theorem Ends.txs {α:Type}{T:Nat→α→List Int}(h:∀ k x,Ends (T k x)):∀ (l:List α) (k:Nat),Ends (txs T k l)
 | [],k=>.inl rfl
 | x::l,k=>(h k x).append (Ends.txs h l (k+1))
theorem ends_tx (a:Aig):∃ z,tx a=z++[10]:=by
 have h:Ends (tx a):=by
  rw[tx_rest,List.append_assoc];have hr:Ends (restT a):=(Ends.txs (fun _ _=>Ends.ln _) _ _).append ((Ends.txs (fun _ _=>Ends.ln _) _ _).append ((Ends.txs (fun _ _=>Ends.ln _) _ _).append ((Ends.txs (fun _ _=>Ends.ln _) _ _).append (Ends.txs (fun k x=>.inr ⟨[x.kind]++(numB x.pos++([32]++bytesOf x.s)),by simp[naT]⟩) _ _))))
  rcases (Ends.ln [varsN a,a.I,a.L.length,a.outs.length,a.G.length,a.bad.length,a.con.length]).append hr with h | ⟨z,h⟩
  ·have:=congrArg List.length h;simp[lnT] at this
  ·exact .inr ⟨[97,97,103,32]++z,by rw[h,List.append_assoc]⟩
 rcases h with h | h
 ·have:=congrArg List.length h;simp[tx_rest] at this
 ·exact h
theorem num_cut {n m:Nat}{X Y:List Int}(hX:lead dig X=0)(hY:lead dig Y=0)(h:numB (n:Int)++X=numB (m:Int)++Y)(hn:n≤1000000)(hm:m≤1000000):n=m∧X=Y:=by
 have h1:numL (numB (n:Int)++X) 2147483647=((n:Int),(fig n).length,0):=by rw[numB_nat,num_fig n X hX,if_neg (by omega)]
 have h2:numL (numB (m:Int)++Y) 2147483647=((m:Int),(fig m).length,0):=by rw[numB_nat,num_fig m Y hY,if_neg (by omega)]
 rw[h,h2] at h1;have:=congrArg Prod.fst h1;simp only at this;have e:n=m:=by omega
 subst e;exact⟨rfl,List.append_cancel_left h⟩
theorem lead_sp' (Y:List Int):lead dig (bytesOf { data:=#[32] }++Y)=0:=rfl
theorem lead_lf' (Y:List Int):lead dig (bytesOf { data:=#[10] }++Y)=0:=rfl
theorem head_cut {a m:Aig}(ha:RightI a)(hm:RightI m){X Y:List Int}(h:[97,97,103,32]++lnT [varsN a,a.I,a.L.length,a.outs.length,a.G.length,a.bad.length,a.con.length]++X=[97,97,103,32]++lnT [varsN m,m.I,m.L.length,m.outs.length,m.G.length,m.bad.length,m.con.length]++Y):
  a.I=m.I∧a.L.length=m.L.length∧a.outs.length=m.outs.length∧a.G.length=m.G.length∧a.bad.length=m.bad.length∧a.con.length=m.con.length∧X=Y:=by
 have b1:=ha.bd;have b2:=hm.bd;have c1:=ha.outs.2;have c2:=ha.bad.2;have c3:=ha.con.2;have c4:=hm.outs.2;have c5:=hm.bad.2;have c6:=hm.con.2;rw[hd_eq,hd_eq] at h;have h:=List.append_cancel_left h;obtain⟨v1,e1⟩:=Int.eq_ofNat_of_zero_le b1.2.2.2.2.1;obtain⟨v2,e2⟩:=Int.eq_ofNat_of_zero_le b2.2.2.2.2.1;obtain⟨i1,f1⟩:=Int.eq_ofNat_of_zero_le b1.1;obtain⟨i2,f2⟩:=Int.eq_ofNat_of_zero_le b2.1;rw[e1,e2,f1,f2] at h;obtain⟨g1,h⟩:=num_cut (lead_sp' _) (lead_sp' _) h (by omega) (by omega);have h:=List.append_cancel_left h;obtain⟨g2,h⟩:=num_cut (lead_sp' _) (lead_sp' _) h (by omega) (by omega);have h:=List.append_cancel_left h
 obtain⟨g3,h⟩:=num_cut (lead_sp' _) (lead_sp' _) h (by omega) (by omega);have h:=List.append_cancel_left h;obtain⟨g4,h⟩:=num_cut (lead_sp' _) (lead_sp' _) h (by omega) (by omega);have h:=List.append_cancel_left h;obtain⟨g5,h⟩:=num_cut (lead_sp' _) (lead_sp' _) h (by omega) (by omega);have h:=List.append_cancel_left h;obtain⟨g6,h⟩:=num_cut (lead_sp' _) (lead_sp' _) h (by omega) (by omega);have h:=List.append_cancel_left h;obtain⟨g7,h⟩:=num_cut (lead_lf' _) (lead_lf' _) h (by omega) (by omega);exact⟨by omega,g3,g4,g5,g6,g7,List.append_cancel_left h⟩
theorem cut_fewer {a m:Aig}(ha:RightI a)(hm:RightI m){R:List Int}(hR:R≠[])(h:tx a=tx m++R):m.names.length<a.names.length∧m.I=a.I∧m.G.length=a.G.length:=by
 obtain⟨z,hz⟩:=ends_tx a;have h10:10∈R:=by
  have e:(tx m++R).getLast?=some 10:=by rw[← h,hz,List.getLast?_concat]
  rw[List.getLast?_append] at e
  cases hR':R.getLast? with
  | none=>exact absurd (List.getLast?_eq_none_iff.1 hR') hR
  | some c=>
   rw[hR'] at e;have e:some c=some 10:=e;injection e with e;subst e;exact List.mem_of_getLast? hR'
 have hpos:1≤cnt R:=List.count_pos_iff.2 h10;rw[tx_rest a,tx_rest m,List.append_assoc _ (restT m) R] at h;obtain⟨g1,g2,g3,g4,g5,g6,g7⟩:=head_cut ha hm h;have:=congrArg cnt g7;rw[cnt_append,cnt_rest ha,cnt_rest hm,g1] at this;omega
theorem AigEnds_all {x0:Aig}{c cut:Int}(h0:x0.Wf)(hc:0≤c∧c≤255)(hcut:0≤cut∧cut≤65535):law06_AigEnds x0 c cut=some true:=by
 unfold law06_AigEnds;rw[shown_true,Option.bind_some];obtain⟨b,e1,e2⟩:=small_says x0;rw[e1,Option.bind_some]
 by_cases hb:b=true
 case neg=>rw[if_neg hb]
 rw[if_pos hb];have hs:=e2.1 hb;have ho:=okay_of h0 hs;obtain⟨p,g1,g2⟩:=refright_says ho;rw[g1,Option.bind_some]
 by_cases hp:p=true
 case neg=>rw[if_neg hp]
 rw[if_pos hp];have hr:=g2.1 hp;have ht:=small_tx hr hs;have k0:∀ x∈x0.names,0≤x.kind∧x.kind≤255:=fun x hx=>(ho.kinds x hx).1;have hnl:x0.names.length≤40:=hs.2.2.2.2.2.2.1;have ib:=tx_isB k0;have eb:=bytesOf_strOf ib
 by_cases c1:c=105
 ·rw[if_pos (by rw[ieq_iff]; exact c1)]
 rw[if_neg (by rw[ieq_iff]; exact c1)]
 by_cases c2:c=108
 ·rw[if_pos (by rw[ieq_iff]; exact c2)]
 rw[if_neg (by rw[ieq_iff]; exact c2)]
 by_cases c3:c=111
 ·rw[if_pos (by rw[ieq_iff]; exact c3)]
 rw[if_neg (by rw[ieq_iff]; exact c3)]
 by_cases c4:c=98
 ·rw[if_pos (by rw[ieq_iff]; exact c4)]
 rw[if_neg (by rw[ieq_iff]; exact c4)]
 by_cases c5:c=99
 ·rw[if_pos (by rw[ieq_iff]; exact c5)]
 rw[if_neg (by rw[ieq_iff]; exact c5)];have hkc:kindN c<0:=by unfold kindN; rw[if_neg c1,if_neg c2,if_neg c3,if_neg c4,if_neg c5]; omega
 have hpos:0<(tx x0).length:=by
  obtain⟨z,hz⟩:=ends_tx x0;rw[hz,List.length_append,List.length_singleton];omega
 have hsz:sizI (strOf (tx x0))=((tx x0).length:Int):=by rw[sizI_eq',eb]
 have hcv:iconv .i64 cut=cut:=wrap_ok (by omega) (by omega);have hrem:irem cut ((tx x0).length:Int)=cut % ((tx x0).length:Int):=Int.tmod_eq_emod_of_nonneg hcut.1;have hm0:=Int.emod_nonneg cut (show ((tx x0).length:Int)≠0 by omega);have hm1:=Int.emod_lt_of_pos cut (show (0:Int)<((tx x0).length:Int) by omega);rw[Print_eq hr ho (by omega),Option.bind_some];simp only;rw[if_pos (by rw[ieq_iff]),if_neg (by rw[ieq_iff,hsz]; omega),eb,if_pos (by rw[capN_iff,lenN_eq,List.length_append,List.length_singleton]; omega),Parse_more hr k0 (by omega) hc hkc (by omega),Option.bind_some];simp only;have hs2:(strOf (tx x0)).size=(tx x0).length:=strOf_size ib
 obtain⟨k,hk⟩:=Int.eq_ofNat_of_zero_le hm0;have hcutv:irem (iconv IntKind.i64 cut) (sizI (strOf (tx x0)))=(k:Int):=by rw[hcv,hsz,hrem,hk]
 rw[hk] at hm1;rw[if_pos (by rw[hcutv,hs2,cutOk_iff]; omega)];have hbc:bytesOf (cutB (strOf (tx x0)) 0 (irem (iconv IntKind.i64 cut) (sizI (strOf (tx x0)))))=(tx x0).take k:=by
  rw[hcutv,bytesOf_cutB,eb];simp
 have hkl:((tx x0).take k).length=k:=by rw[List.length_take]; omega
 rw[hbc]
 rcases Parse_back (b:=(tx x0).take k) (ib.take k) (by omega) with ⟨m,h1,h2,h3,h4⟩ | ⟨x,e,h1,h2,h3,h4⟩
 ·obtain⟨q1,q2,q3⟩:=cut_fewer hr h1 (R:=(tx x0).drop k) (fun e=>by
   have:=congrArg List.length e;rw[List.length_drop,List.length_nil] at this;omega) (by rw[h3,List.take_append_drop])
  rw[h4,Option.bind_some];simp only;rw[if_pos (by rw[ieq_iff]),if_pos (by rw[ieq_iff,hsz]),if_neg (by rw[ilt_iff,hcutv,hkl]; omega),if_neg (by rw[ilt_iff]; omega),if_pos trivial,if_pos (by rw[ieq_iff]),if_pos (by rw[ilt_iff,lenI_eq,lenI_eq]; omega),if_pos (by rw[ieq_iff]; exact q2)];congr 1;rw[ieq_iff,lenI_eq,lenI_eq,q3]
 ·rw[hkl] at h3;rw[h1,Option.bind_some];simp only;rw[if_pos (by rw[ieq_iff]),if_pos (by rw[ieq_iff,hsz]),if_neg (by rw[ilt_iff,hcutv]; omega),if_neg (by rw[ilt_iff]; omega),if_pos trivial,if_neg (by rw[ieq_iff]; omega)]
end Go.Vid

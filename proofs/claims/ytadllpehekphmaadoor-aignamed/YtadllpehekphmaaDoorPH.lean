/- Plain laws: a text's model; the document's example. No condition. -/
import Derived.Test.YtadllpehekphmaaDoorPC
set_option linter.unusedSimpArgs false
set_option linter.unusedVariables false
set_option maxRecDepth 20000
namespace Go.Vid
open Go.Vabs
theorem NamS_of {a:Aig}(h:RightI a)(hk:∀ x∈a.names,0≤x.kind∧x.kind≤255):NamS a a.names:=fun k x hx=>by
 obtain⟨g1,g2,g3,g4⟩:=h.nam k (List.getElem?_eq_some_iff.1 hx).1 x hx;exact⟨g1,g2,g3,hk x (List.mem_of_getElem? hx),g4⟩
theorem Parse_text {a:Aig}(h:RightI a)(hk:∀ x∈a.names,0≤x.kind∧x.kind≤255){Y:List Int}(hY:IsB Y)(hl:(tx a++Y).length≤100000){R:(Int × Int) ⊕ (List Name × List Int × Int)}
  (hR:loopF (aig_reader_names_B0 ⟨a.I,a.L,a.G,a.outs,a.bad,a.con,[]⟩) (a.names,tx a++Y,((tx a).length:Int))=some R):
  aig_Parse (tx a++Y)=some (match afterN ⟨a.I,a.L,a.G,a.outs,a.bad,a.con,[]⟩ R with | .inl (x,e)=>(⟨0,[],[],[],[],[],[]⟩,x,e) | .inr (a,q)=>(a,q.at',0)):=by
 have hN:=NamS_of h hk;have hb:IsB (tx a++Y):=(tx_isB hk).append hY;have hp:=h.pos;obtain⟨I,L,G,outs,bad,con,names⟩:=a;simp only at hp;obtain⟨I,rfl⟩:=Int.eq_ofNat_of_zero_le hp;unfold aig_Parse;rw[if_neg (by rw[ilt_iff,lenI_eq]; omega),show (⟨tx ⟨(I:Int),L,G,outs,bad,con,names⟩++Y,0⟩:Reader_aig)=⟨tx ⟨(I:Int),L,G,outs,bad,con,names⟩++Y,0⟩ from rfl,model_text hb (by omega) h hN rfl hR,Option.bind_some]
 cases afterN ⟨(I:Int),L,G,outs,bad,con,[]⟩ R with
 | inl r=>rfl
 | inr r=>rfl
theorem Parse_own {a:Aig}(h:RightI a)(hk:∀ x∈a.names,0≤x.kind∧x.kind≤255)(hl:(tx a).length≤100000):aig_Parse (tx a)=some (a,((tx a).length:Int),0):=by
 have:=Parse_text h hk (Y:=[]) (fun c hc=>by cases hc) (by rw[List.append_nil]; exact hl) (R:=.inr (a.names,tx a,((tx a).length:Int))) (by rw[List.append_nil]; exact loopF_inr (nam_end _));rw[List.append_nil] at this;rw[this];rfl
theorem NamS.kinds {q:Aig}{l:List Name}(h:NamS q l):∀ x∈l,0≤x.kind∧x.kind≤255:=fun x hx=>by
 obtain⟨k,hk,rfl⟩:=List.mem_iff_getElem.1 hx;exact (h k _ (List.getElem?_eq_getElem hk)).2.2.2.1
theorem i64_small {n:Int}(h0:0≤n)(h1:n≤1000000):I64 n:=i64_of (by omega) (by omega)
theorem small_tx {a:Aig}(h:RightI a)(hs:SmallI a):(tx a).length≤20000:=by
 obtain⟨c0,c1,c2,c3,c4,c5,c6,c7⟩:=hs;have hbd:=h.bd;have h1:(hdT a).length≤159:=by
  have:=lnT_len (hd_nums h);unfold hdT;rw[List.length_append];simp only[List.length_cons,List.length_nil] at *;omega
 have h2:(ins a).length≤40*23:=by
  unfold ins;refine Nat.le_trans (txs_bd (n:=23) _ _ (fun x hx k hk=>?_)) (by rw[List.length_replicate]; omega);rw[List.length_replicate] at hk;have:=lnT_len (l:=[2*((k:Int)+1)]) (mem1 (i64_small (by omega) (by omega)));unfold inT;simp only[List.length_cons,List.length_nil] at *;omega
 have h3:(las a).length≤40*67:=by
  unfold las;refine Nat.le_trans (txs_bd (n:=67) _ _ (fun x hx k hk=>?_)) (by omega);obtain⟨i,hi,rfl⟩:=List.mem_iff_getElem.1 hx;have g:=h.las hi;have:=lnT_len (l:=[2*(a.I+(k:Int)+1),a.L[i].next,a.L[i].reset]) (mem3 (i64_small (by omega) (by omega)) (i64_small (by omega) (by omega)) (i64_small (by omega) (by omega)));unfold laT;simp only[List.length_cons,List.length_nil] at *;omega
 have h4:(lis a).length≤120*23:=by
  have hx:=h.lits;unfold lis;refine Nat.le_trans (txs_bd (n:=23) _ _ (fun x hx' k hk=>?_)) (by rw[List.length_append,List.length_append]; omega);have g:=hx x hx';have:=lnT_len (l:=[x]) (mem1 (i64_small (by omega) (by omega)));unfold liT;simp only[List.length_cons,List.length_nil] at *;omega
 have h5:(gas a).length≤40*67:=by
  unfold gas;refine Nat.le_trans (txs_bd (n:=67) _ _ (fun x hx k hk=>?_)) (by omega);obtain⟨i,hi,rfl⟩:=List.mem_iff_getElem.1 hx;have g:=h.gas hi;have:=lnT_len (l:=[2*(a.I+(a.L.length:Int)+(k:Int)+1),a.G[i].a,a.G[i].b]) (mem3 (i64_small (by omega) (by omega)) (i64_small (by omega) (by omega)) (i64_small (by omega) (by omega)));unfold gaT;simp only[List.length_cons,List.length_nil] at *;omega
 have h6:(nas a).length≤40*224:=by
  unfold nas;refine Nat.le_trans (txs_bd (n:=224) _ _ (fun x hx k hk=>?_)) (by omega);obtain⟨i,hi,rfl⟩:=List.mem_iff_getElem.1 hx;have g:=c7 i hi _ (List.getElem?_eq_getElem hi);have p:=h.poss _ (List.getElem_mem hi);have q:=numB_len (i64_of p.1 p.2);rw[naT_len,← size_eq];omega
 unfold tx;simp only[List.length_append];omega
def ex0:Aig:=⟨2,[],[⟨4,2⟩],[6],[],[],[⟨111,0,{ data:=#[120] }⟩]⟩
theorem num1 {n:Nat}(h:n<10):numB ((n:Nat):Int)=[48+(n:Int)]:=by rw[numB_nat,fig_small h]
theorem nameB_x:nameB [120]=true:=by
 unfold nameB;rw[chars_cons,wid_one (by omega),if_neg (by omega)];rw[show ([120]:List Int).drop 1=[] from rfl,chars_nil];rfl
theorem ex0_right:RightI ex0 where
 pos:=by decide
 few:=by decide
 lat:=fun k hk=>absurd hk (Nat.not_lt_zero _)
 gat:=fun k hk x hx=>by
  have:k=0:=by have:k<1:=hk; omega
  subst this;injection hx with hx;subst hx;decide
 outs:=⟨fun k hk x hx=>by
  have:k=0:=by have:k<1:=hk; omega
  subst this;injection hx with hx;subst hx;decide,by decide⟩
 bad:=litsI_nil _
 con:=litsI_nil _
 nam:=fun k hk x hx=>by
  have:k=0:=by have:k<1:=hk; omega
  subst this;injection hx with hx;subst hx;exact⟨by decide,by decide,nameB_x,fun y h=>absurd h (Nat.lt_irrefl _)⟩
 nms:=by decide
theorem ex0_kinds:∀ x∈ex0.names,0≤x.kind∧x.kind≤255:=fun x hx=>by
 have:x=⟨111,0,{ data:=#[120] }⟩:=List.mem_singleton.1 hx;subst this;exact⟨by decide,by decide⟩
theorem ex0_okay:Okay ex0 where
 kinds:=fun x hx=>⟨ex0_kinds x hx,by
  have:x=⟨111,0,{ data:=#[120] }⟩:=List.mem_singleton.1 hx;subst this;decide⟩
 lens:=by decide
 fit:=by decide
theorem ex0_tx:tx ex0=[97,97,103,32,51,32,50,32,48,32,49,32,49,32,48,32,48,10,50,10,52,10,54,10,54,32,52,32,50,10,111,48,32,120,10]:=by
 have n0:numB 0=[48]:=num1 (n:=0) (by omega);have n1:numB 1=[49]:=num1 (n:=1) (by omega);have n2:numB 2=[50]:=num1 (n:=2) (by omega);have n3:numB 3=[51]:=num1 (n:=3) (by omega);have n4:numB 4=[52]:=num1 (n:=4) (by omega);have n6:numB 6=[54]:=num1 (n:=6) (by omega);have b120:bytesOf ({ data:=#[120] }:ByteArray)=[120]:=rfl;unfold tx hdT ins las lis gas nas ex0;simp[varsN,lnT,txs,inT,laT,liT,gaT,naT,List.replicate,n0,n1,n2,n3,n4,n6,b120]
theorem shown_true:law06_shown=some true:=by
 have hP:aig_Print ex0=some (strOf (tx ex0),0):=Print_eq ex0_right ex0_okay (by rw[ex0_tx]; decide);have hp:aig_Parse (tx ex0)=some (ex0,((tx ex0).length:Int),0):=Parse_own ex0_right ex0_kinds (by rw[ex0_tx]; decide);have hS:aig_Same ex0 ex0=some true:=(same_says ex0 (by unfold LensI; decide)).true_ rfl;have hR:aig_Right ex0=some true:=(right_says ex0_okay).true_ ex0_right;have hV:aig_Vars ex0=some 3:=(vars_eq ex0_right).1;have hN:aig_Names ex0 { data:=#[121] }=some (strOf ([121]++nas ex0)):=Names_eq (ex0_right.nams ex0_okay) { data:=#[121] } (by
  have n0:numB 0=[48]:=num1 (n:=0) (by omega);have b120:bytesOf ({ data:=#[120] }:ByteArray)=[120]:=rfl;unfold nas ex0;simp[txs,naT,n0,b120];decide)
 have hn:nas ex0=[111,48,32,120,10]:=by
  have n0:numB 0=[48]:=num1 (n:=0) (by omega);have b120:bytesOf ({ data:=#[120] }:ByteArray)=[120]:=rfl;unfold nas ex0;simp[txs,naT,n0,b120]
 have hb:bytesOf (strOf (tx ex0))=tx ex0:=bytesOf_strOf (tx_isB ex0_kinds);unfold law06_shown;rw[show ({ I:=2,L:=([]:List Latch),G:=([{ a:=4,b:=2 }]),outs:=[6],bad:=([]:List Int),con:=([]:List Int),names:=([{ kind:=111,pos:=0,s:={ data:=#[120] } }]) }:Aig)=ex0 from rfl,hP,Option.bind_some];simp only;rw[hb,hp,Option.bind_some];simp only;rw[if_pos (by rw[ieq_iff]),if_pos (by rw[ieq_iff]),if_pos (by rw[seq_iff]; apply bytesOf_inj; rw[hb,ex0_tx]; rfl),if_pos (by rw[ieq_iff,sizI_eq',hb]),hS,Option.bind_some,if_pos rfl,hR,Option.bind_some,if_pos rfl,hV,Option.bind_some,if_pos (by rw[ieq_iff]),hN,Option.bind_some,hn]
 rw[show seq (strOf ([121]++[111,48,32,120,10])) { data:=#[121,111,48,32,120,10] }=true by rw[seq_iff]; rfl]
end Go.Vid

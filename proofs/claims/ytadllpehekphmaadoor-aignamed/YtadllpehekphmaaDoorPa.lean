/- A function that catches what panics in it. No condition. -/
import Derived.Test.YtadllpehekphmaaDoorVRC
import Derived.Tactics
import Derived.Tactics2
import Derived.Laws.Pointers
import Derived.Test.YtadllpehekphmaaDoorW4
set_option linter.unusedSimpArgs false
set_option linter.unusedVariables false
namespace Go.Proofs.YtadllpehekphmaaDoor
open Go.Vabs Go.Vid
def k21:Nat→Option (List Nat)
 | 0=>some [0]
 | 1=>some [0,2,3,4]
 | 2=>some [0,2,3,4]
 | 3=>some [0,2,3,4]
 | 4=>some [0,2,3,4]
 | 5=>some [2,3,4,5]
 | 6=>some [2,3,4,5]
 | 30005=>some [1000000]
 | 30006=>some [100005,100018,100019,100020]
 | 9999=>some [2,3,4]
 | _=>none
attribute [simp] k21
def k43:Nat→Option (List Nat)
 | 5=>some [0,1,2,4]
 | 30005=>some [100004,100018,100020]
 | _=>none
attribute [simp] k43
noncomputable def code43:Code:=match Tryd.f43.body with
 | some (.seq _ (.seq _ (.cond _ (.seq _ (.seq _ c)) _)))=>c
 | _=>.skip
theorem ok43:okCode (goodK k43) code43=true:=by kernel_rfl
def zero7:List C:=[.lit (.int .i64 0),.lit (.slice none 0 0),.lit (.slice none 0 0),.lit (.slice none 0 0),.lit (.slice none 0 0),.lit (.slice none 0 0),.lit (.slice none 0 0)]
def box4 (y z x e:Int):List Ob:=[⟨true,true,27,7,[zero7]⟩,⟨true,true,3,1,[[.lit (.int .i64 y)]]⟩,⟨true,true,30,1,[[.lit (.int .i64 z)]]⟩,⟨true,true,80,2,[[.lit (.int .i64 x),.lit (.int .i64 e)]]⟩]
def st43 (x e:Int):St:=mk 22 [(0,T.c (.ptr 9000 0 0)),(1,T.c (.ptr 19000 0 0)),(2,T.c (.ptr 29000 0 0)),(4,T.c (.ptr 39000 0 0))] (lentHp 0 (box4 0 0 x e)) []
theorem ev_in43 [Globals] {call:CallF}{ty:Tys}{kp:Nat→Option (List Nat)}{a b c d f r:Code}{x:Operand}{s:St}{o:Option (Ex × St)}(hb:Tryd.f43.body=some (.seq a (.seq b (.cond x (.seq c (.seq d r)) f))))(h:Is (evK call ty kp r .mk s) o):evCode call ty kp code43 s=o:=by
 unfold code43;rw[hb];exact h
def m43 (x e:Int):List (Nat × T):=[(21,T.c (C.lit (Value.int IntKind.i64 e))),(20,T.c (C.ptr 39000 0 1)),(19,T.c (C.lit (Value.int IntKind.i64 x))),(18,T.c (C.ptr 39000 0 0)),(17,T.agg zero7),(0,T.c (C.ptr 9000 0 0)),(1,T.c (C.ptr 19000 0 0)),(2,T.c (C.ptr 29000 0 0)),(4,T.c (C.ptr 39000 0 0))]
set_option maxRecDepth 20000 in
set_option maxHeartbeats 4000000 in
theorem ev43 (x e:Int):evCode (fun _ _=>none) tyTab k43 code43 (st43 x e)=some (.norm,mk 22 (m43 x e) (lentHp 0 (box4 x e x e)) []):=by
 refine ev_in43 rfl ?_;unfold st43 box4 zero7;simp -implicitDefEqProofs;rfl
theorem fn21:Tryd.prog.funcs[21]?=some Tryd.f21:=by kernel_rfl
theorem nt21:Tryd.f21.ntmps=22:=rfl
theorem fn43:Tryd.prog.funcs[43]?=some Tryd.f43:=by kernel_rfl
theorem nt43:Tryd.f43.ntmps=22:=rfl
theorem as80 (W:World)(v:Value):(Instr.typeAssert (.iface 80 v) 20 80 true).run Tryd.prog W=.ok (.tuple #[v,.bool true]) W:=by kernel_rfl
def at4 (b0 b1 b2 b3:Nat)(k:Nat):Option Vabs.Loc:=if k=9000 then some (.at b0 0 1 7) else if k=19000 then some (.at b1 0 1 1) else if k=29000 then some (.at b2 0 1 1) else if k=39000 then some (.at b3 0 1 2) else none
def cells7:List Value:=[.int .i64 0,.slice none 0 0,.slice none 0 0,.slice none 0 0,.slice none 0 0,.slice none 0 0,.slice none 0 0]
structure Vars (w:World) (b0 b1 b2:Nat):Prop where
 h0:w.heap[b0]?=some (.cells cells7.toArray 27)
 h1:w.heap[b1]?=some (.cells #[.int .i64 0] 3)
 h2:w.heap[b2]?=some (.cells #[.int .i64 0] 30)
 n01:b0≠b1
 n02:b0≠b2
 n12:b1≠b2
theorem lit_rep {w:World}{fz:Nat→Prop}{ρ:Nat→Option Vabs.Loc}(k:IntKind)(x:Int):RepC w fz ρ (.int k x) (.lit (.int k x)):=.frz (.lit _ trivial)
theorem nil_rep {w:World}{fz:Nat→Prop}{ρ:Nat→Option Vabs.Loc}:RepC w fz ρ (.slice none 0 0) (.lit (.slice none 0 0)):=.frz (.lit _ trivial)
theorem at4_some {b0 b1 b2 b3 k b base cap sz:Nat}(h:at4 b0 b1 b2 b3 k=some (.at b base cap sz)):(k=9000∧b=b0)∨(k=19000∧b=b1)∨(k=29000∧b=b2)∨(k=39000∧b=b3):=by
 unfold at4 at h
 split at h
 ·rename_i hk; cases h; exact .inl ⟨hk,rfl⟩
 split at h
 ·rename_i hk; cases h; exact .inr (.inl ⟨hk,rfl⟩)
 split at h
 ·rename_i hk; cases h; exact .inr (.inr (.inl ⟨hk,rfl⟩))
 split at h
 ·rename_i hk; cases h; exact .inr (.inr (.inr ⟨hk,rfl⟩))
 ·cases h
theorem a4_0 {b0 b1 b2 b3:Nat}:at4 b0 b1 b2 b3 (lentH true 0)=some (.at b0 0 1 7):=by simp[at4,lentH]
theorem a4_1 {b0 b1 b2 b3:Nat}:at4 b0 b1 b2 b3 (lentH true 1)=some (.at b1 0 1 1):=by simp[at4,lentH]
theorem a4_2 {b0 b1 b2 b3:Nat}:at4 b0 b1 b2 b3 (lentH true 2)=some (.at b2 0 1 1):=by simp[at4,lentH]
theorem a4_3 {b0 b1 b2 b3:Nat}:at4 b0 b1 b2 b3 (lentH true 3)=some (.at b3 0 1 2):=by simp[at4,lentH]
theorem vars_lent {w:World}{fz:Nat→Prop}{b0 b1 b2 b3:Nat}{x e:Int}(hv:Vars w b0 b1 b2)(h3:w.heap[b3]?=some (.cells #[.int .i64 x,.int .i64 e] 80))(n0:b0≠b3)(n1:b1≠b3)(n2:b2≠b3)
  (f0:¬ fz b0) (f1:¬ fz b1) (f2:¬ fz b2) (f3:¬ fz b3):LentIn w fz (at4 b0 b1 b2 b3) (box4 0 0 x e) where
 obj:=fun j o hj=>by
  match j,hj with
  | 0,hj=>
   obtain rfl:=Option.some.inj hj;exact⟨_,a4_0,RepO.plain (cs:=cells7) hv.h0 rfl (by simp[cells7,lit_rep,nil_rep])⟩
  | 1,hj=>
   obtain rfl:=Option.some.inj hj;exact⟨_,a4_1,RepO.plain (cs:=[.int .i64 0]) hv.h1 rfl (by simp[lit_rep])⟩
  | 2,hj=>
   obtain rfl:=Option.some.inj hj;exact⟨_,a4_2,RepO.plain (cs:=[.int .i64 0]) hv.h2 rfl (by simp[lit_rep])⟩
  | 3,hj=>
   obtain rfl:=Option.some.inj hj;exact⟨_,a4_3,RepO.plain (cs:=[.int .i64 x,.int .i64 e]) h3 rfl (by simp[lit_rep])⟩
  | j+4,hj=>cases hj
 dom:=fun k l hk=>by
  unfold at4 at hk
  split at hk
  ·rename_i h; exact⟨0,_,rfl,h.trans (by simp[lentH])⟩
  split at hk
  ·rename_i h; exact⟨1,_,rfl,h.trans (by simp[lentH])⟩
  split at hk
  ·rename_i h; exact⟨2,_,rfl,h.trans (by simp[lentH])⟩
  split at hk
  ·rename_i h; exact⟨3,_,rfl,h.trans (by simp[lentH])⟩
  ·cases hk
 inj:=fun k k' b base cap sz base' cap' sz' hk hk'=>by
  have h1:=at4_some hk;have h2:=at4_some hk';have n01:=hv.n01;have n02:=hv.n02;have n12:=hv.n12;omega
 own:=fun k b base cap sz hk=>by
  have lt:∀ {b:Nat} {o:Obj},w.heap[b]?=some o→b<w.heap.size:=fun h=>(Array.getElem?_eq_some_iff.1 h).1
  rcases at4_some hk with ⟨_,rfl⟩ | ⟨_,rfl⟩ | ⟨_,rfl⟩ | ⟨_,rfl⟩
  ·exact⟨lt hv.h0,f0⟩
  ·exact⟨lt hv.h1,f1⟩
  ·exact⟨lt hv.h2,f2⟩
  ·exact⟨lt h3,f3⟩
def tm21:List T:=tmk 22 [(2,T.c (.ptr 9000 0 0)),(3,T.c (.ptr 19000 0 0)),(4,T.c (.ptr 29000 0 0))]
def rPan (x e:Int):T × List Ob:=(T.tup [T.agg [C.lit (Value.int IntKind.i64 0),C.ref 0 0 0,C.ref 1 0 0,C.ref 2 0 0,C.ref 3 0 0,C.ref 4 0 0,C.ref 5 0 0],T.c (C.lit (Value.int IntKind.i64 x)),T.c (C.lit (Value.int IntKind.i64 e))],
 [⟨false,true,47,2,[]⟩,⟨false,true,53,2,[]⟩,⟨false,true,3,1,[]⟩,⟨false,true,3,1,[]⟩,⟨false,true,3,1,[]⟩,⟨false,true,49,3,[]⟩])
theorem outT_of {fn:Func}{s:St}{rs:List ResultVar}{us:List TypeId}{o:Option (T × List Ob)}(hr:fn.results.toList=rs)(hu:fn.resultTypes.toList=us)(h:outR tyTab rs us s=o):outT tyTab fn s=o:=by
 subst hr;subst hu;exact h
set_option maxRecDepth 20000 in
theorem outP (x e:Int):outT tyTab Tryd.f21 ⟨tm21,lentHp 0 (box4 x e x e),[]⟩=some (rPan x e):=by
 refine outT_of (rs:=[.cell 2 27,.cell 3 3,.cell 4 30]) (us:=[27,3,30]) rfl rfl ?_;show outR tyTab [.cell 2 27,.cell 3 3,.cell 4 30] [27,3,30] (mk 22 [(2,T.c (.ptr 9000 0 0)),(3,T.c (.ptr 19000 0 0)),(4,T.c (.ptr 29000 0 0))] (lentHp 0 (box4 x e x e)) [])=_;unfold box4 zero7 rPan;simp -implicitDefEqProofs
theorem ix_none (hix:IxOK Tryd.prog):CallF.ok Tryd.prog (fun _ _=>none):=⟨hix,fun f args r h=>by cases h⟩
def args43 (x e:Int):List T:=[T.c (.ptr 9000 0 0),T.c (.ptr 19000 0 0),T.c (.ptr 29000 0 0),.junk,T.c (.ptr 39000 0 0),.junk,.junk,.junk,.junk,.junk,.junk,.junk,.junk,.junk,.junk,.junk,.junk,.junk,.junk,.junk,.junk,.junk]++(box4 0 0 x e).map obT
theorem lent43 (x e:Int):lentOf (args43 x e)=box4 0 0 x e:=rfl
theorem tm21_reps {w:World}{fz:Nat→Prop}{ρ:Nat→Option Vabs.Loc}{tm:Array Value}{b0 b1 b2:Nat}(hs:tm.size=22)(h2:tm[2]?=some (.pointer (some ⟨b0,0,none⟩)))(h3:tm[3]?=some (.pointer (some ⟨b1,0,none⟩)))(h4:tm[4]?=some (.pointer (some ⟨b2,0,none⟩)))
  (r0:ρ 9000=some (.at b0 0 1 7)) (r1:ρ 19000=some (.at b1 0 1 1)) (r2:ρ 29000=some (.at b2 0 1 1)):∀ (i:Nat) (t:T),tm21[i]?=some t→∃ v,tm[i]?=some v∧RepT w fz ρ v t:=by
 intro i t hi;unfold tm21 at hi;rw[tmk_get] at hi
 split at hi
 ·rename_i hl;injection hi with hi;subst hi
  by_cases e2:i=2
  ·subst e2;exact⟨_,h2,RepC.ptr 9000 0 0 b0 0 1 7 r0⟩
  by_cases e3:i=3
  ·subst e3;exact⟨_,h3,RepC.ptr 19000 0 0 b1 0 1 1 r1⟩
  by_cases e4:i=4
  ·subst e4;exact⟨_,h4,RepC.ptr 29000 0 0 b2 0 1 1 r2⟩
  have hj:tget [(2,T.c (.ptr 9000 0 0)),(3,T.c (.ptr 19000 0 0)),(4,T.c (.ptr 29000 0 0))] i=.junk:=by
   simp[tget,Ne.symm e2,Ne.symm e3,Ne.symm e4,e2,e3,e4]
  rw[hj];exact⟨tm[i],Array.getElem?_eq_getElem (by omega),trivial⟩
 ·cases hi
set_option maxRecDepth 20000 in
set_option maxHeartbeats 1000000 in
theorem catchP (hix:IxOK Tryd.prog){w00 w:World}{fz:Nat→Prop}{b0 b1 b2:Nat}(hv:Vars w b0 b1 b2)(hp:Past (Bs.bare w00.heap.size) w00 w)(l0:w00.heap.size≤b0)(l1:w00.heap.size≤b1)(l2:w00.heap.size≤b2)(hlt:∀ b,fz b→b<w00.heap.size)(hg:GlobF w fz)(x e:Int):
  CallsD Tryd.prog 43 #[.pointer (some ⟨b0,0,none⟩),.pointer (some ⟨b1,0,none⟩),.pointer (some ⟨b2,0,none⟩)] (.panicking [{ v:=.iface 80 (.agg #[.int .i64 x,.int .i64 e]),recovered:=false }]) w fun e' u' w'=>
   (∃ v,e'=.returned v)∧u'=.panicking [{ v:=.iface 80 (.agg #[.int .i64 x,.int .i64 e]),recovered:=true }] ∧
   ∀ tm:Array Value,tm.size=22→tm[2]?=some (.pointer (some ⟨b0,0,none⟩))→tm[3]?=some (.pointer (some ⟨b1,0,none⟩))→tm[4]?=some (.pointer (some ⟨b2,0,none⟩)) →
    ∃ v fz' ρ',(results Tryd.f21 tm).run Tryd.prog w'=.ok v w'∧Out w00 w' fz fz' ρ' v (rPan x e):=by
 refine callsD_of_wpS fn43 rfl fun c₀ cs hu=>?_;simp only[nt43,List.size_toArray,List.length_cons,List.length_nil,Nat.reduceAdd,Nat.reduceSub,Array.replicate_succ,
  Array.replicate_zero,List.push_toArray,List.append_toArray,List.nil_append,List.cons_append]
 apply wpS_seq;apply wpS_region;simp[wpOpsS,go_sem,recoverD,hu,Exit.thenS];generalize hr5:Code.region 5 _ true=r5;have hc:code43=r5:=by rw[← hr5]; rfl
 refine wpS_of_wp ?_;have has:=as80
 go_wp2
 rw[← hc];have lt:∀ {b:Nat} {o:Obj},w.heap[b]?=some o→b<w.heap.size:=fun h=>(Array.getElem?_eq_some_iff.1 h).1;have hW:∀ {b:Nat} {o:Obj},w.heap[b]?=some o→(w.alloc (Obj.cells #[Value.int IntKind.i64 x,Value.int IntKind.i64 e] 80)).heap[b]?=some o:=fun h=>(Go.RowKit.Below.heap_alloc _ _ _ (lt h)).trans h;have h3:(w.alloc (Obj.cells #[Value.int IntKind.i64 x,Value.int IntKind.i64 e] 80)).heap[w.heap.size]?=some (.cells #[.int .i64 x,.int .i64 e] 80):=heap_alloc_new _ _;have nf:∀ b,w00.heap.size≤b→¬ fz b:=fun b hb hf=>by have:=hlt b hf; omega
 have hlw:=hp.size;have hin:=vars_lent (fz:=fz) (b3:=w.heap.size) (x:=x) (e:=e) ⟨hW hv.h0,hW hv.h1,hW hv.h2,hv.n01,hv.n02,hv.n12⟩ h3 (Nat.ne_of_lt (lt hv.h0)) (Nat.ne_of_lt (lt hv.h1)) (Nat.ne_of_lt (lt hv.h2)) (nf _ l0) (nf _ l1) (nf _ l2) (nf _ hlw);have hrel0:=lent_start (fn:=Tryd.f43) (args:=args43 x e) (w:=w.alloc (Obj.cells #[Value.int IntKind.i64 x,Value.int IntKind.i64 e] 80)) (fz:=fz) (ρ0:=at4 b0 b1 b2 w.heap.size)
  (vs:=#[Value.pointer (some ⟨b0,0,none⟩),Value.pointer (some ⟨b1,0,none⟩),Value.pointer (some ⟨b2,0,none⟩),Value.iface 80 (Value.agg #[Value.int IntKind.i64 x,Value.int IntKind.i64 e]),Value.pointer (some { block:=w.heap.size,off:=0 }),Value.bool true,
     Value.iface 80 (Value.agg #[Value.int IntKind.i64 x,Value.int IntKind.i64 e]),
     Value.iface 80 (Value.agg #[Value.int IntKind.i64 x,Value.int IntKind.i64 e]),Value.bool true,
     Value.tuple #[Value.agg #[Value.int IntKind.i64 x,Value.int IntKind.i64 e],Value.bool true],
     Value.iface 80 (Value.agg #[Value.int IntKind.i64 x,Value.int IntKind.i64 e]),
     Value.tuple #[Value.agg #[Value.int IntKind.i64 x,Value.int IntKind.i64 e],Value.bool true],
     Value.agg #[Value.int IntKind.i64 x,Value.int IntKind.i64 e],Value.bool true,Value.bool true,
     Value.bool false,undef,undef,undef,undef,undef,undef]) rfl
  (reps_of (ts:=(st43 x e).tm) rfl (by
   intro p hp;have hp:p∈[(_,_),(_,_),(_,_),(_,_),(_,_),(_,_),(_,_),(_,_),(_,_),(_,_),(_,_),(_,_),(_,_),(_,_),(_,_),(_,_),(_,_),(_,_),(_,_),(_,_),(_,_),(_,_)]:=hp;simp only[List.mem_cons,List.not_mem_nil,or_false] at hp
   rcases hp with rfl | rfl | rfl | rfl | rfl | rfl | rfl | rfl | rfl | rfl | rfl | rfl | rfl | rfl | rfl | rfl | rfl | rfl | rfl | rfl | rfl | rfl
   ·exact RepC.ptr 9000 0 0 b0 0 1 7 a4_0
   ·exact RepC.ptr 19000 0 0 b1 0 1 1 a4_1
   ·exact RepC.ptr 29000 0 0 b2 0 1 1 a4_2
   ·trivial
   ·exact RepC.ptr 39000 0 0 w.heap.size 0 1 2 a4_3
   all_goals trivial)) (by
   intro t ht;have ht:t∈[T.c (.ptr 9000 0 0),T.c (.ptr 19000 0 0),T.c (.ptr 29000 0 0),.junk,T.c (.ptr 39000 0 0),.junk,.junk,.junk,.junk,.junk,.junk,.junk,.junk,.junk,.junk,.junk,.junk,.junk,.junk,.junk,.junk,.junk]:=ht;simp only[List.mem_cons,List.not_mem_nil,or_false] at ht
   rcases ht with rfl | rfl | rfl | rfl | rfl | rfl | rfl | rfl | rfl | rfl | rfl | rfl | rfl | rfl | rfl | rfl | rfl | rfl | rfl | rfl | rfl | rfl
   all_goals rfl) (by rw[lent43]; exact hin) (fun b hb=>by have:=hlt b hb; simp; omega) (hg.mono (fun b hb=>Go.RowKit.Below.heap_alloc _ _ _ (by have:=hlt b hb; omega)) (fun _ h=>h))
 have hrel:Rel (w.alloc (Obj.cells #[Value.int IntKind.i64 x,Value.int IntKind.i64 e] 80)) (lentBs (w.alloc (Obj.cells #[Value.int IntKind.i64 x,Value.int IntKind.i64 e] 80)).heap.size (at4 b0 b1 b2 w.heap.size)) fz fz (at4 b0 b1 b2 w.heap.size) (st43 x e) _ (w.alloc (Obj.cells #[Value.int IntKind.i64 x,Value.int IntKind.i64 e] 80)):=hrel0;refine (evCode_sound tyOk (ix_none hix) (anyhow tyOk _ (ix_none hix) k43)).1 code43 (st43 x e) _ (ev43 x e) ok43 _ _ fz fz _ _ _ (Nat.le_refl _) hrel _ (fun tm' w' hr=>?_);obtain⟨fz',ρ',hr⟩:=hr.rel (fun _ _ h=>by cases h);refine⟨rfl,_,rfl,_,results_none rfl _ _ _,⟨_,rfl⟩,rfl,fun tm q0 q2 q3 q4=>?_⟩
 have hbx:∀ k l,lentNm k=true→at4 b0 b1 b2 w.heap.size k=some l→ρ' k=some l:=fun k l h1 h2=>(hr.boxes k l (by show (if lentNm k=true then _ else _)=_; rw[if_pos h1]; exact h2)).2.1;have r0:=hbx 9000 _ rfl a4_0;have r1:=hbx 19000 _ rfl a4_1;have r2:=hbx 29000 _ rfl a4_2;have hown:∀ b,(lentBs (w.alloc (Obj.cells #[Value.int IntKind.i64 x,Value.int IntKind.i64 e] 80)).heap.size (at4 b0 b1 b2 w.heap.size)).owns b→w00.heap.size≤b:=by
  rintro b (hb | ⟨k,base,cap,sz,hk⟩)
  ·have hb:(w.alloc (Obj.cells #[Value.int IntKind.i64 x,Value.int IntKind.i64 e] 80)).heap.size≤b:=hb;simp at hb;omega
  ·rcases at4_some hk with ⟨_,rfl⟩ | ⟨_,rfl⟩ | ⟨_,rfl⟩ | ⟨_,rfl⟩<;>omega
 have hpast:Past (Bs.bare w00.heap.size) w00 w':=by
  have hb:=hr.below;refine hp.trans ⟨hb.os,hb.tape,hb.output,Nat.le_trans (by simp) hb.size,fun k hk=>?_⟩;have hk:k<w00.heap.size:=Bs.notOwns hk;exact (hb.block k (fun h=>by have:=hown k h; omega)).trans (Go.RowKit.Below.heap_alloc _ _ _ (by omega))
 have hrel2:Rel w00 (Bs.bare w00.heap.size) fz fz' ρ' ⟨tm21,lentHp 0 (box4 x e x e),[]⟩ tm w':=
  hr.rebase (fun b hb=>.inl (hown b hb)) (fun _=>rfl) hpast rfl rfl q0 (tm21_reps q0 q2 q3 q4 r0 r1 r2) (fun i q pos hi=>by
   have:=List.mem_of_getElem? hi;have hm:T.itr q pos∈[T.junk,.junk,T.c (.ptr 9000 0 0),T.c (.ptr 19000 0 0),T.c (.ptr 29000 0 0),.junk,.junk,.junk,.junk,.junk,.junk,.junk,.junk,.junk,.junk,.junk,.junk,.junk,.junk,.junk,.junk,.junk]:=this;simp at hm)
 obtain⟨v,fz2,ρ2,e1,e2⟩:=outT_sound (a:=⟨tm,[]⟩) tyOk hrel2 (outP x e);exact⟨v,e1,fz2,ρ2,e2⟩
theorem catchI (p0 p1 p2:Value)(w:World):CallsD Tryd.prog 43 #[p0,p1,p2] .returning w fun e' u' w'=>(∃ v,e'=.returned v)∧u'=.returning∧w'=w:=by
 refine callsD_of_wpS fn43 rfl fun c₀ cs hu=>?_;simp only[nt43,List.size_toArray,List.length_cons,List.length_nil,Nat.reduceAdd,Nat.reduceSub,Array.replicate_succ,
  Array.replicate_zero,List.push_toArray,List.append_toArray,List.nil_append,List.cons_append]
 apply wpS_seq;apply wpS_region;simp[wpOpsS,go_sem,recoverD,hu,Exit.thenS];refine wpS_of_wp ?_
 go_wp2
 exact⟨rfl,.returning,by cases c₀; simp_all,_,results_none rfl _ _ _,⟨_,rfl⟩,rfl,rfl⟩
def W3 (w:World):World:=((w.alloc (Obj.cells #[Value.int IntKind.i64 0,Value.slice none 0 0,Value.slice none 0 0,Value.slice none 0 0,Value.slice none 0 0,Value.slice none 0 0,Value.slice none 0 0] 27)).alloc (Obj.cells #[Value.int IntKind.i64 0] 3)).alloc (Obj.cells #[Value.int IntKind.i64 0] 30)
theorem w3_past (w:World):Past (Bs.bare w.heap.size) w (W3 w):=((Past.refl _ w).alloc (Nat.le_refl _) _ |>.alloc (by simp[Bs.bare]) _).alloc (by simp[Bs.bare]; omega) _
theorem w3_size (w:World):(W3 w).heap.size=w.heap.size+3:=by simp[W3]
theorem w3_vars (w:World):Vars (W3 w) w.heap.size (w.heap.size+1) (w.heap.size+1+1) where
 h0:=by
  unfold W3;rw[Go.RowKit.Below.heap_alloc _ _ _ (by simp; omega),Go.RowKit.Below.heap_alloc _ _ _ (by simp)];exact heap_alloc_new _ _
 h1:=by
  unfold W3;rw[Go.RowKit.Below.heap_alloc _ _ _ (by simp)];have:=heap_alloc_new (w.alloc (Obj.cells #[Value.int IntKind.i64 0,Value.slice none 0 0,Value.slice none 0 0,Value.slice none 0 0,Value.slice none 0 0,Value.slice none 0 0,Value.slice none 0 0] 27)) (Obj.cells #[Value.int IntKind.i64 0] 3);simpa using this
 h2:=by
  unfold W3;have:=heap_alloc_new ((w.alloc (Obj.cells #[Value.int IntKind.i64 0,Value.slice none 0 0,Value.slice none 0 0,Value.slice none 0 0,Value.slice none 0 0,Value.slice none 0 0,Value.slice none 0 0] 27)).alloc (Obj.cells #[Value.int IntKind.i64 0] 3)) (Obj.cells #[Value.int IntKind.i64 0] 30);simpa using this
 n01:=by omega
 n02:=by omega
 n12:=by omega
theorem Vars.past {w w':World}{b0 b1 b2 n:Nat}(h:Vars w b0 b1 b2)(hp:∀ k,k<n→w'.heap[k]?=w.heap[k]?)(l0:b0<n)(l1:b1<n)(l2:b2<n):Vars w' b0 b1 b2:=⟨(hp _ l0).trans h.h0,(hp _ l1).trans h.h1,(hp _ l2).trans h.h2,h.n01,h.n02,h.n12⟩
theorem leave (hix:IxOK Tryd.prog){w w':World}{fz:Nat→Prop}(hlt:∀ b,fz b→b<w.heap.size)(hg:GlobF w fz)(hp:∀ k,k<w.heap.size+3→w'.heap[k]?=(W3 w).heap[k]?)(hpp:Past (Bs.bare w.heap.size) w w')(x e:Int)(tm:Array Value)(q:tm.size=22)
  (q2:tm[2]?=some (.pointer (some ⟨w.heap.size,0,none⟩))) (q3:tm[3]?=some (.pointer (some ⟨w.heap.size+1,0,none⟩))) (q4:tm[4]?=some (.pointer (some ⟨w.heap.size+1+1,0,none⟩))):
  Leaves Tryd.prog Tryd.f21 tm (fun e' w''=>∃ v fz' ρ',e'=.returned v∧Out w w'' fz fz' ρ' v (rPan x e))
   [{ target:=.fn (.func 43) #[.pointer (some ⟨w.heap.size,0,none⟩),.pointer (some ⟨w.heap.size+1,0,none⟩),.pointer (some ⟨w.heap.size+1+1,0,none⟩)],args:=#[] }] (.panicking [{ v:=.iface 80 (.agg #[.int .i64 x,.int .i64 e]),recovered:=false }]) w':=by
 refine leaves_cons (f:=43) (args:=#[.pointer (some ⟨w.heap.size,0,none⟩),.pointer (some ⟨w.heap.size+1,0,none⟩),.pointer (some ⟨w.heap.size+1+1,0,none⟩)]) (by simp) (by simp[go_sem]) ?_;have hv:=(w3_vars w).past hp (by omega) (by omega) (by omega);refine (catchP hix hv hpp (Nat.le_refl _) (by omega) (by omega) hlt (hg.mono (fun b hb=>hpp.block b (fun h=>by have:=Bs.bare_owns h; have:=hlt b hb; omega)) (fun _ h=>h)) x e).mono ?_;rintro e' u' w'' ⟨⟨v,rfl⟩,rfl,h⟩;obtain⟨v2,fz2,ρ2,h1,h2⟩:=h tm q q2 q3 q4;simp only[settle,List.dropWhile_nil,Leaves];exact⟨v2,h1,v2,fz2,ρ2,rfl,h2⟩
set_option maxRecDepth 20000 in
set_option maxHeartbeats 1000000 in
theorem large (hix:IxOK Tryd.prog){w:World}{fz:Nat→Prop}(hlt:∀ b,fz b→b<w.heap.size)(hg:GlobF w fz)(a:Option Addr)(n c:Nat)(hn:100000<(n:Int)):
  Calls Tryd.prog 21 #[.slice a n c] w fun e' w''=>∃ v fz' ρ',e'=.returned v∧Out w w'' fz fz' ρ' v (rPan 0 3):=by
 have hmf:∀ (fn:Fn) (first cap:Array Value) (w:World),(Instr.makeFunc fn first cap).run Tryd.prog w=.ok (.func fn first cap) w:=fun _ _ _ _=>rfl;have hpan:∀ (v:Value) (w:World),(Instr.panic (.iface 80 v)).run Tryd.prog w=.halt (.panic (.iface 80 v)) w:=fun _ _=>rfl
 go_enter_defers fn21,nt21
 go_wp2_with (exfalso; omega)
 exact leave hix hlt hg (fun k hk=>rfl) (w3_past w) 0 3 _ rfl rfl rfl rfl
def W4 (w:World)(a:Option Addr)(n c:Nat):World:=(W3 w).alloc (Obj.cells #[Value.slice a n c,Value.int IntKind.i64 0] 84)
def at1 (b:Nat)(k:Nat):Option Vabs.Loc:=if k=9000 then some (.at b 0 1 2) else none
theorem a1_0 {b:Nat}:at1 b (lentH true 0)=some (.at b 0 1 2):=by simp[at1,lentH]
theorem at1_some {b k:Nat}{l:Vabs.Loc}(h:at1 b k=some l):k=9000∧l=.at b 0 1 2:=by
 unfold at1 at h
 split at h
 ·rename_i hk; cases h; exact⟨hk,rfl⟩
 ·cases h
def rdOb (b:List Int)(x:Int):Ob:=⟨true,true,84,2,[[sls 1 byteF b,C.lit (.int .i64 x)]]⟩
theorem rd_lent {w:World}{fz:Nat→Prop}{a:Option Addr}{n c:Nat}{b:List Int}(hr:RepC (W4 w a n c) fz (fun _=>none) (.slice a n c) (sls 1 byteF b))(hf:¬ fz (w.heap.size+3)):LentIn (W4 w a n c) fz (at1 (w.heap.size+3)) [rdOb b 0] where
 obj:=fun j o hj=>by
  match j,hj with
  | 0,hj=>
   obtain rfl:=Option.some.inj hj;refine⟨_,a1_0,?_,?_,rfl,Nat.le_refl _,#[Value.slice a n c,Value.int IntKind.i64 0],(0,0),?_,?_,?_,?_⟩
   ·intro e he;obtain rfl:=List.mem_singleton.1 he;rfl
   ·intro _ e he x hx;obtain rfl:=List.mem_singleton.1 he;simp only[List.mem_cons,List.not_mem_nil,or_false] at hx
    rcases hx with rfl | rfl<;>rfl
   ·have:=heap_alloc_new (W3 w) (Obj.cells #[Value.slice a n c,Value.int IntKind.i64 0] 84);rw[w3_size] at this;exact this
   ·simp
   ·exact⟨.inl rfl,fun _=>⟨rfl,rfl⟩⟩
   ·intro i j e x he hx
    match i,he with
    | 0,he=>
     obtain rfl:=Option.some.inj he
     match j,hx with
     | 0,hx=>
      obtain rfl:=Option.some.inj hx;exact⟨_,rfl,hr.mono (fun _ _=>rfl) (fun _ h=>h) (fun _ _ h=>by cases h)⟩
     | 1,hx=>
      obtain rfl:=Option.some.inj hx;exact⟨_,rfl,lit_rep _ _⟩
     | j+2,hx=>cases hx
    | i+1,he=>cases he
  | j+1,hj=>cases hj
 dom:=fun k l hk=>⟨0,_,rfl,(at1_some hk).1⟩
 inj:=fun k k' b base cap sz base' cap' sz' hk hk'=>(at1_some hk).1.trans (at1_some hk').1.symm
 own:=fun k b base cap sz hk=>by
  obtain⟨_,h⟩:=at1_some hk
  cases h
  exact⟨by simp[W4,w3_size],hf⟩
set_option maxRecDepth 20000 in
set_option maxHeartbeats 1000000 in
theorem spoilt (hix:IxOK Tryd.prog){w:World}{fz:Nat→Prop}(hlt:∀ b,fz b→b<w.heap.size)(hg:GlobF w fz)(a:Option Addr)(n c:Nat)(hn:(n:Int)≤100000)(x e:Int)
  (hc:∀ Q:Ending→World→Prop,(∀ w',Past (lentBs (W4 w a n c).heap.size (at1 (w.heap.size+3))) (W4 w a n c) w'→Q (.panicked [{ v:=.iface 80 (.agg #[.int .i64 x,.int .i64 e]),recovered:=false }]) w')→Calls Tryd.prog 44 #[.pointer (some ⟨w.heap.size+1+1+1,0,none⟩)] (W4 w a n c) Q):
  Calls Tryd.prog 21 #[.slice a n c] w fun e' w''=>∃ v fz' ρ',e'=.returned v∧Out w w'' fz fz' ρ' v (rPan x e):=by
 have hmf:∀ (fn:Fn) (first cap:Array Value) (w:World),(Instr.makeFunc fn first cap).run Tryd.prog w=.ok (.func fn first cap) w:=fun _ _ _ _=>rfl;have hc':=hc;unfold W4 W3 at hc'
 go_enter_defers fn21,nt21
 go_wp2_with (first | (exfalso; omega) | (refine hc' _ (fun w' hp=>?_)))
 rename_i w';have hp:Past (lentBs (W4 w a n c).heap.size (at1 (w.heap.size+3))) (W4 w a n c) w':=by assumption
 have hs:(W4 w a n c).heap.size=w.heap.size+4:=by simp[W4,w3_size]
 have hno:∀ k,k<w.heap.size+3→¬ (lentBs (W4 w a n c).heap.size (at1 (w.heap.size+3))).owns k:=by
  rintro k hk (h | ⟨j,base,cap,sz,h⟩)
  ·have h:(W4 w a n c).heap.size≤k:=h;omega
  ·have:=(at1_some h).2
   cases this
   omega
 have hb:∀ k,k<w.heap.size+3→w'.heap[k]?=(W3 w).heap[k]?:=fun k hk=>(hp.block k (hno k hk)).trans (Go.RowKit.Below.heap_alloc _ _ _ (by rw[w3_size]; exact hk));have h3:=w3_past w;refine leave hix hlt hg hb ⟨hp.os.trans h3.os,hp.tape.trans h3.tape,hp.output.trans h3.output,Nat.le_trans (by omega) hp.size,fun k hk=>?_⟩ x e _ rfl rfl rfl rfl;have hk':k<w.heap.size:=Bs.notOwns hk;exact (hb k (by omega)).trans (h3.block k hk)
end Go.Proofs.YtadllpehekphmaaDoor
namespace Go.Proofs.YtadllpehekphmaaDoor
open Go.Vabs Go.Vid
noncomputable def code21a:Code:=match Tryd.f21.body with
 | some (.seq a _)=>a
 | _=>.skip
noncomputable def code21b:Code:=match Tryd.f21.body with
 | some (.seq _ (.seq _ c))=>c
 | _=>.skip
theorem ok21a:okCode (goodK k21) code21a=true:=by kernel_rfl
theorem ok21b:okCode (goodK k21) code21b=true:=by kernel_rfl
theorem ev_in21a [Globals] {call:CallF}{ty:Tys}{kp:Nat→Option (List Nat)}{a b:Code}{s:St}{o:Option (Ex × St)}(hb:Tryd.f21.body=some (.seq a b))(h:Is (evK call ty kp a .mk s) o):evCode call ty kp code21a s=o:=by
 unfold code21a;rw[hb];exact h
theorem ev_in21b [Globals] {R:Type}{g:Ex × St→Option R}{call:CallF}{ty:Tys}{kp:Nat→Option (List Nat)}{a b c:Code}{s:St}{o:Option R}(hb:Tryd.f21.body=some (.seq a (.seq b c)))(h:Is ((evK call ty kp c .mk s).bind g) o):(evCode call ty kp code21b s).bind g=o:=by
 unfold code21b;rw[hb];exact h
def m21 (b:List Int):List (Nat × T):=[(4,T.c (C.ptr 4 0 0)),(3,T.c (C.ptr 3 0 0)),(2,T.c (C.ptr 2 0 0)),(0,T.c (sls 1 byteF b))]
def h21:Heap:=[(2,⟨true,true,27,7,[zero7]⟩),(3,⟨true,true,3,1,[intF 0]⟩),(4,⟨true,true,30,1,[intF 0]⟩)]
set_option maxRecDepth 20000 in
set_option maxHeartbeats 4000000 in
theorem ev21a (b:List Int):evCode ev tyTab k21 code21a (mk 22 [(0,T.c (sls 1 byteF b))] [] [])=some (.norm,mk 22 (m21 b) h21 []):=by
 refine ev_in21a rfl ?_;simp -implicitDefEqProofs;rfl
def okModel (q:Aig × Reader_aig):T × List Ob:=okR (T.agg [C.lit (Value.int IntKind.i64 q.1.I),C.ref 1 0 (lenN q.1.L),C.ref 2 0 (lenN q.1.G),C.ref 3 0 (lenN q.1.outs),C.ref 4 0 (lenN q.1.bad),C.ref 5 0 (lenN q.1.con),C.ref 6 0 (lenN q.1.names)],[Ob.mk true true 84 2 [Reader_aig.cells q.2],rowO 47 2 Latch.cells q.1.L,rowO 53 2 And.cells q.1.G,rowO 3 1 intF q.1.outs,rowO 3 1 intF q.1.bad,rowO 3 1 intF q.1.con,rowO 49 3 Name.cells q.1.names])
def rOk (v:Aig)(x e:Int):T × List Ob:=(T.tup [T.agg [C.lit (Value.int IntKind.i64 v.I),C.ref 0 0 (lenN v.L),C.ref 1 0 (lenN v.G),C.ref 2 0 (lenN v.outs),C.ref 3 0 (lenN v.bad),C.ref 4 0 (lenN v.con),C.ref 5 0 (lenN v.names)],T.c (C.lit (Value.int IntKind.i64 x)),T.c (C.lit (Value.int IntKind.i64 e))],[rowO 47 2 Latch.cells v.L,rowO 53 2 And.cells v.G,rowO 3 1 intF v.outs,rowO 3 1 intF v.bad,rowO 3 1 intF v.con,rowO 49 3 Name.cells v.names])
set_option maxRecDepth 20000 in
set_option maxHeartbeats 4000000 in
theorem ev21b (b:List Int)(q:Aig × Reader_aig)(hn:ilt 100000 (lenI b)=false)(h44:ev 44 [T.tup [],T.c (C.ptr 9000 0 0),obT (Ob.mk true true 84 2 [[sls 1 byteF b,C.lit (.int .i64 0)]])]=some (okModel q)):(evCode ev tyTab k21 code21b (mk 22 (m21 b) h21 [])).bind (retE tyTab [.cell 2 27,.cell 3 3,.cell 4 30] [27,3,30])=some (rOk q.1 q.2.at' 0):=by
 unfold okModel at h44;refine ev_in21b rfl ?_;unfold m21 h21 zero7 rOk;simp -implicitDefEqProofs [hn,h44];rfl
theorem arr22 {tm:Array Value}(h:tm.size=22):∃ x0 x1 x2 x3 x4 x5 x6 x7 x8 x9 x10 x11 x12 x13 x14 x15 x16 x17 x18 x19 x20 x21,tm=#[x0,x1,x2,x3,x4,x5,x6,x7,x8,x9,x10,x11,x12,x13,x14,x15,x16,x17,x18,x19,x20,x21]:=by
 rcases tm with ⟨l⟩
 match l,h with
 | [x0,x1,x2,x3,x4,x5,x6,x7,x8,x9,x10,x11,x12,x13,x14,x15,x16,x17,x18,x19,x20,x21],_=>exact⟨_,_,_,_,_,_,_,_,_,_,_,_,_,_,_,_,_,_,_,_,_,_,rfl⟩
set_option maxRecDepth 20000 in
theorem fine (hcall:CallF.ok Tryd.prog ev){w:World}{fz:Nat→Prop}(hlt:∀ b,fz b→b<w.heap.size)(hg:GlobF w fz){v:Value}{b:List Int}(hv:RepT w fz (fun _=>none) v (T.c (sls 1 byteF b))){r:T × List Ob}
  (h:(evCode ev tyTab k21 code21b (mk 22 (m21 b) h21 [])).bind (retE tyTab [.cell 2 27,.cell 3 3,.cell 4 30] [27,3,30])=some r):
  Calls Tryd.prog 21 #[v] w fun e' w''=>∃ v fz' ρ',e'=.returned v∧Out w w'' fz fz' ρ' v r:=by
 have hmf:∀ (fn:Fn) (first cap:Array Value) (w:World),(Instr.makeFunc fn first cap).run Tryd.prog w=.ok (.func fn first cap) w:=fun _ _ _ _=>rfl;rw[Option.bind_eq_some_iff] at h;obtain⟨x,hx,hret⟩:=h;refine calls_of_wp_defers (c := .seq code21a (.seq (.region 1 #[{ dst := some 6, op := Go.Op.makeFunc (Go.Fn.func 43) #[] #[Go.Operand.tmp 2, Go.Operand.tmp 3, Go.Operand.tmp 4], type := 1, pos := "aig.go:226", after := #[], guard := none },
        { dst := none, op := Go.Op.defer { callee := Go.Callee.value (Go.Operand.tmp 6), args := #[], argTypes := #[] }, type := 0, pos := "aig.go:226", after := #[{ on := 0, ground := Go.Ground.data }], guard := none }] false) code21b)) fn21 rfl ?_
 apply wp_seq;have hrel:Rel w (Bs.bare w.heap.size) fz fz (fun _=>none) (mk 22 [(0,T.c (sls 1 byteF b))] [] []) (#[v]++Array.replicate (Tryd.f21.ntmps-(#[v]:Array Value).size) undef) w:=by
  have hsz:(#[v]:Array Value).size=([T.c (sls 1 byteF b)]:List T).length:=rfl;have hreps:∀ (i:Nat) (t:T),([T.c (sls 1 byteF b)]:List T)[i]?=some t→∃ v',(#[v]:Array Value)[i]?=some v'∧RepT w fz (fun _=>none) v' t:=fun i t hi=>by
   match i,hi with
   | 0,hi=>obtain rfl:=Option.some.inj hi; exact⟨v,rfl,hv⟩
   | i+1,hi=>cases hi
  have hnoI:∀ t∈([T.c (sls 1 byteF b)]:List T),t.noI=t:=fun t ht=>by
   obtain rfl:=List.mem_singleton.1 ht;rfl
  obtain⟨i1,i2,i3⟩:=first_tmps (fn:=Tryd.f21) hsz hreps hnoI;exact {
    size:=i1
    tmp:=i2
    dom1:=fun k l hk=>by cases hk
    obj:=fun k o hk=>by cases hk
    inj:=fun k k' b base cap sz base' cap' sz' _ _ hk _=>by cases hk
    own:=fun k b base cap sz hk=>by cases hk
    fzl:=hlt
    fz0:=fun _ h=>h
    fz1:=fun _ h=>.inl h
    below:=Past.refl _ _
    frd:=fun k hk=>by cases hk
    glz:=hg
    itr:=fun i q pos ht=>(i3 i q pos ht).elim
    boxes:=fun k l hk=>by cases hk }
 have e0:∀ Q:Exit→Act→World→Prop,(∀ tm' w',After w (Bs.bare w.heap.size) fz (.norm,mk 22 (m21 b) h21 []) tm' w'→Q .normal ⟨tm',[]⟩ w')→code21a.wp Tryd.prog Q ⟨#[v]++Array.replicate (Tryd.f21.ntmps-(#[v]:Array Value).size) undef,[]⟩ w:=
  (evCode_sound tyOk hcall (anyhow tyOk _ hcall k21)).1 code21a _ _ (ev21a b) ok21a w (Bs.bare w.heap.size) fz fz _ ⟨_,[]⟩ w (Nat.le_refl _) hrel
 refine e0 _ (fun tm1 w1 hr=>?_);obtain⟨fz1,ρ1,hr⟩:=hr.rel (fun _ _ h=>by cases h);obtain⟨x0,x1,x2,x3,x4,x5,x6,x7,x8,x9,x10,x11,x12,x13,x14,x15,x16,x17,x18,x19,x20,x21,rfl⟩:=arr22 (hr.size.trans (tmk_length _ _));generalize hc2:code21b=c2;simp only[Exit.then]
 go_wp2
 have hrel2:Rel w (Bs.bare w.heap.size) fz fz1 ρ1 (mk 22 (m21 b) h21 []) #[x0,x1,x2,x3,x4,x5,Value.func (Fn.func 43) #[] #[x2,x3,x4],x7,x8,x9,x10,x11,x12,x13,x14,x15,x16,x17,x18,x19,x20,x21] w1:=hr.patch rfl (fun i t hi hj=>by
  have h6:i≠6:=fun e=>by
   subst e;have hi:some T.junk=some t:=hi;exact hj (Option.some.inj hi).symm
  match i,h6,hi with
  | 6,h6,_=>exact absurd rfl h6
  | 0,_,_=>rfl
  | 1,_,_=>rfl
  | 2,_,_=>rfl
  | 3,_,_=>rfl
  | 4,_,_=>rfl
  | 5,_,_=>rfl
  | 7,_,_=>rfl
  | 8,_,_=>rfl
  | 9,_,_=>rfl
  | 10,_,_=>rfl
  | 11,_,_=>rfl
  | 12,_,_=>rfl
  | 13,_,_=>rfl
  | 14,_,_=>rfl
  | 15,_,_=>rfl
  | 16,_,_=>rfl
  | 17,_,_=>rfl
  | 18,_,_=>rfl
  | 19,_,_=>rfl
  | 20,_,_=>rfl
  | 21,_,_=>rfl
  | i+22,_,_=>rfl)
 have e1:∀ Q:Exit→Act→World→Prop,(∀ tm' w',After w (Bs.bare w.heap.size) fz x tm' w'→Q x.1.toExit ⟨tm',[{ target:=Target.fn (Fn.func 43) #[x2,x3,x4],args:=#[] }]⟩ w')→code21b.wp Tryd.prog Q ⟨#[x0,x1,x2,x3,x4,x5,Value.func (Fn.func 43) #[] #[x2,x3,x4],x7,x8,x9,x10,x11,x12,x13,x14,x15,x16,x17,x18,x19,x20,x21],[{ target:=Target.fn (Fn.func 43) #[x2,x3,x4],args:=#[] }]⟩ w1:=
  (evCode_sound tyOk hcall (anyhow tyOk _ hcall k21)).1 code21b _ _ hx ok21b w (Bs.bare w.heap.size) fz fz1 ρ1 ⟨_,[{ target:=Target.fn (Fn.func 43) #[x2,x3,x4],args:=#[] }]⟩ w1 (Nat.le_refl _) hrel2
 rw[← hc2];refine e1 _ (fun tm2 w2 hr2=>?_);have hgo:x.1=.norm∨x.1=.ret:=by
  rcases x with ⟨e,s⟩
  cases e with
  | norm=>exact .inl rfl
  | ret=>exact .inr rfl
  | exit id=>cases hret
  | pan t cs=>cases hret
 obtain⟨fz2,ρ2,hr2⟩:=hr2.rel (fun t cs e=>by rcases hgo with h | h<;>rw[h] at e<;>cases e);have hout:outT tyTab Tryd.f21 x.2=some r:=by
  refine outT_of (rs:=[.cell 2 27,.cell 3 3,.cell 4 30]) (us:=[27,3,30]) rfl rfl ?_
  rcases x with ⟨e,s⟩
  rcases hgo with h | h
  ·obtain rfl:e=.norm:=h;exact hret
  ·obtain rfl:e=.ret:=h;exact hret
 obtain⟨v2,fz3,ρ3,hrun,hO⟩:=outT_sound (a:=⟨tm2,[]⟩) tyOk hr2 hout;have hleave:Leaves Tryd.prog Tryd.f21 tm2 (fun e' w''=>∃ v fz' ρ',e'=.returned v∧Out w w'' fz fz' ρ' v r) [{ target:=Target.fn (Fn.func 43) #[x2,x3,x4],args:=#[] }] .returning w2:=by
  refine leaves_cons (f:=43) (args:=#[x2,x3,x4]) (by simp) (by simp[go_sem]) ?_;refine (catchI x2 x3 x4 w2).mono ?_;rintro e' u' w'' ⟨⟨v,rfl⟩,rfl,rfl⟩;simp only[settle,Leaves];exact⟨v2,hrun,v2,fz3,ρ3,rfl,hO⟩
 rcases hgo with h | h<;>rw[h]<;>exact hleave
theorem byteF_inj {b b':List Int}(h:cm byteF b=cm byteF b'):b=b':=by
 induction b generalizing b' with
 | nil=>cases b' with
  | nil=>rfl
  | cons y l'=>simp[cm] at h
 | cons x l ih=>cases b' with
  | nil=>simp[cm] at h
  | cons y l'=>
   have h1:byteF x=byteF y∧cm byteF l=cm byteF l':=by
    simp only[cm,List.map_cons,List.cons.injEq] at h;exact h
   have h2:x=y:=by
    have:=h1.1;simp[byteF] at this;exact this
   rw[h2,ih h1.2]
def rParse (p:Aig × Int × Int):T × List Ob:=rOk p.1 p.2.1 p.2.2
noncomputable def prParse (args:List T):Option (T × List Ob):=open Classical in if h:∃ b,args=[T.c (sls 1 byteF b)] then (aig_Parse h.choose).map rParse else none
theorem prParse_eq {b:List Int}{p:Aig × Int × Int}(h:aig_Parse b=some p):prParse [T.c (sls 1 byteF b)]=some (rParse p):=by
 unfold prParse;have hx:∃ b',([T.c (sls 1 byteF b)]:List T)=[T.c (sls 1 byteF b')]:=⟨b,rfl⟩;rw[dif_pos hx];have h1:=hx.choose_spec;injection h1 with h2 _;injection h2 with h2;unfold sls at h2;injection h2 with _ h2;have e:b=hx.choose:=byteF_inj h2;rw[← e,h];rfl
theorem prParse_of {args:List T}{r:T × List Ob}(h:prParse args=some r):∃ b p,args=[T.c (sls 1 byteF b)]∧aig_Parse b=some p∧r=rParse p:=by
 unfold prParse at h
 split at h
 ·rename_i hx;rw[Option.map_eq_some_iff] at h;obtain⟨p,h1,h2⟩:=h;exact⟨_,p,hx.choose_spec,h1,h2.symm⟩
 ·cases h
theorem parse_ok (hE : @EnvOK glob prims0 Tryd.prog) {args : List T} {r : T × List Ob} (h : prParse args = some r) : CallOK Tryd.prog 21 args r ∧ ∃ fn c, Tryd.prog.funcs[21]? = some fn ∧ (fn.name == "runtime.NumGoroutine") = false ∧ fn.body = some c := by
 refine⟨?_,_,_,fn21,by kernel_rfl,rfl⟩;obtain⟨b,p,rfl,hb0,rfl⟩:=prParse_of h;clear h;have h:=hb0;refine⟨fun _=>?_,fun hn=>absurd rfl hn⟩;intro w fz vs hsz hreps hnoI hlt hg;obtain⟨v,hv0,hv⟩:=hreps 0 _ rfl;obtain rfl:vs=#[v]:=by
  rcases vs with ⟨l⟩
  match l,hsz,hv0 with
  | [y],_,hv0=>obtain rfl:=Option.some.inj hv0; rfl
 have hcall:CallF.ok Tryd.prog ev:=evCall_sound hE tyOk kOk (fun call hc kp=>anyhow tyOk call hc kp);have hv':=hv
 cases hv with
 | frz hf=>
 cases hf with
 | sl a n c es sz cv hl hs hc hcells hrep=>
 have hn:(n:Int)=lenI b:=by
  rw[← hl];simp[lenI,cm]
 unfold aig_Parse at h
 split at h
 ·rename_i hb;injection h with h;subst h;exact large hE.1 hlt hg a n c (by rw[hn]; rw[ilt_iff] at hb; exact hb)
 ·rename_i hb;have hle:(n:Int)≤100000:=by
   have hb':=hb;rw[ilt_iff] at hb';omega
  have hb:ilt 100000 (lenI b)=false:=by simpa only[Bool.not_eq_true] using hb
  rw[Option.bind_eq_some_iff] at h;obtain⟨r0,h0,h⟩:=h;have h44:=w_aig_reader_model _ _ h0
  cases r0 with
  | inr q=>
   obtain⟨a',q'⟩:=q;injection h with h;subst h;exact fine hcall hlt hg hv' (ev21b b (a',q') hb h44)
  | inl y=>
   obtain⟨x,e⟩:=y;injection h with h;subst h;have hp:=calls_of_evP hE tyOk kOk h44;have hw:∀ k,fz k→(W4 w a n c).heap[k]?=w.heap[k]?:=fun k hk=>by
    have hk:=hlt k hk;have h3:=(w3_past w).block k (fun h=>by have:=Bs.bare_owns h; omega);exact (Go.RowKit.Below.heap_alloc _ _ _ (by rw[w3_size]; omega)).trans h3
   have hin:=rd_lent (fz:=fz) (b:=b) (RepC.mono (ρ:=fun _=>none) (.frz (.sl a n c _ _ cv hl hs hc hcells hrep)) hw (fun _ h=>h) (fun _ _ h=>h)) (fun h=>by have:=hlt _ h; omega);refine spoilt hE.1 hlt hg a n c hle x e (fun Q hQ=>?_);refine (hp.2 (W4 w a n c) fz (at1 (w.heap.size+3)) #[.pointer (some ⟨w.heap.size+1+1+1,0,none⟩)] rfl (fun i t hi=>?_) (fun t ht=>?_) hin (fun k hk=>by have:=hlt k hk; simp[W4,w3_size]; omega) (hg.mono hw (fun _ h=>h))).mono ?_
   ·match i,hi with
    | 0,hi=>
     obtain rfl:=Option.some.inj hi;exact⟨_,rfl,RepC.ptr 9000 0 0 (w.heap.size+3) 0 1 2 a1_0⟩
    | i+1,hi=>cases hi
   ·have ht:t∈[T.c (.ptr 9000 0 0)]:=ht;obtain rfl:=List.mem_singleton.1 ht;rfl
   ·rintro e' w' (⟨p,h1,h2,h3⟩ | ⟨r',v',fz',ρ',h1,_⟩)
    ·have h1:some (Sum.inl (80,[C.lit (.int .i64 x),C.lit (.int .i64 e)]))=some (Sum.inl p):=h1;simp only[Option.some.injEq,Sum.inl.injEq] at h1;subst h1;subst h2;exact hQ _ h3
    ·cases h1
noncomputable instance prims1:Prims where
 pr f args:=if f=21 then prParse args else prims0.pr f args
noncomputable abbrev ev1:=@evCall glob prims1 Tryd.prog tyTab kt
theorem up1 {f:FuncId}{args:List T}{r:T × List Ob}(h:ev f args=some r):ev1 f args=some r:=evCall_up (p:=prims0) (q:=prims1) (fun f args r h=>by
 by_cases hf:f=21
 ·subst hf
  cases h
 ·show (if f=21 then prParse args else prims0.pr f args)=some r;rw[if_neg hf];exact h) h
theorem w_aig_Parse (b:List Int)(p:Aig × Int × Int)(h:aig_Parse b=some p):ev1 21 [T.c (sls 1 byteF b)]=some (rParse p):=evCall_of (by
 have hK:kt 21=none:=rfl;show (if marked [T.c (sls 1 byteF b)] then _ else _)=_;rw[if_neg (by simp[marked])];unfold evFn0;rw[hK];exact (if_pos rfl).trans (prParse_eq h))
end Go.Proofs.YtadllpehekphmaaDoor

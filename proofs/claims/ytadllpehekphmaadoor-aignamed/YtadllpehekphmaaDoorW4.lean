/- What the interpreter comes to is what the plain functions come to. No condition. -/
import Derived.Test.YtadllpehekphmaaDoorW3
set_option linter.unusedSimpArgs false
set_option linter.unusedVariables false
set_option maxRecDepth 20000
set_option maxHeartbeats 4000000
namespace Go.Proofs.YtadllpehekphmaaDoor
open Go.Vabs Go.Vid
theorem w_aig_reader_names (q0:Reader_aig)(q1:Aig)(r:(Int × Int) ⊕ (Reader_aig × Aig))(h:aig_reader_names q0 q1=some r):ev 59 [T.tup [],T.c (C.ptr 9000 0 0),T.c (C.ptr 19000 0 0),obT (Ob.mk true true 84 2 [Reader_aig.cells q0]),obT (Ob.mk true false 27 7 [[C.lit (.int IntKind.i64 q1.I),C.ref 29001 0 (lenN q1.L),C.ref 39001 0 (lenN q1.G),C.ref 49001 0 (lenN q1.outs),C.ref 59001 0 (lenN q1.bad),C.ref 69001 0 (lenN q1.con),C.ref 79001 0 (lenN q1.names)]]),obT (rowO 47 2 Latch.cells q1.L),obT (rowO 53 2 And.cells q1.G),obT (rowO 3 1 intF q1.outs),obT (rowO 3 1 intF q1.bad),obT (rowO 3 1 intF q1.con),obT (rowO 49 3 Name.cells q1.names)]=some (match r with | .inl p=>panR 80 [C.lit (.int IntKind.i64 p.1),C.lit (.int IntKind.i64 p.2)] | .inr q=>okR (T.tup [],[Ob.mk true true 84 2 [Reader_aig.cells q.1],Ob.mk true false 27 7 [[C.lit (.int IntKind.i64 q.2.I),C.ref 2 0 (lenN q.2.L),C.ref 3 0 (lenN q.2.G),C.ref 4 0 (lenN q.2.outs),C.ref 5 0 (lenN q.2.bad),C.ref 6 0 (lenN q.2.con),C.ref 7 0 (lenN q.2.names)]],rowO 47 2 Latch.cells q.2.L,rowO 53 2 And.cells q.2.G,rowO 3 1 intF q.2.outs,rowO 3 1 intF q.2.bad,rowO 3 1 intF q.2.con,rowO 49 3 Name.cells q.2.names])):=by
 refine ev_runP (kp:=k59) (us:=[]) (ts:=[T.c (C.ptr 9000 0 0),T.c (C.ptr 19000 0 0)]) (obs:=[Ob.mk true true 84 2 [Reader_aig.cells q0],Ob.mk true false 27 7 [[C.lit (.int IntKind.i64 q1.I),C.ref 29001 0 (lenN q1.L),C.ref 39001 0 (lenN q1.G),C.ref 49001 0 (lenN q1.outs),C.ref 59001 0 (lenN q1.bad),C.ref 69001 0 (lenN q1.con),C.ref 79001 0 (lenN q1.names)]],rowO 47 2 Latch.cells q1.L,rowO 53 2 And.cells q1.G,rowO 3 1 intF q1.outs,rowO 3 1 intF q1.bad,rowO 3 1 intF q1.con,rowO 49 3 Name.cells q1.names]) fn59 rfl rfl rfl rfl rfl (by kernel_rfl) rfl rfl rfl (by simp) ?_;unfold aig_reader_names at h
 simp;obtain⟨w123,h122,h⟩:=bS h;rw[eL (ι:=(List Name) × (List Int) × Int) (ρ:=(Int × Int) ⊕ ((List Name) × (List Int) × Int)) (fun p=>match p with | (x80,x81,x82)=>mk 128 [(0,T.c (C.ptr 9000 0 0)),(1,T.c (C.ptr 19000 0 0))] [(9000,{ box:=true,free:=true,elem:=84,sz:=2,es:=[[sls 1 byteF x81,C.lit (.int IntKind.i64 x82)]] }),(19000,{ box:=true,free:=false,elem:=27,sz:=7,es:=[[C.lit (.int IntKind.i64 q1.I),C.ref 29001 0 (lenN q1.L),C.ref 39001 0 (lenN q1.G),C.ref 49001 0 (lenN q1.outs),C.ref 59001 0 (lenN q1.bad),C.ref 69001 0 (lenN q1.con),C.ref 79001 0 (lenN x80)]] }),(29001,rowO 47 2 Latch.cells q1.L),(39001,rowO 53 2 And.cells q1.G),(49001,rowO 3 1 intF q1.outs),(59001,rowO 3 1 intF q1.bad),(69001,rowO 3 1 intF q1.con),(79001,rowO 49 3 Name.cells x80)] []) (fun r=>match r with | .inl (y117,y118)=>(Ex.pan 80 [C.lit (.int IntKind.i64 y117),C.lit (.int IntKind.i64 y118)],deadS) | .inr ((y119,y120,y121))=>(Ex.exit 0,mk 128 [] [(9000,{ box:=true,free:=true,elem:=84,sz:=2,es:=[[sls 1 byteF y120,C.lit (.int IntKind.i64 y121)]] }),(19000,{ box:=true,free:=false,elem:=27,sz:=7,es:=[[C.lit (.int IntKind.i64 q1.I),C.ref 29001 0 (lenN q1.L),C.ref 39001 0 (lenN q1.G),C.ref 49001 0 (lenN q1.outs),C.ref 59001 0 (lenN q1.bad),C.ref 69001 0 (lenN q1.con),C.ref 79001 0 (lenN y119)]] }),(29001,rowO 47 2 Latch.cells q1.L),(39001,rowO 53 2 And.cells q1.G),(49001,rowO 3 1 intF q1.outs),(59001,rowO 3 1 intF q1.bad),(69001,rowO 3 1 intF q1.con),(79001,rowO 49 3 Name.cells y119)] [])) (aig_reader_names_B0 q1) h122 ?_ _ ?_]
 ·rcases w123 with ⟨y117,y118⟩ | ⟨y119,y120,y121⟩
  ·simp
   cases h
   rfl
  ·simp
   cases h
   rfl
 ·clear h122 h;rintro⟨x80,x81,x82⟩ y L res h hL hR;unfold aig_reader_names_B0 at h;simp
  rcases iC h with ⟨c83,h⟩ | ⟨c83,h⟩
  ·simp[c83];obtain⟨v84,h85,h⟩:=bS h;simp[c83,h85]
   rcases iC h with ⟨c86,h⟩ | ⟨c86,h⟩
   ·simp[c83,h85,c86]
    cases h
    exact hR _ rfl
   ·simp[c83,h85,c86];obtain⟨v87,h88',h⟩:=bS h;have h88:ev 63 [T.c (.lit (.string { data:=#[105,108,111,98,99] })),T.c (.lit (.int IntKind.u8 v84))]=some (T.c (.lit (.int .i64 v87)),[]):=w_strings_IndexByte _ _ _ h88';simp[c83,h85,c86,h88]
    rcases iC h with ⟨c89,h⟩ | ⟨c89,h⟩
    ·simp[c83,h85,c86,h88,c89]
     cases h
     exact hR _ rfl
    ·simp[c83,h85,c86,h88,c89];obtain⟨v90,h91',h⟩:=bS h;have h91:ev 51 [T.agg [C.lit (.int IntKind.i64 q1.I),sls 2 Latch.cells q1.L,sls 2 And.cells q1.G,sls 1 intF q1.outs,sls 1 intF q1.bad,sls 1 intF q1.con,sls 3 Name.cells x80],T.c (.lit (.int IntKind.u8 v84))]=some (T.c (.lit (.int .i64 v90)),[]):=w_aig_many _ _ _ h91';simp[c83,h85,c86,h88,c89,h91];obtain⟨w95,h94',h⟩:=bS h
     rcases w95 with ⟨p96,p97⟩ | ⟨v92,v93⟩
     ·have h94:ev 56 [T.tup [],T.c (C.ptr 9000 0 0),T.c (.lit (.int .i64 (isub .i64 v90 1))),T.c (.lit (.string { data:=#[32] })),obT { box:=true,free:=true,elem:=84,sz:=2,es:=[[sls 1 byteF x81,C.lit (.int IntKind.i64 (iadd .i64 x82 1))]] }]=some (panR 80 [C.lit (.int IntKind.i64 p96),C.lit (.int IntKind.i64 p97)]):=w_aig_reader_number _ _ _ (.inl _) h94';simp[c83,h85,c86,h88,c89,h91,h94]
      cases h
      exact hR _ rfl
     ·have h94:ev 56 [T.tup [],T.c (C.ptr 9000 0 0),T.c (.lit (.int .i64 (isub .i64 v90 1))),T.c (.lit (.string { data:=#[32] })),obT { box:=true,free:=true,elem:=84,sz:=2,es:=[[sls 1 byteF x81,C.lit (.int IntKind.i64 (iadd .i64 x82 1))]] }]=some (okR (T.c (.lit (.int .i64 v92)),[Ob.mk true true 84 2 [Reader_aig.cells v93]])):=w_aig_reader_number _ _ _ (.inr _) h94';simp[c83,h85,c86,h88,c89,h91,h94];obtain⟨⟨v98,v99,v100⟩,h101',h⟩:=bS h;have h101:ev 67 [T.c (sls 1 byteF v93.b),T.c (.lit (.int .i64 v93.at'))]=some (T.tup [T.c (.lit (.string v98)),T.c (.lit (.int .i64 v99)),T.c (.lit (.int .i64 v100))],[]):=w_lex_Name _ _ _ h101'
      simp[c83,h85,c86,h88,c89,h91,h94,h101]
      rcases iC h with ⟨c102,h⟩ | ⟨c102,h⟩
      ·simp[c83,h85,c86,h88,c89,h91,h94,h101,c102];obtain⟨w105,h104',h⟩:=bS h
       rcases w105 with ⟨p106,p107⟩ | v103
       ·have h104:ev 55 [T.tup [],T.c (C.ptr 9000 0 0),T.c (.lit (.string { data:=#[10] })),obT { box:=true,free:=true,elem:=84,sz:=2,es:=[[sls 1 byteF v93.b,C.lit (.int IntKind.i64 v99)]] }]=some (panR 80 [C.lit (.int IntKind.i64 p106),C.lit (.int IntKind.i64 p107)]):=w_aig_reader_word _ _ (.inl _) h104';simp[c83,h85,c86,h88,c89,h91,h94,h101,c102,h104]
        cases h
        exact hR _ rfl
       ·have h104:ev 55 [T.tup [],T.c (C.ptr 9000 0 0),T.c (.lit (.string { data:=#[10] })),obT { box:=true,free:=true,elem:=84,sz:=2,es:=[[sls 1 byteF v93.b,C.lit (.int IntKind.i64 v99)]] }]=some (okR (T.tup [],[Ob.mk true true 84 2 [Reader_aig.cells v103]])):=w_aig_reader_word _ _ (.inr _) h104';simp[c83,h85,c86,h88,c89,h91,h94,h101,c102,h104]
        rcases iC h with ⟨c108,h⟩ | ⟨c108,h⟩
        ·simp[c83,h85,c86,h88,c89,h91,h94,h101,c102,h104,c108]
         rcases iC h with ⟨c109,h⟩ | ⟨c109,h⟩
         ·simp[c83,h85,c86,h88,c89,h91,h94,h101,c102,h104,c108,c109];obtain⟨v110,h111,h⟩:=bS h;simp[c83,h85,c86,h88,c89,h91,h94,h101,c102,h104,c108,c109,h111];obtain⟨v112,h113',h⟩:=bS h;have h113:ev 53 [T.agg v110.cells,T.agg [C.lit (.int IntKind.u8 v84),C.lit (.int IntKind.i64 v92),C.lit (.string v98)]]=some (T.c (.lit (.bool v112)),[]):=w_aig_behind _ _ _ h113';simp[c83,h85,c86,h88,c89,h91,h94,h101,c102,h104,c108,c109,h111,h113]
          rcases iC h with ⟨c114,h⟩ | ⟨c114,h⟩
          ·simp[c83,h85,c86,h88,c89,h91,h94,h101,c102,h104,c108,c109,h111,h113,c114]
           rcases iC h with ⟨c115,h⟩ | ⟨c115,h⟩
           ·simp[c83,h85,c86,h88,c89,h91,h94,h101,c102,h104,c108,c109,h111,h113,c114,c115]
            cases h
            exact hL _ _ rfl (by simp[headOf])
           ·simp[c83,h85,c86,h88,c89,h91,h94,h101,c102,h104,c108,c109,h111,h113,c114,c115]
            cases h
          ·simp[c83,h85,c86,h88,c89,h91,h94,h101,c102,h104,c108,c109,h111,h113,c114]
           cases h
           exact hR _ rfl
         ·simp[c83,h85,c86,h88,c89,h91,h94,h101,c102,h104,c108,c109]
          cases h
        ·simp[c83,h85,c86,h88,c89,h91,h94,h101,c102,h104,c108]
         rcases iC h with ⟨c116,h⟩ | ⟨c116,h⟩
         ·simp[c83,h85,c86,h88,c89,h91,h94,h101,c102,h104,c108,c116]
          cases h
          exact hL _ _ rfl (by simp[headOf])
         ·simp[c83,h85,c86,h88,c89,h91,h94,h101,c102,h104,c108,c116]
          cases h
      ·simp[c83,h85,c86,h88,c89,h91,h94,h101,c102]
       cases h
       exact hR _ rfl
  ·simp[c83]
   cases h
   exact hR _ rfl
 ·simp[headOf]
theorem w_aig_reader_model (q0:Reader_aig)(r:(Int × Int) ⊕ (Aig × Reader_aig))(h:aig_reader_model q0=some r):ev 44 [T.tup [],T.c (C.ptr 9000 0 0),obT (Ob.mk true true 84 2 [Reader_aig.cells q0])]=some (match r with | .inl p=>panR 80 [C.lit (.int IntKind.i64 p.1),C.lit (.int IntKind.i64 p.2)] | .inr q=>okR (T.agg [C.lit (.int IntKind.i64 q.1.I),C.ref 1 0 (lenN q.1.L),C.ref 2 0 (lenN q.1.G),C.ref 3 0 (lenN q.1.outs),C.ref 4 0 (lenN q.1.bad),C.ref 5 0 (lenN q.1.con),C.ref 6 0 (lenN q.1.names)],[Ob.mk true true 84 2 [Reader_aig.cells q.2],rowO 47 2 Latch.cells q.1.L,rowO 53 2 And.cells q.1.G,rowO 3 1 intF q.1.outs,rowO 3 1 intF q.1.bad,rowO 3 1 intF q.1.con,rowO 49 3 Name.cells q.1.names])):=by
 refine ev_runP (kp:=k44) (us:=[27]) (ts:=[T.c (C.ptr 9000 0 0)]) (obs:=[Ob.mk true true 84 2 [Reader_aig.cells q0]]) fn44 rfl rfl rfl rfl rfl (by kernel_rfl) rfl rfl rfl (by simp) ?_;unfold aig_reader_model at h;simp;obtain⟨w2,h1',h⟩:=bS h
 rcases w2 with ⟨p3,p4⟩ | v0
 ·have h1:ev 55 [T.tup [],T.c (C.ptr 9000 0 0),T.c (.lit (.string { data:=#[97,97,103,32] })),obT { box:=true,free:=true,elem:=84,sz:=2,es:=[[sls 1 byteF q0.b,C.lit (.int IntKind.i64 q0.at')]] }]=some (panR 80 [C.lit (.int IntKind.i64 p3),C.lit (.int IntKind.i64 p4)]):=w_aig_reader_word _ _ (.inl _) h1';simp[h1]
  cases h
  rfl
 ·have h1:ev 55 [T.tup [],T.c (C.ptr 9000 0 0),T.c (.lit (.string { data:=#[97,97,103,32] })),obT { box:=true,free:=true,elem:=84,sz:=2,es:=[[sls 1 byteF q0.b,C.lit (.int IntKind.i64 q0.at')]] }]=some (okR (T.tup [],[Ob.mk true true 84 2 [Reader_aig.cells v0]])):=w_aig_reader_word _ _ (.inr _) h1';simp[h1];obtain⟨w8,h7',h⟩:=bS h
  rcases w8 with ⟨p9,p10⟩ | ⟨v5,v6⟩
  ·have h7:ev 56 [T.tup [],T.c (C.ptr 9000 0 0),T.c (.lit (.int .i64 20000)),T.c (.lit (.string { data:=#[32] })),obT { box:=true,free:=true,elem:=84,sz:=2,es:=[[sls 1 byteF v0.b,C.lit (.int IntKind.i64 v0.at')]] }]=some (panR 80 [C.lit (.int IntKind.i64 p9),C.lit (.int IntKind.i64 p10)]):=w_aig_reader_number _ _ _ (.inl _) h7';simp[h1,h7]
   cases h
   rfl
  ·have h7:ev 56 [T.tup [],T.c (C.ptr 9000 0 0),T.c (.lit (.int .i64 20000)),T.c (.lit (.string { data:=#[32] })),obT { box:=true,free:=true,elem:=84,sz:=2,es:=[[sls 1 byteF v0.b,C.lit (.int IntKind.i64 v0.at')]] }]=some (okR (T.c (.lit (.int .i64 v5)),[Ob.mk true true 84 2 [Reader_aig.cells v6]])):=w_aig_reader_number _ _ _ (.inr _) h7';simp[h1,h7];obtain⟨w14,h13',h⟩:=bS h
   rcases w14 with ⟨p15,p16⟩ | ⟨v11,v12⟩
   ·have h13:ev 56 [T.tup [],T.c (C.ptr 9000 0 0),T.c (.lit (.int .i64 20000)),T.c (.lit (.string { data:=#[32] })),obT { box:=true,free:=true,elem:=84,sz:=2,es:=[[sls 1 byteF v6.b,C.lit (.int IntKind.i64 v6.at')]] }]=some (panR 80 [C.lit (.int IntKind.i64 p15),C.lit (.int IntKind.i64 p16)]):=w_aig_reader_number _ _ _ (.inl _) h13';simp[h1,h7,h13]
    cases h
    rfl
   ·have h13:ev 56 [T.tup [],T.c (C.ptr 9000 0 0),T.c (.lit (.int .i64 20000)),T.c (.lit (.string { data:=#[32] })),obT { box:=true,free:=true,elem:=84,sz:=2,es:=[[sls 1 byteF v6.b,C.lit (.int IntKind.i64 v6.at')]] }]=some (okR (T.c (.lit (.int .i64 v11)),[Ob.mk true true 84 2 [Reader_aig.cells v12]])):=w_aig_reader_number _ _ _ (.inr _) h13';simp[h1,h7,h13];obtain⟨w20,h19',h⟩:=bS h
    rcases w20 with ⟨p21,p22⟩ | ⟨v17,v18⟩
    ·have h19:ev 56 [T.tup [],T.c (C.ptr 9000 0 0),T.c (.lit (.int .i64 20000)),T.c (.lit (.string { data:=#[32] })),obT { box:=true,free:=true,elem:=84,sz:=2,es:=[[sls 1 byteF v12.b,C.lit (.int IntKind.i64 v12.at')]] }]=some (panR 80 [C.lit (.int IntKind.i64 p21),C.lit (.int IntKind.i64 p22)]):=w_aig_reader_number _ _ _ (.inl _) h19';simp[h1,h7,h13,h19]
     cases h
     rfl
    ·have h19:ev 56 [T.tup [],T.c (C.ptr 9000 0 0),T.c (.lit (.int .i64 20000)),T.c (.lit (.string { data:=#[32] })),obT { box:=true,free:=true,elem:=84,sz:=2,es:=[[sls 1 byteF v12.b,C.lit (.int IntKind.i64 v12.at')]] }]=some (okR (T.c (.lit (.int .i64 v17)),[Ob.mk true true 84 2 [Reader_aig.cells v18]])):=w_aig_reader_number _ _ _ (.inr _) h19';simp[h1,h7,h13,h19];obtain⟨w26,h25',h⟩:=bS h
     rcases w26 with ⟨p27,p28⟩ | ⟨v23,v24⟩
     ·have h25:ev 56 [T.tup [],T.c (C.ptr 9000 0 0),T.c (.lit (.int .i64 2000)),T.c (.lit (.string { data:=#[32] })),obT { box:=true,free:=true,elem:=84,sz:=2,es:=[[sls 1 byteF v18.b,C.lit (.int IntKind.i64 v18.at')]] }]=some (panR 80 [C.lit (.int IntKind.i64 p27),C.lit (.int IntKind.i64 p28)]):=w_aig_reader_number _ _ _ (.inl _) h25';simp[h1,h7,h13,h19,h25]
      cases h
      rfl
     ·have h25:ev 56 [T.tup [],T.c (C.ptr 9000 0 0),T.c (.lit (.int .i64 2000)),T.c (.lit (.string { data:=#[32] })),obT { box:=true,free:=true,elem:=84,sz:=2,es:=[[sls 1 byteF v18.b,C.lit (.int IntKind.i64 v18.at')]] }]=some (okR (T.c (.lit (.int .i64 v23)),[Ob.mk true true 84 2 [Reader_aig.cells v24]])):=w_aig_reader_number _ _ _ (.inr _) h25';simp[h1,h7,h13,h19,h25];obtain⟨w32,h31',h⟩:=bS h
      rcases w32 with ⟨p33,p34⟩ | ⟨v29,v30⟩
      ·have h31:ev 56 [T.tup [],T.c (C.ptr 9000 0 0),T.c (.lit (.int .i64 20000)),T.c (.lit (.string { data:=#[32] })),obT { box:=true,free:=true,elem:=84,sz:=2,es:=[[sls 1 byteF v24.b,C.lit (.int IntKind.i64 v24.at')]] }]=some (panR 80 [C.lit (.int IntKind.i64 p33),C.lit (.int IntKind.i64 p34)]):=w_aig_reader_number _ _ _ (.inl _) h31';simp[h1,h7,h13,h19,h25,h31]
       cases h
       rfl
      ·have h31:ev 56 [T.tup [],T.c (C.ptr 9000 0 0),T.c (.lit (.int .i64 20000)),T.c (.lit (.string { data:=#[32] })),obT { box:=true,free:=true,elem:=84,sz:=2,es:=[[sls 1 byteF v24.b,C.lit (.int IntKind.i64 v24.at')]] }]=some (okR (T.c (.lit (.int .i64 v29)),[Ob.mk true true 84 2 [Reader_aig.cells v30]])):=w_aig_reader_number _ _ _ (.inr _) h31';simp[h1,h7,h13,h19,h25,h31];obtain⟨w38,h37',h⟩:=bS h
       rcases w38 with ⟨p39,p40⟩ | ⟨v35,v36⟩
       ·have h37:ev 56 [T.tup [],T.c (C.ptr 9000 0 0),T.c (.lit (.int .i64 2000)),T.c (.lit (.string { data:=#[32] })),obT { box:=true,free:=true,elem:=84,sz:=2,es:=[[sls 1 byteF v30.b,C.lit (.int IntKind.i64 v30.at')]] }]=some (panR 80 [C.lit (.int IntKind.i64 p39),C.lit (.int IntKind.i64 p40)]):=w_aig_reader_number _ _ _ (.inl _) h37';simp[h1,h7,h13,h19,h25,h31,h37]
        cases h
        rfl
       ·have h37:ev 56 [T.tup [],T.c (C.ptr 9000 0 0),T.c (.lit (.int .i64 2000)),T.c (.lit (.string { data:=#[32] })),obT { box:=true,free:=true,elem:=84,sz:=2,es:=[[sls 1 byteF v30.b,C.lit (.int IntKind.i64 v30.at')]] }]=some (okR (T.c (.lit (.int .i64 v35)),[Ob.mk true true 84 2 [Reader_aig.cells v36]])):=w_aig_reader_number _ _ _ (.inr _) h37';simp[h1,h7,h13,h19,h25,h31,h37];obtain⟨w44,h43',h⟩:=bS h
        rcases w44 with ⟨p45,p46⟩ | ⟨v41,v42⟩
        ·have h43:ev 56 [T.tup [],T.c (C.ptr 9000 0 0),T.c (.lit (.int .i64 2000)),T.c (.lit (.string { data:=#[10] })),obT { box:=true,free:=true,elem:=84,sz:=2,es:=[[sls 1 byteF v36.b,C.lit (.int IntKind.i64 v36.at')]] }]=some (panR 80 [C.lit (.int IntKind.i64 p45),C.lit (.int IntKind.i64 p46)]):=w_aig_reader_number _ _ _ (.inl _) h43';simp[h1,h7,h13,h19,h25,h31,h37,h43]
         cases h
         rfl
        ·have h43:ev 56 [T.tup [],T.c (C.ptr 9000 0 0),T.c (.lit (.int .i64 2000)),T.c (.lit (.string { data:=#[10] })),obT { box:=true,free:=true,elem:=84,sz:=2,es:=[[sls 1 byteF v36.b,C.lit (.int IntKind.i64 v36.at')]] }]=some (okR (T.c (.lit (.int .i64 v41)),[Ob.mk true true 84 2 [Reader_aig.cells v42]])):=w_aig_reader_number _ _ _ (.inr _) h43';simp[h1,h7,h13,h19,h25,h31,h37,h43]
         rcases iC h with ⟨c47,h⟩ | ⟨c47,h⟩
         ·simp[h1,h7,h13,h19,h25,h31,h37,h43,c47];obtain⟨v48,h49',h⟩:=bS h;have h49:ev 57 [T.c (.lit (.int .i64 v5))]=some (T.c (.lit (.int .i64 v48)),[]):=w_vidimus_aig_reader_model_1 _ _ h49';simp[h1,h7,h13,h19,h25,h31,h37,h43,c47,h49];obtain⟨w338,h337,h⟩:=bS h;rw[eL (ι:=(List Int) × Int × Int) (ρ:=(Int × Int) ⊕ ((List Int) × Int)) (fun p=>match p with | (x85,x86,x87)=>mk 171 [(0,T.c (C.ptr 9000 0 0)),(2,T.c (C.ptr 2 0 0)),(5,T.c (C.ptr 5 0 0)),(6,T.c (.lit (.int .i64 v17))),(7,T.c (.lit (.int .i64 v23))),(8,T.c (.lit (.int .i64 v29))),(9,T.c (.lit (.int .i64 v35))),(10,T.c (.lit (.int .i64 v41))),(11,T.c (.lit (.func (Fn.func 57) #[] #[]))),(12,T.c (.lit (.int .i64 (isub .i64 v48 1)))),(57,T.c (.lit (.int .i64 v11))),(58,T.c (.lit (.int .i64 x87)))] [(2,{ box:=true,free:=true,elem:=27,sz:=7,es:=[[C.lit (.int IntKind.i64 0),C.lit (.slice none 0 0),C.lit (.slice none 0 0),C.lit (.slice none 0 0),C.lit (.slice none 0 0),C.lit (.slice none 0 0),C.lit (.slice none 0 0)]] }),(5,{ box:=true,free:=true,elem:=27,sz:=7,es:=[[C.lit (.int IntKind.i64 v11),C.lit (.slice none 0 0),C.lit (.slice none 0 0),C.lit (.slice none 0 0),C.lit (.slice none 0 0),C.lit (.slice none 0 0),C.lit (.slice none 0 0)]] }),(9000,{ box:=true,free:=true,elem:=84,sz:=2,es:=[[sls 1 byteF x85,C.lit (.int IntKind.i64 x86)]] })] []) (fun r=>match r with | .inl (y98,y99)=>(Ex.pan 80 [C.lit (.int IntKind.i64 y98),C.lit (.int IntKind.i64 y99)],deadS) | .inr ((y100,y101))=>(Ex.exit 0,mk 171 [(0,T.c (C.ptr 9000 0 0)),(2,T.c (C.ptr 2 0 0)),(5,T.c (C.ptr 5 0 0)),(6,T.c (.lit (.int .i64 v17))),(7,T.c (.lit (.int .i64 v23))),(8,T.c (.lit (.int .i64 v29))),(9,T.c (.lit (.int .i64 v35))),(10,T.c (.lit (.int .i64 v41))),(11,T.c (.lit (.func (Fn.func 57) #[] #[]))),(12,T.c (.lit (.int .i64 (isub .i64 v48 1))))] [(2,{ box:=true,free:=true,elem:=27,sz:=7,es:=[[C.lit (.int IntKind.i64 0),C.lit (.slice none 0 0),C.lit (.slice none 0 0),C.lit (.slice none 0 0),C.lit (.slice none 0 0),C.lit (.slice none 0 0),C.lit (.slice none 0 0)]] }),(5,{ box:=true,free:=true,elem:=27,sz:=7,es:=[[C.lit (.int IntKind.i64 v11),C.lit (.slice none 0 0),C.lit (.slice none 0 0),C.lit (.slice none 0 0),C.lit (.slice none 0 0),C.lit (.slice none 0 0),C.lit (.slice none 0 0)]] }),(9000,{ box:=true,free:=true,elem:=84,sz:=2,es:=[[sls 1 byteF y100,C.lit (.int IntKind.i64 y101)]] })] [])) (aig_reader_model_B0 v11) h337 ?_ _ ?_]
          ·rcases w338 with ⟨y98,y99⟩ | ⟨y100,y101⟩
           ·simp[h1,h7,h13,h19,h25,h31,h37,h43,c47,h49]
            cases h
            rfl
           ·simp[h1,h7,h13,h19,h25,h31,h37,h43,c47,h49];obtain⟨w336,h335,h⟩:=bS h;rw[eL (ι:=(List Latch) × (List Int) × Int × Int) (ρ:=(Int × Int) ⊕ ((List Latch) × (List Int) × Int)) (fun p=>match p with | (x175,x176,x177,x178)=>mk 171 [(0,T.c (C.ptr 9000 0 0)),(2,T.c (C.ptr 2 0 0)),(5,T.c (C.ptr 5 0 0)),(6,T.c (.lit (.int .i64 v17))),(7,T.c (.lit (.int .i64 v23))),(8,T.c (.lit (.int .i64 v29))),(9,T.c (.lit (.int .i64 v35))),(10,T.c (.lit (.int .i64 v41))),(11,T.c (.lit (.func (Fn.func 57) #[] #[]))),(12,T.c (.lit (.int .i64 (isub .i64 v48 1)))),(69,T.c (.lit (.int .i64 v17))),(70,T.c (.lit (.int .i64 x178)))] [(2,{ box:=true,free:=true,elem:=27,sz:=7,es:=[[C.lit (.int IntKind.i64 0),C.lit (.slice none 0 0),C.lit (.slice none 0 0),C.lit (.slice none 0 0),C.lit (.slice none 0 0),C.lit (.slice none 0 0),C.lit (.slice none 0 0)]] }),(5,{ box:=true,free:=false,elem:=27,sz:=7,es:=[[C.lit (.int IntKind.i64 v11),C.ref 10010005 0 (lenN x175),C.ref 10020005 0 (0),C.lit (.slice none 0 0),C.lit (.slice none 0 0),C.lit (.slice none 0 0),C.ref 10060005 0 (0)]] }),(9000,{ box:=true,free:=true,elem:=84,sz:=2,es:=[[sls 1 byteF x176,C.lit (.int IntKind.i64 x177)]] }),(10010005,rowO 47 2 Latch.cells x175),(10020005,rowO 53 2 And.cells []),(10060005,rowO 49 3 Name.cells [])] []) (fun r=>match r with | .inl (y206,y207)=>(Ex.pan 80 [C.lit (.int IntKind.i64 y206),C.lit (.int IntKind.i64 y207)],deadS) | .inr ((y208,y209,y210))=>(Ex.exit 2,mk 171 [(0,T.c (C.ptr 9000 0 0)),(2,T.c (C.ptr 2 0 0)),(5,T.c (C.ptr 5 0 0)),(6,T.c (.lit (.int .i64 v17))),(7,T.c (.lit (.int .i64 v23))),(8,T.c (.lit (.int .i64 v29))),(9,T.c (.lit (.int .i64 v35))),(10,T.c (.lit (.int .i64 v41))),(11,T.c (.lit (.func (Fn.func 57) #[] #[]))),(12,T.c (.lit (.int .i64 (isub .i64 v48 1))))] [(2,{ box:=true,free:=true,elem:=27,sz:=7,es:=[[C.lit (.int IntKind.i64 0),C.lit (.slice none 0 0),C.lit (.slice none 0 0),C.lit (.slice none 0 0),C.lit (.slice none 0 0),C.lit (.slice none 0 0),C.lit (.slice none 0 0)]] }),(5,{ box:=true,free:=false,elem:=27,sz:=7,es:=[[C.lit (.int IntKind.i64 v11),C.ref 10010005 0 (lenN y208),C.ref 10020005 0 (0),C.lit (.slice none 0 0),C.lit (.slice none 0 0),C.lit (.slice none 0 0),C.ref 10060005 0 (0)]] }),(9000,{ box:=true,free:=true,elem:=84,sz:=2,es:=[[sls 1 byteF y209,C.lit (.int IntKind.i64 y210)]] }),(10010005,rowO 47 2 Latch.cells y208),(10020005,rowO 53 2 And.cells []),(10060005,rowO 49 3 Name.cells [])] [])) (aig_reader_model_B1 v11 v17 v48) h335 ?_ _ ?_]
            ·rcases w336 with ⟨y206,y207⟩ | ⟨y208,y209,y210⟩
             ·simp[h1,h7,h13,h19,h25,h31,h37,h43,c47,h49]
              cases h
              rfl
             ·simp[h1,h7,h13,h19,h25,h31,h37,h43,c47,h49];obtain⟨w214,h213',h⟩:=bS h
              rcases w214 with ⟨p215,p216⟩ | ⟨v211,v212⟩
              ·have h213:ev 58 [T.tup [],T.c (C.ptr 9000 0 0),T.c (.lit (.int .i64 v23)),T.c (.lit (.int .i64 (isub .i64 v48 1))),obT { box:=true,free:=true,elem:=84,sz:=2,es:=[[sls 1 byteF y209,C.lit (.int IntKind.i64 y210)]] }]=some (panR 80 [C.lit (.int IntKind.i64 p215),C.lit (.int IntKind.i64 p216)]):=w_aig_reader_lits _ _ _ (.inl _) h213';simp[h1,h7,h13,h19,h25,h31,h37,h43,c47,h49,h213]
               cases h
               rfl
              ·have h213:ev 58 [T.tup [],T.c (C.ptr 9000 0 0),T.c (.lit (.int .i64 v23)),T.c (.lit (.int .i64 (isub .i64 v48 1))),obT { box:=true,free:=true,elem:=84,sz:=2,es:=[[sls 1 byteF y209,C.lit (.int IntKind.i64 y210)]] }]=some (okR (T.c (C.ref 1 0 (lenN v211)),[Ob.mk true true 84 2 [Reader_aig.cells v212],rowO 3 1 intF v211])):=w_aig_reader_lits _ _ _ (.inr _) h213';simp[h1,h7,h13,h19,h25,h31,h37,h43,c47,h49,h213];obtain⟨w220,h219',h⟩:=bS h
               rcases w220 with ⟨p221,p222⟩ | ⟨v217,v218⟩
               ·have h219:ev 58 [T.tup [],T.c (C.ptr 9000 0 0),T.c (.lit (.int .i64 v35)),T.c (.lit (.int .i64 (isub .i64 v48 1))),obT { box:=true,free:=true,elem:=84,sz:=2,es:=[[sls 1 byteF v212.b,C.lit (.int IntKind.i64 v212.at')]] }]=some (panR 80 [C.lit (.int IntKind.i64 p221),C.lit (.int IntKind.i64 p222)]):=w_aig_reader_lits _ _ _ (.inl _) h219';simp[h1,h7,h13,h19,h25,h31,h37,h43,c47,h49,h213,h219]
                cases h
                rfl
               ·have h219:ev 58 [T.tup [],T.c (C.ptr 9000 0 0),T.c (.lit (.int .i64 v35)),T.c (.lit (.int .i64 (isub .i64 v48 1))),obT { box:=true,free:=true,elem:=84,sz:=2,es:=[[sls 1 byteF v212.b,C.lit (.int IntKind.i64 v212.at')]] }]=some (okR (T.c (C.ref 1 0 (lenN v217)),[Ob.mk true true 84 2 [Reader_aig.cells v218],rowO 3 1 intF v217])):=w_aig_reader_lits _ _ _ (.inr _) h219';simp[h1,h7,h13,h19,h25,h31,h37,h43,c47,h49,h213,h219];obtain⟨w226,h225',h⟩:=bS h
                rcases w226 with ⟨p227,p228⟩ | ⟨v223,v224⟩
                ·have h225:ev 58 [T.tup [],T.c (C.ptr 9000 0 0),T.c (.lit (.int .i64 v41)),T.c (.lit (.int .i64 (isub .i64 v48 1))),obT { box:=true,free:=true,elem:=84,sz:=2,es:=[[sls 1 byteF v218.b,C.lit (.int IntKind.i64 v218.at')]] }]=some (panR 80 [C.lit (.int IntKind.i64 p227),C.lit (.int IntKind.i64 p228)]):=w_aig_reader_lits _ _ _ (.inl _) h225';simp[h1,h7,h13,h19,h25,h31,h37,h43,c47,h49,h213,h219,h225]
                 cases h
                 rfl
                ·have h225:ev 58 [T.tup [],T.c (C.ptr 9000 0 0),T.c (.lit (.int .i64 v41)),T.c (.lit (.int .i64 (isub .i64 v48 1))),obT { box:=true,free:=true,elem:=84,sz:=2,es:=[[sls 1 byteF v218.b,C.lit (.int IntKind.i64 v218.at')]] }]=some (okR (T.c (C.ref 1 0 (lenN v223)),[Ob.mk true true 84 2 [Reader_aig.cells v224],rowO 3 1 intF v223])):=w_aig_reader_lits _ _ _ (.inr _) h225';simp[h1,h7,h13,h19,h25,h31,h37,h43,c47,h49,h213,h219,h225];obtain⟨w334,h333,h⟩:=bS h;rw[eL (ι:=(List Vid.And) × (List Int) × Int × Int) (ρ:=(Int × Int) ⊕ ((List Vid.And) × (List Int) × Int)) (fun p=>match p with | (x294,x295,x296,x297)=>mk 171 [(0,T.c (C.ptr 9000 0 0)),(2,T.c (C.ptr 2 0 0)),(5,T.c (C.ptr 5 0 0)),(6,T.c (.lit (.int .i64 v17))),(11,T.c (.lit (.func (Fn.func 57) #[] #[]))),(134,T.c (.lit (.int .i64 v29))),(135,T.c (.lit (.int .i64 x297)))] [(2,{ box:=true,free:=true,elem:=27,sz:=7,es:=[[C.lit (.int IntKind.i64 0),C.lit (.slice none 0 0),C.lit (.slice none 0 0),C.lit (.slice none 0 0),C.lit (.slice none 0 0),C.lit (.slice none 0 0),C.lit (.slice none 0 0)]] }),(5,{ box:=true,free:=false,elem:=27,sz:=7,es:=[[C.lit (.int IntKind.i64 v11),C.ref 10010005 0 (lenN y208),C.ref 10020005 0 (lenN x294),C.ref 122 0 (lenN v211),C.ref 126 0 (lenN v217),C.ref 130 0 (lenN v223),C.ref 10060005 0 (0)]] }),(122,rowO 3 1 intF v211),(126,rowO 3 1 intF v217),(130,rowO 3 1 intF v223),(9000,{ box:=true,free:=true,elem:=84,sz:=2,es:=[[sls 1 byteF x295,C.lit (.int IntKind.i64 x296)]] }),(10010005,rowO 47 2 Latch.cells y208),(10020005,rowO 53 2 And.cells x294),(10060005,rowO 49 3 Name.cells [])] []) (fun r=>match r with | .inl (y322,y323)=>(Ex.pan 80 [C.lit (.int IntKind.i64 y322),C.lit (.int IntKind.i64 y323)],deadS) | .inr ((y324,y325,y326))=>(Ex.exit 4,mk 171 [(0,T.c (C.ptr 9000 0 0)),(2,T.c (C.ptr 2 0 0)),(5,T.c (C.ptr 5 0 0))] [(2,{ box:=true,free:=true,elem:=27,sz:=7,es:=[[C.lit (.int IntKind.i64 0),C.lit (.slice none 0 0),C.lit (.slice none 0 0),C.lit (.slice none 0 0),C.lit (.slice none 0 0),C.lit (.slice none 0 0),C.lit (.slice none 0 0)]] }),(5,{ box:=true,free:=false,elem:=27,sz:=7,es:=[[C.lit (.int IntKind.i64 v11),C.ref 10010005 0 (lenN y208),C.ref 10020005 0 (lenN y324),C.ref 122 0 (lenN v211),C.ref 126 0 (lenN v217),C.ref 130 0 (lenN v223),C.ref 10060005 0 (0)]] }),(122,rowO 3 1 intF v211),(126,rowO 3 1 intF v217),(130,rowO 3 1 intF v223),(9000,{ box:=true,free:=true,elem:=84,sz:=2,es:=[[sls 1 byteF y325,C.lit (.int IntKind.i64 y326)]] }),(10010005,rowO 47 2 Latch.cells y208),(10020005,rowO 53 2 And.cells y324),(10060005,rowO 49 3 Name.cells [])] [])) (aig_reader_model_B2 v11 v17 v29) h333 ?_ _ ?_]
                 ·rcases w334 with ⟨y322,y323⟩ | ⟨y324,y325,y326⟩
                  ·simp[h1,h7,h13,h19,h25,h31,h37,h43,c47,h49,h213,h219,h225]
                   cases h
                   rfl
                  ·simp[h1,h7,h13,h19,h25,h31,h37,h43,c47,h49,h213,h219,h225];obtain⟨w330,h329',h⟩:=bS h
                   rcases w330 with ⟨p331,p332⟩ | ⟨v327,v328⟩
                   ·have h329:ev 59 [T.tup [],T.c (C.ptr 9000 0 0),T.c (C.ptr 19000 0 0),obT { box:=true,free:=true,elem:=84,sz:=2,es:=[[sls 1 byteF y325,C.lit (.int IntKind.i64 y326)]] },obT { box:=true,free:=false,elem:=27,sz:=7,es:=[[C.lit (.int IntKind.i64 v11),C.ref 29001 0 (lenN y208),C.ref 39001 0 (lenN y324),C.ref 49001 0 (lenN v211),C.ref 59001 0 (lenN v217),C.ref 69001 0 (lenN v223),C.ref 79001 0 0]] },obT (rowO 47 2 Latch.cells y208),obT (rowO 53 2 And.cells y324),obT (rowO 3 1 intF v211),obT (rowO 3 1 intF v217),obT (rowO 3 1 intF v223),obT { box:=false,free:=true,elem:=49,sz:=3,es:=[] }]=some (panR 80 [C.lit (.int IntKind.i64 p331),C.lit (.int IntKind.i64 p332)]):=w_aig_reader_names _ _ (.inl _) h329'
                    simp[h1,h7,h13,h19,h25,h31,h37,h43,c47,h49,h213,h219,h225,h329]
                    cases h
                    rfl
                   ·have h329:ev 59 [T.tup [],T.c (C.ptr 9000 0 0),T.c (C.ptr 19000 0 0),obT { box:=true,free:=true,elem:=84,sz:=2,es:=[[sls 1 byteF y325,C.lit (.int IntKind.i64 y326)]] },obT { box:=true,free:=false,elem:=27,sz:=7,es:=[[C.lit (.int IntKind.i64 v11),C.ref 29001 0 (lenN y208),C.ref 39001 0 (lenN y324),C.ref 49001 0 (lenN v211),C.ref 59001 0 (lenN v217),C.ref 69001 0 (lenN v223),C.ref 79001 0 0]] },obT (rowO 47 2 Latch.cells y208),obT (rowO 53 2 And.cells y324),obT (rowO 3 1 intF v211),obT (rowO 3 1 intF v217),obT (rowO 3 1 intF v223),obT { box:=false,free:=true,elem:=49,sz:=3,es:=[] }]=some (okR (T.tup [],[Ob.mk true true 84 2 [Reader_aig.cells v327],Ob.mk true false 27 7 [[C.lit (.int IntKind.i64 v328.I),C.ref 2 0 (lenN v328.L),C.ref 3 0 (lenN v328.G),C.ref 4 0 (lenN v328.outs),C.ref 5 0 (lenN v328.bad),C.ref 6 0 (lenN v328.con),C.ref 7 0 (lenN v328.names)]],rowO 47 2 Latch.cells v328.L,rowO 53 2 And.cells v328.G,rowO 3 1 intF v328.outs,rowO 3 1 intF v328.bad,rowO 3 1 intF v328.con,rowO 49 3 Name.cells v328.names])):=w_aig_reader_names _ _ (.inr _) h329'
                    simp[h1,h7,h13,h19,h25,h31,h37,h43,c47,h49,h213,h219,h225,h329]
                    cases h
                    rfl
                 ·clear h333 h;rintro⟨x294,x295,x296,x297⟩ y L res h hL hR;unfold aig_reader_model_B2 at h;simp
                  rcases iC h with ⟨c298,h⟩ | ⟨c298,h⟩
                  ·simp[c298];obtain⟨v299,h300',h⟩:=bS h;have h300:ev 57 [T.c (.lit (.int .i64 (iadd .i64 (iadd .i64 v11 v17) x297)))]=some (T.c (.lit (.int .i64 v299)),[]):=w_vidimus_aig_reader_model_1 _ _ h300';simp[c298,h300];obtain⟨v301,h302',h⟩:=bS h;have h302:ev 42 [T.c (.lit (.int .i64 v299))]=some (T.c (.lit (.string v301)),[]):=w_strconv_Itoa _ _ h302';simp[c298,h300,h302]
                   rcases iC h with ⟨c303,h⟩ | ⟨c303,h⟩
                   ·simp[c298,h300,h302,c303];obtain⟨w306,h305',h⟩:=bS h
                    rcases w306 with ⟨p307,p308⟩ | v304
                    ·have h305:ev 55 [T.tup [],T.c (C.ptr 9000 0 0),T.c (.lit (.string (v301++{ data:=#[32] }))),obT { box:=true,free:=true,elem:=84,sz:=2,es:=[[sls 1 byteF x295,C.lit (.int IntKind.i64 x296)]] }]=some (panR 80 [C.lit (.int IntKind.i64 p307),C.lit (.int IntKind.i64 p308)]):=w_aig_reader_word _ _ (.inl _) h305';simp[c298,h300,h302,c303,h305]
                     cases h
                     exact hR _ rfl
                    ·have h305:ev 55 [T.tup [],T.c (C.ptr 9000 0 0),T.c (.lit (.string (v301++{ data:=#[32] }))),obT { box:=true,free:=true,elem:=84,sz:=2,es:=[[sls 1 byteF x295,C.lit (.int IntKind.i64 x296)]] }]=some (okR (T.tup [],[Ob.mk true true 84 2 [Reader_aig.cells v304]])):=w_aig_reader_word _ _ (.inr _) h305';simp[c298,h300,h302,c303,h305];obtain⟨w312,h311',h⟩:=bS h
                     rcases w312 with ⟨p313,p314⟩ | ⟨v309,v310⟩
                     ·have h311:ev 56 [T.tup [],T.c (C.ptr 9000 0 0),T.c (.lit (.int .i64 (isub .i64 v299 1))),T.c (.lit (.string { data:=#[32] })),obT { box:=true,free:=true,elem:=84,sz:=2,es:=[[sls 1 byteF v304.b,C.lit (.int IntKind.i64 v304.at')]] }]=some (panR 80 [C.lit (.int IntKind.i64 p313),C.lit (.int IntKind.i64 p314)]):=w_aig_reader_number _ _ _ (.inl _) h311';simp[c298,h300,h302,c303,h305,h311]
                      cases h
                      exact hR _ rfl
                     ·have h311:ev 56 [T.tup [],T.c (C.ptr 9000 0 0),T.c (.lit (.int .i64 (isub .i64 v299 1))),T.c (.lit (.string { data:=#[32] })),obT { box:=true,free:=true,elem:=84,sz:=2,es:=[[sls 1 byteF v304.b,C.lit (.int IntKind.i64 v304.at')]] }]=some (okR (T.c (.lit (.int .i64 v309)),[Ob.mk true true 84 2 [Reader_aig.cells v310]])):=w_aig_reader_number _ _ _ (.inr _) h311';simp[c298,h300,h302,c303,h305,h311];obtain⟨w318,h317',h⟩:=bS h
                      rcases w318 with ⟨p319,p320⟩ | ⟨v315,v316⟩
                      ·have h317:ev 56 [T.tup [],T.c (C.ptr 9000 0 0),T.c (.lit (.int .i64 v309)),T.c (.lit (.string { data:=#[10] })),obT { box:=true,free:=true,elem:=84,sz:=2,es:=[[sls 1 byteF v310.b,C.lit (.int IntKind.i64 v310.at')]] }]=some (panR 80 [C.lit (.int IntKind.i64 p319),C.lit (.int IntKind.i64 p320)]):=w_aig_reader_number _ _ _ (.inl _) h317';simp[c298,h300,h302,c303,h305,h311,h317]
                       cases h
                       exact hR _ rfl
                      ·have h317:ev 56 [T.tup [],T.c (C.ptr 9000 0 0),T.c (.lit (.int .i64 v309)),T.c (.lit (.string { data:=#[10] })),obT { box:=true,free:=true,elem:=84,sz:=2,es:=[[sls 1 byteF v310.b,C.lit (.int IntKind.i64 v310.at')]] }]=some (okR (T.c (.lit (.int .i64 v315)),[Ob.mk true true 84 2 [Reader_aig.cells v316]])):=w_aig_reader_number _ _ _ (.inr _) h317';simp[c298,h300,h302,c303,h305,h311,h317]
                       rcases iC h with ⟨c321,h⟩ | ⟨c321,h⟩
                       ·simp[c298,h300,h302,c303,h305,h311,h317,c321]
                        cases h
                        exact hL _ _ rfl (by simp[headOf])
                       ·simp[c298,h300,h302,c303,h305,h311,h317,c321]
                        cases h
                   ·simp[c298,h300,h302,c303]
                    cases h
                  ·simp[c298]
                   cases h
                   exact hR _ rfl
                 ·simp[headOf]
            ·clear h335 h;rintro⟨x175,x176,x177,x178⟩ y L res h hL hR;unfold aig_reader_model_B1 at h;simp
             rcases iC h with ⟨c179,h⟩ | ⟨c179,h⟩
             ·simp[c179];obtain⟨v180,h181',h⟩:=bS h;have h181:ev 57 [T.c (.lit (.int .i64 (iadd .i64 v11 x178)))]=some (T.c (.lit (.int .i64 v180)),[]):=w_vidimus_aig_reader_model_1 _ _ h181';simp[c179,h181];obtain⟨v182,h183',h⟩:=bS h;have h183:ev 42 [T.c (.lit (.int .i64 v180))]=some (T.c (.lit (.string v182)),[]):=w_strconv_Itoa _ _ h183';simp[c179,h181,h183]
              rcases iC h with ⟨c184,h⟩ | ⟨c184,h⟩
              ·simp[c179,h181,h183,c184];obtain⟨w187,h186',h⟩:=bS h
               rcases w187 with ⟨p188,p189⟩ | v185
               ·have h186:ev 55 [T.tup [],T.c (C.ptr 9000 0 0),T.c (.lit (.string (v182++{ data:=#[32] }))),obT { box:=true,free:=true,elem:=84,sz:=2,es:=[[sls 1 byteF x176,C.lit (.int IntKind.i64 x177)]] }]=some (panR 80 [C.lit (.int IntKind.i64 p188),C.lit (.int IntKind.i64 p189)]):=w_aig_reader_word _ _ (.inl _) h186';simp[c179,h181,h183,c184,h186]
                cases h
                exact hR _ rfl
               ·have h186:ev 55 [T.tup [],T.c (C.ptr 9000 0 0),T.c (.lit (.string (v182++{ data:=#[32] }))),obT { box:=true,free:=true,elem:=84,sz:=2,es:=[[sls 1 byteF x176,C.lit (.int IntKind.i64 x177)]] }]=some (okR (T.tup [],[Ob.mk true true 84 2 [Reader_aig.cells v185]])):=w_aig_reader_word _ _ (.inr _) h186';simp[c179,h181,h183,c184,h186];obtain⟨w193,h192',h⟩:=bS h
                rcases w193 with ⟨p194,p195⟩ | ⟨v190,v191⟩
                ·have h192:ev 56 [T.tup [],T.c (C.ptr 9000 0 0),T.c (.lit (.int .i64 (isub .i64 v48 1))),T.c (.lit (.string { data:=#[32] })),obT { box:=true,free:=true,elem:=84,sz:=2,es:=[[sls 1 byteF v185.b,C.lit (.int IntKind.i64 v185.at')]] }]=some (panR 80 [C.lit (.int IntKind.i64 p194),C.lit (.int IntKind.i64 p195)]):=w_aig_reader_number _ _ _ (.inl _) h192';simp[c179,h181,h183,c184,h186,h192]
                 cases h
                 exact hR _ rfl
                ·have h192:ev 56 [T.tup [],T.c (C.ptr 9000 0 0),T.c (.lit (.int .i64 (isub .i64 v48 1))),T.c (.lit (.string { data:=#[32] })),obT { box:=true,free:=true,elem:=84,sz:=2,es:=[[sls 1 byteF v185.b,C.lit (.int IntKind.i64 v185.at')]] }]=some (okR (T.c (.lit (.int .i64 v190)),[Ob.mk true true 84 2 [Reader_aig.cells v191]])):=w_aig_reader_number _ _ _ (.inr _) h192';simp[c179,h181,h183,c184,h186,h192];obtain⟨w199,h198',h⟩:=bS h
                 rcases w199 with ⟨p200,p201⟩ | ⟨v196,v197⟩
                 ·have h198:ev 56 [T.tup [],T.c (C.ptr 9000 0 0),T.c (.lit (.int .i64 (isub .i64 v48 1))),T.c (.lit (.string { data:=#[10] })),obT { box:=true,free:=true,elem:=84,sz:=2,es:=[[sls 1 byteF v191.b,C.lit (.int IntKind.i64 v191.at')]] }]=some (panR 80 [C.lit (.int IntKind.i64 p200),C.lit (.int IntKind.i64 p201)]):=w_aig_reader_number _ _ _ (.inl _) h198';simp[c179,h181,h183,c184,h186,h192,h198]
                  cases h
                  exact hR _ rfl
                 ·have h198:ev 56 [T.tup [],T.c (C.ptr 9000 0 0),T.c (.lit (.int .i64 (isub .i64 v48 1))),T.c (.lit (.string { data:=#[10] })),obT { box:=true,free:=true,elem:=84,sz:=2,es:=[[sls 1 byteF v191.b,C.lit (.int IntKind.i64 v191.at')]] }]=some (okR (T.c (.lit (.int .i64 v196)),[Ob.mk true true 84 2 [Reader_aig.cells v197]])):=w_aig_reader_number _ _ _ (.inr _) h198';simp[c179,h181,h183,c184,h186,h192,h198]
                  rcases iC h with ⟨c202,h⟩ | ⟨c202,h⟩
                  ·simp[c179,h181,h183,c184,h186,h192,h198,c202]
                   rcases iC h with ⟨c203,h⟩ | ⟨c203,h⟩
                   ·simp[c179,h181,h183,c184,h186,h192,h198,c202,c203]
                    rcases iC h with ⟨c204,h⟩ | ⟨c204,h⟩
                    ·simp[c179,h181,h183,c184,h186,h192,h198,c202,c203,c204]
                     cases h
                     exact hL _ _ rfl (by simp[headOf])
                    ·simp[c179,h181,h183,c184,h186,h192,h198,c202,c203,c204]
                     cases h
                   ·simp[c179,h181,h183,c184,h186,h192,h198,c202,c203]
                    cases h
                    exact hR _ rfl
                  ·simp[c179,h181,h183,c184,h186,h192,h198,c202]
                   rcases iC h with ⟨c205,h⟩ | ⟨c205,h⟩
                   ·simp[c179,h181,h183,c184,h186,h192,h198,c202,c205]
                    cases h
                    exact hL _ _ rfl (by simp[headOf])
                   ·simp[c179,h181,h183,c184,h186,h192,h198,c202,c205]
                    cases h
              ·simp[c179,h181,h183,c184]
               cases h
             ·simp[c179]
              cases h
              exact hR _ rfl
            ·simp[headOf]
          ·clear h337 h;rintro⟨x85,x86,x87⟩ y L res h hL hR;unfold aig_reader_model_B0 at h;simp
           rcases iC h with ⟨c88,h⟩ | ⟨c88,h⟩
           ·simp[c88];obtain⟨v89,h90',h⟩:=bS h;have h90:ev 57 [T.c (.lit (.int .i64 x87))]=some (T.c (.lit (.int .i64 v89)),[]):=w_vidimus_aig_reader_model_1 _ _ h90';simp[c88,h90];obtain⟨v91,h92',h⟩:=bS h;have h92:ev 24 [T.c (sls 1 intF [v89])]=some (T.c (.lit (.string v91)),[]):=w_aig_line _ _ h92';simp[c88,h90,h92];obtain⟨w95,h94',h⟩:=bS h
            rcases w95 with ⟨p96,p97⟩ | v93
            ·have h94:ev 55 [T.tup [],T.c (C.ptr 9000 0 0),T.c (.lit (.string v91)),obT { box:=true,free:=true,elem:=84,sz:=2,es:=[[sls 1 byteF x85,C.lit (.int IntKind.i64 x86)]] }]=some (panR 80 [C.lit (.int IntKind.i64 p96),C.lit (.int IntKind.i64 p97)]):=w_aig_reader_word _ _ (.inl _) h94';simp[c88,h90,h92,h94]
             cases h
             exact hR _ rfl
            ·have h94:ev 55 [T.tup [],T.c (C.ptr 9000 0 0),T.c (.lit (.string v91)),obT { box:=true,free:=true,elem:=84,sz:=2,es:=[[sls 1 byteF x85,C.lit (.int IntKind.i64 x86)]] }]=some (okR (T.tup [],[Ob.mk true true 84 2 [Reader_aig.cells v93]])):=w_aig_reader_word _ _ (.inr _) h94';simp[c88,h90,h92,h94]
             cases h
             exact hL _ _ rfl (by simp[headOf])
           ·simp[c88]
            cases h
            exact hR _ rfl
          ·simp[headOf]
         ·simp[h1,h7,h13,h19,h25,h31,h37,h43,c47]
          cases h
          rfl
end Go.Proofs.YtadllpehekphmaaDoor

/- What is known of functions without their code is so. No condition. -/
import Derived.Test.YtadllpehekphmaaDoorPa
import Derived.Test.YtadllpehekphmaaDoorM
import Derived.Test.YtadllpehekphmaaDoorGw
namespace Go.Proofs.YtadllpehekphmaaDoor
open Go.Vabs Go.Vid
theorem envOk:@EnvOK glob prims1 Tryd.prog:=⟨ixOk,fun f args r h=>by
 have h:(if f=21 then prParse args else prims0.pr f args)=some r:=h
 by_cases hf:f=21
 ·subst hf;rw[if_pos rfl] at h;exact parse_ok envOk0 h
 ·rw[if_neg hf] at h;exact envOk0.2 f args r h⟩
end Go.Proofs.YtadllpehekphmaaDoor
set_option linter.unusedSimpArgs false
set_option linter.unusedVariables false
set_option maxRecDepth 20000
set_option maxHeartbeats 4000000
namespace Go.Proofs.YtadllpehekphmaaDoor
open Go.Vabs Go.Vid
theorem w_law06_shown (r:Bool)(h:law06_shown=some r):ev1 9 []=some (T.c (.lit (.bool r)),[]):=by
 refine ev_run' (kp:=k9) (us:=[4]) fn9 rfl rfl rfl rfl rfl (by kernel_rfl) rfl rfl (by simp) ?_;unfold law06_shown at h;simp;obtain⟨⟨v0,v1⟩,h2',h⟩:=bS h;have h2:ev1 11 [T.agg [C.lit (.int IntKind.i64 2),C.sl 2 [],sls 2 And.cells [{ a:=4,b:=2 }],sls 1 intF [6],C.sl 1 [],C.sl 1 [],sls 3 Name.cells [{ kind:=111,pos:=0,s:={ data:=#[120] } }]]]=some (T.tup [T.c (.lit (.string v0)),T.c (.lit (.int .i64 v1))],[]):=up1 (w_aig_Print _ _ h2');simp[h2];obtain⟨⟨v3,v4,v5⟩,h6',h⟩:=bS h;have h6:ev1 21 [T.c (sls 1 byteF (bytesOf v0))]=some (T.tup [T.agg [C.lit (.int IntKind.i64 v3.I),C.ref 0 0 (lenN v3.L),C.ref 1 0 (lenN v3.G),C.ref 2 0 (lenN v3.outs),C.ref 3 0 (lenN v3.bad),C.ref 4 0 (lenN v3.con),C.ref 5 0 (lenN v3.names)],T.c (.lit (.int .i64 v4)),T.c (.lit (.int .i64 v5))],[rowO 47 2 Latch.cells v3.L,rowO 53 2 And.cells v3.G,rowO 3 1 intF v3.outs,rowO 3 1 intF v3.bad,rowO 3 1 intF v3.con,rowO 49 3 Name.cells v3.names]):=w_aig_Parse _ _ h6'
 simp[h2,h6]
 rcases iC h with ⟨c7,h⟩ | ⟨c7,h⟩
 ·simp[h2,h6,c7]
  rcases iC h with ⟨c8,h⟩ | ⟨c8,h⟩
  ·simp[h2,h6,c7,c8]
   rcases iC h with ⟨c9,h⟩ | ⟨c9,h⟩
   ·simp[h2,h6,c7,c8,c9]
    rcases iC h with ⟨c10,h⟩ | ⟨c10,h⟩
    ·simp[h2,h6,c7,c8,c9,c10];obtain⟨v11,h12',h⟩:=bS h;have h12:ev1 15 [T.agg [C.lit (.int IntKind.i64 2),C.sl 2 [],sls 2 And.cells [{ a:=4,b:=2 }],sls 1 intF [6],C.sl 1 [],C.sl 1 [],sls 3 Name.cells [{ kind:=111,pos:=0,s:={ data:=#[120] } }]],T.agg [C.lit (.int IntKind.i64 v3.I),sls 2 Latch.cells v3.L,sls 2 And.cells v3.G,sls 1 intF v3.outs,sls 1 intF v3.bad,sls 1 intF v3.con,sls 3 Name.cells v3.names]]=some (T.c (.lit (.bool v11)),[]):=up1 (w_aig_Same _ _ _ h12');simp[h2,h6,c7,c8,c9,c10,h12]
     rcases iC h with ⟨c13,h⟩ | ⟨c13,h⟩
     ·simp[h2,h6,c7,c8,c9,c10,h12,c13];obtain⟨v14,h15',h⟩:=bS h;have h15:ev1 14 [T.agg [C.lit (.int IntKind.i64 2),C.sl 2 [],sls 2 And.cells [{ a:=4,b:=2 }],sls 1 intF [6],C.sl 1 [],C.sl 1 [],sls 3 Name.cells [{ kind:=111,pos:=0,s:={ data:=#[120] } }]]]=some (T.c (.lit (.bool v14)),[]):=up1 (w_aig_Right _ _ h15');simp[h2,h6,c7,c8,c9,c10,h12,c13,h15]
      rcases iC h with ⟨c16,h⟩ | ⟨c16,h⟩
      ·simp[h2,h6,c7,c8,c9,c10,h12,c13,h15,c16];obtain⟨v17,h18',h⟩:=bS h;have h18:ev1 17 [T.agg [C.lit (.int IntKind.i64 2),C.sl 2 [],sls 2 And.cells [{ a:=4,b:=2 }],sls 1 intF [6],C.sl 1 [],C.sl 1 [],sls 3 Name.cells [{ kind:=111,pos:=0,s:={ data:=#[120] } }]]]=some (T.c (.lit (.int .i64 v17)),[]):=up1 (w_aig_Vars _ _ h18');simp[h2,h6,c7,c8,c9,c10,h12,c13,h15,c16,h18]
       rcases iC h with ⟨c19,h⟩ | ⟨c19,h⟩
       ·simp[h2,h6,c7,c8,c9,c10,h12,c13,h15,c16,h18,c19];obtain⟨v20,h21',h⟩:=bS h;have h21:ev1 19 [T.agg [C.lit (.int IntKind.i64 2),C.sl 2 [],sls 2 And.cells [{ a:=4,b:=2 }],sls 1 intF [6],C.sl 1 [],C.sl 1 [],sls 3 Name.cells [{ kind:=111,pos:=0,s:={ data:=#[120] } }]],T.c (.lit (.string { data:=#[121] }))]=some (T.c (.lit (.string v20)),[]):=up1 (w_aig_Names _ _ _ h21');simp[h2,h6,c7,c8,c9,c10,h12,c13,h15,c16,h18,c19,h21]
        cases h
        rfl
       ·simp[h2,h6,c7,c8,c9,c10,h12,c13,h15,c16,h18,c19]
        cases h
        rfl
      ·simp[h2,h6,c7,c8,c9,c10,h12,c13,h15,c16]
       cases h
       rfl
     ·simp[h2,h6,c7,c8,c9,c10,h12,c13]
      cases h
      rfl
    ·simp[h2,h6,c7,c8,c9,c10]
     cases h
     rfl
   ·simp[h2,h6,c7,c8,c9]
    cases h
    rfl
  ·simp[h2,h6,c7,c8]
   cases h
   rfl
 ·simp[h2,h6,c7]
  cases h
  rfl
theorem w_law06_AigNamed (a:Aig)(n:Name)(s:ByteArray)(h:law06_AigNamed a n s=some true):ev1 8 [T.agg (Aig.cells a),T.agg (Name.cells n),T.c (.lit (.string s))]=some (T.c (.lit (.bool true)),[]):=by
 refine ev_run' (kp:=k8) (us:=[4]) fn8 rfl rfl rfl rfl rfl (by kernel_rfl) rfl rfl (by simp) ?_;unfold law06_AigNamed at h;simp;obtain⟨v0,h1',h⟩:=bS h;have h1:ev1 9 []=some (T.c (.lit (.bool v0)),[]):=w_law06_shown _ h1';simp[h1];obtain⟨v2,h3',h⟩:=bS h;have h3:ev1 10 [T.agg a.cells,T.c (.lit (.int .i64 40))]=some (T.c (.lit (.bool v2)),[]):=up1 (w_ref06_Small _ _ _ h3');simp[h1,h3]
 rcases iC h with ⟨c4,h⟩ | ⟨c4,h⟩
 ·simp[h1,h3,c4];obtain⟨v5,h6',h⟩:=bS h;have h6:ev1 13 [T.agg a.cells]=some (T.c (.lit (.bool v5)),[]):=up1 (w_ref06_Right _ _ h6');simp[h1,h3,c4,h6]
  rcases iC h with ⟨c7,h⟩ | ⟨c7,h⟩
  ·simp[h1,h3,c4,h6,c7]
   rcases iC h with ⟨c8,h⟩ | ⟨c8,h⟩
   ·first | (cases h; done) | (simp[h1,h3,c4,h6,c7,c8]; first | rfl | (injection h with h; rw[h]; rfl) | (injection h with h; rw[h]))
   ·simp[h1,h3,c4,h6,c7,c8]
    rcases iC h with ⟨c9,h⟩ | ⟨c9,h⟩
    ·first | (cases h; done) | (simp[h1,h3,c4,h6,c7,c8,c9]; first | rfl | (injection h with h; rw[h]; rfl) | (injection h with h; rw[h]))
    ·simp[h1,h3,c4,h6,c7,c8,c9]
     rcases iC h with ⟨c10,h⟩ | ⟨c10,h⟩
     ·simp[h1,h3,c4,h6,c7,c8,c9,c10]
      rcases iC h with ⟨c11,h⟩ | ⟨c11,h⟩
      ·simp[h1,h3,c4,h6,c7,c8,c9,c10,c11]
       rcases iC h with ⟨c12,h⟩ | ⟨c12,h⟩
       ·simp[h1,h3,c4,h6,c7,c8,c9,c10,c11,c12];obtain⟨v13,h14',h⟩:=bS h;have h14:ev1 14 [T.agg [C.lit (.int IntKind.i64 a.I),sls 2 Latch.cells a.L,sls 2 And.cells a.G,sls 1 intF a.outs,sls 1 intF a.bad,sls 1 intF a.con,sls 3 Name.cells (a.names++[n])]]=some (T.c (.lit (.bool v13)),[]):=up1 (w_aig_Right _ _ h14');simp[h1,h3,c4,h6,c7,c8,c9,c10,c11,c12,h14];obtain⟨v15,h16',h⟩:=bS h;have h16:ev1 14 [T.agg [C.lit (.int IntKind.i64 a.I),sls 2 Latch.cells a.L,sls 2 And.cells a.G,sls 1 intF a.outs,sls 1 intF a.bad,sls 1 intF a.con,sls 3 Name.cells [n]]]=some (T.c (.lit (.bool v15)),[]):=up1 (w_aig_Right _ _ h16')
        simp[h1,h3,c4,h6,c7,c8,c9,c10,c11,c12,h14,h16]
        rcases iC h with ⟨c17,h⟩ | ⟨c17,h⟩
        ·simp[h1,h3,c4,h6,c7,c8,c9,c10,c11,c12,h14,h16,c17]
         rcases iC h with ⟨c18,h⟩ | ⟨c18,h⟩
         ·simp[h1,h3,c4,h6,c7,c8,c9,c10,c11,c12,h14,h16,c17,c18]
          rcases iC h with ⟨c19,h⟩ | ⟨c19,h⟩
          ·simp[h1,h3,c4,h6,c7,c8,c9,c10,c11,c12,h14,h16,c17,c18,c19]
           rcases iC h with ⟨c20,h⟩ | ⟨c20,h⟩
           ·simp[h1,h3,c4,h6,c7,c8,c9,c10,c11,c12,h14,h16,c17,c18,c19,c20];obtain⟨v21,h22',h⟩:=bS h;have h22:ev1 19 [T.agg [C.lit (.int IntKind.i64 a.I),sls 2 Latch.cells a.L,sls 2 And.cells a.G,sls 1 intF a.outs,sls 1 intF a.bad,sls 1 intF a.con,sls 3 Name.cells (a.names++[n])],T.c (.lit (.string s))]=some (T.c (.lit (.string v21)),[]):=up1 (w_aig_Names _ _ _ h22');simp[h1,h3,c4,h6,c7,c8,c9,c10,c11,c12,h14,h16,c17,c18,c19,c20,h22];obtain⟨v23,h24',h⟩:=bS h;have h24:ev1 19 [T.agg a.cells,T.c (.lit (.string s))]=some (T.c (.lit (.string v23)),[]):=up1 (w_aig_Names _ _ _ h24');simp[h1,h3,c4,h6,c7,c8,c9,c10,c11,c12,h14,h16,c17,c18,c19,c20,h22,h24]
            obtain⟨v25,h26',h⟩:=bS h;have h26:ev1 19 [T.agg [C.lit (.int IntKind.i64 a.I),sls 2 Latch.cells a.L,sls 2 And.cells a.G,sls 1 intF a.outs,sls 1 intF a.bad,sls 1 intF a.con,sls 3 Name.cells [n]],T.c (.lit (.string { data:=#[] }))]=some (T.c (.lit (.string v25)),[]):=up1 (w_aig_Names _ _ _ h26');simp[h1,h3,c4,h6,c7,c8,c9,c10,c11,c12,h14,h16,c17,c18,c19,c20,h22,h24,h26]
            rcases iC h with ⟨c27,h⟩ | ⟨c27,h⟩
            ·first | (cases h; done) | (simp[h1,h3,c4,h6,c7,c8,c9,c10,c11,c12,h14,h16,c17,c18,c19,c20,h22,h24,h26,c27]; first | rfl | (injection h with h; rw[h]; rfl) | (injection h with h; rw[h]))
            ·simp[h1,h3,c4,h6,c7,c8,c9,c10,c11,c12,h14,h16,c17,c18,c19,c20,h22,h24,h26,c27]
             cases h
           ·first | (cases h; done) | (simp[h1,h3,c4,h6,c7,c8,c9,c10,c11,c12,h14,h16,c17,c18,c19,c20]; first | rfl | (injection h with h; rw[h]; rfl) | (injection h with h; rw[h]))
          ·first | (cases h; done) | (simp[h1,h3,c4,h6,c7,c8,c9,c10,c11,c12,h14,h16,c17,c18,c19]; first | rfl | (injection h with h; rw[h]; rfl) | (injection h with h; rw[h]))
         ·first | (cases h; done) | (simp[h1,h3,c4,h6,c7,c8,c9,c10,c11,c12,h14,h16,c17,c18]; first | rfl | (injection h with h; rw[h]; rfl) | (injection h with h; rw[h]))
        ·simp[h1,h3,c4,h6,c7,c8,c9,c10,c11,c12,h14,h16,c17]
         rcases iC h with ⟨c28,h⟩ | ⟨c28,h⟩
         ·simp[h1,h3,c4,h6,c7,c8,c9,c10,c11,c12,h14,h16,c17,c28]
          rcases iC h with ⟨c29,h⟩ | ⟨c29,h⟩
          ·simp[h1,h3,c4,h6,c7,c8,c9,c10,c11,c12,h14,h16,c17,c28,c29]
           rcases iC h with ⟨c30,h⟩ | ⟨c30,h⟩
           ·simp[h1,h3,c4,h6,c7,c8,c9,c10,c11,c12,h14,h16,c17,c28,c29,c30];obtain⟨v31,h32',h⟩:=bS h;have h32:ev1 19 [T.agg [C.lit (.int IntKind.i64 a.I),sls 2 Latch.cells a.L,sls 2 And.cells a.G,sls 1 intF a.outs,sls 1 intF a.bad,sls 1 intF a.con,sls 3 Name.cells (a.names++[n])],T.c (.lit (.string s))]=some (T.c (.lit (.string v31)),[]):=up1 (w_aig_Names _ _ _ h32');simp[h1,h3,c4,h6,c7,c8,c9,c10,c11,c12,h14,h16,c17,c28,c29,c30,h32];obtain⟨v33,h34',h⟩:=bS h;have h34:ev1 19 [T.agg a.cells,T.c (.lit (.string s))]=some (T.c (.lit (.string v33)),[]):=up1 (w_aig_Names _ _ _ h34');simp[h1,h3,c4,h6,c7,c8,c9,c10,c11,c12,h14,h16,c17,c28,c29,c30,h32,h34]
            obtain⟨v35,h36',h⟩:=bS h;have h36:ev1 19 [T.agg [C.lit (.int IntKind.i64 a.I),sls 2 Latch.cells a.L,sls 2 And.cells a.G,sls 1 intF a.outs,sls 1 intF a.bad,sls 1 intF a.con,sls 3 Name.cells [n]],T.c (.lit (.string { data:=#[] }))]=some (T.c (.lit (.string v35)),[]):=up1 (w_aig_Names _ _ _ h36');simp[h1,h3,c4,h6,c7,c8,c9,c10,c11,c12,h14,h16,c17,c28,c29,c30,h32,h34,h36]
            rcases iC h with ⟨c37,h⟩ | ⟨c37,h⟩
            ·first | (cases h; done) | (simp[h1,h3,c4,h6,c7,c8,c9,c10,c11,c12,h14,h16,c17,c28,c29,c30,h32,h34,h36,c37]; first | rfl | (injection h with h; rw[h]; rfl) | (injection h with h; rw[h]))
            ·simp[h1,h3,c4,h6,c7,c8,c9,c10,c11,c12,h14,h16,c17,c28,c29,c30,h32,h34,h36,c37]
             cases h
           ·first | (cases h; done) | (simp[h1,h3,c4,h6,c7,c8,c9,c10,c11,c12,h14,h16,c17,c28,c29,c30]; first | rfl | (injection h with h; rw[h]; rfl) | (injection h with h; rw[h]))
          ·first | (cases h; done) | (simp[h1,h3,c4,h6,c7,c8,c9,c10,c11,c12,h14,h16,c17,c28,c29]; first | rfl | (injection h with h; rw[h]; rfl) | (injection h with h; rw[h]))
         ·first | (cases h; done) | (simp[h1,h3,c4,h6,c7,c8,c9,c10,c11,c12,h14,h16,c17,c28]; first | rfl | (injection h with h; rw[h]; rfl) | (injection h with h; rw[h]))
       ·simp[h1,h3,c4,h6,c7,c8,c9,c10,c11,c12];obtain⟨v38,h39,h⟩:=bS h;simp[h1,h3,c4,h6,c7,c8,c9,c10,c11,c12,h39];obtain⟨v40,h41',h⟩:=bS h;have h41:ev1 22 [T.agg v38.cells,T.agg n.cells]=some (T.c (.lit (.bool v40)),[]):=up1 (w_ref06_Behind _ _ _ h41');simp[h1,h3,c4,h6,c7,c8,c9,c10,c11,c12,h39,h41];obtain⟨v42,h43',h⟩:=bS h;have h43:ev1 14 [T.agg [C.lit (.int IntKind.i64 a.I),sls 2 Latch.cells a.L,sls 2 And.cells a.G,sls 1 intF a.outs,sls 1 intF a.bad,sls 1 intF a.con,sls 3 Name.cells (a.names++[n])]]=some (T.c (.lit (.bool v42)),[]):=up1 (w_aig_Right _ _ h43');simp[h1,h3,c4,h6,c7,c8,c9,c10,c11,c12,h39,h41,h43]
        obtain⟨v44,h45',h⟩:=bS h;have h45:ev1 14 [T.agg [C.lit (.int IntKind.i64 a.I),sls 2 Latch.cells a.L,sls 2 And.cells a.G,sls 1 intF a.outs,sls 1 intF a.bad,sls 1 intF a.con,sls 3 Name.cells [n]]]=some (T.c (.lit (.bool v44)),[]):=up1 (w_aig_Right _ _ h45');simp[h1,h3,c4,h6,c7,c8,c9,c10,c11,c12,h39,h41,h43,h45]
        rcases iC h with ⟨c46,h⟩ | ⟨c46,h⟩
        ·simp[h1,h3,c4,h6,c7,c8,c9,c10,c11,c12,h39,h41,h43,h45,c46]
         rcases iC h with ⟨c47,h⟩ | ⟨c47,h⟩
         ·simp[h1,h3,c4,h6,c7,c8,c9,c10,c11,c12,h39,h41,h43,h45,c46,c47]
          rcases iC h with ⟨c48,h⟩ | ⟨c48,h⟩
          ·simp[h1,h3,c4,h6,c7,c8,c9,c10,c11,c12,h39,h41,h43,h45,c46,c47,c48]
           rcases iC h with ⟨c49,h⟩ | ⟨c49,h⟩
           ·simp[h1,h3,c4,h6,c7,c8,c9,c10,c11,c12,h39,h41,h43,h45,c46,c47,c48,c49];obtain⟨v50,h51',h⟩:=bS h;have h51:ev1 19 [T.agg [C.lit (.int IntKind.i64 a.I),sls 2 Latch.cells a.L,sls 2 And.cells a.G,sls 1 intF a.outs,sls 1 intF a.bad,sls 1 intF a.con,sls 3 Name.cells (a.names++[n])],T.c (.lit (.string s))]=some (T.c (.lit (.string v50)),[]):=up1 (w_aig_Names _ _ _ h51');simp[h1,h3,c4,h6,c7,c8,c9,c10,c11,c12,h39,h41,h43,h45,c46,c47,c48,c49,h51];obtain⟨v52,h53',h⟩:=bS h;have h53:ev1 19 [T.agg a.cells,T.c (.lit (.string s))]=some (T.c (.lit (.string v52)),[]):=up1 (w_aig_Names _ _ _ h53');simp[h1,h3,c4,h6,c7,c8,c9,c10,c11,c12,h39,h41,h43,h45,c46,c47,c48,c49,h51,h53]
            obtain⟨v54,h55',h⟩:=bS h;have h55:ev1 19 [T.agg [C.lit (.int IntKind.i64 a.I),sls 2 Latch.cells a.L,sls 2 And.cells a.G,sls 1 intF a.outs,sls 1 intF a.bad,sls 1 intF a.con,sls 3 Name.cells [n]],T.c (.lit (.string { data:=#[] }))]=some (T.c (.lit (.string v54)),[]):=up1 (w_aig_Names _ _ _ h55');simp[h1,h3,c4,h6,c7,c8,c9,c10,c11,c12,h39,h41,h43,h45,c46,c47,c48,c49,h51,h53,h55]
            rcases iC h with ⟨c56,h⟩ | ⟨c56,h⟩
            ·first | (cases h; done) | (simp[h1,h3,c4,h6,c7,c8,c9,c10,c11,c12,h39,h41,h43,h45,c46,c47,c48,c49,h51,h53,h55,c56]; first | rfl | (injection h with h; rw[h]; rfl) | (injection h with h; rw[h]))
            ·simp[h1,h3,c4,h6,c7,c8,c9,c10,c11,c12,h39,h41,h43,h45,c46,c47,c48,c49,h51,h53,h55,c56]
             cases h
           ·first | (cases h; done) | (simp[h1,h3,c4,h6,c7,c8,c9,c10,c11,c12,h39,h41,h43,h45,c46,c47,c48,c49]; first | rfl | (injection h with h; rw[h]; rfl) | (injection h with h; rw[h]))
          ·first | (cases h; done) | (simp[h1,h3,c4,h6,c7,c8,c9,c10,c11,c12,h39,h41,h43,h45,c46,c47,c48]; first | rfl | (injection h with h; rw[h]; rfl) | (injection h with h; rw[h]))
         ·first | (cases h; done) | (simp[h1,h3,c4,h6,c7,c8,c9,c10,c11,c12,h39,h41,h43,h45,c46,c47]; first | rfl | (injection h with h; rw[h]; rfl) | (injection h with h; rw[h]))
        ·simp[h1,h3,c4,h6,c7,c8,c9,c10,c11,c12,h39,h41,h43,h45,c46]
         rcases iC h with ⟨c57,h⟩ | ⟨c57,h⟩
         ·simp[h1,h3,c4,h6,c7,c8,c9,c10,c11,c12,h39,h41,h43,h45,c46,c57]
          rcases iC h with ⟨c58,h⟩ | ⟨c58,h⟩
          ·simp[h1,h3,c4,h6,c7,c8,c9,c10,c11,c12,h39,h41,h43,h45,c46,c57,c58]
           rcases iC h with ⟨c59,h⟩ | ⟨c59,h⟩
           ·simp[h1,h3,c4,h6,c7,c8,c9,c10,c11,c12,h39,h41,h43,h45,c46,c57,c58,c59];obtain⟨v60,h61',h⟩:=bS h;have h61:ev1 19 [T.agg [C.lit (.int IntKind.i64 a.I),sls 2 Latch.cells a.L,sls 2 And.cells a.G,sls 1 intF a.outs,sls 1 intF a.bad,sls 1 intF a.con,sls 3 Name.cells (a.names++[n])],T.c (.lit (.string s))]=some (T.c (.lit (.string v60)),[]):=up1 (w_aig_Names _ _ _ h61');simp[h1,h3,c4,h6,c7,c8,c9,c10,c11,c12,h39,h41,h43,h45,c46,c57,c58,c59,h61];obtain⟨v62,h63',h⟩:=bS h;have h63:ev1 19 [T.agg a.cells,T.c (.lit (.string s))]=some (T.c (.lit (.string v62)),[]):=up1 (w_aig_Names _ _ _ h63');simp[h1,h3,c4,h6,c7,c8,c9,c10,c11,c12,h39,h41,h43,h45,c46,c57,c58,c59,h61,h63]
            obtain⟨v64,h65',h⟩:=bS h;have h65:ev1 19 [T.agg [C.lit (.int IntKind.i64 a.I),sls 2 Latch.cells a.L,sls 2 And.cells a.G,sls 1 intF a.outs,sls 1 intF a.bad,sls 1 intF a.con,sls 3 Name.cells [n]],T.c (.lit (.string { data:=#[] }))]=some (T.c (.lit (.string v64)),[]):=up1 (w_aig_Names _ _ _ h65');simp[h1,h3,c4,h6,c7,c8,c9,c10,c11,c12,h39,h41,h43,h45,c46,c57,c58,c59,h61,h63,h65]
            rcases iC h with ⟨c66,h⟩ | ⟨c66,h⟩
            ·first | (cases h; done) | (simp[h1,h3,c4,h6,c7,c8,c9,c10,c11,c12,h39,h41,h43,h45,c46,c57,c58,c59,h61,h63,h65,c66]; first | rfl | (injection h with h; rw[h]; rfl) | (injection h with h; rw[h]))
            ·simp[h1,h3,c4,h6,c7,c8,c9,c10,c11,c12,h39,h41,h43,h45,c46,c57,c58,c59,h61,h63,h65,c66]
             cases h
           ·first | (cases h; done) | (simp[h1,h3,c4,h6,c7,c8,c9,c10,c11,c12,h39,h41,h43,h45,c46,c57,c58,c59]; first | rfl | (injection h with h; rw[h]; rfl) | (injection h with h; rw[h]))
          ·first | (cases h; done) | (simp[h1,h3,c4,h6,c7,c8,c9,c10,c11,c12,h39,h41,h43,h45,c46,c57,c58]; first | rfl | (injection h with h; rw[h]; rfl) | (injection h with h; rw[h]))
         ·first | (cases h; done) | (simp[h1,h3,c4,h6,c7,c8,c9,c10,c11,c12,h39,h41,h43,h45,c46,c57]; first | rfl | (injection h with h; rw[h]; rfl) | (injection h with h; rw[h]))
      ·simp[h1,h3,c4,h6,c7,c8,c9,c10,c11]
       cases h
     ·simp[h1,h3,c4,h6,c7,c8,c9,c10]
      cases h
  ·first | (cases h; done) | (simp[h1,h3,c4,h6,c7]; first | rfl | (injection h with h; rw[h]; rfl) | (injection h with h; rw[h]))
 ·first | (cases h; done) | (simp[h1,h3,c4]; first | rfl | (injection h with h; rw[h]; rfl) | (injection h with h; rw[h]))
end Go.Proofs.YtadllpehekphmaaDoor

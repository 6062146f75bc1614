/- What is known of functions without their code is so. No condition. -/
import Derived.Test.YtadllpehekphmaaDoorPa
import Derived.Test.YtadllpehekphmaaDoorM
import Derived.Test.YtadllpehekphmaaDoorGw
namespace Go.Proofs.YtadllpehekphmaaDoor
open Go.Vabs Go.Vid
theorem envOk:@EnvOK glob prims1 Tryd.prog:=⟨ixOk,fun f args r h=>by
 have h:(if f=21 then prParse args else prims0.pr f args)=some r:=h
 by_cases hf:f=21
 ·subst hf;rw[if_pos rfl] at h;exact parse_ok envOk0 h
 ·rw[if_neg hf] at h;exact envOk0.2 f args r h⟩
end Go.Proofs.YtadllpehekphmaaDoor
set_option linter.unusedSimpArgs false
set_option linter.unusedVariables false
set_option maxRecDepth 20000
set_option maxHeartbeats 4000000
namespace Go.Proofs.YtadllpehekphmaaDoor
open Go.Vabs Go.Vid
theorem w_law06_shown (r:Bool)(h:law06_shown=some r):ev1 9 []=some (T.c (.lit (.bool r)),[]):=by
 refine ev_run' (kp:=k9) (us:=[4]) fn9 rfl rfl rfl rfl rfl (by kernel_rfl) rfl rfl (by simp) ?_;unfold law06_shown at h;simp;obtain⟨⟨v0,v1⟩,h2',h⟩:=bS h;have h2:ev1 11 [T.agg [C.lit (.int IntKind.i64 2),C.sl 2 [],sls 2 And.cells [{ a:=4,b:=2 }],sls 1 intF [6],C.sl 1 [],C.sl 1 [],sls 3 Name.cells [{ kind:=111,pos:=0,s:={ data:=#[120] } }]]]=some (T.tup [T.c (.lit (.string v0)),T.c (.lit (.int .i64 v1))],[]):=up1 (w_aig_Print _ _ h2');simp[h2];obtain⟨⟨v3,v4,v5⟩,h6',h⟩:=bS h;have h6:ev1 21 [T.c (sls 1 byteF (bytesOf v0))]=some (T.tup [T.agg [C.lit (.int IntKind.i64 v3.I),C.ref 0 0 (lenN v3.L),C.ref 1 0 (lenN v3.G),C.ref 2 0 (lenN v3.outs),C.ref 3 0 (lenN v3.bad),C.ref 4 0 (lenN v3.con),C.ref 5 0 (lenN v3.names)],T.c (.lit (.int .i64 v4)),T.c (.lit (.int .i64 v5))],[rowO 47 2 Latch.cells v3.L,rowO 53 2 And.cells v3.G,rowO 3 1 intF v3.outs,rowO 3 1 intF v3.bad,rowO 3 1 intF v3.con,rowO 49 3 Name.cells v3.names]):=w_aig_Parse _ _ h6'
 simp[h2,h6]
 rcases iC h with ⟨c7,h⟩ | ⟨c7,h⟩
 ·simp[h2,h6,c7]
  rcases iC h with ⟨c8,h⟩ | ⟨c8,h⟩
  ·simp[h2,h6,c7,c8]
   rcases iC h with ⟨c9,h⟩ | ⟨c9,h⟩
   ·simp[h2,h6,c7,c8,c9]
    rcases iC h with ⟨c10,h⟩ | ⟨c10,h⟩
    ·simp[h2,h6,c7,c8,c9,c10];obtain⟨v11,h12',h⟩:=bS h;have h12:ev1 15 [T.agg [C.lit (.int IntKind.i64 2),C.sl 2 [],sls 2 And.cells [{ a:=4,b:=2 }],sls 1 intF [6],C.sl 1 [],C.sl 1 [],sls 3 Name.cells [{ kind:=111,pos:=0,s:={ data:=#[120] } }]],T.agg [C.lit (.int IntKind.i64 v3.I),sls 2 Latch.cells v3.L,sls 2 And.cells v3.G,sls 1 intF v3.outs,sls 1 intF v3.bad,sls 1 intF v3.con,sls 3 Name.cells v3.names]]=some (T.c (.lit (.bool v11)),[]):=up1 (w_aig_Same _ _ _ h12');simp[h2,h6,c7,c8,c9,c10,h12]
     rcases iC h with ⟨c13,h⟩ | ⟨c13,h⟩
     ·simp[h2,h6,c7,c8,c9,c10,h12,c13];obtain⟨v14,h15',h⟩:=bS h;have h15:ev1 14 [T.agg [C.lit (.int IntKind.i64 2),C.sl 2 [],sls 2 And.cells [{ a:=4,b:=2 }],sls 1 intF [6],C.sl 1 [],C.sl 1 [],sls 3 Name.cells [{ kind:=111,pos:=0,s:={ data:=#[120] } }]]]=some (T.c (.lit (.bool v14)),[]):=up1 (w_aig_Right _ _ h15');simp[h2,h6,c7,c8,c9,c10,h12,c13,h15]
      rcases iC h with ⟨c16,h⟩ | ⟨c16,h⟩
      ·simp[h2,h6,c7,c8,c9,c10,h12,c13,h15,c16];obtain⟨v17,h18',h⟩:=bS h;have h18:ev1 17 [T.agg [C.lit (.int IntKind.i64 2),C.sl 2 [],sls 2 And.cells [{ a:=4,b:=2 }],sls 1 intF [6],C.sl 1 [],C.sl 1 [],sls 3 Name.cells [{ kind:=111,pos:=0,s:={ data:=#[120] } }]]]=some (T.c (.lit (.int .i64 v17)),[]):=up1 (w_aig_Vars _ _ h18');simp[h2,h6,c7,c8,c9,c10,h12,c13,h15,c16,h18]
       rcases iC h with ⟨c19,h⟩ | ⟨c19,h⟩
       ·simp[h2,h6,c7,c8,c9,c10,h12,c13,h15,c16,h18,c19];obtain⟨v20,h21',h⟩:=bS h;have h21:ev1 19 [T.agg [C.lit (.int IntKind.i64 2),C.sl 2 [],sls 2 And.cells [{ a:=4,b:=2 }],sls 1 intF [6],C.sl 1 [],C.sl 1 [],sls 3 Name.cells [{ kind:=111,pos:=0,s:={ data:=#[120] } }]],T.c (.lit (.string { data:=#[121] }))]=some (T.c (.lit (.string v20)),[]):=up1 (w_aig_Names _ _ _ h21');simp[h2,h6,c7,c8,c9,c10,h12,c13,h15,c16,h18,c19,h21]
        cases h
        rfl
       ·simp[h2,h6,c7,c8,c9,c10,h12,c13,h15,c16,h18,c19]
        cases h
        rfl
      ·simp[h2,h6,c7,c8,c9,c10,h12,c13,h15,c16]
       cases h
       rfl
     ·simp[h2,h6,c7,c8,c9,c10,h12,c13]
      cases h
      rfl
    ·simp[h2,h6,c7,c8,c9,c10]
     cases h
     rfl
   ·simp[h2,h6,c7,c8,c9]
    cases h
    rfl
  ·simp[h2,h6,c7,c8]
   cases h
   rfl
 ·simp[h2,h6,c7]
  cases h
  rfl
theorem w_law06_AigTells (a:Aig)(b:Aig)(s:ByteArray)(h:law06_AigTells a b s=some true):ev1 3 [T.agg (Aig.cells a),T.agg (Aig.cells b),T.c (.lit (.string s))]=some (T.c (.lit (.bool true)),[]):=by
 refine ev_run' (kp:=k3) (us:=[4]) fn3 rfl rfl rfl rfl rfl (by kernel_rfl) rfl rfl (by simp) ?_;unfold law06_AigTells at h;simp;obtain⟨v0,h1',h⟩:=bS h;have h1:ev1 9 []=some (T.c (.lit (.bool v0)),[]):=w_law06_shown _ h1';simp[h1];obtain⟨v2,h3',h⟩:=bS h;have h3:ev1 10 [T.agg a.cells,T.c (.lit (.int .i64 40))]=some (T.c (.lit (.bool v2)),[]):=up1 (w_ref06_Small _ _ _ h3');simp[h1,h3]
 rcases iC h with ⟨c4,h⟩ | ⟨c4,h⟩
 ·simp[h1,h3,c4];obtain⟨v5,h6',h⟩:=bS h;have h6:ev1 10 [T.agg b.cells,T.c (.lit (.int .i64 40))]=some (T.c (.lit (.bool v5)),[]):=up1 (w_ref06_Small _ _ _ h6');simp[h1,h3,c4,h6]
  rcases iC h with ⟨c7,h⟩ | ⟨c7,h⟩
  ·simp[h1,h3,c4,h6,c7]
   rcases iC h with ⟨c8,h⟩ | ⟨c8,h⟩
   ·first | (cases h; done) | (simp[h1,h3,c4,h6,c7,c8]; first | rfl | (injection h with h; rw[h]; rfl) | (injection h with h; rw[h]))
   ·simp[h1,h3,c4,h6,c7,c8];obtain⟨⟨v9,v10⟩,h11',h⟩:=bS h;have h11:ev1 11 [T.agg a.cells]=some (T.tup [T.c (.lit (.string v9)),T.c (.lit (.int .i64 v10))],[]):=up1 (w_aig_Print _ _ h11');simp[h1,h3,c4,h6,c7,c8,h11];obtain⟨⟨v12,v13⟩,h14',h⟩:=bS h;have h14:ev1 12 [T.agg a.cells]=some (T.tup [T.c (.lit (.string v12)),T.c (.lit (.int .i64 v13))],[]):=up1 (w_ref06_Print _ _ h14');simp[h1,h3,c4,h6,c7,c8,h11,h14];obtain⟨v15,h16',h⟩:=bS h;have h16:ev1 13 [T.agg a.cells]=some (T.c (.lit (.bool v15)),[]):=up1 (w_ref06_Right _ _ h16');simp[h1,h3,c4,h6,c7,c8,h11,h14,h16]
    rcases iC h with ⟨c17,h⟩ | ⟨c17,h⟩
    ·simp[h1,h3,c4,h6,c7,c8,h11,h14,h16,c17];obtain⟨v18,h19',h⟩:=bS h;have h19:ev1 14 [T.agg a.cells]=some (T.c (.lit (.bool v18)),[]):=up1 (w_aig_Right _ _ h19');simp[h1,h3,c4,h6,c7,c8,h11,h14,h16,c17,h19]
     rcases iC h with ⟨c20,h⟩ | ⟨c20,h⟩
     ·simp[h1,h3,c4,h6,c7,c8,h11,h14,h16,c17,h19,c20];obtain⟨v21,h22',h⟩:=bS h;have h22:ev1 15 [T.agg a.cells,T.agg b.cells]=some (T.c (.lit (.bool v21)),[]):=up1 (w_aig_Same _ _ _ h22');simp[h1,h3,c4,h6,c7,c8,h11,h14,h16,c17,h19,c20,h22];obtain⟨v23,h24',h⟩:=bS h;have h24:ev1 16 [T.agg a.cells,T.agg b.cells]=some (T.c (.lit (.bool v23)),[]):=up1 (w_ref06_Same _ _ _ h24');simp[h1,h3,c4,h6,c7,c8,h11,h14,h16,c17,h19,c20,h22,h24]
      rcases iC h with ⟨c25,h⟩ | ⟨c25,h⟩
      ·simp[h1,h3,c4,h6,c7,c8,h11,h14,h16,c17,h19,c20,h22,h24,c25]
       rcases iC h with ⟨c26,h⟩ | ⟨c26,h⟩
       ·simp[h1,h3,c4,h6,c7,c8,h11,h14,h16,c17,h19,c20,h22,h24,c25,c26]
        rcases iC h with ⟨c27,h⟩ | ⟨c27,h⟩
        ·simp[h1,h3,c4,h6,c7,c8,h11,h14,h16,c17,h19,c20,h22,h24,c25,c26,c27]
         rcases iC h with ⟨c28,h⟩ | ⟨c28,h⟩
         ·simp[h1,h3,c4,h6,c7,c8,h11,h14,h16,c17,h19,c20,h22,h24,c25,c26,c27,c28];obtain⟨v29,h30',h⟩:=bS h;have h30:ev1 17 [T.agg a.cells]=some (T.c (.lit (.int .i64 v29)),[]):=up1 (w_aig_Vars _ _ h30');simp[h1,h3,c4,h6,c7,c8,h11,h14,h16,c17,h19,c20,h22,h24,c25,c26,c27,c28,h30];obtain⟨v31,h32',h⟩:=bS h;have h32:ev1 18 [T.agg a.cells]=some (T.c (.lit (.int .i64 v31)),[]):=up1 (w_ref06_Vars _ _ h32');simp[h1,h3,c4,h6,c7,c8,h11,h14,h16,c17,h19,c20,h22,h24,c25,c26,c27,c28,h30,h32]
          rcases iC h with ⟨c33,h⟩ | ⟨c33,h⟩
          ·simp[h1,h3,c4,h6,c7,c8,h11,h14,h16,c17,h19,c20,h22,h24,c25,c26,c27,c28,h30,h32,c33];obtain⟨v34,h35',h⟩:=bS h;have h35:ev1 19 [T.agg a.cells,T.c (.lit (.string s))]=some (T.c (.lit (.string v34)),[]):=up1 (w_aig_Names _ _ _ h35');simp[h1,h3,c4,h6,c7,c8,h11,h14,h16,c17,h19,c20,h22,h24,c25,c26,c27,c28,h30,h32,c33,h35];obtain⟨v36,h37',h⟩:=bS h;have h37:ev1 20 [T.agg a.cells,T.c (.lit (.string s))]=some (T.c (.lit (.string v36)),[]):=up1 (w_ref06_Names _ _ _ h37')
           first | (cases h; done) | (simp[h1,h3,c4,h6,c7,c8,h11,h14,h16,c17,h19,c20,h22,h24,c25,c26,c27,c28,h30,h32,c33,h35,h37]; first | rfl | (injection h with h; rw[h]; rfl) | (injection h with h; rw[h]))
          ·first | (cases h; done) | (simp[h1,h3,c4,h6,c7,c8,h11,h14,h16,c17,h19,c20,h22,h24,c25,c26,c27,c28,h30,h32,c33]; first | rfl | (injection h with h; rw[h]; rfl) | (injection h with h; rw[h]))
         ·first | (cases h; done) | (simp[h1,h3,c4,h6,c7,c8,h11,h14,h16,c17,h19,c20,h22,h24,c25,c26,c27,c28]; first | rfl | (injection h with h; rw[h]; rfl) | (injection h with h; rw[h]))
        ·first | (cases h; done) | (simp[h1,h3,c4,h6,c7,c8,h11,h14,h16,c17,h19,c20,h22,h24,c25,c26,c27]; first | rfl | (injection h with h; rw[h]; rfl) | (injection h with h; rw[h]))
       ·first | (cases h; done) | (simp[h1,h3,c4,h6,c7,c8,h11,h14,h16,c17,h19,c20,h22,h24,c25,c26]; first | rfl | (injection h with h; rw[h]; rfl) | (injection h with h; rw[h]))
      ·first | (cases h; done) | (simp[h1,h3,c4,h6,c7,c8,h11,h14,h16,c17,h19,c20,h22,h24,c25]; first | rfl | (injection h with h; rw[h]; rfl) | (injection h with h; rw[h]))
     ·first | (cases h; done) | (simp[h1,h3,c4,h6,c7,c8,h11,h14,h16,c17,h19,c20]; first | rfl | (injection h with h; rw[h]; rfl) | (injection h with h; rw[h]))
    ·first | (cases h; done) | (simp[h1,h3,c4,h6,c7,c8,h11,h14,h16,c17]; first | rfl | (injection h with h; rw[h]; rfl) | (injection h with h; rw[h]))
  ·first | (cases h; done) | (simp[h1,h3,c4,h6,c7]; first | rfl | (injection h with h; rw[h]; rfl) | (injection h with h; rw[h]))
 ·first | (cases h; done) | (simp[h1,h3,c4]; first | rfl | (injection h with h; rw[h]; rfl) | (injection h with h; rw[h]))
end Go.Proofs.YtadllpehekphmaaDoor

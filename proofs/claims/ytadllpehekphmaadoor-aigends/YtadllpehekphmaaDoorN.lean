/- What is known of functions without their code is so. No condition. -/
import Derived.Test.YtadllpehekphmaaDoorPa
import Derived.Test.YtadllpehekphmaaDoorM
import Derived.Test.YtadllpehekphmaaDoorGw
namespace Go.Proofs.YtadllpehekphmaaDoor
open Go.Vabs Go.Vid
theorem envOk:@EnvOK glob prims1 Tryd.prog:=⟨ixOk,fun f args r h=>by
 have h:(if f=21 then prParse args else prims0.pr f args)=some r:=h
 by_cases hf:f=21
 ·subst hf;rw[if_pos rfl] at h;exact parse_ok envOk0 h
 ·rw[if_neg hf] at h;exact envOk0.2 f args r h⟩
end Go.Proofs.YtadllpehekphmaaDoor
set_option linter.unusedSimpArgs false
set_option linter.unusedVariables false
set_option maxRecDepth 20000
set_option maxHeartbeats 4000000
namespace Go.Proofs.YtadllpehekphmaaDoor
open Go.Vabs Go.Vid
theorem w_law06_shown (r:Bool)(h:law06_shown=some r):ev1 9 []=some (T.c (.lit (.bool r)),[]):=by
 refine ev_run' (kp:=k9) (us:=[4]) fn9 rfl rfl rfl rfl rfl (by kernel_rfl) rfl rfl (by simp) ?_;unfold law06_shown at h;simp;obtain⟨⟨v0,v1⟩,h2',h⟩:=bS h;have h2:ev1 11 [T.agg [C.lit (.int IntKind.i64 2),C.sl 2 [],sls 2 And.cells [{ a:=4,b:=2 }],sls 1 intF [6],C.sl 1 [],C.sl 1 [],sls 3 Name.cells [{ kind:=111,pos:=0,s:={ data:=#[120] } }]]]=some (T.tup [T.c (.lit (.string v0)),T.c (.lit (.int .i64 v1))],[]):=up1 (w_aig_Print _ _ h2');simp[h2];obtain⟨⟨v3,v4,v5⟩,h6',h⟩:=bS h;have h6:ev1 21 [T.c (sls 1 byteF (bytesOf v0))]=some (T.tup [T.agg [C.lit (.int IntKind.i64 v3.I),C.ref 0 0 (lenN v3.L),C.ref 1 0 (lenN v3.G),C.ref 2 0 (lenN v3.outs),C.ref 3 0 (lenN v3.bad),C.ref 4 0 (lenN v3.con),C.ref 5 0 (lenN v3.names)],T.c (.lit (.int .i64 v4)),T.c (.lit (.int .i64 v5))],[rowO 47 2 Latch.cells v3.L,rowO 53 2 And.cells v3.G,rowO 3 1 intF v3.outs,rowO 3 1 intF v3.bad,rowO 3 1 intF v3.con,rowO 49 3 Name.cells v3.names]):=w_aig_Parse _ _ h6'
 simp[h2,h6]
 rcases iC h with ⟨c7,h⟩ | ⟨c7,h⟩
 ·simp[h2,h6,c7]
  rcases iC h with ⟨c8,h⟩ | ⟨c8,h⟩
  ·simp[h2,h6,c7,c8]
   rcases iC h with ⟨c9,h⟩ | ⟨c9,h⟩
   ·simp[h2,h6,c7,c8,c9]
    rcases iC h with ⟨c10,h⟩ | ⟨c10,h⟩
    ·simp[h2,h6,c7,c8,c9,c10];obtain⟨v11,h12',h⟩:=bS h;have h12:ev1 15 [T.agg [C.lit (.int IntKind.i64 2),C.sl 2 [],sls 2 And.cells [{ a:=4,b:=2 }],sls 1 intF [6],C.sl 1 [],C.sl 1 [],sls 3 Name.cells [{ kind:=111,pos:=0,s:={ data:=#[120] } }]],T.agg [C.lit (.int IntKind.i64 v3.I),sls 2 Latch.cells v3.L,sls 2 And.cells v3.G,sls 1 intF v3.outs,sls 1 intF v3.bad,sls 1 intF v3.con,sls 3 Name.cells v3.names]]=some (T.c (.lit (.bool v11)),[]):=up1 (w_aig_Same _ _ _ h12');simp[h2,h6,c7,c8,c9,c10,h12]
     rcases iC h with ⟨c13,h⟩ | ⟨c13,h⟩
     ·simp[h2,h6,c7,c8,c9,c10,h12,c13];obtain⟨v14,h15',h⟩:=bS h;have h15:ev1 14 [T.agg [C.lit (.int IntKind.i64 2),C.sl 2 [],sls 2 And.cells [{ a:=4,b:=2 }],sls 1 intF [6],C.sl 1 [],C.sl 1 [],sls 3 Name.cells [{ kind:=111,pos:=0,s:={ data:=#[120] } }]]]=some (T.c (.lit (.bool v14)),[]):=up1 (w_aig_Right _ _ h15');simp[h2,h6,c7,c8,c9,c10,h12,c13,h15]
      rcases iC h with ⟨c16,h⟩ | ⟨c16,h⟩
      ·simp[h2,h6,c7,c8,c9,c10,h12,c13,h15,c16];obtain⟨v17,h18',h⟩:=bS h;have h18:ev1 17 [T.agg [C.lit (.int IntKind.i64 2),C.sl 2 [],sls 2 And.cells [{ a:=4,b:=2 }],sls 1 intF [6],C.sl 1 [],C.sl 1 [],sls 3 Name.cells [{ kind:=111,pos:=0,s:={ data:=#[120] } }]]]=some (T.c (.lit (.int .i64 v17)),[]):=up1 (w_aig_Vars _ _ h18');simp[h2,h6,c7,c8,c9,c10,h12,c13,h15,c16,h18]
       rcases iC h with ⟨c19,h⟩ | ⟨c19,h⟩
       ·simp[h2,h6,c7,c8,c9,c10,h12,c13,h15,c16,h18,c19];obtain⟨v20,h21',h⟩:=bS h;have h21:ev1 19 [T.agg [C.lit (.int IntKind.i64 2),C.sl 2 [],sls 2 And.cells [{ a:=4,b:=2 }],sls 1 intF [6],C.sl 1 [],C.sl 1 [],sls 3 Name.cells [{ kind:=111,pos:=0,s:={ data:=#[120] } }]],T.c (.lit (.string { data:=#[121] }))]=some (T.c (.lit (.string v20)),[]):=up1 (w_aig_Names _ _ _ h21');simp[h2,h6,c7,c8,c9,c10,h12,c13,h15,c16,h18,c19,h21]
        cases h
        rfl
       ·simp[h2,h6,c7,c8,c9,c10,h12,c13,h15,c16,h18,c19]
        cases h
        rfl
      ·simp[h2,h6,c7,c8,c9,c10,h12,c13,h15,c16]
       cases h
       rfl
     ·simp[h2,h6,c7,c8,c9,c10,h12,c13]
      cases h
      rfl
    ·simp[h2,h6,c7,c8,c9,c10]
     cases h
     rfl
   ·simp[h2,h6,c7,c8,c9]
    cases h
    rfl
  ·simp[h2,h6,c7,c8]
   cases h
   rfl
 ·simp[h2,h6,c7]
  cases h
  rfl
theorem w_law06_AigEnds (a:Aig)(c:Int)(cut:Int)(h:law06_AigEnds a c cut=some true):ev1 6 [T.agg (Aig.cells a),T.c (.lit (.int IntKind.u8 c)),T.c (.lit (.int IntKind.u16 cut))]=some (T.c (.lit (.bool true)),[]):=by
 refine ev_run' (kp:=k6) (us:=[4]) fn6 rfl rfl rfl rfl rfl (by kernel_rfl) rfl rfl (by simp) ?_;unfold law06_AigEnds at h;simp;obtain⟨v0,h1',h⟩:=bS h;have h1:ev1 9 []=some (T.c (.lit (.bool v0)),[]):=w_law06_shown _ h1';simp[h1];obtain⟨v2,h3',h⟩:=bS h;have h3:ev1 10 [T.agg a.cells,T.c (.lit (.int .i64 40))]=some (T.c (.lit (.bool v2)),[]):=up1 (w_ref06_Small _ _ _ h3');simp[h1,h3]
 rcases iC h with ⟨c4,h⟩ | ⟨c4,h⟩
 ·simp[h1,h3,c4];obtain⟨v5,h6',h⟩:=bS h;have h6:ev1 13 [T.agg a.cells]=some (T.c (.lit (.bool v5)),[]):=up1 (w_ref06_Right _ _ h6');simp[h1,h3,c4,h6]
  rcases iC h with ⟨c7,h⟩ | ⟨c7,h⟩
  ·simp[h1,h3,c4,h6,c7]
   rcases iC h with ⟨c8,h⟩ | ⟨c8,h⟩
   ·first | (cases h; done) | (simp[h1,h3,c4,h6,c7,c8]; first | rfl | (injection h with h; rw[h]; rfl) | (injection h with h; rw[h]))
   ·simp[h1,h3,c4,h6,c7,c8]
    rcases iC h with ⟨c9,h⟩ | ⟨c9,h⟩
    ·first | (cases h; done) | (simp[h1,h3,c4,h6,c7,c8,c9]; first | rfl | (injection h with h; rw[h]; rfl) | (injection h with h; rw[h]))
    ·simp[h1,h3,c4,h6,c7,c8,c9]
     rcases iC h with ⟨c10,h⟩ | ⟨c10,h⟩
     ·first | (cases h; done) | (simp[h1,h3,c4,h6,c7,c8,c9,c10]; first | rfl | (injection h with h; rw[h]; rfl) | (injection h with h; rw[h]))
     ·simp[h1,h3,c4,h6,c7,c8,c9,c10]
      rcases iC h with ⟨c11,h⟩ | ⟨c11,h⟩
      ·first | (cases h; done) | (simp[h1,h3,c4,h6,c7,c8,c9,c10,c11]; first | rfl | (injection h with h; rw[h]; rfl) | (injection h with h; rw[h]))
      ·simp[h1,h3,c4,h6,c7,c8,c9,c10,c11]
       rcases iC h with ⟨c12,h⟩ | ⟨c12,h⟩
       ·first | (cases h; done) | (simp[h1,h3,c4,h6,c7,c8,c9,c10,c11,c12]; first | rfl | (injection h with h; rw[h]; rfl) | (injection h with h; rw[h]))
       ·simp[h1,h3,c4,h6,c7,c8,c9,c10,c11,c12];obtain⟨⟨v13,v14⟩,h15',h⟩:=bS h;have h15:ev1 11 [T.agg a.cells]=some (T.tup [T.c (.lit (.string v13)),T.c (.lit (.int .i64 v14))],[]):=up1 (w_aig_Print _ _ h15');simp[h1,h3,c4,h6,c7,c8,c9,c10,c11,c12,h15]
        rcases iC h with ⟨c16,h⟩ | ⟨c16,h⟩
        ·simp[h1,h3,c4,h6,c7,c8,c9,c10,c11,c12,h15,c16]
         rcases iC h with ⟨c17,h⟩ | ⟨c17,h⟩
         ·first | (cases h; done) | (simp[h1,h3,c4,h6,c7,c8,c9,c10,c11,c12,h15,c16,c17]; first | rfl | (injection h with h; rw[h]; rfl) | (injection h with h; rw[h]))
         ·simp[h1,h3,c4,h6,c7,c8,c9,c10,c11,c12,h15,c16,c17]
          rcases iC h with ⟨c18,h⟩ | ⟨c18,h⟩
          ·simp[h1,h3,c4,h6,c7,c8,c9,c10,c11,c12,h15,c16,c17,c18];obtain⟨⟨v19,v20,v21⟩,h22',h⟩:=bS h;have h22:ev1 21 [T.c (sls 1 byteF (bytesOf v13++[c]))]=some (T.tup [T.agg [C.lit (.int IntKind.i64 v19.I),C.ref 0 0 (lenN v19.L),C.ref 1 0 (lenN v19.G),C.ref 2 0 (lenN v19.outs),C.ref 3 0 (lenN v19.bad),C.ref 4 0 (lenN v19.con),C.ref 5 0 (lenN v19.names)],T.c (.lit (.int .i64 v20)),T.c (.lit (.int .i64 v21))],[rowO 47 2 Latch.cells v19.L,rowO 53 2 And.cells v19.G,rowO 3 1 intF v19.outs,rowO 3 1 intF v19.bad,rowO 3 1 intF v19.con,rowO 49 3 Name.cells v19.names]):=w_aig_Parse _ _ h22';simp[h1,h3,c4,h6,c7,c8,c9,c10,c11,c12,h15,c16,c17,c18,h22]
           rcases iC h with ⟨c23,h⟩ | ⟨c23,h⟩
           ·simp[h1,h3,c4,h6,c7,c8,c9,c10,c11,c12,h15,c16,c17,c18,h22,c23];obtain⟨⟨v24,v25,v26⟩,h27',h⟩:=bS h;have h27:ev1 21 [T.c (sls 1 byteF (bytesOf (cutB v13 0 (irem (iconv .i64 cut) (sizI v13)))))]=some (T.tup [T.agg [C.lit (.int IntKind.i64 v24.I),C.ref 0 0 (lenN v24.L),C.ref 1 0 (lenN v24.G),C.ref 2 0 (lenN v24.outs),C.ref 3 0 (lenN v24.bad),C.ref 4 0 (lenN v24.con),C.ref 5 0 (lenN v24.names)],T.c (.lit (.int .i64 v25)),T.c (.lit (.int .i64 v26))],[rowO 47 2 Latch.cells v24.L,rowO 53 2 And.cells v24.G,rowO 3 1 intF v24.outs,rowO 3 1 intF v24.bad,rowO 3 1 intF v24.con,rowO 49 3 Name.cells v24.names]):=w_aig_Parse _ _ h27'
            simp[h1,h3,c4,h6,c7,c8,c9,c10,c11,c12,h15,c16,c17,c18,h22,c23,h27]
            rcases iC h with ⟨c28,h⟩ | ⟨c28,h⟩
            ·simp[h1,h3,c4,h6,c7,c8,c9,c10,c11,c12,h15,c16,c17,c18,h22,c23,h27,c28]
             rcases iC h with ⟨c29,h⟩ | ⟨c29,h⟩
             ·simp[h1,h3,c4,h6,c7,c8,c9,c10,c11,c12,h15,c16,c17,c18,h22,c23,h27,c28,c29]
              rcases iC h with ⟨c30,h⟩ | ⟨c30,h⟩
              ·first | (cases h; done) | (simp[h1,h3,c4,h6,c7,c8,c9,c10,c11,c12,h15,c16,c17,c18,h22,c23,h27,c28,c29,c30]; first | rfl | (injection h with h; rw[h]; rfl) | (injection h with h; rw[h]))
              ·simp[h1,h3,c4,h6,c7,c8,c9,c10,c11,c12,h15,c16,c17,c18,h22,c23,h27,c28,c29,c30]
               rcases iC h with ⟨c31,h⟩ | ⟨c31,h⟩
               ·first | (cases h; done) | (simp[h1,h3,c4,h6,c7,c8,c9,c10,c11,c12,h15,c16,c17,c18,h22,c23,h27,c28,c29,c30,c31]; first | rfl | (injection h with h; rw[h]; rfl) | (injection h with h; rw[h]))
               ·simp[h1,h3,c4,h6,c7,c8,c9,c10,c11,c12,h15,c16,c17,c18,h22,c23,h27,c28,c29,c30,c31]
                rcases iC h with ⟨c32,h⟩ | ⟨c32,h⟩
                ·simp[h1,h3,c4,h6,c7,c8,c9,c10,c11,c12,h15,c16,c17,c18,h22,c23,h27,c28,c29,c30,c31,c32]
                 rcases iC h with ⟨c33,h⟩ | ⟨c33,h⟩
                 ·simp[h1,h3,c4,h6,c7,c8,c9,c10,c11,c12,h15,c16,c17,c18,h22,c23,h27,c28,c29,c30,c31,c32,c33]
                  rcases iC h with ⟨c34,h⟩ | ⟨c34,h⟩
                  ·simp[h1,h3,c4,h6,c7,c8,c9,c10,c11,c12,h15,c16,c17,c18,h22,c23,h27,c28,c29,c30,c31,c32,c33,c34]
                   rcases iC h with ⟨c35,h⟩ | ⟨c35,h⟩
                   ·first | (cases h; done) | (simp[h1,h3,c4,h6,c7,c8,c9,c10,c11,c12,h15,c16,c17,c18,h22,c23,h27,c28,c29,c30,c31,c32,c33,c34,c35]; first | rfl | (injection h with h; rw[h]; rfl) | (injection h with h; rw[h]))
                   ·first | (cases h; done) | (simp[h1,h3,c4,h6,c7,c8,c9,c10,c11,c12,h15,c16,c17,c18,h22,c23,h27,c28,c29,c30,c31,c32,c33,c34,c35]; first | rfl | (injection h with h; rw[h]; rfl) | (injection h with h; rw[h]))
                  ·first | (cases h; done) | (simp[h1,h3,c4,h6,c7,c8,c9,c10,c11,c12,h15,c16,c17,c18,h22,c23,h27,c28,c29,c30,c31,c32,c33,c34]; first | rfl | (injection h with h; rw[h]; rfl) | (injection h with h; rw[h]))
                 ·first | (cases h; done) | (simp[h1,h3,c4,h6,c7,c8,c9,c10,c11,c12,h15,c16,c17,c18,h22,c23,h27,c28,c29,c30,c31,c32,c33]; first | rfl | (injection h with h; rw[h]; rfl) | (injection h with h; rw[h]))
                ·first | (cases h; done) | (simp[h1,h3,c4,h6,c7,c8,c9,c10,c11,c12,h15,c16,c17,c18,h22,c23,h27,c28,c29,c30,c31,c32]; first | rfl | (injection h with h; rw[h]; rfl) | (injection h with h; rw[h]))
             ·first | (cases h; done) | (simp[h1,h3,c4,h6,c7,c8,c9,c10,c11,c12,h15,c16,c17,c18,h22,c23,h27,c28,c29]; first | rfl | (injection h with h; rw[h]; rfl) | (injection h with h; rw[h]))
            ·first | (cases h; done) | (simp[h1,h3,c4,h6,c7,c8,c9,c10,c11,c12,h15,c16,c17,c18,h22,c23,h27,c28]; first | rfl | (injection h with h; rw[h]; rfl) | (injection h with h; rw[h]))
           ·simp[h1,h3,c4,h6,c7,c8,c9,c10,c11,c12,h15,c16,c17,c18,h22,c23]
            cases h
          ·simp[h1,h3,c4,h6,c7,c8,c9,c10,c11,c12,h15,c16,c17,c18]
           cases h
        ·first | (cases h; done) | (simp[h1,h3,c4,h6,c7,c8,c9,c10,c11,c12,h15,c16]; first | rfl | (injection h with h; rw[h]; rfl) | (injection h with h; rw[h]))
  ·first | (cases h; done) | (simp[h1,h3,c4,h6,c7]; first | rfl | (injection h with h; rw[h]; rfl) | (injection h with h; rw[h]))
 ·first | (cases h; done) | (simp[h1,h3,c4]; first | rfl | (injection h with h; rw[h]; rfl) | (injection h with h; rw[h]))
end Go.Proofs.YtadllpehekphmaaDoor

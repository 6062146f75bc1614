/- What is known of functions without their code is so. No condition. -/
import Derived.Test.YtadllpehekphmaaDoorPa
import Derived.Test.YtadllpehekphmaaDoorM
namespace Go.Proofs.YtadllpehekphmaaDoor
open Go.Vabs Go.Vid
theorem envOk:@EnvOK glob prims1 Tryd.prog:=⟨ixOk,fun f args r h=>by
 have h:(if f=21 then prParse args else prims0.pr f args)=some r:=h
 by_cases hf:f=21
 ·subst hf
  rw [if_pos rfl] at h
  exact parse_ok envOk0 h
 ·rw [if_neg hf] at h
  exact envOk0.2 f args r h⟩
end Go.Proofs.YtadllpehekphmaaDoor
set_option linter.unusedSimpArgs false
set_option linter.unusedVariables false
set_option maxRecDepth 20000
set_option maxHeartbeats 4000000
namespace Go.Proofs.YtadllpehekphmaaDoor
open Go.Vabs Go.Vid
theorem w_law06_shown (r:Bool) (h:law06_shown=some r):ev1 9 []=some (T.c (.lit (.bool r)),[]):=by
 refine ev_run' (kp:=k9) (us:=[4]) fn9 rfl rfl rfl rfl rfl (by kernel_rfl) rfl rfl (by simp) ?_
 unfold law06_shown at h
 simp
 obtain ⟨⟨v0,v1⟩,h2',h⟩:=bind_some' h
 have h2:ev1 11 [T.agg [C.lit (.int IntKind.i64 2),C.sl 2 [],sls 2 And.cells [{ a:=4,b:=2 }],sls 1 intF [6],C.sl 1 [],C.sl 1 [],sls 3 Name.cells [{ kind:=111,pos:=0,s:={ data:=#[120] } }]]]=some (T.tup [T.c (.lit (.string v0)),T.c (.lit (.int .i64 v1))],[]):=up1 (w_aig_Print _ _ h2')
 simp [h2]
 obtain ⟨⟨v3,v4,v5⟩,h6',h⟩:=bind_some' h
 have h6:ev1 21 [T.c (sls 1 byteF (bytesOf v0))]=some (T.tup [T.agg [C.lit (.int IntKind.i64 v3.I),C.ref 0 0 (lenN v3.L),C.ref 1 0 (lenN v3.G),C.ref 2 0 (lenN v3.outs),C.ref 3 0 (lenN v3.bad),C.ref 4 0 (lenN v3.con),C.ref 5 0 (lenN v3.names)],T.c (.lit (.int .i64 v4)),T.c (.lit (.int .i64 v5))],[rowO 47 2 Latch.cells v3.L,rowO 53 2 And.cells v3.G,rowO 3 1 intF v3.outs,rowO 3 1 intF v3.bad,rowO 3 1 intF v3.con,rowO 49 3 Name.cells v3.names]):=w_aig_Parse _ _ h6'
 simp [h2,h6]
 rcases iteB_cases h with ⟨c7,h⟩ | ⟨c7,h⟩
 ·simp [h2,h6,c7]
  rcases iteB_cases h with ⟨c8,h⟩ | ⟨c8,h⟩
  ·simp [h2,h6,c7,c8]
   rcases iteB_cases h with ⟨c9,h⟩ | ⟨c9,h⟩
   ·simp [h2,h6,c7,c8,c9]
    rcases iteB_cases h with ⟨c10,h⟩ | ⟨c10,h⟩
    ·simp [h2,h6,c7,c8,c9,c10]
     obtain ⟨v11,h12',h⟩:=bind_some' h
     have h12:ev1 15 [T.agg [C.lit (.int IntKind.i64 2),C.sl 2 [],sls 2 And.cells [{ a:=4,b:=2 }],sls 1 intF [6],C.sl 1 [],C.sl 1 [],sls 3 Name.cells [{ kind:=111,pos:=0,s:={ data:=#[120] } }]],T.agg [C.lit (.int IntKind.i64 v3.I),sls 2 Latch.cells v3.L,sls 2 And.cells v3.G,sls 1 intF v3.outs,sls 1 intF v3.bad,sls 1 intF v3.con,sls 3 Name.cells v3.names]]=some (T.c (.lit (.bool v11)),[]):=up1 (w_aig_Same _ _ _ h12')
     simp [h2,h6,c7,c8,c9,c10,h12]
     rcases iteB_cases h with ⟨c13,h⟩ | ⟨c13,h⟩
     ·simp [h2,h6,c7,c8,c9,c10,h12,c13]
      obtain ⟨v14,h15',h⟩:=bind_some' h
      have h15:ev1 14 [T.agg [C.lit (.int IntKind.i64 2),C.sl 2 [],sls 2 And.cells [{ a:=4,b:=2 }],sls 1 intF [6],C.sl 1 [],C.sl 1 [],sls 3 Name.cells [{ kind:=111,pos:=0,s:={ data:=#[120] } }]]]=some (T.c (.lit (.bool v14)),[]):=up1 (w_aig_Right _ _ h15')
      simp [h2,h6,c7,c8,c9,c10,h12,c13,h15]
      rcases iteB_cases h with ⟨c16,h⟩ | ⟨c16,h⟩
      ·simp [h2,h6,c7,c8,c9,c10,h12,c13,h15,c16]
       obtain ⟨v17,h18',h⟩:=bind_some' h
       have h18:ev1 17 [T.agg [C.lit (.int IntKind.i64 2),C.sl 2 [],sls 2 And.cells [{ a:=4,b:=2 }],sls 1 intF [6],C.sl 1 [],C.sl 1 [],sls 3 Name.cells [{ kind:=111,pos:=0,s:={ data:=#[120] } }]]]=some (T.c (.lit (.int .i64 v17)),[]):=up1 (w_aig_Vars _ _ h18')
       simp [h2,h6,c7,c8,c9,c10,h12,c13,h15,c16,h18]
       rcases iteB_cases h with ⟨c19,h⟩ | ⟨c19,h⟩
       ·simp [h2,h6,c7,c8,c9,c10,h12,c13,h15,c16,h18,c19]
        obtain ⟨v20,h21',h⟩:=bind_some' h
        have h21:ev1 19 [T.agg [C.lit (.int IntKind.i64 2),C.sl 2 [],sls 2 And.cells [{ a:=4,b:=2 }],sls 1 intF [6],C.sl 1 [],C.sl 1 [],sls 3 Name.cells [{ kind:=111,pos:=0,s:={ data:=#[120] } }]],T.c (.lit (.string { data:=#[121] }))]=some (T.c (.lit (.string v20)),[]):=up1 (w_aig_Names _ _ _ h21')
        simp [h2,h6,c7,c8,c9,c10,h12,c13,h15,c16,h18,c19,h21]
        cases h
        rfl
       ·simp [h2,h6,c7,c8,c9,c10,h12,c13,h15,c16,h18,c19]
        cases h
        rfl
      ·simp [h2,h6,c7,c8,c9,c10,h12,c13,h15,c16]
       cases h
       rfl
     ·simp [h2,h6,c7,c8,c9,c10,h12,c13]
      cases h
      rfl
    ·simp [h2,h6,c7,c8,c9,c10]
     cases h
     rfl
   ·simp [h2,h6,c7,c8,c9]
    cases h
    rfl
  ·simp [h2,h6,c7,c8]
   cases h
   rfl
 ·simp [h2,h6,c7]
  cases h
  rfl
theorem w_law06_AigLess (a:Aig) (h:law06_AigLess a=some true):ev1 7 [T.agg (Aig.cells a)]=some (T.c (.lit (.bool true)),[]):=by
 refine ev_run' (kp:=k7) (us:=[4]) fn7 rfl rfl rfl rfl rfl (by kernel_rfl) rfl rfl (by simp) ?_
 unfold law06_AigLess at h
 simp
 obtain ⟨v0,h1',h⟩:=bind_some' h
 have h1:ev1 9 []=some (T.c (.lit (.bool v0)),[]):=w_law06_shown _ h1'
 simp [h1]
 obtain ⟨v2,h3',h⟩:=bind_some' h
 have h3:ev1 10 [T.agg a.cells,T.c (.lit (.int .i64 40))]=some (T.c (.lit (.bool v2)),[]):=up1 (w_ref06_Small _ _ _ h3')
 simp [h1,h3]
 rcases iteB_cases h with ⟨c4,h⟩ | ⟨c4,h⟩
 ·simp [h1,h3,c4]
  obtain ⟨v5,h6',h⟩:=bind_some' h
  have h6:ev1 13 [T.agg a.cells]=some (T.c (.lit (.bool v5)),[]):=up1 (w_ref06_Right _ _ h6')
  simp [h1,h3,c4,h6]
  rcases iteB_cases h with ⟨c7,h⟩ | ⟨c7,h⟩
  ·simp [h1,h3,c4,h6,c7]
   obtain ⟨v8,h9',h⟩:=bind_some' h
   have h9:ev1 14 [T.agg [C.lit (.int IntKind.i64 a.I),sls 2 Latch.cells a.L,sls 2 And.cells a.G,sls 1 intF a.outs,sls 1 intF a.bad,sls 1 intF a.con,C.sl 3 []]]=some (T.c (.lit (.bool v8)),[]):=up1 (w_aig_Right _ _ h9')
   simp [h1,h3,c4,h6,c7,h9]
   rcases iteB_cases h with ⟨c10,h⟩ | ⟨c10,h⟩
   ·simp [h1,h3,c4,h6,c7,h9,c10]
    obtain ⟨v11,h12',h⟩:=bind_some' h
    have h12:ev1 17 [T.agg [C.lit (.int IntKind.i64 a.I),sls 2 Latch.cells a.L,sls 2 And.cells a.G,sls 1 intF a.outs,sls 1 intF a.bad,sls 1 intF a.con,C.sl 3 []]]=some (T.c (.lit (.int .i64 v11)),[]):=up1 (w_aig_Vars _ _ h12')
    simp [h1,h3,c4,h6,c7,h9,c10,h12]
    rcases iteB_cases h with ⟨c13,h⟩ | ⟨c13,h⟩
    ·simp [h1,h3,c4,h6,c7,h9,c10,h12,c13]
     rcases iteB_cases h with ⟨c14,h⟩ | ⟨c14,h⟩
     ·simp [h1,h3,c4,h6,c7,h9,c10,h12,c13,c14]
      rcases iteB_cases h with ⟨c15,h⟩ | ⟨c15,h⟩
      ·simp [h1,h3,c4,h6,c7,h9,c10,h12,c13,c14,c15]
       obtain ⟨v16,h17',h⟩:=bind_some' h
       have h17:ev1 14 [T.agg [C.lit (.int IntKind.i64 a.I),sls 2 Latch.cells a.L,sls 2 And.cells a.G,sls 1 intF a.outs,sls 1 intF a.bad,sls 1 intF a.con,sls 3 Name.cells (cut a.names 0 (isub .i64 (lenI a.names) 1))]]=some (T.c (.lit (.bool v16)),[]):=up1 (w_aig_Right _ _ h17')
       simp [h1,h3,c4,h6,c7,h9,c10,h12,c13,c14,c15,h17]
       rcases iteB_cases h with ⟨c18,h⟩ | ⟨c18,h⟩
       ·simp [h1,h3,c4,h6,c7,h9,c10,h12,c13,c14,c15,h17,c18]
        obtain ⟨w64,h63,h⟩:=bind_some' h
        rw [evLoop_loopF (ι:=Int) (ρ:=Bool ⊕ Unit) (fun p=>match p with | x44=>mk 100 [(1,T.c (C.ptr 1 0 0)),(3,T.c (.lit (.bool v0))),(6,T.c (C.ptr 6 0 0)),(7,T.c (.lit (.int .i64 x44)))] [(1,{ box:=true,free:=true,elem:=27,sz:=7,es:=[a.cells] }),(6,{ box:=true,free:=true,elem:=27,sz:=7,es:=[[C.lit (.int IntKind.i64 a.I),sls 2 Latch.cells a.L,sls 2 And.cells a.G,C.lit (.slice none 0 0),C.lit (.slice none 0 0),C.lit (.slice none 0 0),C.lit (.slice none 0 0)]] })] []) (fun r=>match r with | .inl y54=>(Ex.ret,mk 100 [(2,T.c (.lit (.bool y54)))] [] []) | .inr ()=>(Ex.exit 0,mk 100 [(1,T.c (C.ptr 1 0 0)),(3,T.c (.lit (.bool v0))),(6,T.c (C.ptr 6 0 0))] [(1,{ box:=true,free:=true,elem:=27,sz:=7,es:=[a.cells] }),(6,{ box:=true,free:=true,elem:=27,sz:=7,es:=[[C.lit (.int IntKind.i64 a.I),sls 2 Latch.cells a.L,sls 2 And.cells a.G,C.lit (.slice none 0 0),C.lit (.slice none 0 0),C.lit (.slice none 0 0),C.lit (.slice none 0 0)]] })] [])) (law06_AigLess_B0 a v0) h63 ?_ _ ?_]
        ·rcases w64 with y54 | ⟨⟩
         ·first | (cases h; done) | (simp [h1,h3,c4,h6,c7,h9,c10,h12,c13,c14,c15,h17,c18]; first | rfl | (injection h with h; rw [h]; rfl) | (injection h with h; rw [h]))
         ·simp [h1,h3,c4,h6,c7,h9,c10,h12,c13,c14,c15,h17,c18]
          rcases iteB_cases h with ⟨c55,h⟩ | ⟨c55,h⟩
          ·simp [h1,h3,c4,h6,c7,h9,c10,h12,c13,c14,c15,h17,c18,c55]
           rcases iteB_cases h with ⟨c56,h⟩ | ⟨c56,h⟩
           ·simp [h1,h3,c4,h6,c7,h9,c10,h12,c13,c14,c15,h17,c18,c55,c56]
            rcases iteB_cases h with ⟨c57,h⟩ | ⟨c57,h⟩
            ·simp [h1,h3,c4,h6,c7,h9,c10,h12,c13,c14,c15,h17,c18,c55,c56,c57]
             obtain ⟨v58,h59',h⟩:=bind_some' h
             have h59:ev1 14 [T.agg [C.lit (.int IntKind.i64 a.I),sls 2 Latch.cells a.L,sls 2 And.cells (cut a.G 0 (isub .i64 (lenI a.G) 1)),C.sl 1 [],C.sl 1 [],C.sl 1 [],C.sl 3 []]]=some (T.c (.lit (.bool v58)),[]):=up1 (w_aig_Right _ _ h59')
             first | (cases h; done) | (simp [h1,h3,c4,h6,c7,h9,c10,h12,c13,c14,c15,h17,c18,c55,c56,c57,h59]; first | rfl | (injection h with h; rw [h]; rfl) | (injection h with h; rw [h]))
            ·first | (cases h; done) | (simp [h1,h3,c4,h6,c7,h9,c10,h12,c13,c14,c15,h17,c18,c55,c56,c57]; first | rfl | (injection h with h; rw [h]; rfl) | (injection h with h; rw [h]))
           ·simp [h1,h3,c4,h6,c7,h9,c10,h12,c13,c14,c15,h17,c18,c55,c56]
            cases h
          ·simp [h1,h3,c4,h6,c7,h9,c10,h12,c13,c14,c15,h17,c18,c55]
           rcases iteB_cases h with ⟨c60,h⟩ | ⟨c60,h⟩
           ·simp [h1,h3,c4,h6,c7,h9,c10,h12,c13,c14,c15,h17,c18,c55,c60]
            obtain ⟨v61,h62',h⟩:=bind_some' h
            have h62:ev1 14 [T.agg [C.lit (.int IntKind.i64 a.I),sls 2 Latch.cells a.L,sls 2 And.cells a.G,C.sl 1 [],C.sl 1 [],C.sl 1 [],C.sl 3 []]]=some (T.c (.lit (.bool v61)),[]):=up1 (w_aig_Right _ _ h62')
            first | (cases h; done) | (simp [h1,h3,c4,h6,c7,h9,c10,h12,c13,c14,c15,h17,c18,c55,c60,h62]; first | rfl | (injection h with h; rw [h]; rfl) | (injection h with h; rw [h]))
           ·first | (cases h; done) | (simp [h1,h3,c4,h6,c7,h9,c10,h12,c13,c14,c15,h17,c18,c55,c60]; first | rfl | (injection h with h; rw [h]; rfl) | (injection h with h; rw [h]))
        ·clear h63 h
         rintro x44 y L res h hL hR
         unfold law06_AigLess_B0 at h
         simp
         rcases iteB_cases h with ⟨c45,h⟩ | ⟨c45,h⟩
         ·simp [c45]
          obtain ⟨v46,h47,h⟩:=bind_some' h
          simp [c45,h47]
          obtain ⟨v48,h49',h⟩:=bind_some' h
          have h49:ev1 18 [T.agg a.cells]=some (T.c (.lit (.int .i64 v48)),[]):=up1 (w_ref06_Vars _ _ h49')
          simp [c45,h47,h49]
          rcases iteB_cases h with ⟨c50,h⟩ | ⟨c50,h⟩
          ·simp [c45,h47,h49,c50]
           rcases iteB_cases h with ⟨c51,h⟩ | ⟨c51,h⟩
           ·simp [c45,h47,h49,c50,c51]
            obtain ⟨v52,h53',h⟩:=bind_some' h
            have h53:ev1 14 [T.agg [C.lit (.int IntKind.i64 a.I),sls 2 Latch.cells a.L,sls 2 And.cells a.G,C.sl 1 [],C.sl 1 [],C.sl 1 [],C.sl 3 []]]=some (T.c (.lit (.bool v52)),[]):=up1 (w_aig_Right _ _ h53')
            simp [c45,h47,h49,c50,c51,h53]
            cases h
            exact hR _ rfl
           ·simp [c45,h47,h49,c50,c51]
            cases h
            exact hR _ rfl
          ·simp [c45,h47,h49,c50]
           cases h
           exact hL _ _ rfl (by simp [headOf])
         ·simp [c45]
          cases h
          exact hR _ rfl
        ·simp [headOf]
       ·first | (cases h; done) | (simp [h1,h3,c4,h6,c7,h9,c10,h12,c13,c14,c15,h17,c18]; first | rfl | (injection h with h; rw [h]; rfl) | (injection h with h; rw [h]))
      ·simp [h1,h3,c4,h6,c7,h9,c10,h12,c13,c14,c15]
       cases h
     ·simp [h1,h3,c4,h6,c7,h9,c10,h12,c13,c14]
      obtain ⟨w110,h109,h⟩:=bind_some' h
      rw [evLoop_loopF (ι:=Int) (ρ:=Bool ⊕ Unit) (fun p=>match p with | x90=>mk 100 [(1,T.c (C.ptr 1 0 0)),(3,T.c (.lit (.bool v0))),(6,T.c (C.ptr 6 0 0)),(7,T.c (.lit (.int .i64 x90)))] [(1,{ box:=true,free:=true,elem:=27,sz:=7,es:=[a.cells] }),(6,{ box:=true,free:=true,elem:=27,sz:=7,es:=[[C.lit (.int IntKind.i64 a.I),sls 2 Latch.cells a.L,sls 2 And.cells a.G,C.lit (.slice none 0 0),C.lit (.slice none 0 0),C.lit (.slice none 0 0),C.lit (.slice none 0 0)]] })] []) (fun r=>match r with | .inl y100=>(Ex.ret,mk 100 [(2,T.c (.lit (.bool y100)))] [] []) | .inr ()=>(Ex.exit 0,mk 100 [(1,T.c (C.ptr 1 0 0)),(3,T.c (.lit (.bool v0))),(6,T.c (C.ptr 6 0 0))] [(1,{ box:=true,free:=true,elem:=27,sz:=7,es:=[a.cells] }),(6,{ box:=true,free:=true,elem:=27,sz:=7,es:=[[C.lit (.int IntKind.i64 a.I),sls 2 Latch.cells a.L,sls 2 And.cells a.G,C.lit (.slice none 0 0),C.lit (.slice none 0 0),C.lit (.slice none 0 0),C.lit (.slice none 0 0)]] })] [])) (law06_AigLess_B1 a v0) h109 ?_ _ ?_]
      ·rcases w110 with y100 | ⟨⟩
       ·first | (cases h; done) | (simp [h1,h3,c4,h6,c7,h9,c10,h12,c13,c14]; first | rfl | (injection h with h; rw [h]; rfl) | (injection h with h; rw [h]))
       ·simp [h1,h3,c4,h6,c7,h9,c10,h12,c13,c14]
        rcases iteB_cases h with ⟨c101,h⟩ | ⟨c101,h⟩
        ·simp [h1,h3,c4,h6,c7,h9,c10,h12,c13,c14,c101]
         rcases iteB_cases h with ⟨c102,h⟩ | ⟨c102,h⟩
         ·simp [h1,h3,c4,h6,c7,h9,c10,h12,c13,c14,c101,c102]
          rcases iteB_cases h with ⟨c103,h⟩ | ⟨c103,h⟩
          ·simp [h1,h3,c4,h6,c7,h9,c10,h12,c13,c14,c101,c102,c103]
           obtain ⟨v104,h105',h⟩:=bind_some' h
           have h105:ev1 14 [T.agg [C.lit (.int IntKind.i64 a.I),sls 2 Latch.cells a.L,sls 2 And.cells (cut a.G 0 (isub .i64 (lenI a.G) 1)),C.sl 1 [],C.sl 1 [],C.sl 1 [],C.sl 3 []]]=some (T.c (.lit (.bool v104)),[]):=up1 (w_aig_Right _ _ h105')
           first | (cases h; done) | (simp [h1,h3,c4,h6,c7,h9,c10,h12,c13,c14,c101,c102,c103,h105]; first | rfl | (injection h with h; rw [h]; rfl) | (injection h with h; rw [h]))
          ·first | (cases h; done) | (simp [h1,h3,c4,h6,c7,h9,c10,h12,c13,c14,c101,c102,c103]; first | rfl | (injection h with h; rw [h]; rfl) | (injection h with h; rw [h]))
         ·simp [h1,h3,c4,h6,c7,h9,c10,h12,c13,c14,c101,c102]
          cases h
        ·simp [h1,h3,c4,h6,c7,h9,c10,h12,c13,c14,c101]
         rcases iteB_cases h with ⟨c106,h⟩ | ⟨c106,h⟩
         ·simp [h1,h3,c4,h6,c7,h9,c10,h12,c13,c14,c101,c106]
          obtain ⟨v107,h108',h⟩:=bind_some' h
          have h108:ev1 14 [T.agg [C.lit (.int IntKind.i64 a.I),sls 2 Latch.cells a.L,sls 2 And.cells a.G,C.sl 1 [],C.sl 1 [],C.sl 1 [],C.sl 3 []]]=some (T.c (.lit (.bool v107)),[]):=up1 (w_aig_Right _ _ h108')
          first | (cases h; done) | (simp [h1,h3,c4,h6,c7,h9,c10,h12,c13,c14,c101,c106,h108]; first | rfl | (injection h with h; rw [h]; rfl) | (injection h with h; rw [h]))
         ·first | (cases h; done) | (simp [h1,h3,c4,h6,c7,h9,c10,h12,c13,c14,c101,c106]; first | rfl | (injection h with h; rw [h]; rfl) | (injection h with h; rw [h]))
      ·clear h109 h
       rintro x90 y L res h hL hR
       unfold law06_AigLess_B1 at h
       simp
       rcases iteB_cases h with ⟨c91,h⟩ | ⟨c91,h⟩
       ·simp [c91]
        obtain ⟨v92,h93,h⟩:=bind_some' h
        simp [c91,h93]
        obtain ⟨v94,h95',h⟩:=bind_some' h
        have h95:ev1 18 [T.agg a.cells]=some (T.c (.lit (.int .i64 v94)),[]):=up1 (w_ref06_Vars _ _ h95')
        simp [c91,h93,h95]
        rcases iteB_cases h with ⟨c96,h⟩ | ⟨c96,h⟩
        ·simp [c91,h93,h95,c96]
         rcases iteB_cases h with ⟨c97,h⟩ | ⟨c97,h⟩
         ·simp [c91,h93,h95,c96,c97]
          obtain ⟨v98,h99',h⟩:=bind_some' h
          have h99:ev1 14 [T.agg [C.lit (.int IntKind.i64 a.I),sls 2 Latch.cells a.L,sls 2 And.cells a.G,C.sl 1 [],C.sl 1 [],C.sl 1 [],C.sl 3 []]]=some (T.c (.lit (.bool v98)),[]):=up1 (w_aig_Right _ _ h99')
          simp [c91,h93,h95,c96,c97,h99]
          cases h
          exact hR _ rfl
         ·simp [c91,h93,h95,c96,c97]
          cases h
          exact hR _ rfl
        ·simp [c91,h93,h95,c96]
         cases h
         exact hL _ _ rfl (by simp [headOf])
       ·simp [c91]
        cases h
        exact hR _ rfl
      ·simp [headOf]
    ·first | (cases h; done) | (simp [h1,h3,c4,h6,c7,h9,c10,h12,c13]; first | rfl | (injection h with h; rw [h]; rfl) | (injection h with h; rw [h]))
   ·first | (cases h; done) | (simp [h1,h3,c4,h6,c7,h9,c10]; first | rfl | (injection h with h; rw [h]; rfl) | (injection h with h; rw [h]))
  ·first | (cases h; done) | (simp [h1,h3,c4,h6,c7]; first | rfl | (injection h with h; rw [h]; rfl) | (injection h with h; rw [h]))
 ·first | (cases h; done) | (simp [h1,h3,c4]; first | rfl | (injection h with h; rw [h]; rfl) | (injection h with h; rw [h]))
end Go.Proofs.YtadllpehekphmaaDoor

/- What the interpreter comes to is what the plain functions come to. No condition. -/
import Derived.Test.YtadllpehekphmaaDoorW1
set_option linter.unusedSimpArgs false
set_option linter.unusedVariables false
set_option maxRecDepth 20000
set_option maxHeartbeats 4000000
namespace Go.Proofs.YtadllpehekphmaaDoor
open Go.Vabs Go.Vid
theorem w_ref01_Long (s:ByteArray)(at_:Int)(r:Int)(h:ref01_Long s at_=some r):ev 49 [T.c (.lit (.string s)),T.c (.lit (.int .i64 at_))]=some (T.c (.lit (.int .i64 r)),[]):=by
 refine ev_run' (kp:=k49) (us:=[3]) fn49 rfl rfl rfl rfl rfl (by kernel_rfl) rfl rfl (by simp) ?_;unfold ref01_Long at h;simp -implicitDefEqProofs;obtain⟨v0,h1,h⟩:=bS h;simp -implicitDefEqProofs [h1]
 rcases iC h with ⟨c2,h⟩ | ⟨c2,h⟩
 ·simp -implicitDefEqProofs [h1,c2]
  rcases iC h with ⟨c3,h⟩ | ⟨c3,h⟩
  ·simp -implicitDefEqProofs [h1,c2,c3];obtain⟨w38,h37,h⟩:=bS h;rw[eL (ι:=Int × Int) (ρ:=Unit ⊕ Int) (fun p=>match p with | (x24,x25)=>mk 92 [(0,T.c (.lit (.string s))),(1,T.c (.lit (.int .i64 at_))),(5,T.c (.lit (.int .i64 4))),(6,T.c (.lit (.int .i64 x24))),(7,T.c (.lit (.int .i64 65536))),(8,T.c (.lit (.int .i64 x25)))] [] []) (fun r=>match r with | .inl ()=>(Ex.ret,mk 92 [(4,T.c (.lit (.int .i64 0)))] [] []) | .inr y32=>(Ex.exit 0,mk 92 [(5,T.c (.lit (.int .i64 4))),(6,T.c (.lit (.int .i64 y32))),(7,T.c (.lit (.int .i64 65536)))] [] [])) (ref01_Long_B0 s at_) h37 ?_ _ ?_]
   ·rcases w38 with ⟨⟩ | y32
    ·simp -implicitDefEqProofs [h1,c2,c3]
     cases h
     rfl
    ·simp -implicitDefEqProofs [h1,c2,c3]
     rcases iC h with ⟨c33,h⟩ | ⟨c33,h⟩
     ·simp -implicitDefEqProofs [h1,c2,c3,c33]
      cases h
      rfl
     ·simp -implicitDefEqProofs [h1,c2,c3,c33]
      rcases iC h with ⟨c34,h⟩ | ⟨c34,h⟩
      ·simp -implicitDefEqProofs [h1,c2,c3,c33,c34]
       cases h
       rfl
      ·simp -implicitDefEqProofs [h1,c2,c3,c33,c34]
       rcases iC h with ⟨c35,h⟩ | ⟨c35,h⟩
       ·simp -implicitDefEqProofs [h1,c2,c3,c33,c34,c35]
        rcases iC h with ⟨c36,h⟩ | ⟨c36,h⟩
        ·simp -implicitDefEqProofs [h1,c2,c3,c33,c34,c35,c36]
         cases h
         rfl
        ·simp -implicitDefEqProofs [h1,c2,c3,c33,c34,c35,c36]
         cases h
         rfl
       ·simp -implicitDefEqProofs [h1,c2,c3,c33,c34,c35]
        cases h
        rfl
   ·clear h37 h;rintro⟨x24,x25⟩ y L res h hL hR;unfold ref01_Long_B0 at h;simp -implicitDefEqProofs
    rcases iC h with ⟨c26,h⟩ | ⟨c26,h⟩
    ·simp -implicitDefEqProofs [c26]
     rcases iC h with ⟨c27,h⟩ | ⟨c27,h⟩
     ·simp -implicitDefEqProofs [c26,c27]
      cases h
      exact hR _ rfl
     ·simp -implicitDefEqProofs [c26,c27];obtain⟨v28,h29,h⟩:=bS h;simp -implicitDefEqProofs [c26,c27,h29]
      rcases iC h with ⟨c30,h⟩ | ⟨c30,h⟩
      ·simp -implicitDefEqProofs [c26,c27,h29,c30]
       cases h
       exact hR _ rfl
      ·simp -implicitDefEqProofs [c26,c27,h29,c30]
       rcases iC h with ⟨c31,h⟩ | ⟨c31,h⟩
       ·simp -implicitDefEqProofs [c26,c27,h29,c30,c31]
        cases h
        exact hR _ rfl
       ·simp -implicitDefEqProofs [c26,c27,h29,c30,c31]
        cases h
        exact hL _ _ rfl (by simp -implicitDefEqProofs [headOf])
    ·simp -implicitDefEqProofs [c26]
     cases h
     exact hR _ rfl
   ·simp -implicitDefEqProofs [headOf]
  ·simp -implicitDefEqProofs [h1,c2,c3]
   rcases iC h with ⟨c39,h⟩ | ⟨c39,h⟩
   ·simp -implicitDefEqProofs [h1,c2,c3,c39]
    rcases iC h with ⟨c40,h⟩ | ⟨c40,h⟩
    ·simp -implicitDefEqProofs [h1,c2,c3,c39,c40];obtain⟨w75,h74,h⟩:=bS h;rw[eL (ι:=Int × Int) (ρ:=Unit ⊕ Int) (fun p=>match p with | (x61,x62)=>mk 92 [(0,T.c (.lit (.string s))),(1,T.c (.lit (.int .i64 at_))),(5,T.c (.lit (.int .i64 3))),(6,T.c (.lit (.int .i64 x61))),(7,T.c (.lit (.int .i64 2048))),(8,T.c (.lit (.int .i64 x62)))] [] []) (fun r=>match r with | .inl ()=>(Ex.ret,mk 92 [(4,T.c (.lit (.int .i64 0)))] [] []) | .inr y69=>(Ex.exit 0,mk 92 [(5,T.c (.lit (.int .i64 3))),(6,T.c (.lit (.int .i64 y69))),(7,T.c (.lit (.int .i64 2048)))] [] [])) (ref01_Long_B1 s at_) h74 ?_ _ ?_]
     ·rcases w75 with ⟨⟩ | y69
      ·simp -implicitDefEqProofs [h1,c2,c3,c39,c40]
       cases h
       rfl
      ·simp -implicitDefEqProofs [h1,c2,c3,c39,c40]
       rcases iC h with ⟨c70,h⟩ | ⟨c70,h⟩
       ·simp -implicitDefEqProofs [h1,c2,c3,c39,c40,c70]
        cases h
        rfl
       ·simp -implicitDefEqProofs [h1,c2,c3,c39,c40,c70]
        rcases iC h with ⟨c71,h⟩ | ⟨c71,h⟩
        ·simp -implicitDefEqProofs [h1,c2,c3,c39,c40,c70,c71]
         cases h
         rfl
        ·simp -implicitDefEqProofs [h1,c2,c3,c39,c40,c70,c71]
         rcases iC h with ⟨c72,h⟩ | ⟨c72,h⟩
         ·simp -implicitDefEqProofs [h1,c2,c3,c39,c40,c70,c71,c72]
          rcases iC h with ⟨c73,h⟩ | ⟨c73,h⟩
          ·simp -implicitDefEqProofs [h1,c2,c3,c39,c40,c70,c71,c72,c73]
           cases h
           rfl
          ·simp -implicitDefEqProofs [h1,c2,c3,c39,c40,c70,c71,c72,c73]
           cases h
           rfl
         ·simp -implicitDefEqProofs [h1,c2,c3,c39,c40,c70,c71,c72]
          cases h
          rfl
     ·clear h74 h;rintro⟨x61,x62⟩ y L res h hL hR;unfold ref01_Long_B1 at h;simp -implicitDefEqProofs
      rcases iC h with ⟨c63,h⟩ | ⟨c63,h⟩
      ·simp -implicitDefEqProofs [c63]
       rcases iC h with ⟨c64,h⟩ | ⟨c64,h⟩
       ·simp -implicitDefEqProofs [c63,c64]
        cases h
        exact hR _ rfl
       ·simp -implicitDefEqProofs [c63,c64];obtain⟨v65,h66,h⟩:=bS h;simp -implicitDefEqProofs [c63,c64,h66]
        rcases iC h with ⟨c67,h⟩ | ⟨c67,h⟩
        ·simp -implicitDefEqProofs [c63,c64,h66,c67]
         cases h
         exact hR _ rfl
        ·simp -implicitDefEqProofs [c63,c64,h66,c67]
         rcases iC h with ⟨c68,h⟩ | ⟨c68,h⟩
         ·simp -implicitDefEqProofs [c63,c64,h66,c67,c68]
          cases h
          exact hR _ rfl
         ·simp -implicitDefEqProofs [c63,c64,h66,c67,c68]
          cases h
          exact hL _ _ rfl (by simp -implicitDefEqProofs [headOf])
      ·simp -implicitDefEqProofs [c63]
       cases h
       exact hR _ rfl
     ·simp -implicitDefEqProofs [headOf]
    ·simp -implicitDefEqProofs [h1,c2,c3,c39,c40]
     rcases iC h with ⟨c76,h⟩ | ⟨c76,h⟩
     ·simp -implicitDefEqProofs [h1,c2,c3,c39,c40,c76]
      rcases iC h with ⟨c77,h⟩ | ⟨c77,h⟩
      ·simp -implicitDefEqProofs [h1,c2,c3,c39,c40,c76,c77];obtain⟨w112,h111,h⟩:=bS h;rw[eL (ι:=Int × Int) (ρ:=Unit ⊕ Int) (fun p=>match p with | (x98,x99)=>mk 92 [(0,T.c (.lit (.string s))),(1,T.c (.lit (.int .i64 at_))),(5,T.c (.lit (.int .i64 2))),(6,T.c (.lit (.int .i64 x98))),(7,T.c (.lit (.int .i64 128))),(8,T.c (.lit (.int .i64 x99)))] [] []) (fun r=>match r with | .inl ()=>(Ex.ret,mk 92 [(4,T.c (.lit (.int .i64 0)))] [] []) | .inr y106=>(Ex.exit 0,mk 92 [(5,T.c (.lit (.int .i64 2))),(6,T.c (.lit (.int .i64 y106))),(7,T.c (.lit (.int .i64 128)))] [] [])) (ref01_Long_B2 s at_) h111 ?_ _ ?_]
       ·rcases w112 with ⟨⟩ | y106
        ·simp -implicitDefEqProofs [h1,c2,c3,c39,c40,c76,c77]
         cases h
         rfl
        ·simp -implicitDefEqProofs [h1,c2,c3,c39,c40,c76,c77]
         rcases iC h with ⟨c107,h⟩ | ⟨c107,h⟩
         ·simp -implicitDefEqProofs [h1,c2,c3,c39,c40,c76,c77,c107]
          cases h
          rfl
         ·simp -implicitDefEqProofs [h1,c2,c3,c39,c40,c76,c77,c107]
          rcases iC h with ⟨c108,h⟩ | ⟨c108,h⟩
          ·simp -implicitDefEqProofs [h1,c2,c3,c39,c40,c76,c77,c107,c108]
           cases h
           rfl
          ·simp -implicitDefEqProofs [h1,c2,c3,c39,c40,c76,c77,c107,c108]
           rcases iC h with ⟨c109,h⟩ | ⟨c109,h⟩
           ·simp -implicitDefEqProofs [h1,c2,c3,c39,c40,c76,c77,c107,c108,c109]
            rcases iC h with ⟨c110,h⟩ | ⟨c110,h⟩
            ·simp -implicitDefEqProofs [h1,c2,c3,c39,c40,c76,c77,c107,c108,c109,c110]
             cases h
             rfl
            ·simp -implicitDefEqProofs [h1,c2,c3,c39,c40,c76,c77,c107,c108,c109,c110]
             cases h
             rfl
           ·simp -implicitDefEqProofs [h1,c2,c3,c39,c40,c76,c77,c107,c108,c109]
            cases h
            rfl
       ·clear h111 h;rintro⟨x98,x99⟩ y L res h hL hR;unfold ref01_Long_B2 at h;simp -implicitDefEqProofs
        rcases iC h with ⟨c100,h⟩ | ⟨c100,h⟩
        ·simp -implicitDefEqProofs [c100]
         rcases iC h with ⟨c101,h⟩ | ⟨c101,h⟩
         ·simp -implicitDefEqProofs [c100,c101]
          cases h
          exact hR _ rfl
         ·simp -implicitDefEqProofs [c100,c101];obtain⟨v102,h103,h⟩:=bS h;simp -implicitDefEqProofs [c100,c101,h103]
          rcases iC h with ⟨c104,h⟩ | ⟨c104,h⟩
          ·simp -implicitDefEqProofs [c100,c101,h103,c104]
           cases h
           exact hR _ rfl
          ·simp -implicitDefEqProofs [c100,c101,h103,c104]
           rcases iC h with ⟨c105,h⟩ | ⟨c105,h⟩
           ·simp -implicitDefEqProofs [c100,c101,h103,c104,c105]
            cases h
            exact hR _ rfl
           ·simp -implicitDefEqProofs [c100,c101,h103,c104,c105]
            cases h
            exact hL _ _ rfl (by simp -implicitDefEqProofs [headOf])
        ·simp -implicitDefEqProofs [c100]
         cases h
         exact hR _ rfl
       ·simp -implicitDefEqProofs [headOf]
      ·simp -implicitDefEqProofs [h1,c2,c3,c39,c40,c76,c77]
       rcases iC h with ⟨c113,h⟩ | ⟨c113,h⟩
       ·simp -implicitDefEqProofs [h1,c2,c3,c39,c40,c76,c77,c113]
        cases h
        rfl
       ·simp -implicitDefEqProofs [h1,c2,c3,c39,c40,c76,c77,c113];obtain⟨w148,h147,h⟩:=bS h;rw[eL (ι:=Int × Int) (ρ:=Unit ⊕ Int) (fun p=>match p with | (x134,x135)=>mk 92 [(0,T.c (.lit (.string s))),(1,T.c (.lit (.int .i64 at_))),(5,T.c (.lit (.int .i64 1))),(6,T.c (.lit (.int .i64 x134))),(7,T.c (.lit (.int .i64 0))),(8,T.c (.lit (.int .i64 x135)))] [] []) (fun r=>match r with | .inl ()=>(Ex.ret,mk 92 [(4,T.c (.lit (.int .i64 0)))] [] []) | .inr y142=>(Ex.exit 0,mk 92 [(5,T.c (.lit (.int .i64 1))),(6,T.c (.lit (.int .i64 y142))),(7,T.c (.lit (.int .i64 0)))] [] [])) (ref01_Long_B3 s at_) h147 ?_ _ ?_]
        ·rcases w148 with ⟨⟩ | y142
         ·simp -implicitDefEqProofs [h1,c2,c3,c39,c40,c76,c77,c113]
          cases h
          rfl
         ·simp -implicitDefEqProofs [h1,c2,c3,c39,c40,c76,c77,c113]
          rcases iC h with ⟨c143,h⟩ | ⟨c143,h⟩
          ·simp -implicitDefEqProofs [h1,c2,c3,c39,c40,c76,c77,c113,c143]
           cases h
           rfl
          ·simp -implicitDefEqProofs [h1,c2,c3,c39,c40,c76,c77,c113,c143]
           rcases iC h with ⟨c144,h⟩ | ⟨c144,h⟩
           ·simp -implicitDefEqProofs [h1,c2,c3,c39,c40,c76,c77,c113,c143,c144]
            cases h
            rfl
           ·simp -implicitDefEqProofs [h1,c2,c3,c39,c40,c76,c77,c113,c143,c144]
            rcases iC h with ⟨c145,h⟩ | ⟨c145,h⟩
            ·simp -implicitDefEqProofs [h1,c2,c3,c39,c40,c76,c77,c113,c143,c144,c145]
             rcases iC h with ⟨c146,h⟩ | ⟨c146,h⟩
             ·simp -implicitDefEqProofs [h1,c2,c3,c39,c40,c76,c77,c113,c143,c144,c145,c146]
              cases h
              rfl
             ·simp -implicitDefEqProofs [h1,c2,c3,c39,c40,c76,c77,c113,c143,c144,c145,c146]
              cases h
              rfl
            ·simp -implicitDefEqProofs [h1,c2,c3,c39,c40,c76,c77,c113,c143,c144,c145]
             cases h
             rfl
        ·clear h147 h;rintro⟨x134,x135⟩ y L res h hL hR;unfold ref01_Long_B3 at h;simp -implicitDefEqProofs
         rcases iC h with ⟨c136,h⟩ | ⟨c136,h⟩
         ·simp -implicitDefEqProofs [c136]
          rcases iC h with ⟨c137,h⟩ | ⟨c137,h⟩
          ·simp -implicitDefEqProofs [c136,c137]
           cases h
           exact hR _ rfl
          ·simp -implicitDefEqProofs [c136,c137];obtain⟨v138,h139,h⟩:=bS h;simp -implicitDefEqProofs [c136,c137,h139]
           rcases iC h with ⟨c140,h⟩ | ⟨c140,h⟩
           ·simp -implicitDefEqProofs [c136,c137,h139,c140]
            cases h
            exact hR _ rfl
           ·simp -implicitDefEqProofs [c136,c137,h139,c140]
            rcases iC h with ⟨c141,h⟩ | ⟨c141,h⟩
            ·simp -implicitDefEqProofs [c136,c137,h139,c140,c141]
             cases h
             exact hR _ rfl
            ·simp -implicitDefEqProofs [c136,c137,h139,c140,c141]
             cases h
             exact hL _ _ rfl (by simp -implicitDefEqProofs [headOf])
         ·simp -implicitDefEqProofs [c136]
          cases h
          exact hR _ rfl
        ·simp -implicitDefEqProofs [headOf]
     ·simp -implicitDefEqProofs [h1,c2,c3,c39,c40,c76]
      rcases iC h with ⟨c149,h⟩ | ⟨c149,h⟩
      ·simp -implicitDefEqProofs [h1,c2,c3,c39,c40,c76,c149]
       cases h
       rfl
      ·simp -implicitDefEqProofs [h1,c2,c3,c39,c40,c76,c149];obtain⟨w184,h183,h⟩:=bS h;rw[eL (ι:=Int × Int) (ρ:=Unit ⊕ Int) (fun p=>match p with | (x170,x171)=>mk 92 [(0,T.c (.lit (.string s))),(1,T.c (.lit (.int .i64 at_))),(5,T.c (.lit (.int .i64 1))),(6,T.c (.lit (.int .i64 x170))),(7,T.c (.lit (.int .i64 0))),(8,T.c (.lit (.int .i64 x171)))] [] []) (fun r=>match r with | .inl ()=>(Ex.ret,mk 92 [(4,T.c (.lit (.int .i64 0)))] [] []) | .inr y178=>(Ex.exit 0,mk 92 [(5,T.c (.lit (.int .i64 1))),(6,T.c (.lit (.int .i64 y178))),(7,T.c (.lit (.int .i64 0)))] [] [])) (ref01_Long_B4 s at_) h183 ?_ _ ?_]
       ·rcases w184 with ⟨⟩ | y178
        ·simp -implicitDefEqProofs [h1,c2,c3,c39,c40,c76,c149]
         cases h
         rfl
        ·simp -implicitDefEqProofs [h1,c2,c3,c39,c40,c76,c149]
         rcases iC h with ⟨c179,h⟩ | ⟨c179,h⟩
         ·simp -implicitDefEqProofs [h1,c2,c3,c39,c40,c76,c149,c179]
          cases h
          rfl
         ·simp -implicitDefEqProofs [h1,c2,c3,c39,c40,c76,c149,c179]
          rcases iC h with ⟨c180,h⟩ | ⟨c180,h⟩
          ·simp -implicitDefEqProofs [h1,c2,c3,c39,c40,c76,c149,c179,c180]
           cases h
           rfl
          ·simp -implicitDefEqProofs [h1,c2,c3,c39,c40,c76,c149,c179,c180]
           rcases iC h with ⟨c181,h⟩ | ⟨c181,h⟩
           ·simp -implicitDefEqProofs [h1,c2,c3,c39,c40,c76,c149,c179,c180,c181]
            rcases iC h with ⟨c182,h⟩ | ⟨c182,h⟩
            ·simp -implicitDefEqProofs [h1,c2,c3,c39,c40,c76,c149,c179,c180,c181,c182]
             cases h
             rfl
            ·simp -implicitDefEqProofs [h1,c2,c3,c39,c40,c76,c149,c179,c180,c181,c182]
             cases h
             rfl
           ·simp -implicitDefEqProofs [h1,c2,c3,c39,c40,c76,c149,c179,c180,c181]
            cases h
            rfl
       ·clear h183 h;rintro⟨x170,x171⟩ y L res h hL hR;unfold ref01_Long_B4 at h;simp -implicitDefEqProofs
        rcases iC h with ⟨c172,h⟩ | ⟨c172,h⟩
        ·simp -implicitDefEqProofs [c172]
         rcases iC h with ⟨c173,h⟩ | ⟨c173,h⟩
         ·simp -implicitDefEqProofs [c172,c173]
          cases h
          exact hR _ rfl
         ·simp -implicitDefEqProofs [c172,c173];obtain⟨v174,h175,h⟩:=bS h;simp -implicitDefEqProofs [c172,c173,h175]
          rcases iC h with ⟨c176,h⟩ | ⟨c176,h⟩
          ·simp -implicitDefEqProofs [c172,c173,h175,c176]
           cases h
           exact hR _ rfl
          ·simp -implicitDefEqProofs [c172,c173,h175,c176]
           rcases iC h with ⟨c177,h⟩ | ⟨c177,h⟩
           ·simp -implicitDefEqProofs [c172,c173,h175,c176,c177]
            cases h
            exact hR _ rfl
           ·simp -implicitDefEqProofs [c172,c173,h175,c176,c177]
            cases h
            exact hL _ _ rfl (by simp -implicitDefEqProofs [headOf])
        ·simp -implicitDefEqProofs [c172]
         cases h
         exact hR _ rfl
       ·simp -implicitDefEqProofs [headOf]
   ·simp -implicitDefEqProofs [h1,c2,c3,c39]
    rcases iC h with ⟨c185,h⟩ | ⟨c185,h⟩
    ·simp -implicitDefEqProofs [h1,c2,c3,c39,c185]
     rcases iC h with ⟨c186,h⟩ | ⟨c186,h⟩
     ·simp -implicitDefEqProofs [h1,c2,c3,c39,c185,c186];obtain⟨w221,h220,h⟩:=bS h;rw[eL (ι:=Int × Int) (ρ:=Unit ⊕ Int) (fun p=>match p with | (x207,x208)=>mk 92 [(0,T.c (.lit (.string s))),(1,T.c (.lit (.int .i64 at_))),(5,T.c (.lit (.int .i64 2))),(6,T.c (.lit (.int .i64 x207))),(7,T.c (.lit (.int .i64 128))),(8,T.c (.lit (.int .i64 x208)))] [] []) (fun r=>match r with | .inl ()=>(Ex.ret,mk 92 [(4,T.c (.lit (.int .i64 0)))] [] []) | .inr y215=>(Ex.exit 0,mk 92 [(5,T.c (.lit (.int .i64 2))),(6,T.c (.lit (.int .i64 y215))),(7,T.c (.lit (.int .i64 128)))] [] [])) (ref01_Long_B5 s at_) h220 ?_ _ ?_]
      ·rcases w221 with ⟨⟩ | y215
       ·simp -implicitDefEqProofs [h1,c2,c3,c39,c185,c186]
        cases h
        rfl
       ·simp -implicitDefEqProofs [h1,c2,c3,c39,c185,c186]
        rcases iC h with ⟨c216,h⟩ | ⟨c216,h⟩
        ·simp -implicitDefEqProofs [h1,c2,c3,c39,c185,c186,c216]
         cases h
         rfl
        ·simp -implicitDefEqProofs [h1,c2,c3,c39,c185,c186,c216]
         rcases iC h with ⟨c217,h⟩ | ⟨c217,h⟩
         ·simp -implicitDefEqProofs [h1,c2,c3,c39,c185,c186,c216,c217]
          cases h
          rfl
         ·simp -implicitDefEqProofs [h1,c2,c3,c39,c185,c186,c216,c217]
          rcases iC h with ⟨c218,h⟩ | ⟨c218,h⟩
          ·simp -implicitDefEqProofs [h1,c2,c3,c39,c185,c186,c216,c217,c218]
           rcases iC h with ⟨c219,h⟩ | ⟨c219,h⟩
           ·simp -implicitDefEqProofs [h1,c2,c3,c39,c185,c186,c216,c217,c218,c219]
            cases h
            rfl
           ·simp -implicitDefEqProofs [h1,c2,c3,c39,c185,c186,c216,c217,c218,c219]
            cases h
            rfl
          ·simp -implicitDefEqProofs [h1,c2,c3,c39,c185,c186,c216,c217,c218]
           cases h
           rfl
      ·clear h220 h;rintro⟨x207,x208⟩ y L res h hL hR;unfold ref01_Long_B5 at h;simp -implicitDefEqProofs
       rcases iC h with ⟨c209,h⟩ | ⟨c209,h⟩
       ·simp -implicitDefEqProofs [c209]
        rcases iC h with ⟨c210,h⟩ | ⟨c210,h⟩
        ·simp -implicitDefEqProofs [c209,c210]
         cases h
         exact hR _ rfl
        ·simp -implicitDefEqProofs [c209,c210];obtain⟨v211,h212,h⟩:=bS h;simp -implicitDefEqProofs [c209,c210,h212]
         rcases iC h with ⟨c213,h⟩ | ⟨c213,h⟩
         ·simp -implicitDefEqProofs [c209,c210,h212,c213]
          cases h
          exact hR _ rfl
         ·simp -implicitDefEqProofs [c209,c210,h212,c213]
          rcases iC h with ⟨c214,h⟩ | ⟨c214,h⟩
          ·simp -implicitDefEqProofs [c209,c210,h212,c213,c214]
           cases h
           exact hR _ rfl
          ·simp -implicitDefEqProofs [c209,c210,h212,c213,c214]
           cases h
           exact hL _ _ rfl (by simp -implicitDefEqProofs [headOf])
       ·simp -implicitDefEqProofs [c209]
        cases h
        exact hR _ rfl
      ·simp -implicitDefEqProofs [headOf]
     ·simp -implicitDefEqProofs [h1,c2,c3,c39,c185,c186]
      rcases iC h with ⟨c222,h⟩ | ⟨c222,h⟩
      ·simp -implicitDefEqProofs [h1,c2,c3,c39,c185,c186,c222]
       cases h
       rfl
      ·simp -implicitDefEqProofs [h1,c2,c3,c39,c185,c186,c222];obtain⟨w257,h256,h⟩:=bS h;rw[eL (ι:=Int × Int) (ρ:=Unit ⊕ Int) (fun p=>match p with | (x243,x244)=>mk 92 [(0,T.c (.lit (.string s))),(1,T.c (.lit (.int .i64 at_))),(5,T.c (.lit (.int .i64 1))),(6,T.c (.lit (.int .i64 x243))),(7,T.c (.lit (.int .i64 0))),(8,T.c (.lit (.int .i64 x244)))] [] []) (fun r=>match r with | .inl ()=>(Ex.ret,mk 92 [(4,T.c (.lit (.int .i64 0)))] [] []) | .inr y251=>(Ex.exit 0,mk 92 [(5,T.c (.lit (.int .i64 1))),(6,T.c (.lit (.int .i64 y251))),(7,T.c (.lit (.int .i64 0)))] [] [])) (ref01_Long_B6 s at_) h256 ?_ _ ?_]
       ·rcases w257 with ⟨⟩ | y251
        ·simp -implicitDefEqProofs [h1,c2,c3,c39,c185,c186,c222]
         cases h
         rfl
        ·simp -implicitDefEqProofs [h1,c2,c3,c39,c185,c186,c222]
         rcases iC h with ⟨c252,h⟩ | ⟨c252,h⟩
         ·simp -implicitDefEqProofs [h1,c2,c3,c39,c185,c186,c222,c252]
          cases h
          rfl
         ·simp -implicitDefEqProofs [h1,c2,c3,c39,c185,c186,c222,c252]
          rcases iC h with ⟨c253,h⟩ | ⟨c253,h⟩
          ·simp -implicitDefEqProofs [h1,c2,c3,c39,c185,c186,c222,c252,c253]
           cases h
           rfl
          ·simp -implicitDefEqProofs [h1,c2,c3,c39,c185,c186,c222,c252,c253]
           rcases iC h with ⟨c254,h⟩ | ⟨c254,h⟩
           ·simp -implicitDefEqProofs [h1,c2,c3,c39,c185,c186,c222,c252,c253,c254]
            rcases iC h with ⟨c255,h⟩ | ⟨c255,h⟩
            ·simp -implicitDefEqProofs [h1,c2,c3,c39,c185,c186,c222,c252,c253,c254,c255]
             cases h
             rfl
            ·simp -implicitDefEqProofs [h1,c2,c3,c39,c185,c186,c222,c252,c253,c254,c255]
             cases h
             rfl
           ·simp -implicitDefEqProofs [h1,c2,c3,c39,c185,c186,c222,c252,c253,c254]
            cases h
            rfl
       ·clear h256 h;rintro⟨x243,x244⟩ y L res h hL hR;unfold ref01_Long_B6 at h;simp -implicitDefEqProofs
        rcases iC h with ⟨c245,h⟩ | ⟨c245,h⟩
        ·simp -implicitDefEqProofs [c245]
         rcases iC h with ⟨c246,h⟩ | ⟨c246,h⟩
         ·simp -implicitDefEqProofs [c245,c246]
          cases h
          exact hR _ rfl
         ·simp -implicitDefEqProofs [c245,c246];obtain⟨v247,h248,h⟩:=bS h;simp -implicitDefEqProofs [c245,c246,h248]
          rcases iC h with ⟨c249,h⟩ | ⟨c249,h⟩
          ·simp -implicitDefEqProofs [c245,c246,h248,c249]
           cases h
           exact hR _ rfl
          ·simp -implicitDefEqProofs [c245,c246,h248,c249]
           rcases iC h with ⟨c250,h⟩ | ⟨c250,h⟩
           ·simp -implicitDefEqProofs [c245,c246,h248,c249,c250]
            cases h
            exact hR _ rfl
           ·simp -implicitDefEqProofs [c245,c246,h248,c249,c250]
            cases h
            exact hL _ _ rfl (by simp -implicitDefEqProofs [headOf])
        ·simp -implicitDefEqProofs [c245]
         cases h
         exact hR _ rfl
       ·simp -implicitDefEqProofs [headOf]
    ·simp -implicitDefEqProofs [h1,c2,c3,c39,c185]
     rcases iC h with ⟨c258,h⟩ | ⟨c258,h⟩
     ·simp -implicitDefEqProofs [h1,c2,c3,c39,c185,c258]
      cases h
      rfl
     ·simp -implicitDefEqProofs [h1,c2,c3,c39,c185,c258];obtain⟨w293,h292,h⟩:=bS h;rw[eL (ι:=Int × Int) (ρ:=Unit ⊕ Int) (fun p=>match p with | (x279,x280)=>mk 92 [(0,T.c (.lit (.string s))),(1,T.c (.lit (.int .i64 at_))),(5,T.c (.lit (.int .i64 1))),(6,T.c (.lit (.int .i64 x279))),(7,T.c (.lit (.int .i64 0))),(8,T.c (.lit (.int .i64 x280)))] [] []) (fun r=>match r with | .inl ()=>(Ex.ret,mk 92 [(4,T.c (.lit (.int .i64 0)))] [] []) | .inr y287=>(Ex.exit 0,mk 92 [(5,T.c (.lit (.int .i64 1))),(6,T.c (.lit (.int .i64 y287))),(7,T.c (.lit (.int .i64 0)))] [] [])) (ref01_Long_B7 s at_) h292 ?_ _ ?_]
      ·rcases w293 with ⟨⟩ | y287
       ·simp -implicitDefEqProofs [h1,c2,c3,c39,c185,c258]
        cases h
        rfl
       ·simp -implicitDefEqProofs [h1,c2,c3,c39,c185,c258]
        rcases iC h with ⟨c288,h⟩ | ⟨c288,h⟩
        ·simp -implicitDefEqProofs [h1,c2,c3,c39,c185,c258,c288]
         cases h
         rfl
        ·simp -implicitDefEqProofs [h1,c2,c3,c39,c185,c258,c288]
         rcases iC h with ⟨c289,h⟩ | ⟨c289,h⟩
         ·simp -implicitDefEqProofs [h1,c2,c3,c39,c185,c258,c288,c289]
          cases h
          rfl
         ·simp -implicitDefEqProofs [h1,c2,c3,c39,c185,c258,c288,c289]
          rcases iC h with ⟨c290,h⟩ | ⟨c290,h⟩
          ·simp -implicitDefEqProofs [h1,c2,c3,c39,c185,c258,c288,c289,c290]
           rcases iC h with ⟨c291,h⟩ | ⟨c291,h⟩
           ·simp -implicitDefEqProofs [h1,c2,c3,c39,c185,c258,c288,c289,c290,c291]
            cases h
            rfl
           ·simp -implicitDefEqProofs [h1,c2,c3,c39,c185,c258,c288,c289,c290,c291]
            cases h
            rfl
          ·simp -implicitDefEqProofs [h1,c2,c3,c39,c185,c258,c288,c289,c290]
           cases h
           rfl
      ·clear h292 h;rintro⟨x279,x280⟩ y L res h hL hR;unfold ref01_Long_B7 at h;simp -implicitDefEqProofs
       rcases iC h with ⟨c281,h⟩ | ⟨c281,h⟩
       ·simp -implicitDefEqProofs [c281]
        rcases iC h with ⟨c282,h⟩ | ⟨c282,h⟩
        ·simp -implicitDefEqProofs [c281,c282]
         cases h
         exact hR _ rfl
        ·simp -implicitDefEqProofs [c281,c282];obtain⟨v283,h284,h⟩:=bS h;simp -implicitDefEqProofs [c281,c282,h284]
         rcases iC h with ⟨c285,h⟩ | ⟨c285,h⟩
         ·simp -implicitDefEqProofs [c281,c282,h284,c285]
          cases h
          exact hR _ rfl
         ·simp -implicitDefEqProofs [c281,c282,h284,c285]
          rcases iC h with ⟨c286,h⟩ | ⟨c286,h⟩
          ·simp -implicitDefEqProofs [c281,c282,h284,c285,c286]
           cases h
           exact hR _ rfl
          ·simp -implicitDefEqProofs [c281,c282,h284,c285,c286]
           cases h
           exact hL _ _ rfl (by simp -implicitDefEqProofs [headOf])
       ·simp -implicitDefEqProofs [c281]
        cases h
        exact hR _ rfl
      ·simp -implicitDefEqProofs [headOf]
 ·simp -implicitDefEqProofs [h1,c2]
  rcases iC h with ⟨c294,h⟩ | ⟨c294,h⟩
  ·simp -implicitDefEqProofs [h1,c2,c294]
   rcases iC h with ⟨c295,h⟩ | ⟨c295,h⟩
   ·simp -implicitDefEqProofs [h1,c2,c294,c295];obtain⟨w330,h329,h⟩:=bS h;rw[eL (ι:=Int × Int) (ρ:=Unit ⊕ Int) (fun p=>match p with | (x316,x317)=>mk 92 [(0,T.c (.lit (.string s))),(1,T.c (.lit (.int .i64 at_))),(5,T.c (.lit (.int .i64 3))),(6,T.c (.lit (.int .i64 x316))),(7,T.c (.lit (.int .i64 2048))),(8,T.c (.lit (.int .i64 x317)))] [] []) (fun r=>match r with | .inl ()=>(Ex.ret,mk 92 [(4,T.c (.lit (.int .i64 0)))] [] []) | .inr y324=>(Ex.exit 0,mk 92 [(5,T.c (.lit (.int .i64 3))),(6,T.c (.lit (.int .i64 y324))),(7,T.c (.lit (.int .i64 2048)))] [] [])) (ref01_Long_B8 s at_) h329 ?_ _ ?_]
    ·rcases w330 with ⟨⟩ | y324
     ·simp -implicitDefEqProofs [h1,c2,c294,c295]
      cases h
      rfl
     ·simp -implicitDefEqProofs [h1,c2,c294,c295]
      rcases iC h with ⟨c325,h⟩ | ⟨c325,h⟩
      ·simp -implicitDefEqProofs [h1,c2,c294,c295,c325]
       cases h
       rfl
      ·simp -implicitDefEqProofs [h1,c2,c294,c295,c325]
       rcases iC h with ⟨c326,h⟩ | ⟨c326,h⟩
       ·simp -implicitDefEqProofs [h1,c2,c294,c295,c325,c326]
        cases h
        rfl
       ·simp -implicitDefEqProofs [h1,c2,c294,c295,c325,c326]
        rcases iC h with ⟨c327,h⟩ | ⟨c327,h⟩
        ·simp -implicitDefEqProofs [h1,c2,c294,c295,c325,c326,c327]
         rcases iC h with ⟨c328,h⟩ | ⟨c328,h⟩
         ·simp -implicitDefEqProofs [h1,c2,c294,c295,c325,c326,c327,c328]
          cases h
          rfl
         ·simp -implicitDefEqProofs [h1,c2,c294,c295,c325,c326,c327,c328]
          cases h
          rfl
        ·simp -implicitDefEqProofs [h1,c2,c294,c295,c325,c326,c327]
         cases h
         rfl
    ·clear h329 h;rintro⟨x316,x317⟩ y L res h hL hR;unfold ref01_Long_B8 at h;simp -implicitDefEqProofs
     rcases iC h with ⟨c318,h⟩ | ⟨c318,h⟩
     ·simp -implicitDefEqProofs [c318]
      rcases iC h with ⟨c319,h⟩ | ⟨c319,h⟩
      ·simp -implicitDefEqProofs [c318,c319]
       cases h
       exact hR _ rfl
      ·simp -implicitDefEqProofs [c318,c319];obtain⟨v320,h321,h⟩:=bS h;simp -implicitDefEqProofs [c318,c319,h321]
       rcases iC h with ⟨c322,h⟩ | ⟨c322,h⟩
       ·simp -implicitDefEqProofs [c318,c319,h321,c322]
        cases h
        exact hR _ rfl
       ·simp -implicitDefEqProofs [c318,c319,h321,c322]
        rcases iC h with ⟨c323,h⟩ | ⟨c323,h⟩
        ·simp -implicitDefEqProofs [c318,c319,h321,c322,c323]
         cases h
         exact hR _ rfl
        ·simp -implicitDefEqProofs [c318,c319,h321,c322,c323]
         cases h
         exact hL _ _ rfl (by simp -implicitDefEqProofs [headOf])
     ·simp -implicitDefEqProofs [c318]
      cases h
      exact hR _ rfl
    ·simp -implicitDefEqProofs [headOf]
   ·simp -implicitDefEqProofs [h1,c2,c294,c295]
    rcases iC h with ⟨c331,h⟩ | ⟨c331,h⟩
    ·simp -implicitDefEqProofs [h1,c2,c294,c295,c331]
     rcases iC h with ⟨c332,h⟩ | ⟨c332,h⟩
     ·simp -implicitDefEqProofs [h1,c2,c294,c295,c331,c332];obtain⟨w367,h366,h⟩:=bS h;rw[eL (ι:=Int × Int) (ρ:=Unit ⊕ Int) (fun p=>match p with | (x353,x354)=>mk 92 [(0,T.c (.lit (.string s))),(1,T.c (.lit (.int .i64 at_))),(5,T.c (.lit (.int .i64 2))),(6,T.c (.lit (.int .i64 x353))),(7,T.c (.lit (.int .i64 128))),(8,T.c (.lit (.int .i64 x354)))] [] []) (fun r=>match r with | .inl ()=>(Ex.ret,mk 92 [(4,T.c (.lit (.int .i64 0)))] [] []) | .inr y361=>(Ex.exit 0,mk 92 [(5,T.c (.lit (.int .i64 2))),(6,T.c (.lit (.int .i64 y361))),(7,T.c (.lit (.int .i64 128)))] [] [])) (ref01_Long_B9 s at_) h366 ?_ _ ?_]
      ·rcases w367 with ⟨⟩ | y361
       ·simp -implicitDefEqProofs [h1,c2,c294,c295,c331,c332]
        cases h
        rfl
       ·simp -implicitDefEqProofs [h1,c2,c294,c295,c331,c332]
        rcases iC h with ⟨c362,h⟩ | ⟨c362,h⟩
        ·simp -implicitDefEqProofs [h1,c2,c294,c295,c331,c332,c362]
         cases h
         rfl
        ·simp -implicitDefEqProofs [h1,c2,c294,c295,c331,c332,c362]
         rcases iC h with ⟨c363,h⟩ | ⟨c363,h⟩
         ·simp -implicitDefEqProofs [h1,c2,c294,c295,c331,c332,c362,c363]
          cases h
          rfl
         ·simp -implicitDefEqProofs [h1,c2,c294,c295,c331,c332,c362,c363]
          rcases iC h with ⟨c364,h⟩ | ⟨c364,h⟩
          ·simp -implicitDefEqProofs [h1,c2,c294,c295,c331,c332,c362,c363,c364]
           rcases iC h with ⟨c365,h⟩ | ⟨c365,h⟩
           ·simp -implicitDefEqProofs [h1,c2,c294,c295,c331,c332,c362,c363,c364,c365]
            cases h
            rfl
           ·simp -implicitDefEqProofs [h1,c2,c294,c295,c331,c332,c362,c363,c364,c365]
            cases h
            rfl
          ·simp -implicitDefEqProofs [h1,c2,c294,c295,c331,c332,c362,c363,c364]
           cases h
           rfl
      ·clear h366 h;rintro⟨x353,x354⟩ y L res h hL hR;unfold ref01_Long_B9 at h;simp -implicitDefEqProofs
       rcases iC h with ⟨c355,h⟩ | ⟨c355,h⟩
       ·simp -implicitDefEqProofs [c355]
        rcases iC h with ⟨c356,h⟩ | ⟨c356,h⟩
        ·simp -implicitDefEqProofs [c355,c356]
         cases h
         exact hR _ rfl
        ·simp -implicitDefEqProofs [c355,c356];obtain⟨v357,h358,h⟩:=bS h;simp -implicitDefEqProofs [c355,c356,h358]
         rcases iC h with ⟨c359,h⟩ | ⟨c359,h⟩
         ·simp -implicitDefEqProofs [c355,c356,h358,c359]
          cases h
          exact hR _ rfl
         ·simp -implicitDefEqProofs [c355,c356,h358,c359]
          rcases iC h with ⟨c360,h⟩ | ⟨c360,h⟩
          ·simp -implicitDefEqProofs [c355,c356,h358,c359,c360]
           cases h
           exact hR _ rfl
          ·simp -implicitDefEqProofs [c355,c356,h358,c359,c360]
           cases h
           exact hL _ _ rfl (by simp -implicitDefEqProofs [headOf])
       ·simp -implicitDefEqProofs [c355]
        cases h
        exact hR _ rfl
      ·simp -implicitDefEqProofs [headOf]
     ·simp -implicitDefEqProofs [h1,c2,c294,c295,c331,c332]
      rcases iC h with ⟨c368,h⟩ | ⟨c368,h⟩
      ·simp -implicitDefEqProofs [h1,c2,c294,c295,c331,c332,c368]
       cases h
       rfl
      ·simp -implicitDefEqProofs [h1,c2,c294,c295,c331,c332,c368];obtain⟨w403,h402,h⟩:=bS h;rw[eL (ι:=Int × Int) (ρ:=Unit ⊕ Int) (fun p=>match p with | (x389,x390)=>mk 92 [(0,T.c (.lit (.string s))),(1,T.c (.lit (.int .i64 at_))),(5,T.c (.lit (.int .i64 1))),(6,T.c (.lit (.int .i64 x389))),(7,T.c (.lit (.int .i64 0))),(8,T.c (.lit (.int .i64 x390)))] [] []) (fun r=>match r with | .inl ()=>(Ex.ret,mk 92 [(4,T.c (.lit (.int .i64 0)))] [] []) | .inr y397=>(Ex.exit 0,mk 92 [(5,T.c (.lit (.int .i64 1))),(6,T.c (.lit (.int .i64 y397))),(7,T.c (.lit (.int .i64 0)))] [] [])) (ref01_Long_B10 s at_) h402 ?_ _ ?_]
       ·rcases w403 with ⟨⟩ | y397
        ·simp -implicitDefEqProofs [h1,c2,c294,c295,c331,c332,c368]
         cases h
         rfl
        ·simp -implicitDefEqProofs [h1,c2,c294,c295,c331,c332,c368]
         rcases iC h with ⟨c398,h⟩ | ⟨c398,h⟩
         ·simp -implicitDefEqProofs [h1,c2,c294,c295,c331,c332,c368,c398]
          cases h
          rfl
         ·simp -implicitDefEqProofs [h1,c2,c294,c295,c331,c332,c368,c398]
          rcases iC h with ⟨c399,h⟩ | ⟨c399,h⟩
          ·simp -implicitDefEqProofs [h1,c2,c294,c295,c331,c332,c368,c398,c399]
           cases h
           rfl
          ·simp -implicitDefEqProofs [h1,c2,c294,c295,c331,c332,c368,c398,c399]
           rcases iC h with ⟨c400,h⟩ | ⟨c400,h⟩
           ·simp -implicitDefEqProofs [h1,c2,c294,c295,c331,c332,c368,c398,c399,c400]
            rcases iC h with ⟨c401,h⟩ | ⟨c401,h⟩
            ·simp -implicitDefEqProofs [h1,c2,c294,c295,c331,c332,c368,c398,c399,c400,c401]
             cases h
             rfl
            ·simp -implicitDefEqProofs [h1,c2,c294,c295,c331,c332,c368,c398,c399,c400,c401]
             cases h
             rfl
           ·simp -implicitDefEqProofs [h1,c2,c294,c295,c331,c332,c368,c398,c399,c400]
            cases h
            rfl
       ·clear h402 h;rintro⟨x389,x390⟩ y L res h hL hR;unfold ref01_Long_B10 at h;simp -implicitDefEqProofs
        rcases iC h with ⟨c391,h⟩ | ⟨c391,h⟩
        ·simp -implicitDefEqProofs [c391]
         rcases iC h with ⟨c392,h⟩ | ⟨c392,h⟩
         ·simp -implicitDefEqProofs [c391,c392]
          cases h
          exact hR _ rfl
         ·simp -implicitDefEqProofs [c391,c392];obtain⟨v393,h394,h⟩:=bS h;simp -implicitDefEqProofs [c391,c392,h394]
          rcases iC h with ⟨c395,h⟩ | ⟨c395,h⟩
          ·simp -implicitDefEqProofs [c391,c392,h394,c395]
           cases h
           exact hR _ rfl
          ·simp -implicitDefEqProofs [c391,c392,h394,c395]
           rcases iC h with ⟨c396,h⟩ | ⟨c396,h⟩
           ·simp -implicitDefEqProofs [c391,c392,h394,c395,c396]
            cases h
            exact hR _ rfl
           ·simp -implicitDefEqProofs [c391,c392,h394,c395,c396]
            cases h
            exact hL _ _ rfl (by simp -implicitDefEqProofs [headOf])
        ·simp -implicitDefEqProofs [c391]
         cases h
         exact hR _ rfl
       ·simp -implicitDefEqProofs [headOf]
    ·simp -implicitDefEqProofs [h1,c2,c294,c295,c331]
     rcases iC h with ⟨c404,h⟩ | ⟨c404,h⟩
     ·simp -implicitDefEqProofs [h1,c2,c294,c295,c331,c404]
      cases h
      rfl
     ·simp -implicitDefEqProofs [h1,c2,c294,c295,c331,c404];obtain⟨w439,h438,h⟩:=bS h;rw[eL (ι:=Int × Int) (ρ:=Unit ⊕ Int) (fun p=>match p with | (x425,x426)=>mk 92 [(0,T.c (.lit (.string s))),(1,T.c (.lit (.int .i64 at_))),(5,T.c (.lit (.int .i64 1))),(6,T.c (.lit (.int .i64 x425))),(7,T.c (.lit (.int .i64 0))),(8,T.c (.lit (.int .i64 x426)))] [] []) (fun r=>match r with | .inl ()=>(Ex.ret,mk 92 [(4,T.c (.lit (.int .i64 0)))] [] []) | .inr y433=>(Ex.exit 0,mk 92 [(5,T.c (.lit (.int .i64 1))),(6,T.c (.lit (.int .i64 y433))),(7,T.c (.lit (.int .i64 0)))] [] [])) (ref01_Long_B11 s at_) h438 ?_ _ ?_]
      ·rcases w439 with ⟨⟩ | y433
       ·simp -implicitDefEqProofs [h1,c2,c294,c295,c331,c404]
        cases h
        rfl
       ·simp -implicitDefEqProofs [h1,c2,c294,c295,c331,c404]
        rcases iC h with ⟨c434,h⟩ | ⟨c434,h⟩
        ·simp -implicitDefEqProofs [h1,c2,c294,c295,c331,c404,c434]
         cases h
         rfl
        ·simp -implicitDefEqProofs [h1,c2,c294,c295,c331,c404,c434]
         rcases iC h with ⟨c435,h⟩ | ⟨c435,h⟩
         ·simp -implicitDefEqProofs [h1,c2,c294,c295,c331,c404,c434,c435]
          cases h
          rfl
         ·simp -implicitDefEqProofs [h1,c2,c294,c295,c331,c404,c434,c435]
          rcases iC h with ⟨c436,h⟩ | ⟨c436,h⟩
          ·simp -implicitDefEqProofs [h1,c2,c294,c295,c331,c404,c434,c435,c436]
           rcases iC h with ⟨c437,h⟩ | ⟨c437,h⟩
           ·simp -implicitDefEqProofs [h1,c2,c294,c295,c331,c404,c434,c435,c436,c437]
            cases h
            rfl
           ·simp -implicitDefEqProofs [h1,c2,c294,c295,c331,c404,c434,c435,c436,c437]
            cases h
            rfl
          ·simp -implicitDefEqProofs [h1,c2,c294,c295,c331,c404,c434,c435,c436]
           cases h
           rfl
      ·clear h438 h;rintro⟨x425,x426⟩ y L res h hL hR;unfold ref01_Long_B11 at h;simp -implicitDefEqProofs
       rcases iC h with ⟨c427,h⟩ | ⟨c427,h⟩
       ·simp -implicitDefEqProofs [c427]
        rcases iC h with ⟨c428,h⟩ | ⟨c428,h⟩
        ·simp -implicitDefEqProofs [c427,c428]
         cases h
         exact hR _ rfl
        ·simp -implicitDefEqProofs [c427,c428];obtain⟨v429,h430,h⟩:=bS h;simp -implicitDefEqProofs [c427,c428,h430]
         rcases iC h with ⟨c431,h⟩ | ⟨c431,h⟩
         ·simp -implicitDefEqProofs [c427,c428,h430,c431]
          cases h
          exact hR _ rfl
         ·simp -implicitDefEqProofs [c427,c428,h430,c431]
          rcases iC h with ⟨c432,h⟩ | ⟨c432,h⟩
          ·simp -implicitDefEqProofs [c427,c428,h430,c431,c432]
           cases h
           exact hR _ rfl
          ·simp -implicitDefEqProofs [c427,c428,h430,c431,c432]
           cases h
           exact hL _ _ rfl (by simp -implicitDefEqProofs [headOf])
       ·simp -implicitDefEqProofs [c427]
        cases h
        exact hR _ rfl
      ·simp -implicitDefEqProofs [headOf]
  ·simp -implicitDefEqProofs [h1,c2,c294]
   rcases iC h with ⟨c440,h⟩ | ⟨c440,h⟩
   ·simp -implicitDefEqProofs [h1,c2,c294,c440]
    rcases iC h with ⟨c441,h⟩ | ⟨c441,h⟩
    ·simp -implicitDefEqProofs [h1,c2,c294,c440,c441];obtain⟨w476,h475,h⟩:=bS h;rw[eL (ι:=Int × Int) (ρ:=Unit ⊕ Int) (fun p=>match p with | (x462,x463)=>mk 92 [(0,T.c (.lit (.string s))),(1,T.c (.lit (.int .i64 at_))),(5,T.c (.lit (.int .i64 2))),(6,T.c (.lit (.int .i64 x462))),(7,T.c (.lit (.int .i64 128))),(8,T.c (.lit (.int .i64 x463)))] [] []) (fun r=>match r with | .inl ()=>(Ex.ret,mk 92 [(4,T.c (.lit (.int .i64 0)))] [] []) | .inr y470=>(Ex.exit 0,mk 92 [(5,T.c (.lit (.int .i64 2))),(6,T.c (.lit (.int .i64 y470))),(7,T.c (.lit (.int .i64 128)))] [] [])) (ref01_Long_B12 s at_) h475 ?_ _ ?_]
     ·rcases w476 with ⟨⟩ | y470
      ·simp -implicitDefEqProofs [h1,c2,c294,c440,c441]
       cases h
       rfl
      ·simp -implicitDefEqProofs [h1,c2,c294,c440,c441]
       rcases iC h with ⟨c471,h⟩ | ⟨c471,h⟩
       ·simp -implicitDefEqProofs [h1,c2,c294,c440,c441,c471]
        cases h
        rfl
       ·simp -implicitDefEqProofs [h1,c2,c294,c440,c441,c471]
        rcases iC h with ⟨c472,h⟩ | ⟨c472,h⟩
        ·simp -implicitDefEqProofs [h1,c2,c294,c440,c441,c471,c472]
         cases h
         rfl
        ·simp -implicitDefEqProofs [h1,c2,c294,c440,c441,c471,c472]
         rcases iC h with ⟨c473,h⟩ | ⟨c473,h⟩
         ·simp -implicitDefEqProofs [h1,c2,c294,c440,c441,c471,c472,c473]
          rcases iC h with ⟨c474,h⟩ | ⟨c474,h⟩
          ·simp -implicitDefEqProofs [h1,c2,c294,c440,c441,c471,c472,c473,c474]
           cases h
           rfl
          ·simp -implicitDefEqProofs [h1,c2,c294,c440,c441,c471,c472,c473,c474]
           cases h
           rfl
         ·simp -implicitDefEqProofs [h1,c2,c294,c440,c441,c471,c472,c473]
          cases h
          rfl
     ·clear h475 h;rintro⟨x462,x463⟩ y L res h hL hR;unfold ref01_Long_B12 at h;simp -implicitDefEqProofs
      rcases iC h with ⟨c464,h⟩ | ⟨c464,h⟩
      ·simp -implicitDefEqProofs [c464]
       rcases iC h with ⟨c465,h⟩ | ⟨c465,h⟩
       ·simp -implicitDefEqProofs [c464,c465]
        cases h
        exact hR _ rfl
       ·simp -implicitDefEqProofs [c464,c465];obtain⟨v466,h467,h⟩:=bS h;simp -implicitDefEqProofs [c464,c465,h467]
        rcases iC h with ⟨c468,h⟩ | ⟨c468,h⟩
        ·simp -implicitDefEqProofs [c464,c465,h467,c468]
         cases h
         exact hR _ rfl
        ·simp -implicitDefEqProofs [c464,c465,h467,c468]
         rcases iC h with ⟨c469,h⟩ | ⟨c469,h⟩
         ·simp -implicitDefEqProofs [c464,c465,h467,c468,c469]
          cases h
          exact hR _ rfl
         ·simp -implicitDefEqProofs [c464,c465,h467,c468,c469]
          cases h
          exact hL _ _ rfl (by simp -implicitDefEqProofs [headOf])
      ·simp -implicitDefEqProofs [c464]
       cases h
       exact hR _ rfl
     ·simp -implicitDefEqProofs [headOf]
    ·simp -implicitDefEqProofs [h1,c2,c294,c440,c441]
     rcases iC h with ⟨c477,h⟩ | ⟨c477,h⟩
     ·simp -implicitDefEqProofs [h1,c2,c294,c440,c441,c477]
      cases h
      rfl
     ·simp -implicitDefEqProofs [h1,c2,c294,c440,c441,c477];obtain⟨w512,h511,h⟩:=bS h;rw[eL (ι:=Int × Int) (ρ:=Unit ⊕ Int) (fun p=>match p with | (x498,x499)=>mk 92 [(0,T.c (.lit (.string s))),(1,T.c (.lit (.int .i64 at_))),(5,T.c (.lit (.int .i64 1))),(6,T.c (.lit (.int .i64 x498))),(7,T.c (.lit (.int .i64 0))),(8,T.c (.lit (.int .i64 x499)))] [] []) (fun r=>match r with | .inl ()=>(Ex.ret,mk 92 [(4,T.c (.lit (.int .i64 0)))] [] []) | .inr y506=>(Ex.exit 0,mk 92 [(5,T.c (.lit (.int .i64 1))),(6,T.c (.lit (.int .i64 y506))),(7,T.c (.lit (.int .i64 0)))] [] [])) (ref01_Long_B13 s at_) h511 ?_ _ ?_]
      ·rcases w512 with ⟨⟩ | y506
       ·simp -implicitDefEqProofs [h1,c2,c294,c440,c441,c477]
        cases h
        rfl
       ·simp -implicitDefEqProofs [h1,c2,c294,c440,c441,c477]
        rcases iC h with ⟨c507,h⟩ | ⟨c507,h⟩
        ·simp -implicitDefEqProofs [h1,c2,c294,c440,c441,c477,c507]
         cases h
         rfl
        ·simp -implicitDefEqProofs [h1,c2,c294,c440,c441,c477,c507]
         rcases iC h with ⟨c508,h⟩ | ⟨c508,h⟩
         ·simp -implicitDefEqProofs [h1,c2,c294,c440,c441,c477,c507,c508]
          cases h
          rfl
         ·simp -implicitDefEqProofs [h1,c2,c294,c440,c441,c477,c507,c508]
          rcases iC h with ⟨c509,h⟩ | ⟨c509,h⟩
          ·simp -implicitDefEqProofs [h1,c2,c294,c440,c441,c477,c507,c508,c509]
           rcases iC h with ⟨c510,h⟩ | ⟨c510,h⟩
           ·simp -implicitDefEqProofs [h1,c2,c294,c440,c441,c477,c507,c508,c509,c510]
            cases h
            rfl
           ·simp -implicitDefEqProofs [h1,c2,c294,c440,c441,c477,c507,c508,c509,c510]
            cases h
            rfl
          ·simp -implicitDefEqProofs [h1,c2,c294,c440,c441,c477,c507,c508,c509]
           cases h
           rfl
      ·clear h511 h;rintro⟨x498,x499⟩ y L res h hL hR;unfold ref01_Long_B13 at h;simp -implicitDefEqProofs
       rcases iC h with ⟨c500,h⟩ | ⟨c500,h⟩
       ·simp -implicitDefEqProofs [c500]
        rcases iC h with ⟨c501,h⟩ | ⟨c501,h⟩
        ·simp -implicitDefEqProofs [c500,c501]
         cases h
         exact hR _ rfl
        ·simp -implicitDefEqProofs [c500,c501];obtain⟨v502,h503,h⟩:=bS h;simp -implicitDefEqProofs [c500,c501,h503]
         rcases iC h with ⟨c504,h⟩ | ⟨c504,h⟩
         ·simp -implicitDefEqProofs [c500,c501,h503,c504]
          cases h
          exact hR _ rfl
         ·simp -implicitDefEqProofs [c500,c501,h503,c504]
          rcases iC h with ⟨c505,h⟩ | ⟨c505,h⟩
          ·simp -implicitDefEqProofs [c500,c501,h503,c504,c505]
           cases h
           exact hR _ rfl
          ·simp -implicitDefEqProofs [c500,c501,h503,c504,c505]
           cases h
           exact hL _ _ rfl (by simp -implicitDefEqProofs [headOf])
       ·simp -implicitDefEqProofs [c500]
        cases h
        exact hR _ rfl
      ·simp -implicitDefEqProofs [headOf]
   ·simp -implicitDefEqProofs [h1,c2,c294,c440]
    rcases iC h with ⟨c513,h⟩ | ⟨c513,h⟩
    ·simp -implicitDefEqProofs [h1,c2,c294,c440,c513]
     cases h
     rfl
    ·simp -implicitDefEqProofs [h1,c2,c294,c440,c513];obtain⟨w548,h547,h⟩:=bS h;rw[eL (ι:=Int × Int) (ρ:=Unit ⊕ Int) (fun p=>match p with | (x534,x535)=>mk 92 [(0,T.c (.lit (.string s))),(1,T.c (.lit (.int .i64 at_))),(5,T.c (.lit (.int .i64 1))),(6,T.c (.lit (.int .i64 x534))),(7,T.c (.lit (.int .i64 0))),(8,T.c (.lit (.int .i64 x535)))] [] []) (fun r=>match r with | .inl ()=>(Ex.ret,mk 92 [(4,T.c (.lit (.int .i64 0)))] [] []) | .inr y542=>(Ex.exit 0,mk 92 [(5,T.c (.lit (.int .i64 1))),(6,T.c (.lit (.int .i64 y542))),(7,T.c (.lit (.int .i64 0)))] [] [])) (ref01_Long_B14 s at_) h547 ?_ _ ?_]
     ·rcases w548 with ⟨⟩ | y542
      ·simp -implicitDefEqProofs [h1,c2,c294,c440,c513]
       cases h
       rfl
      ·simp -implicitDefEqProofs [h1,c2,c294,c440,c513]
       rcases iC h with ⟨c543,h⟩ | ⟨c543,h⟩
       ·simp -implicitDefEqProofs [h1,c2,c294,c440,c513,c543]
        cases h
        rfl
       ·simp -implicitDefEqProofs [h1,c2,c294,c440,c513,c543]
        rcases iC h with ⟨c544,h⟩ | ⟨c544,h⟩
        ·simp -implicitDefEqProofs [h1,c2,c294,c440,c513,c543,c544]
         cases h
         rfl
        ·simp -implicitDefEqProofs [h1,c2,c294,c440,c513,c543,c544]
         rcases iC h with ⟨c545,h⟩ | ⟨c545,h⟩
         ·simp -implicitDefEqProofs [h1,c2,c294,c440,c513,c543,c544,c545]
          rcases iC h with ⟨c546,h⟩ | ⟨c546,h⟩
          ·simp -implicitDefEqProofs [h1,c2,c294,c440,c513,c543,c544,c545,c546]
           cases h
           rfl
          ·simp -implicitDefEqProofs [h1,c2,c294,c440,c513,c543,c544,c545,c546]
           cases h
           rfl
         ·simp -implicitDefEqProofs [h1,c2,c294,c440,c513,c543,c544,c545]
          cases h
          rfl
     ·clear h547 h;rintro⟨x534,x535⟩ y L res h hL hR;unfold ref01_Long_B14 at h;simp -implicitDefEqProofs
      rcases iC h with ⟨c536,h⟩ | ⟨c536,h⟩
      ·simp -implicitDefEqProofs [c536]
       rcases iC h with ⟨c537,h⟩ | ⟨c537,h⟩
       ·simp -implicitDefEqProofs [c536,c537]
        cases h
        exact hR _ rfl
       ·simp -implicitDefEqProofs [c536,c537];obtain⟨v538,h539,h⟩:=bS h;simp -implicitDefEqProofs [c536,c537,h539]
        rcases iC h with ⟨c540,h⟩ | ⟨c540,h⟩
        ·simp -implicitDefEqProofs [c536,c537,h539,c540]
         cases h
         exact hR _ rfl
        ·simp -implicitDefEqProofs [c536,c537,h539,c540]
         rcases iC h with ⟨c541,h⟩ | ⟨c541,h⟩
         ·simp -implicitDefEqProofs [c536,c537,h539,c540,c541]
          cases h
          exact hR _ rfl
         ·simp -implicitDefEqProofs [c536,c537,h539,c540,c541]
          cases h
          exact hL _ _ rfl (by simp -implicitDefEqProofs [headOf])
      ·simp -implicitDefEqProofs [c536]
       cases h
       exact hR _ rfl
     ·simp -implicitDefEqProofs [headOf]
end Go.Proofs.YtadllpehekphmaaDoor

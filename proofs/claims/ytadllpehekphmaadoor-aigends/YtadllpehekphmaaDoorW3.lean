/- What the interpreter comes to is what the plain functions come to. No condition. -/
import Derived.Test.YtadllpehekphmaaDoorW2
set_option linter.unusedSimpArgs false
set_option linter.unusedVariables false
set_option maxRecDepth 20000
set_option maxHeartbeats 4000000
namespace Go.Proofs.YtadllpehekphmaaDoor
open Go.Vabs Go.Vid
theorem w_ref01_IsName (s:ByteArray)(r:Bool)(h:ref01_IsName s=some r):ev 31 [T.c (.lit (.string s))]=some (T.c (.lit (.bool r)),[]):=by
 refine ev_run' (kp:=k31) (us:=[4]) fn31 rfl rfl rfl rfl rfl (by kernel_rfl) rfl rfl (by simp) ?_;unfold ref01_IsName at h;simp;obtain⟨w34,h33,h⟩:=bS h;rw[eL (ι:=Int × Int) (ρ:=Unit ⊕ Int) (fun p=>match p with | (x21,x22)=>mk 38 [(0,T.c (.lit (.string s))),(3,T.c (.lit (.int .i64 x21))),(4,T.c (.lit (.int .i64 x22)))] [] []) (fun r=>match r with | .inl ()=>(Ex.ret,mk 38 [(2,T.c (.lit (.bool false)))] [] []) | .inr y31=>(Ex.exit 0,mk 38 [(3,T.c (.lit (.int .i64 y31)))] [] [])) (ref01_IsName_B0 s) h33 ?_ _ ?_]
 ·rcases w34 with ⟨⟩ | y31
  ·simp
   cases h
   rfl
  ·simp
   rcases iC h with ⟨c32,h⟩ | ⟨c32,h⟩
   ·simp[c32]
    cases h
    rfl
   ·simp[c32]
    cases h
    rfl
 ·clear h33 h;rintro⟨x21,x22⟩ y L res h hL hR;unfold ref01_IsName_B0 at h;simp
  rcases iC h with ⟨c23,h⟩ | ⟨c23,h⟩
  ·simp[c23];obtain⟨v24,h25',h⟩:=bS h;have h25:ev 49 [T.c (.lit (.string s)),T.c (.lit (.int .i64 x22))]=some (T.c (.lit (.int .i64 v24)),[]):=w_ref01_Long _ _ _ h25';simp[c23,h25]
   rcases iC h with ⟨c26,h⟩ | ⟨c26,h⟩
   ·simp[c23,h25,c26]
    cases h
    exact hR _ rfl
   ·simp[c23,h25,c26];obtain⟨v27,h28,h⟩:=bS h;simp[c23,h25,c26,h28]
    rcases iC h with ⟨c29,h⟩ | ⟨c29,h⟩
    ·simp[c23,h25,c26,h28,c29]
     cases h
     exact hR _ rfl
    ·simp[c23,h25,c26,h28,c29]
     rcases iC h with ⟨c30,h⟩ | ⟨c30,h⟩
     ·simp[c23,h25,c26,h28,c29,c30]
      cases h
      exact hR _ rfl
     ·simp[c23,h25,c26,h28,c29,c30]
      cases h
      exact hL _ _ rfl (by simp[headOf])
  ·simp[c23]
   cases h
   exact hR _ rfl
 ·simp[headOf]
theorem w_ref06_kind (c:Int)(r:Int)(h:ref06_kind c=some r):ev 33 [T.c (.lit (.int IntKind.u8 c))]=some (T.c (.lit (.int .i64 r)),[]):=by
 refine ev_run' (kp:=k33) (us:=[3]) fn33 rfl rfl rfl rfl rfl (by kernel_rfl) rfl rfl (by simp) ?_;unfold ref06_kind at h;simp;obtain⟨w22,h21,h⟩:=bS h;rw[eL (ι:=Int) (ρ:=Int ⊕ Unit) (fun p=>match p with | x14=>mk 17 [(0,T.c (.lit (.int IntKind.u8 c))),(3,T.c (C.ref 5 0 (lenN [105,108,111,98,99]))),(4,T.c (.lit (.int .i64 x14)))] [(5,rowO 5 1 byteF [105,108,111,98,99])] []) (fun r=>match r with | .inl y20=>(Ex.ret,mk 17 [(2,T.c (.lit (.int .i64 y20)))] [] []) | .inr ()=>(Ex.exit 0,mk 17 [] [] [])) (ref06_kind_B0 c) h21 ?_ _ ?_]
 ·rcases w22 with y20 | ⟨⟩
  ·simp
   cases h
   rfl
  ·simp
   cases h
   rfl
 ·clear h21 h;rintro x14 y L res h hL hR;unfold ref06_kind_B0 at h;simp
  rcases iC h with ⟨c15,h⟩ | ⟨c15,h⟩
  ·simp[c15]
   rcases iC h with ⟨c16,h⟩ | ⟨c16,h⟩
   ·simp[c15,c16];obtain⟨v17,h18,h⟩:=bS h;simp[c15,c16,h18]
    rcases iC h with ⟨c19,h⟩ | ⟨c19,h⟩
    ·simp[c15,c16,h18,c19]
     cases h
     exact hR _ rfl
    ·simp[c15,c16,h18,c19]
     cases h
     exact hL _ _ rfl (by simp[headOf])
   ·simp[c15,c16]
    cases h
  ·simp[c15]
   cases h
   exact hR _ rfl
 ·simp[headOf]
theorem w_ref06_many (a:Aig)(k:Int)(r:Int)(h:ref06_many a k=some r):ev 32 [T.agg (Aig.cells a),T.c (.lit (.int .i64 k))]=some (T.c (.lit (.int .i64 r)),[]):=by
 refine ev_run' (kp:=k32) (us:=[3]) fn32 rfl rfl rfl rfl rfl (by kernel_rfl) rfl rfl (by simp) ?_;unfold ref06_many at h;simp
 rcases iC h with ⟨c0,h⟩ | ⟨c0,h⟩
 ·simp[c0]
  cases h
  rfl
 ·simp[c0]
  rcases iC h with ⟨c1,h⟩ | ⟨c1,h⟩
  ·simp[c0,c1]
   cases h
   rfl
  ·simp[c0,c1]
   rcases iC h with ⟨c2,h⟩ | ⟨c2,h⟩
   ·simp[c0,c1,c2]
    cases h
    rfl
   ·simp[c0,c1,c2]
    rcases iC h with ⟨c3,h⟩ | ⟨c3,h⟩
    ·simp[c0,c1,c2,c3]
     cases h
     rfl
    ·simp[c0,c1,c2,c3]
     rcases iC h with ⟨c4,h⟩ | ⟨c4,h⟩
     ·simp[c0,c1,c2,c3,c4]
      cases h
      rfl
     ·simp[c0,c1,c2,c3,c4]
      cases h
      rfl
theorem w_ref06_Behind (x:Name)(y_:Name)(r:Bool)(h:ref06_Behind x y_=some r):ev 22 [T.agg (Name.cells x),T.agg (Name.cells y_)]=some (T.c (.lit (.bool r)),[]):=by
 refine ev_run' (kp:=k22) (us:=[4]) fn22 rfl rfl rfl rfl rfl (by kernel_rfl) rfl rfl (by simp) ?_;unfold ref06_Behind at h;simp;obtain⟨v0,h1',h⟩:=bS h;have h1:ev 33 [T.c (.lit (.int IntKind.u8 x.kind))]=some (T.c (.lit (.int .i64 v0)),[]):=w_ref06_kind _ _ h1';simp[h1];obtain⟨v2,h3',h⟩:=bS h;have h3:ev 33 [T.c (.lit (.int IntKind.u8 y_.kind))]=some (T.c (.lit (.int .i64 v2)),[]):=w_ref06_kind _ _ h3';simp[h1,h3]
 rcases iC h with ⟨c4,h⟩ | ⟨c4,h⟩
 ·simp[h1,h3,c4]
  cases h
  rfl
 ·simp[h1,h3,c4]
  rcases iC h with ⟨c5,h⟩ | ⟨c5,h⟩
  ·simp[h1,h3,c4,c5]
   cases h
   rfl
  ·simp[h1,h3,c4,c5]
   cases h
   rfl
theorem w_ref06_lits (l:List Int)(v:Int)(r:Bool)(h:ref06_lits l v=some r):ev 30 [T.c (sls 1 intF l),T.c (.lit (.int .i64 v))]=some (T.c (.lit (.bool r)),[]):=by
 refine ev_run' (kp:=k30) (us:=[4]) fn30 rfl rfl rfl rfl rfl (by kernel_rfl) rfl rfl (by simp) ?_;unfold ref06_lits at h;simp;obtain⟨w21,h20,h⟩:=bS h;rw[eL (ι:=Int) (ρ:=Unit ⊕ Unit) (fun p=>match p with | x14=>mk 30 [(0,T.c (sls 1 intF l)),(1,T.c (.lit (.int .i64 v))),(5,T.c (.lit (.int .i64 x14)))] [] []) (fun r=>match r with | .inl ()=>(Ex.ret,mk 30 [(4,T.c (.lit (.bool false)))] [] []) | .inr ()=>(Ex.exit 0,mk 30 [(0,T.c (sls 1 intF l))] [] [])) (ref06_lits_B0 l v) h20 ?_ _ ?_]
 ·rcases w21 with ⟨⟩ | ⟨⟩
  ·simp
   cases h
   rfl
  ·simp
   cases h
   rfl
 ·clear h20 h;rintro x14 y L res h hL hR;unfold ref06_lits_B0 at h;simp
  rcases iC h with ⟨c15,h⟩ | ⟨c15,h⟩
  ·simp[c15];obtain⟨v16,h17,h⟩:=bS h;simp[c15,h17]
   rcases iC h with ⟨c18,h⟩ | ⟨c18,h⟩
   ·simp[c15,h17,c18]
    cases h
    exact hR _ rfl
   ·simp[c15,h17,c18]
    rcases iC h with ⟨c19,h⟩ | ⟨c19,h⟩
    ·simp[c15,h17,c18,c19]
     cases h
     exact hR _ rfl
    ·simp[c15,h17,c18,c19]
     cases h
     exact hL _ _ rfl (by simp[headOf])
  ·simp[c15]
   cases h
   exact hR _ rfl
 ·simp[headOf]
theorem w_ref06_Vars (a:Aig)(r:Int)(h:ref06_Vars a=some r):ev 18 [T.agg (Aig.cells a)]=some (T.c (.lit (.int .i64 r)),[]):=by
 refine ev_run' (kp:=k18) (us:=[3]) fn18 rfl rfl rfl rfl rfl (by kernel_rfl) rfl rfl (by simp) ?_;unfold ref06_Vars at h;simp
 cases h
 rfl
theorem w_ref06_Right (a:Aig)(r:Bool)(h:ref06_Right a=some r):ev 13 [T.agg (Aig.cells a)]=some (T.c (.lit (.bool r)),[]):=by
 refine ev_run' (kp:=k13) (us:=[4]) fn13 rfl rfl rfl rfl rfl (by kernel_rfl) rfl rfl (by simp) ?_;unfold ref06_Right at h;simp
 rcases iC h with ⟨c0,h⟩ | ⟨c0,h⟩
 ·simp[c0]
  cases h
  rfl
 ·simp[c0]
  rcases iC h with ⟨c1,h⟩ | ⟨c1,h⟩
  ·simp[c0,c1]
   cases h
   rfl
  ·simp[c0,c1]
   rcases iC h with ⟨c2,h⟩ | ⟨c2,h⟩
   ·simp[c0,c1,c2]
    cases h
    rfl
   ·simp[c0,c1,c2]
    rcases iC h with ⟨c3,h⟩ | ⟨c3,h⟩
    ·simp[c0,c1,c2,c3]
     cases h
     rfl
    ·simp[c0,c1,c2,c3];obtain⟨v4,h5',h⟩:=bS h;have h5:ev 18 [T.agg a.cells]=some (T.c (.lit (.int .i64 v4)),[]):=w_ref06_Vars _ _ h5';simp[c0,c1,c2,c3,h5]
     rcases iC h with ⟨c6,h⟩ | ⟨c6,h⟩
     ·simp[c0,c1,c2,c3,h5,c6]
      cases h
      rfl
     ·simp[c0,c1,c2,c3,h5,c6]
      rcases iC h with ⟨c7,h⟩ | ⟨c7,h⟩
      ·simp[c0,c1,c2,c3,h5,c6,c7]
       cases h
       rfl
      ·simp[c0,c1,c2,c3,h5,c6,c7];obtain⟨v8,h9',h⟩:=bS h;have h9:ev 30 [T.c (sls 1 intF a.outs),T.c (.lit (.int .i64 v4))]=some (T.c (.lit (.bool v8)),[]):=w_ref06_lits _ _ _ h9';simp[c0,c1,c2,c3,h5,c6,c7,h9];obtain⟨v10,h11',h⟩:=bS h;have h11:ev 30 [T.c (sls 1 intF a.bad),T.c (.lit (.int .i64 v4))]=some (T.c (.lit (.bool v10)),[]):=w_ref06_lits _ _ _ h11';simp[c0,c1,c2,c3,h5,c6,c7,h9,h11];obtain⟨v12,h13',h⟩:=bS h;have h13:ev 30 [T.c (sls 1 intF a.con),T.c (.lit (.int .i64 v4))]=some (T.c (.lit (.bool v12)),[]):=w_ref06_lits _ _ _ h13';simp[c0,c1,c2,c3,h5,c6,c7,h9,h11,h13]
       rcases iC h with ⟨c14,h⟩ | ⟨c14,h⟩
       ·simp[c0,c1,c2,c3,h5,c6,c7,h9,h11,h13,c14]
        rcases iC h with ⟨c15,h⟩ | ⟨c15,h⟩
        ·simp[c0,c1,c2,c3,h5,c6,c7,h9,h11,h13,c14,c15]
         rcases iC h with ⟨c16,h⟩ | ⟨c16,h⟩
         ·simp[c0,c1,c2,c3,h5,c6,c7,h9,h11,h13,c14,c15,c16];obtain⟨w131,h130,h⟩:=bS h;rw[eL (ι:=Int) (ρ:=Unit ⊕ Unit) (fun p=>match p with | x37=>mk 195 [(1,T.c (C.ptr 1 0 0)),(3,T.c (.lit (.int .i64 v4))),(7,T.c (.lit (.int .i64 x37)))] [(1,{ box:=true,free:=true,elem:=27,sz:=7,es:=[a.cells] })] []) (fun r=>match r with | .inl ()=>(Ex.ret,mk 195 [(2,T.c (.lit (.bool false)))] [] []) | .inr ()=>(Ex.exit 0,mk 195 [(1,T.c (C.ptr 1 0 0))] [(1,{ box:=true,free:=true,elem:=27,sz:=7,es:=[a.cells] })] [])) (ref06_Right_B0 a v4) h130 ?_ _ ?_]
          ·rcases w131 with ⟨⟩ | ⟨⟩
           ·simp[c0,c1,c2,c3,h5,c6,c7,h9,h11,h13,c14,c15,c16]
            cases h
            rfl
           ·simp[c0,c1,c2,c3,h5,c6,c7,h9,h11,h13,c14,c15,c16];obtain⟨w129,h128,h⟩:=bS h;rw[eL (ι:=Int) (ρ:=Unit ⊕ Unit) (fun p=>match p with | x61=>mk 195 [(1,T.c (C.ptr 1 0 0)),(9,T.c (.lit (.int .i64 x61)))] [(1,{ box:=true,free:=true,elem:=27,sz:=7,es:=[a.cells] })] []) (fun r=>match r with | .inl ()=>(Ex.ret,mk 195 [(2,T.c (.lit (.bool false)))] [] []) | .inr ()=>(Ex.exit 2,mk 195 [(1,T.c (C.ptr 1 0 0))] [(1,{ box:=true,free:=true,elem:=27,sz:=7,es:=[a.cells] })] [])) (ref06_Right_B1 a) h128 ?_ _ ?_]
            ·rcases w129 with ⟨⟩ | ⟨⟩
             ·simp[c0,c1,c2,c3,h5,c6,c7,h9,h11,h13,c14,c15,c16]
              cases h
              rfl
             ·simp[c0,c1,c2,c3,h5,c6,c7,h9,h11,h13,c14,c15,c16];obtain⟨w127,h126,h⟩:=bS h;rw[eL (ι:=Int) (ρ:=Unit ⊕ Unit) (fun p=>match p with | x107=>mk 195 [(1,T.c (C.ptr 1 0 0)),(11,T.c (.lit (.int .i64 x107)))] [(1,{ box:=true,free:=true,elem:=27,sz:=7,es:=[a.cells] })] []) (fun r=>match r with | .inl ()=>(Ex.ret,mk 195 [(2,T.c (.lit (.bool false)))] [] []) | .inr ()=>(Ex.exit 4,mk 195 [] [] [])) (ref06_Right_B2 a) h126 ?_ _ ?_]
              ·rcases w127 with ⟨⟩ | ⟨⟩
               ·simp[c0,c1,c2,c3,h5,c6,c7,h9,h11,h13,c14,c15,c16]
                cases h
                rfl
               ·simp[c0,c1,c2,c3,h5,c6,c7,h9,h11,h13,c14,c15,c16]
                cases h
                rfl
              ·clear h126 h;rintro x107 y L res h hL hR;unfold ref06_Right_B2 at h;simp
               rcases iC h with ⟨c108,h⟩ | ⟨c108,h⟩
               ·simp[c108];obtain⟨v109,h110,h⟩:=bS h;simp[c108,h110];obtain⟨v111,h112',h⟩:=bS h;have h112:ev 31 [T.c (.lit (.string v109.s))]=some (T.c (.lit (.bool v111)),[]):=w_ref01_IsName _ _ h112';simp[c108,h110,h112]
                rcases iC h with ⟨c113,h⟩ | ⟨c113,h⟩
                ·simp[c108,h110,h112,c113]
                 rcases iC h with ⟨c114,h⟩ | ⟨c114,h⟩
                 ·simp[c108,h110,h112,c113,c114]
                  cases h
                  exact hR _ rfl
                 ·simp[c108,h110,h112,c113,c114];obtain⟨v115,h116',h⟩:=bS h;have h116:ev 33 [T.c (.lit (.int IntKind.u8 v109.kind))]=some (T.c (.lit (.int .i64 v115)),[]):=w_ref06_kind _ _ h116';simp[c108,h110,h112,c113,c114,h116];obtain⟨v117,h118',h⟩:=bS h;have h118:ev 32 [T.agg a.cells,T.c (.lit (.int .i64 v115))]=some (T.c (.lit (.int .i64 v117)),[]):=w_ref06_many _ _ _ h118';simp[c108,h110,h112,c113,c114,h116,h118]
                  rcases iC h with ⟨c119,h⟩ | ⟨c119,h⟩
                  ·simp[c108,h110,h112,c113,c114,h116,h118,c119]
                   cases h
                   exact hR _ rfl
                  ·simp[c108,h110,h112,c113,c114,h116,h118,c119]
                   rcases iC h with ⟨c120,h⟩ | ⟨c120,h⟩
                   ·simp[c108,h110,h112,c113,c114,h116,h118,c119,c120];obtain⟨v121,h122,h⟩:=bS h;simp[c108,h110,h112,c113,c114,h116,h118,c119,c120,h122];obtain⟨v123,h124',h⟩:=bS h;have h124:ev 22 [T.agg v121.cells,T.agg v109.cells]=some (T.c (.lit (.bool v123)),[]):=w_ref06_Behind _ _ _ h124';simp[c108,h110,h112,c113,c114,h116,h118,c119,c120,h122,h124]
                    rcases iC h with ⟨c125,h⟩ | ⟨c125,h⟩
                    ·simp[c108,h110,h112,c113,c114,h116,h118,c119,c120,h122,h124,c125]
                     cases h
                     exact hL _ _ rfl (by simp[headOf])
                    ·simp[c108,h110,h112,c113,c114,h116,h118,c119,c120,h122,h124,c125]
                     cases h
                     exact hR _ rfl
                   ·simp[c108,h110,h112,c113,c114,h116,h118,c119,c120]
                    cases h
                    exact hL _ _ rfl (by simp[headOf])
                ·simp[c108,h110,h112,c113]
                 cases h
                 exact hR _ rfl
               ·simp[c108]
                cases h
                exact hR _ rfl
              ·simp[headOf]
            ·clear h128 h;rintro x61 y L res h hL hR;unfold ref06_Right_B1 at h;simp
             rcases iC h with ⟨c62,h⟩ | ⟨c62,h⟩
             ·simp[c62];obtain⟨v63,h64,h⟩:=bS h;simp[c62,h64]
              rcases iC h with ⟨c65,h⟩ | ⟨c65,h⟩
              ·simp[c62,h64,c65]
               cases h
               exact hR _ rfl
              ·simp[c62,h64,c65]
               rcases iC h with ⟨c66,h⟩ | ⟨c66,h⟩
               ·simp[c62,h64,c65,c66]
                cases h
                exact hR _ rfl
               ·simp[c62,h64,c65,c66]
                rcases iC h with ⟨c67,h⟩ | ⟨c67,h⟩
                ·simp[c62,h64,c65,c66,c67]
                 cases h
                 exact hR _ rfl
                ·simp[c62,h64,c65,c66,c67]
                 cases h
                 exact hL _ _ rfl (by simp[headOf])
             ·simp[c62]
              cases h
              exact hR _ rfl
            ·simp[headOf]
          ·clear h130 h;rintro x37 y L res h hL hR;unfold ref06_Right_B0 at h;simp
           rcases iC h with ⟨c38,h⟩ | ⟨c38,h⟩
           ·simp[c38];obtain⟨v39,h40,h⟩:=bS h;simp[c38,h40]
            rcases iC h with ⟨c41,h⟩ | ⟨c41,h⟩
            ·simp[c38,h40,c41]
             cases h
             exact hR _ rfl
            ·simp[c38,h40,c41]
             rcases iC h with ⟨c42,h⟩ | ⟨c42,h⟩
             ·simp[c38,h40,c41,c42]
              cases h
              exact hR _ rfl
             ·simp[c38,h40,c41,c42]
              rcases iC h with ⟨c43,h⟩ | ⟨c43,h⟩
              ·simp[c38,h40,c41,c42,c43]
               cases h
               exact hL _ _ rfl (by simp[headOf])
              ·simp[c38,h40,c41,c42,c43]
               rcases iC h with ⟨c44,h⟩ | ⟨c44,h⟩
               ·simp[c38,h40,c41,c42,c43,c44]
                cases h
                exact hL _ _ rfl (by simp[headOf])
               ·simp[c38,h40,c41,c42,c43,c44]
                rcases iC h with ⟨c45,h⟩ | ⟨c45,h⟩
                ·simp[c38,h40,c41,c42,c43,c44,c45]
                 cases h
                 exact hL _ _ rfl (by simp[headOf])
                ·simp[c38,h40,c41,c42,c43,c44,c45]
                 cases h
                 exact hR _ rfl
           ·simp[c38]
            cases h
            exact hR _ rfl
          ·simp[headOf]
         ·simp[c0,c1,c2,c3,h5,c6,c7,h9,h11,h13,c14,c15,c16]
          cases h
          rfl
        ·simp[c0,c1,c2,c3,h5,c6,c7,h9,h11,h13,c14,c15]
         cases h
         rfl
       ·simp[c0,c1,c2,c3,h5,c6,c7,h9,h11,h13,c14]
        cases h
        rfl
theorem w_ref06_Small (a:Aig)(most:Int)(r:Bool)(h:ref06_Small a most=some r):ev 10 [T.agg (Aig.cells a),T.c (.lit (.int .i64 most))]=some (T.c (.lit (.bool r)),[]):=by
 refine ev_run' (kp:=k10) (us:=[4]) fn10 rfl rfl rfl rfl rfl (by kernel_rfl) rfl rfl (by simp) ?_;unfold ref06_Small at h;simp
 rcases iC h with ⟨c0,h⟩ | ⟨c0,h⟩
 ·simp[c0]
  cases h
  rfl
 ·simp[c0]
  rcases iC h with ⟨c1,h⟩ | ⟨c1,h⟩
  ·simp[c0,c1]
   cases h
   rfl
  ·simp[c0,c1]
   rcases iC h with ⟨c2,h⟩ | ⟨c2,h⟩
   ·simp[c0,c1,c2]
    cases h
    rfl
   ·simp[c0,c1,c2]
    rcases iC h with ⟨c3,h⟩ | ⟨c3,h⟩
    ·simp[c0,c1,c2,c3]
     cases h
     rfl
    ·simp[c0,c1,c2,c3]
     rcases iC h with ⟨c4,h⟩ | ⟨c4,h⟩
     ·simp[c0,c1,c2,c3,c4]
      cases h
      rfl
     ·simp[c0,c1,c2,c3,c4]
      rcases iC h with ⟨c5,h⟩ | ⟨c5,h⟩
      ·simp[c0,c1,c2,c3,c4,c5]
       cases h
       rfl
      ·simp[c0,c1,c2,c3,c4,c5]
       rcases iC h with ⟨c6,h⟩ | ⟨c6,h⟩
       ·simp[c0,c1,c2,c3,c4,c5,c6]
        cases h
        rfl
       ·simp[c0,c1,c2,c3,c4,c5,c6];obtain⟨w24,h23,h⟩:=bS h;rw[eL (ι:=Int) (ρ:=Unit ⊕ Unit) (fun p=>match p with | x18=>mk 67 [(2,T.c (C.ptr 2 0 0)),(5,T.c (.lit (.int .i64 x18)))] [(2,{ box:=true,free:=true,elem:=27,sz:=7,es:=[a.cells] })] []) (fun r=>match r with | .inl ()=>(Ex.ret,mk 67 [(4,T.c (.lit (.bool false)))] [] []) | .inr ()=>(Ex.exit 0,mk 67 [] [] [])) (ref06_Small_B0 a) h23 ?_ _ ?_]
        ·rcases w24 with ⟨⟩ | ⟨⟩
         ·simp[c0,c1,c2,c3,c4,c5,c6]
          cases h
          rfl
         ·simp[c0,c1,c2,c3,c4,c5,c6]
          cases h
          rfl
        ·clear h23 h;rintro x18 y L res h hL hR;unfold ref06_Small_B0 at h;simp
         rcases iC h with ⟨c19,h⟩ | ⟨c19,h⟩
         ·simp[c19];obtain⟨v20,h21,h⟩:=bS h;simp[c19,h21]
          rcases iC h with ⟨c22,h⟩ | ⟨c22,h⟩
          ·simp[c19,h21,c22]
           cases h
           exact hR _ rfl
          ·simp[c19,h21,c22]
           cases h
           exact hL _ _ rfl (by simp[headOf])
         ·simp[c19]
          cases h
          exact hR _ rfl
        ·simp[headOf]
theorem w_vidimus_aig_reader_model_1 (i:Int)(r:Int)(h:vidimus_aig_reader_model_1 i=some r):ev 57 [T.c (.lit (.int .i64 i))]=some (T.c (.lit (.int .i64 r)),[]):=by
 refine ev_run' (kp:=k57) (us:=[3]) fn57 rfl rfl rfl rfl rfl (by kernel_rfl) rfl rfl (by simp) ?_;unfold vidimus_aig_reader_model_1 at h;simp
 cases h
 rfl
theorem w_aig_reader_word (s:ByteArray)(q0:Reader_aig)(r:(Int × Int) ⊕ Reader_aig)(h:aig_reader_word s q0=some r):ev 55 [T.tup [],T.c (C.ptr 9000 0 0),T.c (.lit (.string s)),obT (Ob.mk true true 84 2 [Reader_aig.cells q0])]=some (match r with | .inl p=>panR 80 [C.lit (.int IntKind.i64 p.1),C.lit (.int IntKind.i64 p.2)] | .inr q=>okR (T.tup [],[Ob.mk true true 84 2 [Reader_aig.cells q]])):=by
 refine ev_runP (kp:=k55) (us:=[]) (ts:=[T.c (C.ptr 9000 0 0),T.c (.lit (.string s))]) (obs:=[Ob.mk true true 84 2 [Reader_aig.cells q0]]) fn55 rfl rfl rfl rfl rfl (by kernel_rfl) rfl rfl rfl (by simp) ?_;unfold aig_reader_word at h;simp;obtain⟨⟨v0,v1⟩,h2',h⟩:=bS h;have h2:ev 65 [T.c (sls 1 byteF q0.b),T.c (.lit (.int .i64 q0.at')),T.c (.lit (.string s))]=some (T.tup [T.c (.lit (.int .i64 v0)),T.c (.lit (.bool v1))],[]):=w_lex_Is _ _ _ _ h2';simp[h2]
 rcases iC h with ⟨c3,h⟩ | ⟨c3,h⟩
 ·simp[h2,c3]
  cases h
  rfl
 ·simp[h2,c3]
  cases h
  rfl
theorem w_aig_reader_number (most:Int)(thn:ByteArray)(q0:Reader_aig)(r:(Int × Int) ⊕ (Int × Reader_aig))(h:aig_reader_number most thn q0=some r):ev 56 [T.tup [],T.c (C.ptr 9000 0 0),T.c (.lit (.int .i64 most)),T.c (.lit (.string thn)),obT (Ob.mk true true 84 2 [Reader_aig.cells q0])]=some (match r with | .inl p=>panR 80 [C.lit (.int IntKind.i64 p.1),C.lit (.int IntKind.i64 p.2)] | .inr q=>okR (T.c (.lit (.int .i64 q.1)),[Ob.mk true true 84 2 [Reader_aig.cells q.2]])):=by
 refine ev_runP (kp:=k56) (us:=[3]) (ts:=[T.c (C.ptr 9000 0 0),T.c (.lit (.int .i64 most)),T.c (.lit (.string thn))]) (obs:=[Ob.mk true true 84 2 [Reader_aig.cells q0]]) fn56 rfl rfl rfl rfl rfl (by kernel_rfl) rfl rfl rfl (by simp) ?_;unfold aig_reader_number at h;simp;obtain⟨⟨v0,v1,v2⟩,h3',h⟩:=bS h;have h3:ev 66 [T.c (sls 1 byteF q0.b),T.c (.lit (.int .i64 q0.at')),T.c (.lit (.int .i64 most))]=some (T.tup [T.c (.lit (.int .i64 v0)),T.c (.lit (.int .i64 v1)),T.c (.lit (.int .i64 v2))],[]):=w_lex_Number _ _ _ _ h3';simp[h3]
 rcases iC h with ⟨c4,h⟩ | ⟨c4,h⟩
 ·simp[h3,c4];obtain⟨w7,h6',h⟩:=bS h
  rcases w7 with ⟨p8,p9⟩ | v5
  ·have h6:ev 55 [T.tup [],T.c (C.ptr 9000 0 0),T.c (.lit (.string thn)),obT { box:=true,free:=true,elem:=84,sz:=2,es:=[[sls 1 byteF q0.b,C.lit (.int IntKind.i64 v1)]] }]=some (panR 80 [C.lit (.int IntKind.i64 p8),C.lit (.int IntKind.i64 p9)]):=w_aig_reader_word _ _ (.inl _) h6';simp[h3,c4,h6]
   cases h
   rfl
  ·have h6:ev 55 [T.tup [],T.c (C.ptr 9000 0 0),T.c (.lit (.string thn)),obT { box:=true,free:=true,elem:=84,sz:=2,es:=[[sls 1 byteF q0.b,C.lit (.int IntKind.i64 v1)]] }]=some (okR (T.tup [],[Ob.mk true true 84 2 [Reader_aig.cells v5]])):=w_aig_reader_word _ _ (.inr _) h6';simp[h3,c4,h6]
   cases h
   rfl
 ·simp[h3,c4]
  cases h
  rfl
theorem w_aig_reader_lits (n:Int)(most:Int)(q0:Reader_aig)(r:(Int × Int) ⊕ ((List Int) × Reader_aig))(h:aig_reader_lits n most q0=some r):ev 58 [T.tup [],T.c (C.ptr 9000 0 0),T.c (.lit (.int .i64 n)),T.c (.lit (.int .i64 most)),obT (Ob.mk true true 84 2 [Reader_aig.cells q0])]=some (match r with | .inl p=>panR 80 [C.lit (.int IntKind.i64 p.1),C.lit (.int IntKind.i64 p.2)] | .inr q=>okR (T.c (C.ref 1 0 (lenN q.1)),[Ob.mk true true 84 2 [Reader_aig.cells q.2],rowO 3 1 intF q.1])):=by
 refine ev_runP (kp:=k58) (us:=[24]) (ts:=[T.c (C.ptr 9000 0 0),T.c (.lit (.int .i64 n)),T.c (.lit (.int .i64 most))]) (obs:=[Ob.mk true true 84 2 [Reader_aig.cells q0]]) fn58 rfl rfl rfl rfl rfl (by kernel_rfl) rfl rfl rfl (by simp) ?_;unfold aig_reader_lits at h;simp;obtain⟨w44,h43,h⟩:=bS h;rw[eL (ι:=(List Int) × (List Int) × Int × Int) (ρ:=(Int × Int) ⊕ ((List Int) × (List Int) × Int)) (fun p=>match p with | (x26,x27,x28,x29)=>mk 19 [(0,T.c (C.ptr 9000 0 0)),(2,T.c (.lit (.int .i64 most))),(7,T.c (C.ref 7 0 (lenN x26))),(8,T.c (.lit (.int .i64 n))),(9,T.c (.lit (.int .i64 x29)))] [(7,rowO 3 1 intF x26),(9000,{ box:=true,free:=true,elem:=84,sz:=2,es:=[[sls 1 byteF x27,C.lit (.int IntKind.i64 x28)]] })] []) (fun r=>match r with | .inl (y38,y39)=>(Ex.pan 80 [C.lit (.int IntKind.i64 y38),C.lit (.int IntKind.i64 y39)],deadS) | .inr ((y40,y41,y42))=>(Ex.exit 0,mk 19 [(7,T.c (C.ref 7 0 (lenN y40)))] [(7,rowO 3 1 intF y40),(9000,{ box:=true,free:=true,elem:=84,sz:=2,es:=[[sls 1 byteF y41,C.lit (.int IntKind.i64 y42)]] })] [])) (aig_reader_lits_B0 n most) h43 ?_ _ ?_]
 ·rcases w44 with ⟨y38,y39⟩ | ⟨y40,y41,y42⟩
  ·simp
   cases h
   rfl
  ·simp
   cases h
   rfl
 ·clear h43 h;rintro⟨x26,x27,x28,x29⟩ y L res h hL hR;unfold aig_reader_lits_B0 at h;simp
  rcases iC h with ⟨c30,h⟩ | ⟨c30,h⟩
  ·simp[c30];obtain⟨w34,h33',h⟩:=bS h
   rcases w34 with ⟨p35,p36⟩ | ⟨v31,v32⟩
   ·have h33:ev 56 [T.tup [],T.c (C.ptr 9000 0 0),T.c (.lit (.int .i64 most)),T.c (.lit (.string { data:=#[10] })),obT { box:=true,free:=true,elem:=84,sz:=2,es:=[[sls 1 byteF x27,C.lit (.int IntKind.i64 x28)]] }]=some (panR 80 [C.lit (.int IntKind.i64 p35),C.lit (.int IntKind.i64 p36)]):=w_aig_reader_number _ _ _ (.inl _) h33';simp[c30,h33]
    cases h
    exact hR _ rfl
   ·have h33:ev 56 [T.tup [],T.c (C.ptr 9000 0 0),T.c (.lit (.int .i64 most)),T.c (.lit (.string { data:=#[10] })),obT { box:=true,free:=true,elem:=84,sz:=2,es:=[[sls 1 byteF x27,C.lit (.int IntKind.i64 x28)]] }]=some (okR (T.c (.lit (.int .i64 v31)),[Ob.mk true true 84 2 [Reader_aig.cells v32]])):=w_aig_reader_number _ _ _ (.inr _) h33';simp[c30,h33]
    rcases iC h with ⟨c37,h⟩ | ⟨c37,h⟩
    ·simp[c30,h33,c37]
     cases h
     exact hL _ _ rfl (by simp[headOf])
    ·simp[c30,h33,c37]
     cases h
  ·simp[c30]
   cases h
   exact hR _ rfl
 ·simp[headOf]
end Go.Proofs.YtadllpehekphmaaDoor

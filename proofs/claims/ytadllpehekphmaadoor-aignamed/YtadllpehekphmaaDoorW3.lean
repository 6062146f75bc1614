/- What the interpreter comes to is what the plain functions come to. No condition. -/
import Derived.Test.YtadllpehekphmaaDoorW2
set_option linter.unusedSimpArgs false
set_option linter.unusedVariables false
set_option maxRecDepth 20000
set_option maxHeartbeats 4000000
namespace Go.Proofs.YtadllpehekphmaaDoor
open Go.Vabs Go.Vid
theorem w_ref01_IsName (s:ByteArray)(r:Bool)(h:ref01_IsName s=some r):ev 31 [T.c (.lit (.string s))]=some (T.c (.lit (.bool r)),[]):=by
 refine ev_run' (kp:=k31) (us:=[4]) fn31 rfl rfl rfl rfl rfl (by kernel_rfl) rfl rfl (by simp) ?_;unfold ref01_IsName at h;simp;obtain⟨w34,h33,h⟩:=bS h;rw[eL (ι:=Int × Int) (ρ:=Unit ⊕ Int) (fun p=>match p with | (x21,x22)=>mk 38 [(0,T.c (.lit (.string s))),(3,T.c (.lit (.int .i64 x21))),(4,T.c (.lit (.int .i64 x22)))] [] []) (fun r=>match r with | .inl ()=>(Ex.ret,mk 38 [(2,T.c (.lit (.bool false)))] [] []) | .inr y31=>(Ex.exit 0,mk 38 [(3,T.c (.lit (.int .i64 y31)))] [] [])) (ref01_IsName_B0 s) h33 ?_ _ ?_]
 ·rcases w34 with ⟨⟩ | y31
  ·simp
   cases h
   rfl
  ·simp
   rcases iC h with ⟨c32,h⟩ | ⟨c32,h⟩
   ·simp[c32]
    cases h
    rfl
   ·simp[c32]
    cases h
    rfl
 ·clear h33 h;rintro⟨x21,x22⟩ y L res h hL hR;unfold ref01_IsName_B0 at h;simp
  rcases iC h with ⟨c23,h⟩ | ⟨c23,h⟩
  ·simp[c23];obtain⟨v24,h25',h⟩:=bS h;have h25:ev 49 [T.c (.lit (.string s)),T.c (.lit (.int .i64 x22))]=some (T.c (.lit (.int .i64 v24)),[]):=w_ref01_Long _ _ _ h25';simp[c23,h25]
   rcases iC h with ⟨c26,h⟩ | ⟨c26,h⟩
   ·simp[c23,h25,c26]
    cases h
    exact hR _ rfl
   ·simp[c23,h25,c26];obtain⟨v27,h28,h⟩:=bS h;simp[c23,h25,c26,h28]
    rcases iC h with ⟨c29,h⟩ | ⟨c29,h⟩
    ·simp[c23,h25,c26,h28,c29]
     cases h
     exact hR _ rfl
    ·simp[c23,h25,c26,h28,c29]
     rcases iC h with ⟨c30,h⟩ | ⟨c30,h⟩
     ·simp[c23,h25,c26,h28,c29,c30]
      cases h
      exact hR _ rfl
     ·simp[c23,h25,c26,h28,c29,c30]
      cases h
      exact hL _ _ rfl (by simp[headOf])
  ·simp[c23]
   cases h
   exact hR _ rfl
 ·simp[headOf]
theorem w_ref06_kind (c:Int)(r:Int)(h:ref06_kind c=some r):ev 33 [T.c (.lit (.int IntKind.u8 c))]=some (T.c (.lit (.int .i64 r)),[]):=by
 refine ev_run' (kp:=k33) (us:=[3]) fn33 rfl rfl rfl rfl rfl (by kernel_rfl) rfl rfl (by simp) ?_;unfold ref06_kind at h;simp;obtain⟨w22,h21,h⟩:=bS h;rw[eL (ι:=Int) (ρ:=Int ⊕ Unit) (fun p=>match p with | x14=>mk 17 [(0,T.c (.lit (.int IntKind.u8 c))),(3,T.c (C.ref 5 0 (lenN [105,108,111,98,99]))),(4,T.c (.lit (.int .i64 x14)))] [(5,rowO 5 1 byteF [105,108,111,98,99])] []) (fun r=>match r with | .inl y20=>(Ex.ret,mk 17 [(2,T.c (.lit (.int .i64 y20)))] [] []) | .inr ()=>(Ex.exit 0,mk 17 [] [] [])) (ref06_kind_B0 c) h21 ?_ _ ?_]
 ·rcases w22 with y20 | ⟨⟩
  ·simp
   cases h
   rfl
  ·simp
   cases h
   rfl
 ·clear h21 h;rintro x14 y L res h hL hR;unfold ref06_kind_B0 at h;simp
  rcases iC h with ⟨c15,h⟩ | ⟨c15,h⟩
  ·simp[c15]
   rcases iC h with ⟨c16,h⟩ | ⟨c16,h⟩
   ·simp[c15,c16];obtain⟨v17,h18,h⟩:=bS h;simp[c15,c16,h18]
    rcases iC h with ⟨c19,h⟩ | ⟨c19,h⟩
    ·simp[c15,c16,h18,c19]
     cases h
     exact hR _ rfl
    ·simp[c15,c16,h18,c19]
     cases h
     exact hL _ _ rfl (by simp[headOf])
   ·simp[c15,c16]
    cases h
  ·simp[c15]
   cases h
   exact hR _ rfl
 ·simp[headOf]
theorem w_ref06_many (a:Aig)(k:Int)(r:Int)(h:ref06_many a k=some r):ev 32 [T.agg (Aig.cells a),T.c (.lit (.int .i64 k))]=some (T.c (.lit (.int .i64 r)),[]):=by
 refine ev_run' (kp:=k32) (us:=[3]) fn32 rfl rfl rfl rfl rfl (by kernel_rfl) rfl rfl (by simp) ?_;unfold ref06_many at h;simp
 rcases iC h with ⟨c0,h⟩ | ⟨c0,h⟩
 ·simp[c0]
  cases h
  rfl
 ·simp[c0]
  rcases iC h with ⟨c1,h⟩ | ⟨c1,h⟩
  ·simp[c0,c1]
   cases h
   rfl
  ·simp[c0,c1]
   rcases iC h with ⟨c2,h⟩ | ⟨c2,h⟩
   ·simp[c0,c1,c2]
    cases h
    rfl
   ·simp[c0,c1,c2]
    rcases iC h with ⟨c3,h⟩ | ⟨c3,h⟩
    ·simp[c0,c1,c2,c3]
     cases h
     rfl
    ·simp[c0,c1,c2,c3]
     rcases iC h with ⟨c4,h⟩ | ⟨c4,h⟩
     ·simp[c0,c1,c2,c3,c4]
      cases h
      rfl
     ·simp[c0,c1,c2,c3,c4]
      cases h
      rfl
theorem w_ref06_Behind (x:Name)(y_:Name)(r:Bool)(h:ref06_Behind x y_=some r):ev 22 [T.agg (Name.cells x),T.agg (Name.cells y_)]=some (T.c (.lit (.bool r)),[]):=by
 refine ev_run' (kp:=k22) (us:=[4]) fn22 rfl rfl rfl rfl rfl (by kernel_rfl) rfl rfl (by simp) ?_;unfold ref06_Behind at h;simp;obtain⟨v0,h1',h⟩:=bS h;have h1:ev 33 [T.c (.lit (.int IntKind.u8 x.kind))]=some (T.c (.lit (.int .i64 v0)),[]):=w_ref06_kind _ _ h1';simp[h1];obtain⟨v2,h3',h⟩:=bS h;have h3:ev 33 [T.c (.lit (.int IntKind.u8 y_.kind))]=some (T.c (.lit (.int .i64 v2)),[]):=w_ref06_kind _ _ h3';simp[h1,h3]
 rcases iC h with ⟨c4,h⟩ | ⟨c4,h⟩
 ·simp[h1,h3,c4]
  cases h
  rfl
 ·simp[h1,h3,c4]
  rcases iC h with ⟨c5,h⟩ | ⟨c5,h⟩
  ·simp[h1,h3,c4,c5]
   cases h
   rfl
  ·simp[h1,h3,c4,c5]
   cases h
   rfl
theorem w_ref06_lits (l:List Int)(v:Int)(r:Bool)(h:ref06_lits l v=some r):ev 30 [T.c (sls 1 intF l),T.c (.lit (.int .i64 v))]=some (T.c (.lit (.bool r)),[]):=by
 refine ev_run' (kp:=k30) (us:=[4]) fn30 rfl rfl rfl rfl rfl (by kernel_rfl) rfl rfl (by simp) ?_;unfold ref06_lits at h;simp;obtain⟨w21,h20,h⟩:=bS h;rw[eL (ι:=Int) (ρ:=Unit ⊕ Unit) (fun p=>match p with | x14=>mk 30 [(0,T.c (sls 1 intF l)),(1,T.c (.lit (.int .i64 v))),(5,T.c (.lit (.int .i64 x14)))] [] []) (fun r=>match r with | .inl ()=>(Ex.ret,mk 30 [(4,T.c (.lit (.bool false)))] [] []) | .inr ()=>(Ex.exit 0,mk 30 [(0,T.c (sls 1 intF l))] [] [])) (ref06_lits_B0 l v) h20 ?_ _ ?_]
 ·rcases w21 with ⟨⟩ | ⟨⟩
  ·simp
   cases h
   rfl
  ·simp
   cases h
   rfl
 ·clear h20 h;rintro x14 y L res h hL hR;unfold ref06_lits_B0 at h;simp
  rcases iC h with ⟨c15,h⟩ | ⟨c15,h⟩
  ·simp[c15];obtain⟨v16,h17,h⟩:=bS h;simp[c15,h17]
   rcases iC h with ⟨c18,h⟩ | ⟨c18,h⟩
   ·simp[c15,h17,c18]
    cases h
    exact hR _ rfl
   ·simp[c15,h17,c18]
    rcases iC h with ⟨c19,h⟩ | ⟨c19,h⟩
    ·simp[c15,h17,c18,c19]
     cases h
     exact hR _ rfl
    ·simp[c15,h17,c18,c19]
     cases h
     exact hL _ _ rfl (by simp[headOf])
  ·simp[c15]
   cases h
   exact hR _ rfl
 ·simp[headOf]
theorem w_ref06_Vars (a:Aig)(r:Int)(h:ref06_Vars a=some r):ev 18 [T.agg (Aig.cells a)]=some (T.c (.lit (.int .i64 r)),[]):=by
 refine ev_run' (kp:=k18) (us:=[3]) fn18 rfl rfl rfl rfl rfl (by kernel_rfl) rfl rfl (by simp) ?_;unfold ref06_Vars at h;simp
 cases h
 rfl
theorem w_ref06_Right (a:Aig)(r:Bool)(h:ref06_Right a=some r):ev 13 [T.agg (Aig.cells a)]=some (T.c (.lit (.bool r)),[]):=by
 refine ev_run' (kp:=k13) (us:=[4]) fn13 rfl rfl rfl rfl rfl (by kernel_rfl) rfl rfl (by simp) ?_;unfold ref06_Right at h;simp
 rcases iC h with ⟨c0,h⟩ | ⟨c0,h⟩
 ·simp[c0]
  cases h
  rfl
 ·simp[c0]
  rcases iC h with ⟨c1,h⟩ | ⟨c1,h⟩
  ·simp[c0,c1]
   cases h
   rfl
  ·simp[c0,c1]
   rcases iC h with ⟨c2,h⟩ | ⟨c2,h⟩
   ·simp[c0,c1,c2]
    cases h
    rfl
   ·simp[c0,c1,c2]
    rcases iC h with ⟨c3,h⟩ | ⟨c3,h⟩
    ·simp[c0,c1,c2,c3]
     cases h
     rfl
    ·simp[c0,c1,c2,c3];obtain⟨v4,h5',h⟩:=bS h;have h5:ev 18 [T.agg a.cells]=some (T.c (.lit (.int .i64 v4)),[]):=w_ref06_Vars _ _ h5';simp[c0,c1,c2,c3,h5]
     rcases iC h with ⟨c6,h⟩ | ⟨c6,h⟩
     ·simp[c0,c1,c2,c3,h5,c6]
      cases h
      rfl
     ·simp[c0,c1,c2,c3,h5,c6]
      rcases iC h with ⟨c7,h⟩ | ⟨c7,h⟩
      ·simp[c0,c1,c2,c3,h5,c6,c7]
       cases h
       rfl
      ·simp[c0,c1,c2,c3,h5,c6,c7];obtain⟨v8,h9',h⟩:=bS h;have h9:ev 30 [T.c (sls 1 intF a.outs),T.c (.lit (.int .i64 v4))]=some (T.c (.lit (.bool v8)),[]):=w_ref06_lits _ _ _ h9';simp[c0,c1,c2,c3,h5,c6,c7,h9];obtain⟨v10,h11',h⟩:=bS h;have h11:ev 30 [T.c (sls 1 intF a.bad),T.c (.lit (.int .i64 v4))]=some (T.c (.lit (.bool v10)),[]):=w_ref06_lits _ _ _ h11';simp[c0,c1,c2,c3,h5,c6,c7,h9,h11];obtain⟨v12,h13',h⟩:=bS h;have h13:ev 30 [T.c (sls 1 intF a.con),T.c (.lit (.int .i64 v4))]=some (T.c (.lit (.bool v12)),[]):=w_ref06_lits _ _ _ h13';simp[c0,c1,c2,c3,h5,c6,c7,h9,h11,h13]
       rcases iC h with ⟨c14,h⟩ | ⟨c14,h⟩
       ·simp[c0,c1,c2,c3,h5,c6,c7,h9,h11,h13,c14]
        rcases iC h with ⟨c15,h⟩ | ⟨c15,h⟩
        ·simp[c0,c1,c2,c3,h5,c6,c7,h9,h11,h13,c14,c15]
         rcases iC h with ⟨c16,h⟩ | ⟨c16,h⟩
         ·simp[c0,c1,c2,c3,h5,c6,c7,h9,h11,h13,c14,c15,c16];obtain⟨w131,h130,h⟩:=bS h;rw[eL (ι:=Int) (ρ:=Unit ⊕ Unit) (fun p=>match p with | x37=>mk 195 [(1,T.c (C.ptr 1 0 0)),(3,T.c (.lit (.int .i64 v4))),(7,T.c (.lit (.int .i64 x37)))] [(1,{ box:=true,free:=true,elem:=27,sz:=7,es:=[a.cells] })] []) (fun r=>match r with | .inl ()=>(Ex.ret,mk 195 [(2,T.c (.lit (.bool false)))] [] []) | .inr ()=>(Ex.exit 0,mk 195 [(1,T.c (C.ptr 1 0 0))] [(1,{ box:=true,free:=true,elem:=27,sz:=7,es:=[a.cells] })] [])) (ref06_Right_B0 a v4) h130 ?_ _ ?_]
          ·rcases w131 with ⟨⟩ | ⟨⟩
           ·simp[c0,c1,c2,c3,h5,c6,c7,h9,h11,h13,c14,c15,c16]
            cases h
            rfl
           ·simp[c0,c1,c2,c3,h5,c6,c7,h9,h11,h13,c14,c15,c16];obtain⟨w129,h128,h⟩:=bS h;rw[eL (ι:=Int) (ρ:=Unit ⊕ Unit) (fun p=>match p with | x61=>mk 195 [(1,T.c (C.ptr 1 0 0)),(9,T.c (.lit (.int .i64 x61)))] [(1,{ box:=true,free:=true,elem:=27,sz:=7,es:=[a.cells] })] []) (fun r=>match r with | .inl ()=>(Ex.ret,mk 195 [(2,T.c (.lit (.bool false)))] [] []) | .inr ()=>(Ex.exit 2,mk 195 [(1,T.c (C.ptr 1 0 0))] [(1,{ box:=true,free:=true,elem:=27,sz:=7,es:=[a.cells] })] [])) (ref06_Right_B1 a) h128 ?_ _ ?_]
            ·rcases w129 with ⟨⟩ | ⟨⟩
             ·simp[c0,c1,c2,c3,h5,c6,c7,h9,h11,h13,c14,c15,c16]
              cases h
              rfl
             ·simp[c0,c1,c2,c3,h5,c6,c7,h9,h11,h13,c14,c15,c16];obtain⟨w127,h126,h⟩:=bS h;rw[eL (ι:=Int) (ρ:=Unit ⊕ Unit) (fun p=>match p with | x107=>mk 195 [(1,T.c (C.ptr 1 0 0)),(11,T.c (.lit (.int .i64 x107)))] [(1,{ box:=true,free:=true,elem:=27,sz:=7,es:=[a.cells] })] []) (fun r=>match r with | .inl ()=>(Ex.ret,mk 195 [(2,T.c (.lit (.bool false)))] [] []) | .inr ()=>(Ex.exit 4,mk 195 [] [] [])) (ref06_Right_B2 a) h126 ?_ _ ?_]
              ·rcases w127 with ⟨⟩ | ⟨⟩
               ·simp[c0,c1,c2,c3,h5,c6,c7,h9,h11,h13,c14,c15,c16]
                cases h
                rfl
               ·simp[c0,c1,c2,c3,h5,c6,c7,h9,h11,h13,c14,c15,c16]
                cases h
                rfl
              ·clear h126 h;rintro x107 y L res h hL hR;unfold ref06_Right_B2 at h;simp
               rcases iC h with ⟨c108,h⟩ | ⟨c108,h⟩
               ·simp[c108];obtain⟨v109,h110,h⟩:=bS h;simp[c108,h110];obtain⟨v111,h112',h⟩:=bS h;have h112:ev 31 [T.c (.lit (.string v109.s))]=some (T.c (.lit (.bool v111)),[]):=w_ref01_IsName _ _ h112';simp[c108,h110,h112]
                rcases iC h with ⟨c113,h⟩ | ⟨c113,h⟩
                ·simp[c108,h110,h112,c113]
                 rcases iC h with ⟨c114,h⟩ | ⟨c114,h⟩
                 ·simp[c108,h110,h112,c113,c114]
                  cases h
                  exact hR _ rfl
                 ·simp[c108,h110,h112,c113,c114];obtain⟨v115,h116',h⟩:=bS h;have h116:ev 33 [T.c (.lit (.int IntKind.u8 v109.kind))]=some (T.c (.lit (.int .i64 v115)),[]):=w_ref06_kind _ _ h116';simp[c108,h110,h112,c113,c114,h116];obtain⟨v117,h118',h⟩:=bS h;have h118:ev 32 [T.agg a.cells,T.c (.lit (.int .i64 v115))]=some (T.c (.lit (.int .i64 v117)),[]):=w_ref06_many _ _ _ h118';simp[c108,h110,h112,c113,c114,h116,h118]
                  rcases iC h with ⟨c119,h⟩ | ⟨c119,h⟩
                  ·simp[c108,h110,h112,c113,c114,h116,h118,c119]
                   cases h
                   exact hR _ rfl
                  ·simp[c108,h110,h112,c113,c114,h116,h118,c119]
                   rcases iC h with ⟨c120,h⟩ | ⟨c120,h⟩
                   ·simp[c108,h110,h112,c113,c114,h116,h118,c119,c120];obtain⟨v121,h122,h⟩:=bS h;simp[c108,h110,h112,c113,c114,h116,h118,c119,c120,h122];obtain⟨v123,h124',h⟩:=bS h;have h124:ev 22 [T.agg v121.cells,T.agg v109.cells]=some (T.c (.lit (.bool v123)),[]):=w_ref06_Behind _ _ _ h124';simp[c108,h110,h112,c113,c114,h116,h118,c119,c120,h122,h124]
                    rcases iC h with ⟨c125,h⟩ | ⟨c125,h⟩
                    ·simp[c108,h110,h112,c113,c114,h116,h118,c119,c120,h122,h124,c125]
                     cases h
                     exact hL _ _ rfl (by simp[headOf])
                    ·simp[c108,h110,h112,c113,c114,h116,h118,c119,c120,h122,h124,c125]
                     cases h
                     exact hR _ rfl
                   ·simp[c108,h110,h112,c113,c114,h116,h118,c119,c120]
                    cases h
                    exact hL _ _ rfl (by simp[headOf])
                ·simp[c108,h110,h112,c113]
                 cases h
                 exact hR _ rfl
               ·simp[c108]
                cases h
                exact hR _ rfl
              ·simp[headOf]
            ·clear h128 h;rintro x61 y L res h hL hR;unfold ref06_Right_B1 at h;simp
             rcases iC h with ⟨c62,h⟩ | ⟨c62,h⟩
             ·simp[c62];obtain⟨v63,h64,h⟩:=bS h;simp[c62,h64]
              rcases iC h with ⟨c65,h⟩ | ⟨c65,h⟩
              ·simp[c62,h64,c65]
               cases h
               exact hR _ rfl
              ·simp[c62,h64,c65]
               rcases iC h with ⟨c66,h⟩ | ⟨c66,h⟩
               ·simp[c62,h64,c65,c66]
                cases h
                exact hR _ rfl
               ·simp[c62,h64,c65,c66]
                rcases iC h with ⟨c67,h⟩ | ⟨c67,h⟩
                ·simp[c62,h64,c65,c66,c67]
                 cases h
                 exact hR _ rfl
                ·simp[c62,h64,c65,c66,c67]
                 cases h
                 exact hL _ _ rfl (by simp[headOf])
             ·simp[c62]
              cases h
              exact hR _ rfl
            ·simp[headOf]
          ·clear h130 h;rintro x37 y L res h hL hR;unfold ref06_Right_B0 at h;simp
           rcases iC h with ⟨c38,h⟩ | ⟨c38,h⟩
           ·simp[c38];obtain⟨v39,h40,h⟩:=bS h;simp[c38,h40]
            rcases iC h with ⟨c41,h⟩ | ⟨c41,h⟩
            ·simp[c38,h40,c41]
             cases h
             exact hR _ rfl
            ·simp[c38,h40,c41]
             rcases iC h with ⟨c42,h⟩ | ⟨c42,h⟩
             ·simp[c38,h40,c41,c42]
              cases h
              exact hR _ rfl
             ·simp[c38,h40,c41,c42]
              rcases iC h with ⟨c43,h⟩ | ⟨c43,h⟩
              ·simp[c38,h40,c41,c42,c43]
               cases h
               exact hL _ _ rfl (by simp[headOf])
              ·simp[c38,h40,c41,c42,c43]
               rcases iC h with ⟨c44,h⟩ | ⟨c44,h⟩
               ·simp[c38,h40,c41,c42,c43,c44]
                cases h
                exact hL _ _ rfl (by simp[headOf])
               ·simp[c38,h40,c41,c42,c43,c44]
                rcases iC h with ⟨c45,h⟩ | ⟨c45,h⟩
                ·simp[c38,h40,c41,c42,c43,c44,c45]
                 cases h
                 exact hL _ _ rfl (by simp[headOf])
                ·simp[c38,h40,c41,c42,c43,c44,c45]
                 cases h
                 exact hR _ rfl
           ·simp[c38]
            cases h
            exact hR _ rfl
          ·simp[headOf]
         ·simp[c0,c1,c2,c3,h5,c6,c7,h9,h11,h13,c14,c15,c16]
          cases h
          rfl
        ·simp[c0,c1,c2,c3,h5,c6,c7,h9,h11,h13,c14,c15]
         cases h
         rfl
       ·simp[c0,c1,c2,c3,h5,c6,c7,h9,h11,h13,c14]
        cases h
        rfl
theorem w_ref06_Small (a:Aig)(most:Int)(r:Bool)(h:ref06_Small a most=some r):ev 10 [T.agg (Aig.cells a),T.c (.lit (.int .i64 most))]=some (T.c (.lit (.bool r)),[]):=by
 refine ev_run' (kp:=k10) (us:=[4]) fn10 rfl rfl rfl rfl rfl (by kernel_rfl) rfl rfl (by simp) ?_;unfold ref06_Small at h;simp
 rcases iC h with ⟨c0,h⟩ | ⟨c0,h⟩
 ·simp[c0]
  cases h
  rfl
 ·simp[c0]
  rcases iC h with ⟨c1,h⟩ | ⟨c1,h⟩
  ·simp[c0,c1]
   cases h
   rfl
  ·simp[c0,c1]
   rcases iC h with ⟨c2,h⟩ | ⟨c2,h⟩
   ·simp[c0,c1,c2]
    cases h
    rfl
   ·simp[c0,c1,c2]
    rcases iC h with ⟨c3,h⟩ | ⟨c3,h⟩
    ·simp[c0,c1,c2,c3]
     cases h
     rfl
    ·simp[c0,c1,c2,c3]
     rcases iC h with ⟨c4,h⟩ | ⟨c4,h⟩
     ·simp[c0,c1,c2,c3,c4]
      cases h
      rfl
     ·simp[c0,c1,c2,c3,c4]
      rcases iC h with ⟨c5,h⟩ | ⟨c5,h⟩
      ·simp[c0,c1,c2,c3,c4,c5]
       cases h
       rfl
      ·simp[c0,c1,c2,c3,c4,c5]
       rcases iC h with ⟨c6,h⟩ | ⟨c6,h⟩
       ·simp[c0,c1,c2,c3,c4,c5,c6]
        cases h
        rfl
       ·simp[c0,c1,c2,c3,c4,c5,c6];obtain⟨w24,h23,h⟩:=bS h;rw[eL (ι:=Int) (ρ:=Unit ⊕ Unit) (fun p=>match p with | x18=>mk 67 [(2,T.c (C.ptr 2 0 0)),(5,T.c (.lit (.int .i64 x18)))] [(2,{ box:=true,free:=true,elem:=27,sz:=7,es:=[a.cells] })] []) (fun r=>match r with | .inl ()=>(Ex.ret,mk 67 [(4,T.c (.lit (.bool false)))] [] []) | .inr ()=>(Ex.exit 0,mk 67 [] [] [])) (ref06_Small_B0 a) h23 ?_ _ ?_]
        ·rcases w24 with ⟨⟩ | ⟨⟩
         ·simp[c0,c1,c2,c3,c4,c5,c6]
          cases h
          rfl
         ·simp[c0,c1,c2,c3,c4,c5,c6]
          cases h
          rfl
        ·clear h23 h;rintro x18 y L res h hL hR;unfold ref06_Small_B0 at h;simp
         rcases iC h with ⟨c19,h⟩ | ⟨c19,h⟩
         ·simp[c19];obtain⟨v20,h21,h⟩:=bS h;simp[c19,h21]
          rcases iC h with ⟨c22,h⟩ | ⟨c22,h⟩
          ·simp[c19,h21,c22]
           cases h
           exact hR _ rfl
          ·simp[c19,h21,c22]
           cases h
           exact hL _ _ rfl (by simp[headOf])
         ·simp[c19]
          cases h
          exact hR _ rfl
        ·simp[headOf]
theorem w_ref06_num (n:Int)(then_:ByteArray)(r:ByteArray)(h:ref06_num n then_=some r):ev 28 [T.c (.lit (.int .i64 n)),T.c (.lit (.string then_))]=some (T.c (.lit (.string r)),[]):=by
 refine ev_run' (kp:=k28) (us:=[9]) fn28 rfl rfl rfl rfl rfl (by kernel_rfl) rfl rfl (by simp) ?_;unfold ref06_num at h;simp;obtain⟨v0,h1',h⟩:=bS h;have h1:ev 48 [T.c (.lit (.int .i64 n))]=some (T.c (.lit (.string v0)),[]):=w_ref03_Figures _ _ h1';simp[h1]
 rcases iC h with ⟨c2,h⟩ | ⟨c2,h⟩
 ·simp[h1,c2]
  cases h
  rfl
 ·simp[h1,c2]
  cases h
theorem w_ref06_Names (a:Aig)(s:ByteArray)(r:ByteArray)(h:ref06_Names a s=some r):ev 20 [T.agg (Aig.cells a),T.c (.lit (.string s))]=some (T.c (.lit (.string r)),[]):=by
 refine ev_run' (kp:=k20) (us:=[9]) fn20 rfl rfl rfl rfl rfl (by kernel_rfl) rfl rfl (by simp) ?_;unfold ref06_Names at h;simp;obtain⟨y34,h35,h⟩:=bS h;rw[eL (ι:=ByteArray × Int) (ρ:=ByteArray) (fun p=>match p with | (x23,x24)=>mk 34 [(1,T.c (.lit (.string x23))),(2,T.c (C.ptr 2 0 0)),(5,T.c (.lit (.int .i64 x24)))] [(2,{ box:=true,free:=true,elem:=27,sz:=7,es:=[a.cells] })] []) (fun r=>match r with | y34=>(Ex.exit 0,mk 34 [(1,T.c (.lit (.string y34)))] [] [])) (ref06_Names_B0 a s) h35 ?_ _ ?_]
 ·simp
  cases h
  rfl
 ·clear h35 h;rintro⟨x23,x24⟩ y L res h hL hR;unfold ref06_Names_B0 at h;simp
  rcases iC h with ⟨c25,h⟩ | ⟨c25,h⟩
  ·simp[c25];obtain⟨v26,h27,h⟩:=bS h;simp[c25,h27]
   rcases iC h with ⟨c28,h⟩ | ⟨c28,h⟩
   ·simp[c25,h27,c28];obtain⟨v29,h30',h⟩:=bS h;have h30:ev 28 [T.c (.lit (.int .i64 v26.pos)),T.c (.lit (.string { data:=#[32] }))]=some (T.c (.lit (.string v29)),[]):=w_ref06_num _ _ _ h30';simp[c25,h27,c28,h30]
    rcases iC h with ⟨c31,h⟩ | ⟨c31,h⟩
    ·simp[c25,h27,c28,h30,c31]
     rcases iC h with ⟨c32,h⟩ | ⟨c32,h⟩
     ·simp[c25,h27,c28,h30,c31,c32]
      rcases iC h with ⟨c33,h⟩ | ⟨c33,h⟩
      ·simp[c25,h27,c28,h30,c31,c32,c33]
       cases h
       exact hL _ _ rfl (by simp[headOf])
      ·simp[c25,h27,c28,h30,c31,c32,c33]
       cases h
     ·simp[c25,h27,c28,h30,c31,c32]
      cases h
    ·simp[c25,h27,c28,h30,c31]
     cases h
   ·simp[c25,h27,c28]
    cases h
  ·simp[c25]
   cases h
   exact hR _ rfl
 ·simp[headOf]
theorem w_ref06_Row (s:ByteArray)(l:List Int)(r:ByteArray)(h:ref06_Row s l=some r):ev 29 [T.c (.lit (.string s)),T.c (sls 1 intF l)]=some (T.c (.lit (.string r)),[]):=by
 refine ev_run' (kp:=k29) (us:=[9]) fn29 rfl rfl rfl rfl rfl (by kernel_rfl) rfl rfl (by simp) ?_;unfold ref06_Row at h;simp;obtain⟨y25,h26,h⟩:=bS h;rw[eL (ι:=ByteArray × Int) (ρ:=ByteArray) (fun p=>match p with | (x17,x18)=>mk 20 [(0,T.c (.lit (.string x17))),(1,T.c (sls 1 intF l)),(5,T.c (.lit (.int .i64 x18)))] [] []) (fun r=>match r with | y25=>(Ex.exit 0,mk 20 [(0,T.c (.lit (.string y25)))] [] [])) (ref06_Row_B0 l) h26 ?_ _ ?_]
 ·simp
  cases h
  rfl
 ·clear h26 h;rintro⟨x17,x18⟩ y L res h hL hR;unfold ref06_Row_B0 at h;simp
  rcases iC h with ⟨c19,h⟩ | ⟨c19,h⟩
  ·simp[c19];obtain⟨v20,h21,h⟩:=bS h;simp[c19,h21];obtain⟨v22,h23',h⟩:=bS h;have h23:ev 28 [T.c (.lit (.int .i64 v20)),T.c (.lit (.string { data:=#[10] }))]=some (T.c (.lit (.string v22)),[]):=w_ref06_num _ _ _ h23';simp[c19,h21,h23]
   rcases iC h with ⟨c24,h⟩ | ⟨c24,h⟩
   ·simp[c19,h21,h23,c24]
    cases h
    exact hL _ _ rfl (by simp[headOf])
   ·simp[c19,h21,h23,c24]
    cases h
  ·simp[c19]
   cases h
   exact hR _ rfl
 ·simp[headOf]
theorem w_ref06_Head (a:Aig)(r:ByteArray)(h:ref06_Head a=some r):ev 27 [T.agg (Aig.cells a)]=some (T.c (.lit (.string r)),[]):=by
 refine ev_run' (kp:=k27) (us:=[9]) fn27 rfl rfl rfl rfl rfl (by kernel_rfl) rfl rfl (by simp) ?_;unfold ref06_Head at h;simp;obtain⟨v0,h1',h⟩:=bS h;have h1:ev 18 [T.agg a.cells]=some (T.c (.lit (.int .i64 v0)),[]):=w_ref06_Vars _ _ h1';simp[h1];obtain⟨v2,h3',h⟩:=bS h;have h3:ev 28 [T.c (.lit (.int .i64 v0)),T.c (.lit (.string { data:=#[32] }))]=some (T.c (.lit (.string v2)),[]):=w_ref06_num _ _ _ h3';simp[h1,h3];obtain⟨v4,h5',h⟩:=bS h;have h5:ev 28 [T.c (.lit (.int .i64 a.I)),T.c (.lit (.string { data:=#[32] }))]=some (T.c (.lit (.string v4)),[]):=w_ref06_num _ _ _ h5';simp[h1,h3,h5]
 rcases iC h with ⟨c6,h⟩ | ⟨c6,h⟩
 ·simp[h1,h3,h5,c6];obtain⟨v7,h8',h⟩:=bS h;have h8:ev 28 [T.c (.lit (.int .i64 (lenI a.L))),T.c (.lit (.string { data:=#[32] }))]=some (T.c (.lit (.string v7)),[]):=w_ref06_num _ _ _ h8';simp[h1,h3,h5,c6,h8]
  rcases iC h with ⟨c9,h⟩ | ⟨c9,h⟩
  ·simp[h1,h3,h5,c6,h8,c9];obtain⟨v10,h11',h⟩:=bS h;have h11:ev 28 [T.c (.lit (.int .i64 (lenI a.outs))),T.c (.lit (.string { data:=#[32] }))]=some (T.c (.lit (.string v10)),[]):=w_ref06_num _ _ _ h11';simp[h1,h3,h5,c6,h8,c9,h11]
   rcases iC h with ⟨c12,h⟩ | ⟨c12,h⟩
   ·simp[h1,h3,h5,c6,h8,c9,h11,c12];obtain⟨v13,h14',h⟩:=bS h;have h14:ev 28 [T.c (.lit (.int .i64 (lenI a.G))),T.c (.lit (.string { data:=#[32] }))]=some (T.c (.lit (.string v13)),[]):=w_ref06_num _ _ _ h14';simp[h1,h3,h5,c6,h8,c9,h11,c12,h14]
    rcases iC h with ⟨c15,h⟩ | ⟨c15,h⟩
    ·simp[h1,h3,h5,c6,h8,c9,h11,c12,h14,c15];obtain⟨v16,h17',h⟩:=bS h;have h17:ev 28 [T.c (.lit (.int .i64 (lenI a.bad))),T.c (.lit (.string { data:=#[32] }))]=some (T.c (.lit (.string v16)),[]):=w_ref06_num _ _ _ h17';simp[h1,h3,h5,c6,h8,c9,h11,c12,h14,c15,h17]
     rcases iC h with ⟨c18,h⟩ | ⟨c18,h⟩
     ·simp[h1,h3,h5,c6,h8,c9,h11,c12,h14,c15,h17,c18];obtain⟨v19,h20',h⟩:=bS h;have h20:ev 28 [T.c (.lit (.int .i64 (lenI a.con))),T.c (.lit (.string { data:=#[10] }))]=some (T.c (.lit (.string v19)),[]):=w_ref06_num _ _ _ h20';simp[h1,h3,h5,c6,h8,c9,h11,c12,h14,c15,h17,c18,h20]
      rcases iC h with ⟨c21,h⟩ | ⟨c21,h⟩
      ·simp[h1,h3,h5,c6,h8,c9,h11,c12,h14,c15,h17,c18,h20,c21]
       cases h
       rfl
      ·simp[h1,h3,h5,c6,h8,c9,h11,c12,h14,c15,h17,c18,h20,c21]
       cases h
     ·simp[h1,h3,h5,c6,h8,c9,h11,c12,h14,c15,h17,c18]
      cases h
    ·simp[h1,h3,h5,c6,h8,c9,h11,c12,h14,c15]
     cases h
   ·simp[h1,h3,h5,c6,h8,c9,h11,c12]
    cases h
  ·simp[h1,h3,h5,c6,h8,c9]
   cases h
 ·simp[h1,h3,h5,c6]
  cases h
theorem w_ref06_Print (a:Aig)(r:ByteArray × Int)(h:ref06_Print a=some r):ev 12 [T.agg (Aig.cells a)]=some (T.tup [T.c (.lit (.string r.1)),T.c (.lit (.int .i64 r.2))],[]):=by
 refine ev_run' (kp:=k12) (us:=[9,3]) fn12 rfl rfl rfl rfl rfl (by kernel_rfl) rfl rfl (by simp) ?_;unfold ref06_Print at h;simp;obtain⟨v0,h1',h⟩:=bS h;have h1:ev 13 [T.agg a.cells]=some (T.c (.lit (.bool v0)),[]):=w_ref06_Right _ _ h1';simp[h1]
 rcases iC h with ⟨c2,h⟩ | ⟨c2,h⟩
 ·simp[h1,c2];obtain⟨v3,h4',h⟩:=bS h;have h4:ev 27 [T.agg a.cells]=some (T.c (.lit (.string v3)),[]):=w_ref06_Head _ _ h4';simp[h1,c2,h4]
  rcases iC h with ⟨c5,h⟩ | ⟨c5,h⟩
  ·simp[h1,c2,h4,c5];obtain⟨y25,h126,h⟩:=bS h;rw[eL (ι:=ByteArray × Int) (ρ:=ByteArray) (fun p=>match p with | (x19,x20)=>mk 109 [(1,T.c (C.ptr 1 0 0)),(5,T.c (.lit (.string x19))),(6,T.c (.lit (.int .i64 x20)))] [(1,{ box:=true,free:=true,elem:=27,sz:=7,es:=[a.cells] })] []) (fun r=>match r with | y25=>(Ex.exit 0,mk 109 [(1,T.c (C.ptr 1 0 0)),(5,T.c (.lit (.string y25)))] [(1,{ box:=true,free:=true,elem:=27,sz:=7,es:=[a.cells] })] [])) (ref06_Print_B0 a) h126 ?_ _ ?_]
   ·simp[h1,c2,h4,c5];obtain⟨y69,h124,h⟩:=bS h;rw[eL (ι:=ByteArray × Int) (ρ:=ByteArray) (fun p=>match p with | (x55,x56)=>mk 109 [(1,T.c (C.ptr 1 0 0)),(5,T.c (.lit (.string x55))),(7,T.c (.lit (.int .i64 x56)))] [(1,{ box:=true,free:=true,elem:=27,sz:=7,es:=[a.cells] })] []) (fun r=>match r with | y69=>(Ex.exit 2,mk 109 [(1,T.c (C.ptr 1 0 0)),(5,T.c (.lit (.string y69)))] [(1,{ box:=true,free:=true,elem:=27,sz:=7,es:=[a.cells] })] [])) (ref06_Print_B1 a) h124 ?_ _ ?_]
    ·simp[h1,c2,h4,c5];obtain⟨v70,h71',h⟩:=bS h;have h71:ev 29 [T.c (.lit (.string y69)),T.c (sls 1 intF a.outs)]=some (T.c (.lit (.string v70)),[]):=w_ref06_Row _ _ _ h71';simp[h1,c2,h4,c5,h71];obtain⟨v72,h73',h⟩:=bS h;have h73:ev 29 [T.c (.lit (.string v70)),T.c (sls 1 intF a.bad)]=some (T.c (.lit (.string v72)),[]):=w_ref06_Row _ _ _ h73';simp[h1,c2,h4,c5,h71,h73];obtain⟨v74,h75',h⟩:=bS h;have h75:ev 29 [T.c (.lit (.string v72)),T.c (sls 1 intF a.con)]=some (T.c (.lit (.string v74)),[]):=w_ref06_Row _ _ _ h75';simp[h1,c2,h4,c5,h71,h73,h75];obtain⟨y119,h122,h⟩:=bS h;rw[eL (ι:=ByteArray × Int) (ρ:=ByteArray) (fun p=>match p with | (x105,x106)=>mk 109 [(1,T.c (C.ptr 1 0 0)),(5,T.c (.lit (.string x105))),(8,T.c (.lit (.int .i64 x106)))] [(1,{ box:=true,free:=true,elem:=27,sz:=7,es:=[a.cells] })] []) (fun r=>match r with | y119=>(Ex.exit 4,mk 109 [(1,T.c (C.ptr 1 0 0)),(5,T.c (.lit (.string y119)))] [(1,{ box:=true,free:=true,elem:=27,sz:=7,es:=[a.cells] })] [])) (ref06_Print_B2 a) h122 ?_ _ ?_]
     ·simp[h1,c2,h4,c5,h71,h73,h75];obtain⟨v120,h121',h⟩:=bS h;have h121:ev 20 [T.agg a.cells,T.c (.lit (.string y119))]=some (T.c (.lit (.string v120)),[]):=w_ref06_Names _ _ _ h121';simp[h1,c2,h4,c5,h71,h73,h75,h121]
      cases h
      rfl
     ·clear h122 h;rintro⟨x105,x106⟩ y L res h hL hR;unfold ref06_Print_B2 at h;simp
      rcases iC h with ⟨c107,h⟩ | ⟨c107,h⟩
      ·simp[c107];obtain⟨v108,h109',h⟩:=bS h;have h109:ev 28 [T.c (.lit (.int .i64 (imul .i64 2 (iadd .i64 (iadd .i64 (iadd .i64 a.I (lenI a.L)) x106) 1)))),T.c (.lit (.string { data:=#[32] }))]=some (T.c (.lit (.string v108)),[]):=w_ref06_num _ _ _ h109';simp[c107,h109]
       rcases iC h with ⟨c110,h⟩ | ⟨c110,h⟩
       ·simp[c107,h109,c110];obtain⟨v111,h112,h⟩:=bS h;simp[c107,h109,c110,h112];obtain⟨v113,h114',h⟩:=bS h;have h114:ev 28 [T.c (.lit (.int .i64 v111.a)),T.c (.lit (.string { data:=#[32] }))]=some (T.c (.lit (.string v113)),[]):=w_ref06_num _ _ _ h114';simp[c107,h109,c110,h112,h114]
        rcases iC h with ⟨c115,h⟩ | ⟨c115,h⟩
        ·simp[c107,h109,c110,h112,h114,c115];obtain⟨v116,h117',h⟩:=bS h;have h117:ev 28 [T.c (.lit (.int .i64 v111.b)),T.c (.lit (.string { data:=#[10] }))]=some (T.c (.lit (.string v116)),[]):=w_ref06_num _ _ _ h117';simp[c107,h109,c110,h112,h114,c115,h117]
         rcases iC h with ⟨c118,h⟩ | ⟨c118,h⟩
         ·simp[c107,h109,c110,h112,h114,c115,h117,c118]
          cases h
          exact hL _ _ rfl (by simp[headOf])
         ·simp[c107,h109,c110,h112,h114,c115,h117,c118]
          cases h
        ·simp[c107,h109,c110,h112,h114,c115]
         cases h
       ·simp[c107,h109,c110]
        cases h
      ·simp[c107]
       cases h
       exact hR _ rfl
     ·simp[headOf]
    ·clear h124 h;rintro⟨x55,x56⟩ y L res h hL hR;unfold ref06_Print_B1 at h;simp
     rcases iC h with ⟨c57,h⟩ | ⟨c57,h⟩
     ·simp[c57];obtain⟨v58,h59',h⟩:=bS h;have h59:ev 28 [T.c (.lit (.int .i64 (imul .i64 2 (iadd .i64 (iadd .i64 a.I x56) 1)))),T.c (.lit (.string { data:=#[32] }))]=some (T.c (.lit (.string v58)),[]):=w_ref06_num _ _ _ h59';simp[c57,h59]
      rcases iC h with ⟨c60,h⟩ | ⟨c60,h⟩
      ·simp[c57,h59,c60];obtain⟨v61,h62,h⟩:=bS h;simp[c57,h59,c60,h62];obtain⟨v63,h64',h⟩:=bS h;have h64:ev 28 [T.c (.lit (.int .i64 v61.next)),T.c (.lit (.string { data:=#[32] }))]=some (T.c (.lit (.string v63)),[]):=w_ref06_num _ _ _ h64';simp[c57,h59,c60,h62,h64]
       rcases iC h with ⟨c65,h⟩ | ⟨c65,h⟩
       ·simp[c57,h59,c60,h62,h64,c65];obtain⟨v66,h67',h⟩:=bS h;have h67:ev 28 [T.c (.lit (.int .i64 v61.reset)),T.c (.lit (.string { data:=#[10] }))]=some (T.c (.lit (.string v66)),[]):=w_ref06_num _ _ _ h67';simp[c57,h59,c60,h62,h64,c65,h67]
        rcases iC h with ⟨c68,h⟩ | ⟨c68,h⟩
        ·simp[c57,h59,c60,h62,h64,c65,h67,c68]
         cases h
         exact hL _ _ rfl (by simp[headOf])
        ·simp[c57,h59,c60,h62,h64,c65,h67,c68]
         cases h
       ·simp[c57,h59,c60,h62,h64,c65]
        cases h
      ·simp[c57,h59,c60]
       cases h
     ·simp[c57]
      cases h
      exact hR _ rfl
    ·simp[headOf]
   ·clear h126 h;rintro⟨x19,x20⟩ y L res h hL hR;unfold ref06_Print_B0 at h;simp
    rcases iC h with ⟨c21,h⟩ | ⟨c21,h⟩
    ·simp[c21];obtain⟨v22,h23',h⟩:=bS h;have h23:ev 28 [T.c (.lit (.int .i64 (imul .i64 2 (iadd .i64 x20 1)))),T.c (.lit (.string { data:=#[10] }))]=some (T.c (.lit (.string v22)),[]):=w_ref06_num _ _ _ h23';simp[c21,h23]
     rcases iC h with ⟨c24,h⟩ | ⟨c24,h⟩
     ·simp[c21,h23,c24]
      cases h
      exact hL _ _ rfl (by simp[headOf])
     ·simp[c21,h23,c24]
      cases h
    ·simp[c21]
     cases h
     exact hR _ rfl
   ·simp[headOf]
  ·simp[h1,c2,h4,c5]
   cases h
 ·simp[h1,c2]
  cases h
  rfl
theorem w_ref03_Ints (a:List Int)(b:List Int)(r:Bool)(h:ref03_Ints a b=some r):ev 41 [T.c (sls 1 intF a),T.c (sls 1 intF b)]=some (T.c (.lit (.bool r)),[]):=by
 refine ev_run' (kp:=k41) (us:=[4]) fn41 rfl rfl rfl rfl rfl (by kernel_rfl) rfl rfl (by simp) ?_;unfold ref03_Ints at h;simp
 rcases iC h with ⟨c0,h⟩ | ⟨c0,h⟩
 ·simp[c0];obtain⟨w25,h24,h⟩:=bS h;rw[eL (ι:=Int) (ρ:=Unit ⊕ Unit) (fun p=>match p with | x17=>mk 26 [(0,T.c (sls 1 intF a)),(1,T.c (sls 1 intF b)),(5,T.c (.lit (.int .i64 x17)))] [] []) (fun r=>match r with | .inl ()=>(Ex.ret,mk 26 [(4,T.c (.lit (.bool false)))] [] []) | .inr ()=>(Ex.exit 0,mk 26 [] [] [])) (ref03_Ints_B0 a b) h24 ?_ _ ?_]
  ·rcases w25 with ⟨⟩ | ⟨⟩
   ·simp[c0]
    cases h
    rfl
   ·simp[c0]
    cases h
    rfl
  ·clear h24 h;rintro x17 y L res h hL hR;unfold ref03_Ints_B0 at h;simp
   rcases iC h with ⟨c18,h⟩ | ⟨c18,h⟩
   ·simp[c18];obtain⟨v19,h20,h⟩:=bS h;simp[c18,h20];obtain⟨v21,h22,h⟩:=bS h;simp[c18,h20,h22]
    rcases iC h with ⟨c23,h⟩ | ⟨c23,h⟩
    ·simp[c18,h20,h22,c23]
     cases h
     exact hL _ _ rfl (by simp[headOf])
    ·simp[c18,h20,h22,c23]
     cases h
     exact hR _ rfl
   ·simp[c18]
    cases h
    exact hR _ rfl
  ·simp[headOf]
 ·simp[c0]
  cases h
  rfl
theorem w_ref06_Same (a:Aig)(b:Aig)(r:Bool)(h:ref06_Same a b=some r):ev 16 [T.agg (Aig.cells a),T.agg (Aig.cells b)]=some (T.c (.lit (.bool r)),[]):=by
 refine ev_run' (kp:=k16) (us:=[4]) fn16 rfl rfl rfl rfl rfl (by kernel_rfl) rfl rfl (by simp) ?_;unfold ref06_Same at h;simp;obtain⟨v0,h1',h⟩:=bS h;have h1:ev 41 [T.c (sls 1 intF a.outs),T.c (sls 1 intF b.outs)]=some (T.c (.lit (.bool v0)),[]):=w_ref03_Ints _ _ _ h1';simp[h1];obtain⟨v2,h3',h⟩:=bS h;have h3:ev 41 [T.c (sls 1 intF a.bad),T.c (sls 1 intF b.bad)]=some (T.c (.lit (.bool v2)),[]):=w_ref03_Ints _ _ _ h3';simp[h1,h3];obtain⟨v4,h5',h⟩:=bS h;have h5:ev 41 [T.c (sls 1 intF a.con),T.c (sls 1 intF b.con)]=some (T.c (.lit (.bool v4)),[]):=w_ref03_Ints _ _ _ h5';simp[h1,h3,h5]
 rcases iC h with ⟨c6,h⟩ | ⟨c6,h⟩
 ·simp[h1,h3,h5,c6]
  rcases iC h with ⟨c7,h⟩ | ⟨c7,h⟩
  ·simp[h1,h3,h5,c6,c7]
   rcases iC h with ⟨c8,h⟩ | ⟨c8,h⟩
   ·simp[h1,h3,h5,c6,c7,c8]
    rcases iC h with ⟨c9,h⟩ | ⟨c9,h⟩
    ·simp[h1,h3,h5,c6,c7,c8,c9]
     rcases iC h with ⟨c10,h⟩ | ⟨c10,h⟩
     ·simp[h1,h3,h5,c6,c7,c8,c9,c10]
      rcases iC h with ⟨c11,h⟩ | ⟨c11,h⟩
      ·simp[h1,h3,h5,c6,c7,c8,c9,c10,c11]
       rcases iC h with ⟨c12,h⟩ | ⟨c12,h⟩
       ·simp[h1,h3,h5,c6,c7,c8,c9,c10,c11,c12];obtain⟨w87,h86,h⟩:=bS h;rw[eL (ι:=Int) (ρ:=Unit ⊕ Unit) (fun p=>match p with | x29=>mk 124 [(2,T.c (C.ptr 2 0 0)),(3,T.c (C.ptr 3 0 0)),(8,T.c (.lit (.int .i64 x29)))] [(2,{ box:=true,free:=true,elem:=27,sz:=7,es:=[a.cells] }),(3,{ box:=true,free:=true,elem:=27,sz:=7,es:=[b.cells] })] []) (fun r=>match r with | .inl ()=>(Ex.ret,mk 124 [(4,T.c (.lit (.bool false)))] [] []) | .inr ()=>(Ex.exit 0,mk 124 [(2,T.c (C.ptr 2 0 0)),(3,T.c (C.ptr 3 0 0))] [(2,{ box:=true,free:=true,elem:=27,sz:=7,es:=[a.cells] }),(3,{ box:=true,free:=true,elem:=27,sz:=7,es:=[b.cells] })] [])) (ref06_Same_B0 a b) h86 ?_ _ ?_]
        ·rcases w87 with ⟨⟩ | ⟨⟩
         ·simp[h1,h3,h5,c6,c7,c8,c9,c10,c11,c12]
          cases h
          rfl
         ·simp[h1,h3,h5,c6,c7,c8,c9,c10,c11,c12];obtain⟨w85,h84,h⟩:=bS h;rw[eL (ι:=Int) (ρ:=Unit ⊕ Unit) (fun p=>match p with | x52=>mk 124 [(2,T.c (C.ptr 2 0 0)),(3,T.c (C.ptr 3 0 0)),(9,T.c (.lit (.int .i64 x52)))] [(2,{ box:=true,free:=true,elem:=27,sz:=7,es:=[a.cells] }),(3,{ box:=true,free:=true,elem:=27,sz:=7,es:=[b.cells] })] []) (fun r=>match r with | .inl ()=>(Ex.ret,mk 124 [(4,T.c (.lit (.bool false)))] [] []) | .inr ()=>(Ex.exit 2,mk 124 [(2,T.c (C.ptr 2 0 0)),(3,T.c (C.ptr 3 0 0))] [(2,{ box:=true,free:=true,elem:=27,sz:=7,es:=[a.cells] }),(3,{ box:=true,free:=true,elem:=27,sz:=7,es:=[b.cells] })] [])) (ref06_Same_B1 a b) h84 ?_ _ ?_]
          ·rcases w85 with ⟨⟩ | ⟨⟩
           ·simp[h1,h3,h5,c6,c7,c8,c9,c10,c11,c12]
            cases h
            rfl
           ·simp[h1,h3,h5,c6,c7,c8,c9,c10,c11,c12];obtain⟨w83,h82,h⟩:=bS h;rw[eL (ι:=Int) (ρ:=Unit ⊕ Unit) (fun p=>match p with | x75=>mk 124 [(2,T.c (C.ptr 2 0 0)),(3,T.c (C.ptr 3 0 0)),(10,T.c (.lit (.int .i64 x75)))] [(2,{ box:=true,free:=true,elem:=27,sz:=7,es:=[a.cells] }),(3,{ box:=true,free:=true,elem:=27,sz:=7,es:=[b.cells] })] []) (fun r=>match r with | .inl ()=>(Ex.ret,mk 124 [(4,T.c (.lit (.bool false)))] [] []) | .inr ()=>(Ex.exit 4,mk 124 [] [] [])) (ref06_Same_B2 a b) h82 ?_ _ ?_]
            ·rcases w83 with ⟨⟩ | ⟨⟩
             ·simp[h1,h3,h5,c6,c7,c8,c9,c10,c11,c12]
              cases h
              rfl
             ·simp[h1,h3,h5,c6,c7,c8,c9,c10,c11,c12]
              cases h
              rfl
            ·clear h82 h;rintro x75 y L res h hL hR;unfold ref06_Same_B2 at h;simp
             rcases iC h with ⟨c76,h⟩ | ⟨c76,h⟩
             ·simp[c76];obtain⟨v77,h78,h⟩:=bS h;simp[c76,h78];obtain⟨v79,h80,h⟩:=bS h;simp[c76,h78,h80]
              rcases iC h with ⟨c81,h⟩ | ⟨c81,h⟩
              ·simp[c76,h78,h80,c81]
               cases h
               exact hR _ rfl
              ·simp[c76,h78,h80,c81]
               cases h
               exact hL _ _ rfl (by simp[headOf])
             ·simp[c76]
              cases h
              exact hR _ rfl
            ·simp[headOf]
          ·clear h84 h;rintro x52 y L res h hL hR;unfold ref06_Same_B1 at h;simp
           rcases iC h with ⟨c53,h⟩ | ⟨c53,h⟩
           ·simp[c53];obtain⟨v54,h55,h⟩:=bS h;simp[c53,h55];obtain⟨v56,h57,h⟩:=bS h;simp[c53,h55,h57]
            rcases iC h with ⟨c58,h⟩ | ⟨c58,h⟩
            ·simp[c53,h55,h57,c58]
             cases h
             exact hR _ rfl
            ·simp[c53,h55,h57,c58]
             cases h
             exact hL _ _ rfl (by simp[headOf])
           ·simp[c53]
            cases h
            exact hR _ rfl
          ·simp[headOf]
        ·clear h86 h;rintro x29 y L res h hL hR;unfold ref06_Same_B0 at h;simp
         rcases iC h with ⟨c30,h⟩ | ⟨c30,h⟩
         ·simp[c30];obtain⟨v31,h32,h⟩:=bS h;simp[c30,h32];obtain⟨v33,h34,h⟩:=bS h;simp[c30,h32,h34]
          rcases iC h with ⟨c35,h⟩ | ⟨c35,h⟩
          ·simp[c30,h32,h34,c35]
           cases h
           exact hR _ rfl
          ·simp[c30,h32,h34,c35]
           cases h
           exact hL _ _ rfl (by simp[headOf])
         ·simp[c30]
          cases h
          exact hR _ rfl
        ·simp[headOf]
       ·simp[h1,h3,h5,c6,c7,c8,c9,c10,c11,c12]
        cases h
        rfl
      ·simp[h1,h3,h5,c6,c7,c8,c9,c10,c11]
       cases h
       rfl
     ·simp[h1,h3,h5,c6,c7,c8,c9,c10]
      cases h
      rfl
    ·simp[h1,h3,h5,c6,c7,c8,c9]
     cases h
     rfl
   ·simp[h1,h3,h5,c6,c7,c8]
    cases h
    rfl
  ·simp[h1,h3,h5,c6,c7]
   cases h
   rfl
 ·simp[h1,h3,h5,c6]
  cases h
  rfl
theorem w_vidimus_aig_reader_model_1 (i:Int)(r:Int)(h:vidimus_aig_reader_model_1 i=some r):ev 57 [T.c (.lit (.int .i64 i))]=some (T.c (.lit (.int .i64 r)),[]):=by
 refine ev_run' (kp:=k57) (us:=[3]) fn57 rfl rfl rfl rfl rfl (by kernel_rfl) rfl rfl (by simp) ?_;unfold vidimus_aig_reader_model_1 at h;simp
 cases h
 rfl
theorem w_aig_reader_word (s:ByteArray)(q0:Reader_aig)(r:(Int × Int) ⊕ Reader_aig)(h:aig_reader_word s q0=some r):ev 55 [T.tup [],T.c (C.ptr 9000 0 0),T.c (.lit (.string s)),obT (Ob.mk true true 84 2 [Reader_aig.cells q0])]=some (match r with | .inl p=>panR 80 [C.lit (.int IntKind.i64 p.1),C.lit (.int IntKind.i64 p.2)] | .inr q=>okR (T.tup [],[Ob.mk true true 84 2 [Reader_aig.cells q]])):=by
 refine ev_runP (kp:=k55) (us:=[]) (ts:=[T.c (C.ptr 9000 0 0),T.c (.lit (.string s))]) (obs:=[Ob.mk true true 84 2 [Reader_aig.cells q0]]) fn55 rfl rfl rfl rfl rfl (by kernel_rfl) rfl rfl rfl (by simp) ?_;unfold aig_reader_word at h;simp;obtain⟨⟨v0,v1⟩,h2',h⟩:=bS h;have h2:ev 65 [T.c (sls 1 byteF q0.b),T.c (.lit (.int .i64 q0.at')),T.c (.lit (.string s))]=some (T.tup [T.c (.lit (.int .i64 v0)),T.c (.lit (.bool v1))],[]):=w_lex_Is _ _ _ _ h2';simp[h2]
 rcases iC h with ⟨c3,h⟩ | ⟨c3,h⟩
 ·simp[h2,c3]
  cases h
  rfl
 ·simp[h2,c3]
  cases h
  rfl
theorem w_aig_reader_number (most:Int)(thn:ByteArray)(q0:Reader_aig)(r:(Int × Int) ⊕ (Int × Reader_aig))(h:aig_reader_number most thn q0=some r):ev 56 [T.tup [],T.c (C.ptr 9000 0 0),T.c (.lit (.int .i64 most)),T.c (.lit (.string thn)),obT (Ob.mk true true 84 2 [Reader_aig.cells q0])]=some (match r with | .inl p=>panR 80 [C.lit (.int IntKind.i64 p.1),C.lit (.int IntKind.i64 p.2)] | .inr q=>okR (T.c (.lit (.int .i64 q.1)),[Ob.mk true true 84 2 [Reader_aig.cells q.2]])):=by
 refine ev_runP (kp:=k56) (us:=[3]) (ts:=[T.c (C.ptr 9000 0 0),T.c (.lit (.int .i64 most)),T.c (.lit (.string thn))]) (obs:=[Ob.mk true true 84 2 [Reader_aig.cells q0]]) fn56 rfl rfl rfl rfl rfl (by kernel_rfl) rfl rfl rfl (by simp) ?_;unfold aig_reader_number at h;simp;obtain⟨⟨v0,v1,v2⟩,h3',h⟩:=bS h;have h3:ev 66 [T.c (sls 1 byteF q0.b),T.c (.lit (.int .i64 q0.at')),T.c (.lit (.int .i64 most))]=some (T.tup [T.c (.lit (.int .i64 v0)),T.c (.lit (.int .i64 v1)),T.c (.lit (.int .i64 v2))],[]):=w_lex_Number _ _ _ _ h3';simp[h3]
 rcases iC h with ⟨c4,h⟩ | ⟨c4,h⟩
 ·simp[h3,c4];obtain⟨w7,h6',h⟩:=bS h
  rcases w7 with ⟨p8,p9⟩ | v5
  ·have h6:ev 55 [T.tup [],T.c (C.ptr 9000 0 0),T.c (.lit (.string thn)),obT { box:=true,free:=true,elem:=84,sz:=2,es:=[[sls 1 byteF q0.b,C.lit (.int IntKind.i64 v1)]] }]=some (panR 80 [C.lit (.int IntKind.i64 p8),C.lit (.int IntKind.i64 p9)]):=w_aig_reader_word _ _ (.inl _) h6';simp[h3,c4,h6]
   cases h
   rfl
  ·have h6:ev 55 [T.tup [],T.c (C.ptr 9000 0 0),T.c (.lit (.string thn)),obT { box:=true,free:=true,elem:=84,sz:=2,es:=[[sls 1 byteF q0.b,C.lit (.int IntKind.i64 v1)]] }]=some (okR (T.tup [],[Ob.mk true true 84 2 [Reader_aig.cells v5]])):=w_aig_reader_word _ _ (.inr _) h6';simp[h3,c4,h6]
   cases h
   rfl
 ·simp[h3,c4]
  cases h
  rfl
theorem w_aig_reader_lits (n:Int)(most:Int)(q0:Reader_aig)(r:(Int × Int) ⊕ ((List Int) × Reader_aig))(h:aig_reader_lits n most q0=some r):ev 58 [T.tup [],T.c (C.ptr 9000 0 0),T.c (.lit (.int .i64 n)),T.c (.lit (.int .i64 most)),obT (Ob.mk true true 84 2 [Reader_aig.cells q0])]=some (match r with | .inl p=>panR 80 [C.lit (.int IntKind.i64 p.1),C.lit (.int IntKind.i64 p.2)] | .inr q=>okR (T.c (C.ref 1 0 (lenN q.1)),[Ob.mk true true 84 2 [Reader_aig.cells q.2],rowO 3 1 intF q.1])):=by
 refine ev_runP (kp:=k58) (us:=[24]) (ts:=[T.c (C.ptr 9000 0 0),T.c (.lit (.int .i64 n)),T.c (.lit (.int .i64 most))]) (obs:=[Ob.mk true true 84 2 [Reader_aig.cells q0]]) fn58 rfl rfl rfl rfl rfl (by kernel_rfl) rfl rfl rfl (by simp) ?_;unfold aig_reader_lits at h;simp;obtain⟨w44,h43,h⟩:=bS h;rw[eL (ι:=(List Int) × (List Int) × Int × Int) (ρ:=(Int × Int) ⊕ ((List Int) × (List Int) × Int)) (fun p=>match p with | (x26,x27,x28,x29)=>mk 19 [(0,T.c (C.ptr 9000 0 0)),(2,T.c (.lit (.int .i64 most))),(7,T.c (C.ref 7 0 (lenN x26))),(8,T.c (.lit (.int .i64 n))),(9,T.c (.lit (.int .i64 x29)))] [(7,rowO 3 1 intF x26),(9000,{ box:=true,free:=true,elem:=84,sz:=2,es:=[[sls 1 byteF x27,C.lit (.int IntKind.i64 x28)]] })] []) (fun r=>match r with | .inl (y38,y39)=>(Ex.pan 80 [C.lit (.int IntKind.i64 y38),C.lit (.int IntKind.i64 y39)],deadS) | .inr ((y40,y41,y42))=>(Ex.exit 0,mk 19 [(7,T.c (C.ref 7 0 (lenN y40)))] [(7,rowO 3 1 intF y40),(9000,{ box:=true,free:=true,elem:=84,sz:=2,es:=[[sls 1 byteF y41,C.lit (.int IntKind.i64 y42)]] })] [])) (aig_reader_lits_B0 n most) h43 ?_ _ ?_]
 ·rcases w44 with ⟨y38,y39⟩ | ⟨y40,y41,y42⟩
  ·simp
   cases h
   rfl
  ·simp
   cases h
   rfl
 ·clear h43 h;rintro⟨x26,x27,x28,x29⟩ y L res h hL hR;unfold aig_reader_lits_B0 at h;simp
  rcases iC h with ⟨c30,h⟩ | ⟨c30,h⟩
  ·simp[c30];obtain⟨w34,h33',h⟩:=bS h
   rcases w34 with ⟨p35,p36⟩ | ⟨v31,v32⟩
   ·have h33:ev 56 [T.tup [],T.c (C.ptr 9000 0 0),T.c (.lit (.int .i64 most)),T.c (.lit (.string { data:=#[10] })),obT { box:=true,free:=true,elem:=84,sz:=2,es:=[[sls 1 byteF x27,C.lit (.int IntKind.i64 x28)]] }]=some (panR 80 [C.lit (.int IntKind.i64 p35),C.lit (.int IntKind.i64 p36)]):=w_aig_reader_number _ _ _ (.inl _) h33';simp[c30,h33]
    cases h
    exact hR _ rfl
   ·have h33:ev 56 [T.tup [],T.c (C.ptr 9000 0 0),T.c (.lit (.int .i64 most)),T.c (.lit (.string { data:=#[10] })),obT { box:=true,free:=true,elem:=84,sz:=2,es:=[[sls 1 byteF x27,C.lit (.int IntKind.i64 x28)]] }]=some (okR (T.c (.lit (.int .i64 v31)),[Ob.mk true true 84 2 [Reader_aig.cells v32]])):=w_aig_reader_number _ _ _ (.inr _) h33';simp[c30,h33]
    rcases iC h with ⟨c37,h⟩ | ⟨c37,h⟩
    ·simp[c30,h33,c37]
     cases h
     exact hL _ _ rfl (by simp[headOf])
    ·simp[c30,h33,c37]
     cases h
  ·simp[c30]
   cases h
   exact hR _ rfl
 ·simp[headOf]
end Go.Proofs.YtadllpehekphmaaDoor

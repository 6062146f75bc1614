/- What the interpreter comes to is what the plain functions come to. No condition. -/
import Derived.Test.YtadllpehekphmaaDoorPr
import Derived.Test.YtadllpehekphmaaDoorG
set_option linter.unusedSimpArgs false
set_option linter.unusedVariables false
set_option maxRecDepth 20000
set_option maxHeartbeats 4000000
namespace Go.Proofs.YtadllpehekphmaaDoor
open Go.Vabs Go.Vid
theorem w_lex_isPlace (b:List Int)(at_:Int)(r:Bool)(h:lex_isPlace b at_=some r):ev 75 [T.c (sls 1 byteF b),T.c (.lit (.int .i64 at_))]=some (T.c (.lit (.bool r)),[]):=by
 refine ev_run' (kp:=k75) (us:=[4]) fn75 rfl rfl rfl rfl rfl (by kernel_rfl) rfl rfl (by simp) ?_;unfold lex_isPlace at h;simp
 rcases iC h with ⟨c0,h⟩ | ⟨c0,h⟩
 ·simp[c0]
  cases h
  rfl
 ·simp[c0]
  cases h
  rfl
theorem w_lex_Number_1 (c:Int)(r:Bool)(h:lex_Number_1 c=some r):ev 78 [T.c (.lit (.int IntKind.u8 c))]=some (T.c (.lit (.bool r)),[]):=by
 refine ev_run' (kp:=k78) (us:=[4]) fn78 rfl rfl rfl rfl rfl (by kernel_rfl) rfl rfl (by simp) ?_;unfold lex_Number_1 at h;simp
 rcases iC h with ⟨c0,h⟩ | ⟨c0,h⟩
 ·simp[c0]
  cases h
  rfl
 ·simp[c0]
  cases h
  rfl
theorem w_unicode_utf8_decodeRuneSlow (p_:List Int)(r:Int × Int)(h:unicode_utf8_decodeRuneSlow p_=some r):ev 99 [T.c (sls 1 byteF p_)]=some (T.tup [T.c (.lit (.int IntKind.i32 r.1)),T.c (.lit (.int .i64 r.2))],[]):=by
 refine ev_run' (kp:=k99) (us:=[21,3]) fn99 rfl rfl rfl rfl rfl (by kernel_rfl) rfl rfl (by simp) ?_;unfold unicode_utf8_decodeRuneSlow at h;simp
 rcases iC h with ⟨c0,h⟩ | ⟨c0,h⟩
 ·simp[c0]
  cases h
  rfl
 ·simp[c0];obtain⟨v1,h2,h⟩:=bS h;simp[c0,h2]
  rcases iC h with ⟨c3,h⟩ | ⟨c3,h⟩
  ·simp[c0,h2,c3];obtain⟨v4,h5,h⟩:=bS h;simp[c0,h2,c3,h5]
   rcases iC h with ⟨c6,h⟩ | ⟨c6,h⟩
   ·simp[c0,h2,c3,h5,c6]
    rcases iC h with ⟨c7,h⟩ | ⟨c7,h⟩
    ·simp[c0,h2,c3,h5,c6,c7]
     cases h
    ·simp[c0,h2,c3,h5,c6,c7]
     cases h
     rfl
   ·simp[c0,h2,c3,h5,c6]
    rcases iC h with ⟨c8,h⟩ | ⟨c8,h⟩
    ·simp[c0,h2,c3,h5,c6,c8]
     cases h
    ·simp[c0,h2,c3,h5,c6,c8]
     rcases iC h with ⟨c9,h⟩ | ⟨c9,h⟩
     ·simp[c0,h2,c3,h5,c6,c8,c9];obtain⟨v10,h11,h⟩:=bS h;simp[c0,h2,c3,h5,c6,c8,c9,h11]
      rcases iC h with ⟨c12,h⟩ | ⟨c12,h⟩
      ·simp[c0,h2,c3,h5,c6,c8,c9,h11,c12]
       cases h
       rfl
      ·simp[c0,h2,c3,h5,c6,c8,c9,h11,c12];obtain⟨v13,h14,h⟩:=bS h;simp[c0,h2,c3,h5,c6,c8,c9,h11,c12,h14]
       rcases iC h with ⟨c15,h⟩ | ⟨c15,h⟩
       ·simp[c0,h2,c3,h5,c6,c8,c9,h11,c12,h14,c15]
        cases h
        rfl
       ·simp[c0,h2,c3,h5,c6,c8,c9,h11,c12,h14,c15]
        rcases iC h with ⟨c16,h⟩ | ⟨c16,h⟩
        ·simp[c0,h2,c3,h5,c6,c8,c9,h11,c12,h14,c15,c16]
         cases h
         rfl
        ·simp[c0,h2,c3,h5,c6,c8,c9,h11,c12,h14,c15,c16]
         rcases iC h with ⟨c17,h⟩ | ⟨c17,h⟩
         ·simp[c0,h2,c3,h5,c6,c8,c9,h11,c12,h14,c15,c16,c17]
          rcases iC h with ⟨c18,h⟩ | ⟨c18,h⟩
          ·simp[c0,h2,c3,h5,c6,c8,c9,h11,c12,h14,c15,c16,c17,c18]
           cases h
          ·simp[c0,h2,c3,h5,c6,c8,c9,h11,c12,h14,c15,c16,c17,c18]
           cases h
           rfl
         ·simp[c0,h2,c3,h5,c6,c8,c9,h11,c12,h14,c15,c16,c17];obtain⟨v19,h20,h⟩:=bS h;simp[c0,h2,c3,h5,c6,c8,c9,h11,c12,h14,c15,c16,c17,h20]
          rcases iC h with ⟨c21,h⟩ | ⟨c21,h⟩
          ·simp[c0,h2,c3,h5,c6,c8,c9,h11,c12,h14,c15,c16,c17,h20,c21]
           cases h
           rfl
          ·simp[c0,h2,c3,h5,c6,c8,c9,h11,c12,h14,c15,c16,c17,h20,c21]
           rcases iC h with ⟨c22,h⟩ | ⟨c22,h⟩
           ·simp[c0,h2,c3,h5,c6,c8,c9,h11,c12,h14,c15,c16,c17,h20,c21,c22]
            cases h
            rfl
           ·simp[c0,h2,c3,h5,c6,c8,c9,h11,c12,h14,c15,c16,c17,h20,c21,c22]
            rcases iC h with ⟨c23,h⟩ | ⟨c23,h⟩
            ·simp[c0,h2,c3,h5,c6,c8,c9,h11,c12,h14,c15,c16,c17,h20,c21,c22,c23]
             rcases iC h with ⟨c24,h⟩ | ⟨c24,h⟩
             ·simp[c0,h2,c3,h5,c6,c8,c9,h11,c12,h14,c15,c16,c17,h20,c21,c22,c23,c24]
              cases h
             ·simp[c0,h2,c3,h5,c6,c8,c9,h11,c12,h14,c15,c16,c17,h20,c21,c22,c23,c24]
              rcases iC h with ⟨c25,h⟩ | ⟨c25,h⟩
              ·simp[c0,h2,c3,h5,c6,c8,c9,h11,c12,h14,c15,c16,c17,h20,c21,c22,c23,c24,c25]
               cases h
              ·simp[c0,h2,c3,h5,c6,c8,c9,h11,c12,h14,c15,c16,c17,h20,c21,c22,c23,c24,c25]
               cases h
               rfl
            ·simp[c0,h2,c3,h5,c6,c8,c9,h11,c12,h14,c15,c16,c17,h20,c21,c22,c23];obtain⟨v26,h27,h⟩:=bS h;simp[c0,h2,c3,h5,c6,c8,c9,h11,c12,h14,c15,c16,c17,h20,c21,c22,c23,h27]
             rcases iC h with ⟨c28,h⟩ | ⟨c28,h⟩
             ·simp[c0,h2,c3,h5,c6,c8,c9,h11,c12,h14,c15,c16,c17,h20,c21,c22,c23,h27,c28]
              cases h
              rfl
             ·simp[c0,h2,c3,h5,c6,c8,c9,h11,c12,h14,c15,c16,c17,h20,c21,c22,c23,h27,c28]
              rcases iC h with ⟨c29,h⟩ | ⟨c29,h⟩
              ·simp[c0,h2,c3,h5,c6,c8,c9,h11,c12,h14,c15,c16,c17,h20,c21,c22,c23,h27,c28,c29]
               cases h
               rfl
              ·simp[c0,h2,c3,h5,c6,c8,c9,h11,c12,h14,c15,c16,c17,h20,c21,c22,c23,h27,c28,c29]
               rcases iC h with ⟨c30,h⟩ | ⟨c30,h⟩
               ·simp[c0,h2,c3,h5,c6,c8,c9,h11,c12,h14,c15,c16,c17,h20,c21,c22,c23,h27,c28,c29,c30]
                cases h
               ·simp[c0,h2,c3,h5,c6,c8,c9,h11,c12,h14,c15,c16,c17,h20,c21,c22,c23,h27,c28,c29,c30]
                rcases iC h with ⟨c31,h⟩ | ⟨c31,h⟩
                ·simp[c0,h2,c3,h5,c6,c8,c9,h11,c12,h14,c15,c16,c17,h20,c21,c22,c23,h27,c28,c29,c30,c31]
                 cases h
                ·simp[c0,h2,c3,h5,c6,c8,c9,h11,c12,h14,c15,c16,c17,h20,c21,c22,c23,h27,c28,c29,c30,c31]
                 rcases iC h with ⟨c32,h⟩ | ⟨c32,h⟩
                 ·simp[c0,h2,c3,h5,c6,c8,c9,h11,c12,h14,c15,c16,c17,h20,c21,c22,c23,h27,c28,c29,c30,c31,c32]
                  cases h
                 ·simp[c0,h2,c3,h5,c6,c8,c9,h11,c12,h14,c15,c16,c17,h20,c21,c22,c23,h27,c28,c29,c30,c31,c32]
                  cases h
                  rfl
     ·simp[c0,h2,c3,h5,c6,c8,c9]
      cases h
  ·simp[c0,h2,c3]
   cases h
theorem w_unicode_utf8_decodeRuneInStringSlow (s:ByteArray)(r:Int × Int)(h:unicode_utf8_decodeRuneInStringSlow s=some r):ev 69 [T.c (.lit (.string s))]=some (T.tup [T.c (.lit (.int IntKind.i32 r.1)),T.c (.lit (.int .i64 r.2))],[]):=by
 refine ev_run' (kp:=k69) (us:=[21,3]) fn69 rfl rfl rfl rfl rfl (by kernel_rfl) rfl rfl (by simp) ?_;unfold unicode_utf8_decodeRuneInStringSlow at h;simp
 rcases iC h with ⟨c0,h⟩ | ⟨c0,h⟩
 ·simp[c0]
  cases h
  rfl
 ·simp[c0];obtain⟨v1,h2,h⟩:=bS h;simp[c0,h2]
  rcases iC h with ⟨c3,h⟩ | ⟨c3,h⟩
  ·simp[c0,h2,c3];obtain⟨v4,h5,h⟩:=bS h;simp[c0,h2,c3,h5]
   rcases iC h with ⟨c6,h⟩ | ⟨c6,h⟩
   ·simp[c0,h2,c3,h5,c6]
    rcases iC h with ⟨c7,h⟩ | ⟨c7,h⟩
    ·simp[c0,h2,c3,h5,c6,c7]
     cases h
    ·simp[c0,h2,c3,h5,c6,c7]
     cases h
     rfl
   ·simp[c0,h2,c3,h5,c6]
    rcases iC h with ⟨c8,h⟩ | ⟨c8,h⟩
    ·simp[c0,h2,c3,h5,c6,c8]
     cases h
    ·simp[c0,h2,c3,h5,c6,c8]
     rcases iC h with ⟨c9,h⟩ | ⟨c9,h⟩
     ·simp[c0,h2,c3,h5,c6,c8,c9];obtain⟨v10,h11,h⟩:=bS h;simp[c0,h2,c3,h5,c6,c8,c9,h11]
      rcases iC h with ⟨c12,h⟩ | ⟨c12,h⟩
      ·simp[c0,h2,c3,h5,c6,c8,c9,h11,c12]
       cases h
       rfl
      ·simp[c0,h2,c3,h5,c6,c8,c9,h11,c12];obtain⟨v13,h14,h⟩:=bS h;simp[c0,h2,c3,h5,c6,c8,c9,h11,c12,h14]
       rcases iC h with ⟨c15,h⟩ | ⟨c15,h⟩
       ·simp[c0,h2,c3,h5,c6,c8,c9,h11,c12,h14,c15]
        cases h
        rfl
       ·simp[c0,h2,c3,h5,c6,c8,c9,h11,c12,h14,c15]
        rcases iC h with ⟨c16,h⟩ | ⟨c16,h⟩
        ·simp[c0,h2,c3,h5,c6,c8,c9,h11,c12,h14,c15,c16]
         cases h
         rfl
        ·simp[c0,h2,c3,h5,c6,c8,c9,h11,c12,h14,c15,c16]
         rcases iC h with ⟨c17,h⟩ | ⟨c17,h⟩
         ·simp[c0,h2,c3,h5,c6,c8,c9,h11,c12,h14,c15,c16,c17]
          rcases iC h with ⟨c18,h⟩ | ⟨c18,h⟩
          ·simp[c0,h2,c3,h5,c6,c8,c9,h11,c12,h14,c15,c16,c17,c18]
           cases h
          ·simp[c0,h2,c3,h5,c6,c8,c9,h11,c12,h14,c15,c16,c17,c18]
           cases h
           rfl
         ·simp[c0,h2,c3,h5,c6,c8,c9,h11,c12,h14,c15,c16,c17];obtain⟨v19,h20,h⟩:=bS h;simp[c0,h2,c3,h5,c6,c8,c9,h11,c12,h14,c15,c16,c17,h20]
          rcases iC h with ⟨c21,h⟩ | ⟨c21,h⟩
          ·simp[c0,h2,c3,h5,c6,c8,c9,h11,c12,h14,c15,c16,c17,h20,c21]
           cases h
           rfl
          ·simp[c0,h2,c3,h5,c6,c8,c9,h11,c12,h14,c15,c16,c17,h20,c21]
           rcases iC h with ⟨c22,h⟩ | ⟨c22,h⟩
           ·simp[c0,h2,c3,h5,c6,c8,c9,h11,c12,h14,c15,c16,c17,h20,c21,c22]
            cases h
            rfl
           ·simp[c0,h2,c3,h5,c6,c8,c9,h11,c12,h14,c15,c16,c17,h20,c21,c22]
            rcases iC h with ⟨c23,h⟩ | ⟨c23,h⟩
            ·simp[c0,h2,c3,h5,c6,c8,c9,h11,c12,h14,c15,c16,c17,h20,c21,c22,c23]
             rcases iC h with ⟨c24,h⟩ | ⟨c24,h⟩
             ·simp[c0,h2,c3,h5,c6,c8,c9,h11,c12,h14,c15,c16,c17,h20,c21,c22,c23,c24]
              cases h
             ·simp[c0,h2,c3,h5,c6,c8,c9,h11,c12,h14,c15,c16,c17,h20,c21,c22,c23,c24]
              rcases iC h with ⟨c25,h⟩ | ⟨c25,h⟩
              ·simp[c0,h2,c3,h5,c6,c8,c9,h11,c12,h14,c15,c16,c17,h20,c21,c22,c23,c24,c25]
               cases h
              ·simp[c0,h2,c3,h5,c6,c8,c9,h11,c12,h14,c15,c16,c17,h20,c21,c22,c23,c24,c25]
               cases h
               rfl
            ·simp[c0,h2,c3,h5,c6,c8,c9,h11,c12,h14,c15,c16,c17,h20,c21,c22,c23];obtain⟨v26,h27,h⟩:=bS h;simp[c0,h2,c3,h5,c6,c8,c9,h11,c12,h14,c15,c16,c17,h20,c21,c22,c23,h27]
             rcases iC h with ⟨c28,h⟩ | ⟨c28,h⟩
             ·simp[c0,h2,c3,h5,c6,c8,c9,h11,c12,h14,c15,c16,c17,h20,c21,c22,c23,h27,c28]
              cases h
              rfl
             ·simp[c0,h2,c3,h5,c6,c8,c9,h11,c12,h14,c15,c16,c17,h20,c21,c22,c23,h27,c28]
              rcases iC h with ⟨c29,h⟩ | ⟨c29,h⟩
              ·simp[c0,h2,c3,h5,c6,c8,c9,h11,c12,h14,c15,c16,c17,h20,c21,c22,c23,h27,c28,c29]
               cases h
               rfl
              ·simp[c0,h2,c3,h5,c6,c8,c9,h11,c12,h14,c15,c16,c17,h20,c21,c22,c23,h27,c28,c29]
               rcases iC h with ⟨c30,h⟩ | ⟨c30,h⟩
               ·simp[c0,h2,c3,h5,c6,c8,c9,h11,c12,h14,c15,c16,c17,h20,c21,c22,c23,h27,c28,c29,c30]
                cases h
               ·simp[c0,h2,c3,h5,c6,c8,c9,h11,c12,h14,c15,c16,c17,h20,c21,c22,c23,h27,c28,c29,c30]
                rcases iC h with ⟨c31,h⟩ | ⟨c31,h⟩
                ·simp[c0,h2,c3,h5,c6,c8,c9,h11,c12,h14,c15,c16,c17,h20,c21,c22,c23,h27,c28,c29,c30,c31]
                 cases h
                ·simp[c0,h2,c3,h5,c6,c8,c9,h11,c12,h14,c15,c16,c17,h20,c21,c22,c23,h27,c28,c29,c30,c31]
                 rcases iC h with ⟨c32,h⟩ | ⟨c32,h⟩
                 ·simp[c0,h2,c3,h5,c6,c8,c9,h11,c12,h14,c15,c16,c17,h20,c21,c22,c23,h27,c28,c29,c30,c31,c32]
                  cases h
                 ·simp[c0,h2,c3,h5,c6,c8,c9,h11,c12,h14,c15,c16,c17,h20,c21,c22,c23,h27,c28,c29,c30,c31,c32]
                  cases h
                  rfl
     ·simp[c0,h2,c3,h5,c6,c8,c9]
      cases h
  ·simp[c0,h2,c3]
   cases h
theorem w_unicode_utf8_DecodeRuneInString (s:ByteArray)(r:Int × Int)(h:unicode_utf8_DecodeRuneInString s=some r):ev 62 [T.c (.lit (.string s))]=some (T.tup [T.c (.lit (.int IntKind.i32 r.1)),T.c (.lit (.int .i64 r.2))],[]):=by
 refine ev_run' (kp:=k62) (us:=[21,3]) fn62 rfl rfl rfl rfl rfl (by kernel_rfl) rfl rfl (by simp) ?_;unfold unicode_utf8_DecodeRuneInString at h;simp
 rcases iC h with ⟨c0,h⟩ | ⟨c0,h⟩
 ·simp[c0];obtain⟨⟨v1,v2⟩,h3',h⟩:=bS h;have h3:ev 69 [T.c (.lit (.string s))]=some (T.tup [T.c (.lit (.int IntKind.i32 v1)),T.c (.lit (.int .i64 v2))],[]):=w_unicode_utf8_decodeRuneInStringSlow _ _ h3';simp[c0,h3]
  cases h
  rfl
 ·simp[c0];obtain⟨v4,h5,h⟩:=bS h;simp[c0,h5]
  rcases iC h with ⟨c6,h⟩ | ⟨c6,h⟩
  ·simp[c0,h5,c6]
   cases h
   rfl
  ·simp[c0,h5,c6];obtain⟨⟨v7,v8⟩,h9',h⟩:=bS h;have h9:ev 69 [T.c (.lit (.string s))]=some (T.tup [T.c (.lit (.int IntKind.i32 v7)),T.c (.lit (.int .i64 v8))],[]):=w_unicode_utf8_decodeRuneInStringSlow _ _ h9';simp[c0,h5,c6,h9]
   cases h
   rfl
theorem w_unicode_utf8_DecodeRune (p_:List Int)(r:Int × Int)(h:unicode_utf8_DecodeRune p_=some r):ev 95 [T.c (sls 1 byteF p_)]=some (T.tup [T.c (.lit (.int IntKind.i32 r.1)),T.c (.lit (.int .i64 r.2))],[]):=by
 refine ev_run' (kp:=k95) (us:=[21,3]) fn95 rfl rfl rfl rfl rfl (by kernel_rfl) rfl rfl (by simp) ?_;unfold unicode_utf8_DecodeRune at h;simp;obtain⟨w21,h20,h⟩:=bS h;rw[eL (ι:=Unit) (ρ:=Int ⊕ Unit) (fun p=>match p with | ()=>mk 22 [(0,T.c (sls 1 byteF p_)),(6,T.c (sls 1 byteF p_)),(7,T.c (.lit (.int .i64 (lenI p_)))),(8,T.c (.lit (.int .i64 0)))] [] []) (fun r=>match r with | .inl y16=>(Ex.ret,mk 22 [(2,T.c (.lit (.int IntKind.i32 y16))),(3,T.c (.lit (.int .i64 1)))] [] []) | .inr ()=>(Ex.exit 0,mk 22 [(0,T.c (sls 1 byteF p_))] [] [])) (unicode_utf8_DecodeRune_B0 p_) h20 ?_ _ ?_]
 ·rcases w21 with y16 | ⟨⟩
  ·simp
   cases h
   rfl
  ·simp;obtain⟨⟨v17,v18⟩,h19',h⟩:=bS h;have h19:ev 99 [T.c (sls 1 byteF p_)]=some (T.tup [T.c (.lit (.int IntKind.i32 v17)),T.c (.lit (.int .i64 v18))],[]):=w_unicode_utf8_decodeRuneSlow _ _ h19';simp[h19]
   cases h
   rfl
 ·clear h20 h;rintro⟨⟩ y L res h hL hR;unfold unicode_utf8_DecodeRune_B0 at h;simp
  rcases iC h with ⟨c12,h⟩ | ⟨c12,h⟩
  ·simp[c12];obtain⟨v13,h14,h⟩:=bS h;simp[c12,h14]
   rcases iC h with ⟨c15,h⟩ | ⟨c15,h⟩
   ·simp[c12,h14,c15]
    cases h
    exact hR _ rfl
   ·simp[c12,h14,c15]
    cases h
    exact hR _ rfl
  ·simp[c12]
   cases h
   exact hR _ rfl
 ·simp[headOf]
theorem w_lex_run_1_figs (r_:Int)(r:Bool)(h:lex_run_1_figs r_=some r):ev 89 [T.c (.lit (.int IntKind.i32 r_)),T.c (C.fptr [C.lit (Go.Value.func (Go.Fn.func 78) #[] #[])] 0)]=some (T.c (.lit (.bool r)),[]):=by
 refine ev_run' (kp:=k89) (us:=[4]) fn89 rfl rfl rfl rfl rfl (by kernel_rfl) rfl rfl (by simp) ?_;unfold lex_run_1_figs at h;simp
 rcases iC h with ⟨c0,h⟩ | ⟨c0,h⟩
 ·simp[c0]
  cases h
  rfl
 ·simp[c0];obtain⟨v1,h2',h⟩:=bS h;have h2:ev 78 [T.c (.lit (.int IntKind.u8 (iconv .u8 r_)))]=some (T.c (.lit (.bool v1)),[]):=w_lex_Number_1 _ _ h2';simp[c0,h2]
  cases h
  rfl
theorem w_bytes_indexFunc_figs (s:List Int)(r:Int)(h:bytes_indexFunc_figs s=some r):ev 93 [T.c (sls 1 byteF s),T.c (C.fn 89 [C.fptr [C.lit (Go.Value.func (Go.Fn.func 78) #[] #[])] 0]),T.c (C.lit (Go.Value.bool true))]=some (T.c (.lit (.int .i64 r)),[]):=by
 refine ev_run' (kp:=k93) (us:=[3]) fn93 rfl rfl rfl rfl rfl (by kernel_rfl) rfl rfl (by simp) ?_;unfold bytes_indexFunc_figs at h;simp;obtain⟨w31,h30,h⟩:=bS h;rw[eL (ι:=Int) (ρ:=Int ⊕ Unit) (fun p=>match p with | x20=>mk 30 [(0,T.c (sls 1 byteF s)),(1,T.c (C.fn 89 [C.fptr [C.lit (.func (Fn.func 78) #[] #[])] 0])),(2,T.c (.lit (.bool true))),(7,T.c (.lit (.int .i64 x20)))] [] []) (fun r=>match r with | .inl y29=>(Ex.ret,mk 30 [(6,T.c (.lit (.int .i64 y29)))] [] []) | .inr ()=>(Ex.exit 0,mk 30 [] [] [])) (bytes_indexFunc_figs_B0 s) h30 ?_ _ ?_]
 ·rcases w31 with y29 | ⟨⟩
  ·simp
   cases h
   rfl
  ·simp
   cases h
   rfl
 ·clear h30 h;rintro x20 y L res h hL hR;unfold bytes_indexFunc_figs_B0 at h;simp
  rcases iC h with ⟨c21,h⟩ | ⟨c21,h⟩
  ·simp[c21]
   rcases iC h with ⟨c22,h⟩ | ⟨c22,h⟩
   ·simp[c21,c22];obtain⟨⟨v23,v24⟩,h25',h⟩:=bS h;have h25:ev 95 [T.c (sls 1 byteF (cut s x20 (lenI s)))]=some (T.tup [T.c (.lit (.int IntKind.i32 v23)),T.c (.lit (.int .i64 v24))],[]):=w_unicode_utf8_DecodeRune _ _ h25';simp[c21,c22,h25];obtain⟨v26,h27',h⟩:=bS h;have h27:ev 89 [T.c (.lit (.int IntKind.i32 v23)),T.c (C.fptr [C.lit (.func (Fn.func 78) #[] #[])] 0)]=some (T.c (.lit (.bool v26)),[]):=w_lex_run_1_figs _ _ h27';simp[c21,c22,h25,h27]
    rcases iC h with ⟨c28,h⟩ | ⟨c28,h⟩
    ·simp[c21,c22,h25,h27,c28]
     cases h
     exact hR _ rfl
    ·simp[c21,c22,h25,h27,c28]
     cases h
     exact hL _ _ rfl (by simp[headOf])
   ·simp[c21,c22]
    cases h
  ·simp[c21]
   cases h
   exact hR _ rfl
 ·simp[headOf]
theorem w_bytes_IndexFunc_figs (s:List Int)(r:Int)(h:bytes_IndexFunc_figs s=some r):ev 88 [T.c (sls 1 byteF s),T.c (C.fn 89 [C.fptr [C.lit (Go.Value.func (Go.Fn.func 78) #[] #[])] 0])]=some (T.c (.lit (.int .i64 r)),[]):=by
 refine ev_run' (kp:=k88) (us:=[3]) fn88 rfl rfl rfl rfl rfl (by kernel_rfl) rfl rfl (by simp) ?_;unfold bytes_IndexFunc_figs at h;simp;obtain⟨v0,h1',h⟩:=bS h;have h1:ev 93 [T.c (sls 1 byteF s),T.c (C.fn 89 [C.fptr [C.lit (.func (Fn.func 78) #[] #[])] 0]),T.c (.lit (.bool true))]=some (T.c (.lit (.int .i64 v0)),[]):=w_bytes_indexFunc_figs _ _ h1';simp[h1]
 cases h
 rfl
theorem w_lex_run_figs (b:List Int)(at_:Int)(r:Int)(h:lex_run_figs b at_=some r):ev 77 [T.c (sls 1 byteF b),T.c (.lit (.int .i64 at_)),T.c (C.lit (Go.Value.func (Go.Fn.func 78) #[] #[]))]=some (T.c (.lit (.int .i64 r)),[]):=by
 refine ev_run' (kp:=k77) (us:=[3]) fn77 rfl rfl rfl rfl rfl (by kernel_rfl) rfl rfl (by simp) ?_;unfold lex_run_figs at h;simp
 rcases iC h with ⟨c0,h⟩ | ⟨c0,h⟩
 ·simp[c0];obtain⟨v1,h2',h⟩:=bS h;have h2:ev 88 [T.c (sls 1 byteF (cut b at_ (lenI b))),T.c (C.fn 89 [C.fptr [C.lit (.func (Fn.func 78) #[] #[])] 0])]=some (T.c (.lit (.int .i64 v1)),[]):=w_bytes_IndexFunc_figs _ _ h2';simp[c0,h2]
  rcases iC h with ⟨c3,h⟩ | ⟨c3,h⟩
  ·simp[c0,h2,c3]
   cases h
   rfl
  ·simp[c0,h2,c3]
   cases h
   rfl
 ·simp[c0]
  cases h
theorem w_internal_stringslite_HasPrefix (s:ByteArray)(prefix_:ByteArray)(r:Bool)(h:internal_stringslite_HasPrefix s prefix_=some r):ev 87 [T.c (.lit (.string s)),T.c (.lit (.string prefix_))]=some (T.c (.lit (.bool r)),[]):=by
 refine ev_run' (kp:=k87) (us:=[4]) fn87 rfl rfl rfl rfl rfl (by kernel_rfl) rfl rfl (by simp) ?_;unfold internal_stringslite_HasPrefix at h;simp
 rcases iC h with ⟨c0,h⟩ | ⟨c0,h⟩
 ·simp[c0]
  rcases iC h with ⟨c1,h⟩ | ⟨c1,h⟩
  ·simp[c0,c1]
   cases h
   rfl
  ·simp[c0,c1]
   cases h
 ·simp[c0]
  cases h
  rfl
theorem w_strings_HasPrefix (s:ByteArray)(prefix_:ByteArray)(r:Bool)(h:strings_HasPrefix s prefix_=some r):ev 76 [T.c (.lit (.string s)),T.c (.lit (.string prefix_))]=some (T.c (.lit (.bool r)),[]):=by
 refine ev_run' (kp:=k76) (us:=[4]) fn76 rfl rfl rfl rfl rfl (by kernel_rfl) rfl rfl (by simp) ?_;unfold strings_HasPrefix at h;simp;obtain⟨v0,h1',h⟩:=bS h;have h1:ev 87 [T.c (.lit (.string s)),T.c (.lit (.string prefix_))]=some (T.c (.lit (.bool v0)),[]):=w_internal_stringslite_HasPrefix _ _ _ h1';simp[h1]
 cases h
 rfl
theorem w_lex_Is (b:List Int)(at_:Int)(s:ByteArray)(r:Int × Bool)(h:lex_Is b at_ s=some r):ev 65 [T.c (sls 1 byteF b),T.c (.lit (.int .i64 at_)),T.c (.lit (.string s))]=some (T.tup [T.c (.lit (.int .i64 r.1)),T.c (.lit (.bool r.2))],[]):=by
 refine ev_run' (kp:=k65) (us:=[3,4]) fn65 rfl rfl rfl rfl rfl (by kernel_rfl) rfl rfl (by simp) ?_;unfold lex_Is at h;simp;obtain⟨v0,h1',h⟩:=bS h;have h1:ev 75 [T.c (sls 1 byteF b),T.c (.lit (.int .i64 at_))]=some (T.c (.lit (.bool v0)),[]):=w_lex_isPlace _ _ _ h1';simp[h1]
 rcases iC h with ⟨c2,h⟩ | ⟨c2,h⟩
 ·simp[h1,c2]
  rcases iC h with ⟨c3,h⟩ | ⟨c3,h⟩
  ·simp[h1,c2,c3];obtain⟨v4,h5',h⟩:=bS h;have h5:ev 76 [T.c (.lit (.string (strOf (cut b at_ (lenI b))))),T.c (.lit (.string s))]=some (T.c (.lit (.bool v4)),[]):=w_strings_HasPrefix _ _ _ h5';simp[h1,c2,c3,h5]
   rcases iC h with ⟨c6,h⟩ | ⟨c6,h⟩
   ·simp[h1,c2,c3,h5,c6]
    cases h
    rfl
   ·simp[h1,c2,c3,h5,c6]
    cases h
    rfl
  ·simp[h1,c2,c3]
   cases h
 ·simp[h1,c2]
  cases h
  rfl
theorem w_internal_stringslite_IndexByte (s:ByteArray)(c:Int)(r:Int)(h:internal_stringslite_IndexByte s c=some r):ev 70 [T.c (.lit (.string s)),T.c (.lit (.int IntKind.u8 c))]=some (T.c (.lit (.int .i64 r)),[]):=by
 refine ev_run' (kp:=k70) (us:=[3]) fn70 rfl rfl rfl rfl rfl (by kernel_rfl) rfl rfl (by simp) ?_;unfold internal_stringslite_IndexByte at h;simp
 cases h
 rfl
theorem w_internal_stringslite_Index_nl (s:ByteArray)(r:Int)(h:internal_stringslite_Index_nl s=some r):ev 94 [T.c (.lit (.string s)),T.c (C.lit (Go.Value.string { data:=#[10] }))]=some (T.c (.lit (.int .i64 r)),[]):=by
 refine ev_run' (kp:=k94) (us:=[3]) fn94 rfl rfl rfl rfl rfl (by kernel_rfl) rfl rfl (by simp) ?_;unfold internal_stringslite_Index_nl at h;simp
 rcases iC h with ⟨c0,h⟩ | ⟨c0,h⟩
 ·simp[c0]
  cases h
  rfl
 ·simp[c0];obtain⟨v1,h2,h⟩:=bS h;simp[c0,h2];obtain⟨v3,h4',h⟩:=bS h;have h4:ev 70 [T.c (.lit (.string s)),T.c (.lit (.int IntKind.u8 v1))]=some (T.c (.lit (.int .i64 v3)),[]):=w_internal_stringslite_IndexByte _ _ _ h4';simp[c0,h2,h4]
  cases h
  rfl
theorem w_internal_stringslite_Cut_nl (s:ByteArray)(r:ByteArray × ByteArray × Bool)(h:internal_stringslite_Cut_nl s=some r):ev 90 [T.c (.lit (.string s)),T.c (C.lit (Go.Value.string { data:=#[10] }))]=some (T.tup [T.c (.lit (.string r.1)),T.c (.lit (.string r.2.1)),T.c (.lit (.bool r.2.2))],[]):=by
 refine ev_run' (kp:=k90) (us:=[9,9,4]) fn90 rfl rfl rfl rfl rfl (by kernel_rfl) rfl rfl (by simp) ?_;unfold internal_stringslite_Cut_nl at h;simp;obtain⟨v0,h1',h⟩:=bS h;have h1:ev 94 [T.c (.lit (.string s)),T.c (.lit (.string { data:=#[10] }))]=some (T.c (.lit (.int .i64 v0)),[]):=w_internal_stringslite_Index_nl _ _ h1';simp[h1]
 rcases iC h with ⟨c2,h⟩ | ⟨c2,h⟩
 ·simp[h1,c2]
  rcases iC h with ⟨c3,h⟩ | ⟨c3,h⟩
  ·simp[h1,c2,c3]
   rcases iC h with ⟨c4,h⟩ | ⟨c4,h⟩
   ·simp[h1,c2,c3,c4]
    cases h
    rfl
   ·simp[h1,c2,c3,c4]
    cases h
  ·simp[h1,c2,c3]
   cases h
 ·simp[h1,c2]
  cases h
  rfl
theorem w_strings_Cut_nl (s:ByteArray)(r:ByteArray × ByteArray × Bool)(h:strings_Cut_nl s=some r):ev 79 [T.c (.lit (.string s)),T.c (C.lit (Go.Value.string { data:=#[10] }))]=some (T.tup [T.c (.lit (.string r.1)),T.c (.lit (.string r.2.1)),T.c (.lit (.bool r.2.2))],[]):=by
 refine ev_run' (kp:=k79) (us:=[9,9,4]) fn79 rfl rfl rfl rfl rfl (by kernel_rfl) rfl rfl (by simp) ?_;unfold strings_Cut_nl at h;simp;obtain⟨⟨v0,v1,v2⟩,h3',h⟩:=bS h;have h3:ev 90 [T.c (.lit (.string s)),T.c (.lit (.string { data:=#[10] }))]=some (T.tup [T.c (.lit (.string v0)),T.c (.lit (.string v1)),T.c (.lit (.bool v2))],[]):=w_internal_stringslite_Cut_nl _ _ h3';simp[h3]
 cases h
 rfl
theorem w_lex_IsName (s:ByteArray)(r:Bool)(h:lex_IsName s=some r):ev 52 [T.c (.lit (.string s))]=some (T.c (.lit (.bool r)),[]):=by
 refine ev_run' (kp:=k52) (us:=[4]) fn52 rfl rfl rfl rfl rfl (by kernel_rfl) rfl rfl (by simp) ?_;unfold lex_IsName at h;simp;obtain⟨w38,h37,h⟩:=bS h;rw[eL (ι:=Int × Nat) (ρ:=Unit ⊕ Int) (fun p=>match p with | (x24,x25)=>mk 43 [(0,T.c (.lit (.string s))),(3,T.c (.lit (.int .i64 x24))),(9,T.itr s x25)] [] []) (fun r=>match r with | .inl ()=>(Ex.ret,mk 43 [(2,T.c (.lit (.bool false)))] [] []) | .inr y35=>(Ex.exit 0,mk 43 [(3,T.c (.lit (.int .i64 y35)))] [] [])) (lex_IsName_B0 s) h37 ?_ _ ?_]
 ·rcases w38 with ⟨⟩ | y35
  ·simp
   cases h
   rfl
  ·simp
   rcases iC h with ⟨c36,h⟩ | ⟨c36,h⟩
   ·simp[c36]
    cases h
    rfl
   ·simp[c36]
    cases h
    rfl
 ·clear h37 h;rintro⟨x24,x25⟩ y L res h hL hR;unfold lex_IsName_B0 at h;simp
  rcases iC h with ⟨c26,h⟩ | ⟨c26,h⟩
  ·simp[c26]
   rcases iC h with ⟨c27,h⟩ | ⟨c27,h⟩
   ·simp[c26,c27];obtain⟨⟨v28,v29⟩,h30',h⟩:=bS h;have h30:ev 62 [T.c (.lit (.string (cutB s (ofN x25) (sizI s))))]=some (T.tup [T.c (.lit (.int IntKind.i32 v28)),T.c (.lit (.int .i64 v29))],[]):=w_unicode_utf8_DecodeRuneInString _ _ h30';simp[c26,c27,h30]
    rcases iC h with ⟨c31,h⟩ | ⟨c31,h⟩
    ·simp[c26,c27,h30,c31]
     cases h
     exact hR _ rfl
    ·simp[c26,c27,h30,c31]
     rcases iC h with ⟨c32,h⟩ | ⟨c32,h⟩
     ·simp[c26,c27,h30,c31,c32]
      cases h
      exact hR _ rfl
     ·simp[c26,c27,h30,c31,c32]
      rcases iC h with ⟨c33,h⟩ | ⟨c33,h⟩
      ·simp[c26,c27,h30,c31,c32,c33]
       rcases iC h with ⟨c34,h⟩ | ⟨c34,h⟩
       ·simp[c26,c27,h30,c31,c32,c33,c34]
        cases h
        exact hR _ rfl
       ·simp[c26,c27,h30,c31,c32,c33,c34]
        cases h
        exact hL _ _ rfl (by simp[headOf])
      ·simp[c26,c27,h30,c31,c32,c33]
       cases h
       exact hL _ _ rfl (by simp[headOf])
   ·simp[c26,c27]
    cases h
  ·simp[c26]
   cases h
   exact hR _ rfl
 ·simp[headOf]
theorem w_lex_Name (b:List Int)(at_:Int)(r:ByteArray × Int × Int)(h:lex_Name b at_=some r):ev 67 [T.c (sls 1 byteF b),T.c (.lit (.int .i64 at_))]=some (T.tup [T.c (.lit (.string r.1)),T.c (.lit (.int .i64 r.2.1)),T.c (.lit (.int .i64 r.2.2))],[]):=by
 refine ev_run' (kp:=k67) (us:=[9,3,30]) fn67 rfl rfl rfl rfl rfl (by kernel_rfl) rfl rfl (by simp) ?_;unfold lex_Name at h;simp;obtain⟨v0,h1',h⟩:=bS h;have h1:ev 75 [T.c (sls 1 byteF b),T.c (.lit (.int .i64 at_))]=some (T.c (.lit (.bool v0)),[]):=w_lex_isPlace _ _ _ h1';simp[h1]
 rcases iC h with ⟨c2,h⟩ | ⟨c2,h⟩
 ·simp[h1,c2]
  rcases iC h with ⟨c3,h⟩ | ⟨c3,h⟩
  ·simp[h1,c2,c3];obtain⟨⟨v4,v5,v6⟩,h7',h⟩:=bS h;have h7:ev 79 [T.c (.lit (.string (strOf (cut b at_ (lenI b))))),T.c (.lit (.string { data:=#[10] }))]=some (T.tup [T.c (.lit (.string v4)),T.c (.lit (.string v5)),T.c (.lit (.bool v6))],[]):=w_strings_Cut_nl _ _ h7';simp[h1,c2,c3,h7];obtain⟨v8,h9',h⟩:=bS h;have h9:ev 52 [T.c (.lit (.string v4))]=some (T.c (.lit (.bool v8)),[]):=w_lex_IsName _ _ h9';simp[h1,c2,c3,h7,h9]
   rcases iC h with ⟨c10,h⟩ | ⟨c10,h⟩
   ·simp[h1,c2,c3,h7,h9,c10]
    cases h
    rfl
   ·simp[h1,c2,c3,h7,h9,c10]
    cases h
    rfl
  ·simp[h1,c2,c3]
   cases h
 ·simp[h1,c2]
  cases h
  rfl
theorem w_lex_Number (b:List Int)(at_:Int)(most:Int)(r:Int × Int × Int)(h:lex_Number b at_ most=some r):ev 66 [T.c (sls 1 byteF b),T.c (.lit (.int .i64 at_)),T.c (.lit (.int .i64 most))]=some (T.tup [T.c (.lit (.int .i64 r.1)),T.c (.lit (.int .i64 r.2.1)),T.c (.lit (.int .i64 r.2.2))],[]):=by
 refine ev_run' (kp:=k66) (us:=[3,3,30]) fn66 rfl rfl rfl rfl rfl (by kernel_rfl) rfl rfl (by simp) ?_;unfold lex_Number at h;simp;obtain⟨v0,h1',h⟩:=bS h;have h1:ev 75 [T.c (sls 1 byteF b),T.c (.lit (.int .i64 at_))]=some (T.c (.lit (.bool v0)),[]):=w_lex_isPlace _ _ _ h1';simp[h1]
 rcases iC h with ⟨c2,h⟩ | ⟨c2,h⟩
 ·simp[h1,c2];obtain⟨v3,h4',h⟩:=bS h;have h4:ev 77 [T.c (sls 1 byteF b),T.c (.lit (.int .i64 at_)),T.c (.lit (.func (Fn.func 78) #[] #[]))]=some (T.c (.lit (.int .i64 v3)),[]):=w_lex_run_figs _ _ _ h4';simp[h1,c2,h4]
  rcases iC h with ⟨c5,h⟩ | ⟨c5,h⟩
  ·simp[h1,c2,h4,c5]
   cases h
   rfl
  ·simp[h1,c2,h4,c5];obtain⟨v6,h7,h⟩:=bS h;simp[h1,c2,h4,c5,h7]
   rcases iC h with ⟨c8,h⟩ | ⟨c8,h⟩
   ·simp[h1,c2,h4,c5,h7,c8]
    rcases iC h with ⟨c9,h⟩ | ⟨c9,h⟩
    ·simp[h1,c2,h4,c5,h7,c8,c9]
     cases h
     rfl
    ·simp[h1,c2,h4,c5,h7,c8,c9]
     rcases iC h with ⟨c10,h⟩ | ⟨c10,h⟩
     ·simp[h1,c2,h4,c5,h7,c8,c9,c10];obtain⟨w36,h35,h⟩:=bS h;rw[eL (ι:=Int × Int) (ρ:=Unit ⊕ Int) (fun p=>match p with | (x28,x29)=>mk 60 [(1,T.c (.lit (.int .i64 at_))),(2,T.c (.lit (.int .i64 most))),(9,T.c (.lit (.int .i64 v3))),(10,T.c (.lit (.int .i64 x28))),(40,T.c (sls 1 byteF (cut b at_ v3))),(41,T.c (.lit (.int .i64 (lenI (cut b at_ v3))))),(42,T.c (.lit (.int .i64 x29)))] [] []) (fun r=>match r with | .inl ()=>(Ex.ret,mk 60 [(6,T.c (.lit (.int .i64 0))),(7,T.c (.lit (.int .i64 at_))),(8,T.c (.lit (.int .i64 3)))] [] []) | .inr y34=>(Ex.exit 0,mk 60 [(9,T.c (.lit (.int .i64 v3))),(10,T.c (.lit (.int .i64 y34)))] [] [])) (lex_Number_B0 b at_ most v3) h35 ?_ _ ?_]
      ·rcases w36 with ⟨⟩ | y34
       ·simp[h1,c2,h4,c5,h7,c8,c9,c10]
        cases h
        rfl
       ·simp[h1,c2,h4,c5,h7,c8,c9,c10]
        cases h
        rfl
      ·clear h35 h;rintro⟨x28,x29⟩ y L res h hL hR;unfold lex_Number_B0 at h;simp
       rcases iC h with ⟨c30,h⟩ | ⟨c30,h⟩
       ·simp[c30];obtain⟨v31,h32,h⟩:=bS h;simp[c30,h32]
        rcases iC h with ⟨c33,h⟩ | ⟨c33,h⟩
        ·simp[c30,h32,c33]
         cases h
         exact hR _ rfl
        ·simp[c30,h32,c33]
         cases h
         exact hL _ _ rfl (by simp[headOf])
       ·simp[c30]
        cases h
        exact hR _ rfl
      ·simp[headOf]
     ·simp[h1,c2,h4,c5,h7,c8,c9,c10]
      cases h
   ·simp[h1,c2,h4,c5,h7,c8]
    rcases iC h with ⟨c37,h⟩ | ⟨c37,h⟩
    ·simp[h1,c2,h4,c5,h7,c8,c37];obtain⟨w63,h62,h⟩:=bS h;rw[eL (ι:=Int × Int) (ρ:=Unit ⊕ Int) (fun p=>match p with | (x55,x56)=>mk 60 [(1,T.c (.lit (.int .i64 at_))),(2,T.c (.lit (.int .i64 most))),(9,T.c (.lit (.int .i64 v3))),(10,T.c (.lit (.int .i64 x55))),(40,T.c (sls 1 byteF (cut b at_ v3))),(41,T.c (.lit (.int .i64 (lenI (cut b at_ v3))))),(42,T.c (.lit (.int .i64 x56)))] [] []) (fun r=>match r with | .inl ()=>(Ex.ret,mk 60 [(6,T.c (.lit (.int .i64 0))),(7,T.c (.lit (.int .i64 at_))),(8,T.c (.lit (.int .i64 3)))] [] []) | .inr y61=>(Ex.exit 0,mk 60 [(9,T.c (.lit (.int .i64 v3))),(10,T.c (.lit (.int .i64 y61)))] [] [])) (lex_Number_B1 b at_ most v3) h62 ?_ _ ?_]
     ·rcases w63 with ⟨⟩ | y61
      ·simp[h1,c2,h4,c5,h7,c8,c37]
       cases h
       rfl
      ·simp[h1,c2,h4,c5,h7,c8,c37]
       cases h
       rfl
     ·clear h62 h;rintro⟨x55,x56⟩ y L res h hL hR;unfold lex_Number_B1 at h;simp
      rcases iC h with ⟨c57,h⟩ | ⟨c57,h⟩
      ·simp[c57];obtain⟨v58,h59,h⟩:=bS h;simp[c57,h59]
       rcases iC h with ⟨c60,h⟩ | ⟨c60,h⟩
       ·simp[c57,h59,c60]
        cases h
        exact hR _ rfl
       ·simp[c57,h59,c60]
        cases h
        exact hL _ _ rfl (by simp[headOf])
      ·simp[c57]
       cases h
       exact hR _ rfl
     ·simp[headOf]
    ·simp[h1,c2,h4,c5,h7,c8,c37]
     cases h
 ·simp[h1,c2]
  cases h
  rfl
theorem w_strings_IndexByte (s:ByteArray)(c:Int)(r:Int)(h:strings_IndexByte s c=some r):ev 63 [T.c (.lit (.string s)),T.c (.lit (.int IntKind.u8 c))]=some (T.c (.lit (.int .i64 r)),[]):=by
 refine ev_run' (kp:=k63) (us:=[3]) fn63 rfl rfl rfl rfl rfl (by kernel_rfl) rfl rfl (by simp) ?_;unfold strings_IndexByte at h;simp;obtain⟨v0,h1',h⟩:=bS h;have h1:ev 70 [T.c (.lit (.string s)),T.c (.lit (.int IntKind.u8 c))]=some (T.c (.lit (.int .i64 v0)),[]):=w_internal_stringslite_IndexByte _ _ _ h1';simp[h1]
 cases h
 rfl
theorem w_aig_Vars (a:Aig)(r:Int)(h:aig_Vars a=some r):ev 17 [T.agg (Aig.cells a)]=some (T.c (.lit (.int .i64 r)),[]):=by
 refine ev_run' (kp:=k17) (us:=[3]) fn17 rfl rfl rfl rfl rfl (by kernel_rfl) rfl rfl (by simp) ?_;unfold aig_Vars at h;simp
 cases h
 rfl
theorem w_aig_many (a:Aig)(kind:Int)(r:Int)(h:aig_many a kind=some r):ev 51 [T.agg (Aig.cells a),T.c (.lit (.int IntKind.u8 kind))]=some (T.c (.lit (.int .i64 r)),[]):=by
 refine ev_run' (kp:=k51) (us:=[3]) fn51 rfl rfl rfl rfl rfl (by kernel_rfl) rfl rfl (by simp) ?_;unfold aig_many at h;simp
 rcases iC h with ⟨c0,h⟩ | ⟨c0,h⟩
 ·simp[c0]
  cases h
  rfl
 ·simp[c0]
  rcases iC h with ⟨c1,h⟩ | ⟨c1,h⟩
  ·simp[c0,c1]
   cases h
   rfl
  ·simp[c0,c1]
   rcases iC h with ⟨c2,h⟩ | ⟨c2,h⟩
   ·simp[c0,c1,c2]
    cases h
    rfl
   ·simp[c0,c1,c2]
    rcases iC h with ⟨c3,h⟩ | ⟨c3,h⟩
    ·simp[c0,c1,c2,c3]
     cases h
     rfl
    ·simp[c0,c1,c2,c3]
     rcases iC h with ⟨c4,h⟩ | ⟨c4,h⟩
     ·simp[c0,c1,c2,c3,c4]
      cases h
      rfl
     ·simp[c0,c1,c2,c3,c4]
      cases h
      rfl
theorem w_aig_behind (x:Name)(y_:Name)(r:Bool)(h:aig_behind x y_=some r):ev 53 [T.agg (Name.cells x),T.agg (Name.cells y_)]=some (T.c (.lit (.bool r)),[]):=by
 refine ev_run' (kp:=k53) (us:=[4]) fn53 rfl rfl rfl rfl rfl (by kernel_rfl) rfl rfl (by simp) ?_;unfold aig_behind at h;simp;obtain⟨v0,h1',h⟩:=bS h;have h1:ev 63 [T.c (.lit (.string { data:=#[105,108,111,98,99] })),T.c (.lit (.int IntKind.u8 x.kind))]=some (T.c (.lit (.int .i64 v0)),[]):=w_strings_IndexByte _ _ _ h1';simp[h1];obtain⟨v2,h3',h⟩:=bS h;have h3:ev 63 [T.c (.lit (.string { data:=#[105,108,111,98,99] })),T.c (.lit (.int IntKind.u8 y_.kind))]=some (T.c (.lit (.int .i64 v2)),[]):=w_strings_IndexByte _ _ _ h3';simp[h1,h3]
 rcases iC h with ⟨c4,h⟩ | ⟨c4,h⟩
 ·simp[h1,h3,c4]
  cases h
  rfl
 ·simp[h1,h3,c4]
  rcases iC h with ⟨c5,h⟩ | ⟨c5,h⟩
  ·simp[h1,h3,c4,c5]
   cases h
   rfl
  ·simp[h1,h3,c4,c5]
   cases h
   rfl
theorem w_aig_isNames (a:Aig)(r:Bool)(h:aig_isNames a=some r):ev 36 [T.agg (Aig.cells a)]=some (T.c (.lit (.bool r)),[]):=by
 refine ev_run' (kp:=k36) (us:=[4]) fn36 rfl rfl rfl rfl rfl (by kernel_rfl) rfl rfl (by simp) ?_;unfold aig_isNames at h;simp;obtain⟨w55,h54,h⟩:=bS h;rw[eL (ι:=Int) (ρ:=Unit ⊕ Unit) (fun p=>match p with | x37=>mk 51 [(1,T.c (C.ptr 1 0 0)),(6,T.c (sls 3 Name.cells a.names)),(7,T.c (.lit (.int .i64 (lenI a.names)))),(8,T.c (.lit (.int .i64 x37)))] [(1,{ box:=true,free:=true,elem:=27,sz:=7,es:=[a.cells] })] []) (fun r=>match r with | .inl ()=>(Ex.ret,mk 51 [(2,T.c (.lit (.bool false)))] [] []) | .inr ()=>(Ex.exit 0,mk 51 [(1,T.c (C.ptr 1 0 0))] [(1,{ box:=true,free:=true,elem:=27,sz:=7,es:=[a.cells] })] [])) (aig_isNames_B0 a) h54 ?_ _ ?_]
 ·rcases w55 with ⟨⟩ | ⟨⟩
  ·simp
   cases h
   rfl
  ·simp
   cases h
   rfl
 ·clear h54 h;rintro x37 y L res h hL hR;unfold aig_isNames_B0 at h;simp
  rcases iC h with ⟨c38,h⟩ | ⟨c38,h⟩
  ·simp[c38];obtain⟨v39,h40,h⟩:=bS h;simp[c38,h40]
   rcases iC h with ⟨c41,h⟩ | ⟨c41,h⟩
   ·simp[c38,h40,c41]
    cases h
    exact hR _ rfl
   ·simp[c38,h40,c41];obtain⟨v42,h43',h⟩:=bS h;have h43:ev 51 [T.agg a.cells,T.c (.lit (.int IntKind.u8 v39.kind))]=some (T.c (.lit (.int .i64 v42)),[]):=w_aig_many _ _ _ h43';simp[c38,h40,c41,h43]
    rcases iC h with ⟨c44,h⟩ | ⟨c44,h⟩
    ·simp[c38,h40,c41,h43,c44]
     cases h
     exact hR _ rfl
    ·simp[c38,h40,c41,h43,c44];obtain⟨v45,h46',h⟩:=bS h;have h46:ev 52 [T.c (.lit (.string v39.s))]=some (T.c (.lit (.bool v45)),[]):=w_lex_IsName _ _ h46';simp[c38,h40,c41,h43,c44,h46]
     rcases iC h with ⟨c47,h⟩ | ⟨c47,h⟩
     ·simp[c38,h40,c41,h43,c44,h46,c47]
      rcases iC h with ⟨c48,h⟩ | ⟨c48,h⟩
      ·simp[c38,h40,c41,h43,c44,h46,c47,c48];obtain⟨v49,h50,h⟩:=bS h;simp[c38,h40,c41,h43,c44,h46,c47,c48,h50];obtain⟨v51,h52',h⟩:=bS h;have h52:ev 53 [T.agg v49.cells,T.agg v39.cells]=some (T.c (.lit (.bool v51)),[]):=w_aig_behind _ _ _ h52';simp[c38,h40,c41,h43,c44,h46,c47,c48,h50,h52]
       rcases iC h with ⟨c53,h⟩ | ⟨c53,h⟩
       ·simp[c38,h40,c41,h43,c44,h46,c47,c48,h50,h52,c53]
        cases h
        exact hL _ _ rfl (by simp[headOf])
       ·simp[c38,h40,c41,h43,c44,h46,c47,c48,h50,h52,c53]
        cases h
        exact hR _ rfl
      ·simp[c38,h40,c41,h43,c44,h46,c47,c48]
       cases h
       exact hL _ _ rfl (by simp[headOf])
     ·simp[c38,h40,c41,h43,c44,h46,c47]
      cases h
      exact hR _ rfl
  ·simp[c38]
   cases h
   exact hR _ rfl
 ·simp[headOf]
theorem w_aig_Right_1_odd (l:Int)(k1:Aig)(r:Bool)(h:aig_Right_1_odd l k1=some r):ev 34 [T.c (.lit (.int .i64 l)),T.c (C.fptr (Aig.cells k1) 0)]=some (T.c (.lit (.bool r)),[]):=by
 refine ev_run' (kp:=k34) (us:=[4]) fn34 rfl rfl rfl rfl rfl (by kernel_rfl) rfl rfl (by simp) ?_;unfold aig_Right_1_odd at h;simp
 rcases iC h with ⟨c0,h⟩ | ⟨c0,h⟩
 ·simp[c0]
  cases h
  rfl
 ·simp[c0];obtain⟨v1,h2',h⟩:=bS h;have h2:ev 17 [T.agg k1.cells]=some (T.c (.lit (.int .i64 v1)),[]):=w_aig_Vars _ _ h2';simp[c0,h2]
  cases h
  rfl
theorem w_slices_IndexFunc_odd (s:List Int)(f_:Aig)(r:Int)(h:slices_IndexFunc_odd s f_=some r):ev 50 [T.c (sls 1 intF s),T.c (C.fn 34 [C.fptr (Aig.cells f_) 0])]=some (T.c (.lit (.int .i64 r)),[]):=by
 refine ev_run' (kp:=k50) (us:=[3]) fn50 rfl rfl rfl rfl rfl (by kernel_rfl) rfl rfl (by simp) ?_;unfold slices_IndexFunc_odd at h;simp;obtain⟨w25,h24,h⟩:=bS h;rw[eL (ι:=Int) (ρ:=Int ⊕ Unit) (fun p=>match p with | x16=>mk 19 [(0,T.c (sls 1 intF s)),(1,T.c (C.fn 34 [C.fptr f_.cells 0])),(7,T.c (.lit (.int .i64 (lenI s)))),(8,T.c (.lit (.int .i64 x16)))] [] []) (fun r=>match r with | .inl y23=>(Ex.ret,mk 19 [(4,T.c (.lit (.int .i64 y23)))] [] []) | .inr ()=>(Ex.exit 0,mk 19 [] [] [])) (slices_IndexFunc_odd_B0 s f_) h24 ?_ _ ?_]
 ·rcases w25 with y23 | ⟨⟩
  ·simp
   cases h
   rfl
  ·simp
   cases h
   rfl
 ·clear h24 h;rintro x16 y L res h hL hR;unfold slices_IndexFunc_odd_B0 at h;simp
  rcases iC h with ⟨c17,h⟩ | ⟨c17,h⟩
  ·simp[c17];obtain⟨v18,h19,h⟩:=bS h;simp[c17,h19];obtain⟨v20,h21',h⟩:=bS h;have h21:ev 34 [T.c (.lit (.int .i64 v18)),T.c (C.fptr f_.cells 0)]=some (T.c (.lit (.bool v20)),[]):=w_aig_Right_1_odd _ _ _ h21';simp[c17,h19,h21]
   rcases iC h with ⟨c22,h⟩ | ⟨c22,h⟩
   ·simp[c17,h19,h21,c22]
    cases h
    exact hR _ rfl
   ·simp[c17,h19,h21,c22]
    cases h
    exact hL _ _ rfl (by simp[headOf])
  ·simp[c17]
   cases h
   exact hR _ rfl
 ·simp[headOf]
theorem w_slices_ContainsFunc_odd (s:List Int)(f_:Aig)(r:Bool)(h:slices_ContainsFunc_odd s f_=some r):ev 35 [T.c (sls 1 intF s),T.c (C.fn 34 [C.fptr (Aig.cells f_) 0])]=some (T.c (.lit (.bool r)),[]):=by
 refine ev_run' (kp:=k35) (us:=[4]) fn35 rfl rfl rfl rfl rfl (by kernel_rfl) rfl rfl (by simp) ?_;unfold slices_ContainsFunc_odd at h;simp;obtain⟨v0,h1',h⟩:=bS h;have h1:ev 50 [T.c (sls 1 intF s),T.c (C.fn 34 [C.fptr f_.cells 0])]=some (T.c (.lit (.int .i64 v0)),[]):=w_slices_IndexFunc_odd _ _ _ h1';simp[h1]
 cases h
 rfl
theorem w_aig_Right (a:Aig)(r:Bool)(h:aig_Right a=some r):ev 14 [T.agg (Aig.cells a)]=some (T.c (.lit (.bool r)),[]):=by
 refine ev_run' (kp:=k14) (us:=[4]) fn14 rfl rfl rfl rfl rfl (by kernel_rfl) rfl rfl (by simp) ?_;unfold aig_Right at h;simp
 rcases iC h with ⟨c0,h⟩ | ⟨c0,h⟩
 ·simp[c0]
  cases h
  rfl
 ·simp[c0]
  rcases iC h with ⟨c1,h⟩ | ⟨c1,h⟩
  ·simp[c0,c1]
   cases h
   rfl
  ·simp[c0,c1]
   rcases iC h with ⟨c2,h⟩ | ⟨c2,h⟩
   ·simp[c0,c1,c2]
    cases h
    rfl
   ·simp[c0,c1,c2]
    rcases iC h with ⟨c3,h⟩ | ⟨c3,h⟩
    ·simp[c0,c1,c2,c3]
     cases h
     rfl
    ·simp[c0,c1,c2,c3];obtain⟨v4,h5',h⟩:=bS h;have h5:ev 17 [T.agg a.cells]=some (T.c (.lit (.int .i64 v4)),[]):=w_aig_Vars _ _ h5';simp[c0,c1,c2,c3,h5]
     rcases iC h with ⟨c6,h⟩ | ⟨c6,h⟩
     ·simp[c0,c1,c2,c3,h5,c6]
      cases h
      rfl
     ·simp[c0,c1,c2,c3,h5,c6];obtain⟨w101,h100,h⟩:=bS h;rw[eL (ι:=Int) (ρ:=Unit ⊕ Unit) (fun p=>match p with | x30=>mk 127 [(1,T.c (C.fptr a.cells 0)),(3,T.c (C.fn 34 [C.fptr a.cells 0])),(37,T.c (sls 2 Latch.cells a.L)),(38,T.c (.lit (.int .i64 (lenI a.L)))),(39,T.c (.lit (.int .i64 x30)))] [] []) (fun r=>match r with | .inl ()=>(Ex.ret,mk 127 [(2,T.c (.lit (.bool false)))] [] []) | .inr ()=>(Ex.exit 0,mk 127 [(1,T.c (C.fptr a.cells 0)),(3,T.c (C.fn 34 [C.fptr a.cells 0]))] [] [])) (aig_Right_B0 a) h100 ?_ _ ?_]
      ·rcases w101 with ⟨⟩ | ⟨⟩
       ·simp[c0,c1,c2,c3,h5,c6]
        cases h
        rfl
       ·simp[c0,c1,c2,c3,h5,c6];obtain⟨w99,h98,h⟩:=bS h;rw[eL (ι:=Int) (ρ:=Unit ⊕ Unit) (fun p=>match p with | x57=>mk 127 [(1,T.c (C.fptr a.cells 0)),(3,T.c (C.fn 34 [C.fptr a.cells 0])),(71,T.c (sls 2 And.cells a.G)),(72,T.c (.lit (.int .i64 (lenI a.G)))),(73,T.c (.lit (.int .i64 x57)))] [] []) (fun r=>match r with | .inl ()=>(Ex.ret,mk 127 [(2,T.c (.lit (.bool false)))] [] []) | .inr ()=>(Ex.exit 2,mk 127 [(1,T.c (C.fptr a.cells 0)),(3,T.c (C.fn 34 [C.fptr a.cells 0]))] [] [])) (aig_Right_B1 a) h98 ?_ _ ?_]
        ·rcases w99 with ⟨⟩ | ⟨⟩
         ·simp[c0,c1,c2,c3,h5,c6]
          cases h
          rfl
         ·simp[c0,c1,c2,c3,h5,c6];obtain⟨w97,h96,h⟩:=bS h;rw[eL (ι:=Int) (ρ:=Unit ⊕ Unit) (fun p=>match p with | x85=>mk 127 [(1,T.c (C.fptr a.cells 0)),(3,T.c (C.fn 34 [C.fptr a.cells 0])),(110,T.c (C.ref 110 0 (lenN [a.outs,a.bad,a.con]))),(111,T.c (.lit (.int .i64 3))),(112,T.c (.lit (.int .i64 x85)))] [(110,rowO 24 1 rowF [a.outs,a.bad,a.con])] []) (fun r=>match r with | .inl ()=>(Ex.ret,mk 127 [(2,T.c (.lit (.bool false)))] [] []) | .inr ()=>(Ex.exit 4,mk 127 [(1,T.c (C.fptr a.cells 0))] [] [])) (aig_Right_B2 a) h96 ?_ _ ?_]
          ·rcases w97 with ⟨⟩ | ⟨⟩
           ·simp[c0,c1,c2,c3,h5,c6]
            cases h
            rfl
           ·simp[c0,c1,c2,c3,h5,c6];obtain⟨v94,h95',h⟩:=bS h;have h95:ev 36 [T.agg a.cells]=some (T.c (.lit (.bool v94)),[]):=w_aig_isNames _ _ h95';simp[c0,c1,c2,c3,h5,c6,h95]
            cases h
            rfl
          ·clear h96 h;rintro x85 y L res h hL hR;unfold aig_Right_B2 at h;simp
           rcases iC h with ⟨c86,h⟩ | ⟨c86,h⟩
           ·simp[c86]
            rcases iC h with ⟨c87,h⟩ | ⟨c87,h⟩
            ·simp[c86,c87];obtain⟨v88,h89,h⟩:=bS h;simp[c86,c87,h89]
             rcases iC h with ⟨c90,h⟩ | ⟨c90,h⟩
             ·simp[c86,c87,h89,c90]
              cases h
              exact hR _ rfl
             ·simp[c86,c87,h89,c90];obtain⟨v91,h92',h⟩:=bS h;have h92:ev 35 [T.c (sls 1 intF v88),T.c (C.fn 34 [C.fptr a.cells 0])]=some (T.c (.lit (.bool v91)),[]):=w_slices_ContainsFunc_odd _ _ _ h92';simp[c86,c87,h89,c90,h92]
              rcases iC h with ⟨c93,h⟩ | ⟨c93,h⟩
              ·simp[c86,c87,h89,c90,h92,c93]
               cases h
               exact hR _ rfl
              ·simp[c86,c87,h89,c90,h92,c93]
               cases h
               exact hL _ _ rfl (by simp[headOf])
            ·simp[c86,c87]
             cases h
           ·simp[c86]
            cases h
            exact hR _ rfl
          ·simp[headOf]
        ·clear h98 h;rintro x57 y L res h hL hR;unfold aig_Right_B1 at h;simp
         rcases iC h with ⟨c58,h⟩ | ⟨c58,h⟩
         ·simp[c58];obtain⟨v59,h60,h⟩:=bS h;simp[c58,h60]
          rcases iC h with ⟨c61,h⟩ | ⟨c61,h⟩
          ·simp[c58,h60,c61]
           cases h
           exact hR _ rfl
          ·simp[c58,h60,c61]
           rcases iC h with ⟨c62,h⟩ | ⟨c62,h⟩
           ·simp[c58,h60,c61,c62]
            cases h
            exact hR _ rfl
           ·simp[c58,h60,c61,c62]
            rcases iC h with ⟨c63,h⟩ | ⟨c63,h⟩
            ·simp[c58,h60,c61,c62,c63]
             cases h
             exact hR _ rfl
            ·simp[c58,h60,c61,c62,c63]
             cases h
             exact hL _ _ rfl (by simp[headOf])
         ·simp[c58]
          cases h
          exact hR _ rfl
        ·simp[headOf]
      ·clear h100 h;rintro x30 y L res h hL hR;unfold aig_Right_B0 at h;simp
       rcases iC h with ⟨c31,h⟩ | ⟨c31,h⟩
       ·simp[c31];obtain⟨v32,h33,h⟩:=bS h;simp[c31,h33];obtain⟨v34,h35',h⟩:=bS h;have h35:ev 34 [T.c (.lit (.int .i64 v32.next)),T.c (C.fptr a.cells 0)]=some (T.c (.lit (.bool v34)),[]):=w_aig_Right_1_odd _ _ _ h35';simp[c31,h33,h35]
        rcases iC h with ⟨c36,h⟩ | ⟨c36,h⟩
        ·simp[c31,h33,h35,c36]
         cases h
         exact hR _ rfl
        ·simp[c31,h33,h35,c36]
         rcases iC h with ⟨c37,h⟩ | ⟨c37,h⟩
         ·simp[c31,h33,h35,c36,c37]
          cases h
          exact hL _ _ rfl (by simp[headOf])
         ·simp[c31,h33,h35,c36,c37]
          rcases iC h with ⟨c38,h⟩ | ⟨c38,h⟩
          ·simp[c31,h33,h35,c36,c37,c38]
           cases h
           exact hL _ _ rfl (by simp[headOf])
          ·simp[c31,h33,h35,c36,c37,c38]
           rcases iC h with ⟨c39,h⟩ | ⟨c39,h⟩
           ·simp[c31,h33,h35,c36,c37,c38,c39]
            cases h
            exact hL _ _ rfl (by simp[headOf])
           ·simp[c31,h33,h35,c36,c37,c38,c39]
            cases h
            exact hR _ rfl
       ·simp[c31]
        cases h
        exact hR _ rfl
      ·simp[headOf]
theorem w_slices_Grow_nil0 (n:Int)(r:List Int)(h:slices_Grow_nil0 n=some r):ev 47 [T.c (.lit (.slice none 0 0)),T.c (.lit (.int .i64 n))]=some (T.c (C.ref 0 0 (lenN r)),[rowO 3 1 intF r]):=by
 refine ev_run' (kp:=k47) (us:=[24]) fn47 rfl rfl rfl rfl rfl (by kernel_rfl) rfl rfl (by simp) ?_;unfold slices_Grow_nil0 at h;simp
 rcases iC h with ⟨c0,h⟩ | ⟨c0,h⟩
 ·simp[c0]
  cases h
 ·simp[c0]
  rcases iC h with ⟨c1,h⟩ | ⟨c1,h⟩
  ·simp[c0,c1]
   rcases iC h with ⟨c2,h⟩ | ⟨c2,h⟩
   ·simp[c0,c1,c2]
    rcases iC h with ⟨c3,h⟩ | ⟨c3,h⟩
    ·simp[c0,c1,c2,c3]
     rcases iC h with ⟨c4,h⟩ | ⟨c4,h⟩
     ·simp[c0,c1,c2,c3,c4]
      cases h
      rfl
     ·simp[c0,c1,c2,c3,c4]
      cases h
    ·simp[c0,c1,c2,c3]
     cases h
   ·simp[c0,c1,c2]
    cases h
  ·simp[c0,c1]
   cases h
   rfl
theorem w_slices_Concat (slices:List (List Int))(r:List Int)(h:slices_Concat slices=some r):ev 25 [T.c (sls 1 rowF slices)]=some (T.c (C.ref 0 0 (lenN r)),[rowO 3 1 intF r]):=by
 refine ev_run' (kp:=k25) (us:=[24]) fn25 rfl rfl rfl rfl rfl (by kernel_rfl) rfl rfl (by simp) ?_;unfold slices_Concat at h;simp;obtain⟨y21,h47,h⟩:=bS h;rw[eL (ι:=Int × Int) (ρ:=Int) (fun p=>match p with | (x15,x16)=>mk 36 [(0,T.c (sls 1 rowF slices)),(3,T.c (.lit (.int .i64 x15))),(9,T.c (sls 1 rowF slices)),(10,T.c (.lit (.int .i64 (lenI slices)))),(11,T.c (.lit (.int .i64 x16)))] [] []) (fun r=>match r with | y21=>(Ex.exit 0,mk 36 [(0,T.c (sls 1 rowF slices)),(3,T.c (.lit (.int .i64 y21)))] [] [])) (slices_Concat_B0 slices) h47 ?_ _ ?_]
 ·simp;obtain⟨v22,h23',h⟩:=bS h;have h23:ev 47 [T.c (.lit (.slice none 0 0)),T.c (.lit (.int .i64 y21))]=some (T.c (C.ref 0 0 (lenN v22)),[rowO 3 1 intF v22]):=w_slices_Grow_nil0 _ _ h23';simp[h23];obtain⟨y44,h45,h⟩:=bS h;rw[eL (ι:=(List Int) × Int) (ρ:=(List Int)) (fun p=>match p with | (x38,x39)=>mk 36 [(6,T.c (C.ref 24 0 (lenN x38))),(25,T.c (sls 1 rowF slices)),(26,T.c (.lit (.int .i64 (lenI slices)))),(27,T.c (.lit (.int .i64 x39)))] [(24,rowO 3 1 intF x38)] []) (fun r=>match r with | y44=>(Ex.exit 2,mk 36 [(6,T.c (C.ref 24 0 (lenN y44)))] [(24,rowO 3 1 intF y44)] [])) (slices_Concat_B1 slices) h45 ?_ _ ?_]
  ·simp[h23]
   cases h
   rfl
  ·clear h45 h;rintro⟨x38,x39⟩ y L res h hL hR;unfold slices_Concat_B1 at h;simp
   rcases iC h with ⟨c40,h⟩ | ⟨c40,h⟩
   ·simp[c40];obtain⟨v41,h42,h⟩:=bS h;simp[c40,h42]
    rcases iC h with ⟨c43,h⟩ | ⟨c43,h⟩
    ·simp[c40,h42,c43]
     cases h
     exact hL _ _ rfl (by simp[headOf])
    ·simp[c40,h42,c43]
     cases h
   ·simp[c40]
    cases h
    exact hR _ rfl
  ·simp[headOf]
 ·clear h47 h;rintro⟨x15,x16⟩ y L res h hL hR;unfold slices_Concat_B0 at h;simp
  rcases iC h with ⟨c17,h⟩ | ⟨c17,h⟩
  ·simp[c17];obtain⟨v18,h19,h⟩:=bS h;simp[c17,h19]
   rcases iC h with ⟨c20,h⟩ | ⟨c20,h⟩
   ·simp[c17,h19,c20]
    cases h
   ·simp[c17,h19,c20]
    cases h
    exact hL _ _ rfl (by simp[headOf])
  ·simp[c17]
   cases h
   exact hR _ rfl
 ·simp[headOf]
end Go.Proofs.YtadllpehekphmaaDoor

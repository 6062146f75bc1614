/- What the interpreter comes to is what the plain functions come to. No condition. -/
import Derived.Test.YthmnnieiibeiaaaW0
set_option linter.unusedSimpArgs false
set_option linter.unusedVariables false
set_option maxRecDepth 20000
set_option maxHeartbeats 4000000
namespace Go.Proofs.Ythmnnieiibeiaaa
open Go.Vabs Go.Vid
theorem w_ref01_IsName (s : ByteArray) (r : Bool) (h : ref01_IsName s = some r) : ev 38 [T.c (C.lit (Value.string s))] = some (T.c (C.lit (Value.bool r)), []) := by
 refine ev_run' (kp := k38) (us := [4]) fn38 rfl rfl rfl rfl rfl (by kernel_rfl) rfl rfl (by simp) ?_
 unfold ref01_IsName at h
 simp
 obtain ⟨w34, h33, h⟩ := bind_some' h
 rw [evLoop_loopF (ι := Int × Int) (ρ := Unit ⊕ Int) (fun p => match p with | (x21, x22) => mk 38 [(0, T.c (C.lit (Value.string s))), (3, T.c (C.lit (Value.int IntKind.i64 x21))), (4, T.c (C.lit (Value.int IntKind.i64 x22)))] [] []) (fun r => match r with | .inl () => (Ex.ret, mk 38 [(2, T.c (C.lit (Value.bool false)))] [] []) | .inr y31 => (Ex.exit 0, mk 38 [(3, T.c (C.lit (Value.int IntKind.i64 y31)))] [] [])) (ref01_IsName_B0 s) h33 ?_ _ ?_]
 ·rcases w34 with ⟨⟩ | y31
  ·simp
   cases h
   rfl
  ·simp
   rcases iteB_cases h with ⟨c32, h⟩ | ⟨c32, h⟩
   ·simp [c32]
    cases h
    rfl
   ·simp [c32]
    cases h
    rfl
 ·clear h33 h
  rintro ⟨x21, x22⟩ y L res h hL hR
  unfold ref01_IsName_B0 at h
  simp
  rcases iteB_cases h with ⟨c23, h⟩ | ⟨c23, h⟩
  ·simp [c23]
   obtain ⟨v24, h25', h⟩ := bind_some' h
   have h25 : ev 43 [T.c (C.lit (Value.string s)), T.c (C.lit (Value.int IntKind.i64 x22))] = some (T.c (C.lit (Value.int IntKind.i64 v24)), []) := w_ref01_Long _ _ _ h25'
   simp [c23, h25]
   rcases iteB_cases h with ⟨c26, h⟩ | ⟨c26, h⟩
   ·simp [c23, h25, c26]
    cases h
    exact hR _ rfl
   ·simp [c23, h25, c26]
    obtain ⟨v27, h28, h⟩ := bind_some' h
    simp [c23, h25, c26, h28]
    rcases iteB_cases h with ⟨c29, h⟩ | ⟨c29, h⟩
    ·simp [c23, h25, c26, h28, c29]
     cases h
     exact hR _ rfl
    ·simp [c23, h25, c26, h28, c29]
     rcases iteB_cases h with ⟨c30, h⟩ | ⟨c30, h⟩
     ·simp [c23, h25, c26, h28, c29, c30]
      cases h
      exact hR _ rfl
     ·simp [c23, h25, c26, h28, c29, c30]
      cases h
      exact hL _ _ rfl (by simp [headOf])
  ·simp [c23]
   cases h
   exact hR _ rfl
 ·simp [headOf]
theorem w_ref06_kind (c : Int) (r : Int) (h : ref06_kind c = some r) : ev 40 [T.c (C.lit (Value.int IntKind.u8 c))] = some (T.c (C.lit (Value.int IntKind.i64 r)), []) := by
 refine ev_run' (kp := k40) (us := [3]) fn40 rfl rfl rfl rfl rfl (by kernel_rfl) rfl rfl (by simp) ?_
 unfold ref06_kind at h
 simp
 obtain ⟨w22, h21, h⟩ := bind_some' h
 rw [evLoop_loopF (ι := Int) (ρ := Int ⊕ Unit) (fun p => match p with | x14 => mk 17 [(0, T.c (C.lit (Value.int IntKind.u8 c))), (3, T.c (C.ref 5 0 (lenN [105, 108, 111, 98, 99]))), (4, T.c (C.lit (Value.int IntKind.i64 x14)))] [(5, rowO 5 1 byteF [105, 108, 111, 98, 99])] []) (fun r => match r with | .inl y20 => (Ex.ret, mk 17 [(2, T.c (C.lit (Value.int IntKind.i64 y20)))] [] []) | .inr () => (Ex.exit 0, mk 17 [] [] [])) (ref06_kind_B0 c) h21 ?_ _ ?_]
 ·rcases w22 with y20 | ⟨⟩
  ·simp
   cases h
   rfl
  ·simp
   cases h
   rfl
 ·clear h21 h
  rintro x14 y L res h hL hR
  unfold ref06_kind_B0 at h
  simp
  rcases iteB_cases h with ⟨c15, h⟩ | ⟨c15, h⟩
  ·simp [c15]
   rcases iteB_cases h with ⟨c16, h⟩ | ⟨c16, h⟩
   ·simp [c15, c16]
    obtain ⟨v17, h18, h⟩ := bind_some' h
    simp [c15, c16, h18]
    rcases iteB_cases h with ⟨c19, h⟩ | ⟨c19, h⟩
    ·simp [c15, c16, h18, c19]
     cases h
     exact hR _ rfl
    ·simp [c15, c16, h18, c19]
     cases h
     exact hL _ _ rfl (by simp [headOf])
   ·simp [c15, c16]
    cases h
  ·simp [c15]
   cases h
   exact hR _ rfl
 ·simp [headOf]
theorem w_ref06_many (a : Aig) (k : Int) (r : Int) (h : ref06_many a k = some r) : ev 39 [T.agg (Aig.cells a), T.c (C.lit (Value.int IntKind.i64 k))] = some (T.c (C.lit (Value.int IntKind.i64 r)), []) := by
 refine ev_run' (kp := k39) (us := [3]) fn39 rfl rfl rfl rfl rfl (by kernel_rfl) rfl rfl (by simp) ?_
 unfold ref06_many at h
 simp
 rcases iteB_cases h with ⟨c0, h⟩ | ⟨c0, h⟩
 ·simp [c0]
  cases h
  rfl
 ·simp [c0]
  rcases iteB_cases h with ⟨c1, h⟩ | ⟨c1, h⟩
  ·simp [c0, c1]
   cases h
   rfl
  ·simp [c0, c1]
   rcases iteB_cases h with ⟨c2, h⟩ | ⟨c2, h⟩
   ·simp [c0, c1, c2]
    cases h
    rfl
   ·simp [c0, c1, c2]
    rcases iteB_cases h with ⟨c3, h⟩ | ⟨c3, h⟩
    ·simp [c0, c1, c2, c3]
     cases h
     rfl
    ·simp [c0, c1, c2, c3]
     rcases iteB_cases h with ⟨c4, h⟩ | ⟨c4, h⟩
     ·simp [c0, c1, c2, c3, c4]
      cases h
      rfl
     ·simp [c0, c1, c2, c3, c4]
      cases h
      rfl
theorem w_ref06_Behind (x : Name) (y_ : Name) (r : Bool) (h : ref06_Behind x y_ = some r) : ev 41 [T.agg (Name.cells x), T.agg (Name.cells y_)] = some (T.c (C.lit (Value.bool r)), []) := by
 refine ev_run' (kp := k41) (us := [4]) fn41 rfl rfl rfl rfl rfl (by kernel_rfl) rfl rfl (by simp) ?_
 unfold ref06_Behind at h
 simp
 obtain ⟨v0, h1', h⟩ := bind_some' h
 have h1 : ev 40 [T.c (C.lit (Value.int IntKind.u8 x.kind))] = some (T.c (C.lit (Value.int IntKind.i64 v0)), []) := w_ref06_kind _ _ h1'
 simp [h1]
 obtain ⟨v2, h3', h⟩ := bind_some' h
 have h3 : ev 40 [T.c (C.lit (Value.int IntKind.u8 y_.kind))] = some (T.c (C.lit (Value.int IntKind.i64 v2)), []) := w_ref06_kind _ _ h3'
 simp [h1, h3]
 rcases iteB_cases h with ⟨c4, h⟩ | ⟨c4, h⟩
 ·simp [h1, h3, c4]
  cases h
  rfl
 ·simp [h1, h3, c4]
  rcases iteB_cases h with ⟨c5, h⟩ | ⟨c5, h⟩
  ·simp [h1, h3, c4, c5]
   cases h
   rfl
  ·simp [h1, h3, c4, c5]
   cases h
   rfl
theorem w_ref06_lits (l : List Int) (v : Int) (r : Bool) (h : ref06_lits l v = some r) : ev 37 [T.c (sls 1 intF l), T.c (C.lit (Value.int IntKind.i64 v))] = some (T.c (C.lit (Value.bool r)), []) := by
 refine ev_run' (kp := k37) (us := [4]) fn37 rfl rfl rfl rfl rfl (by kernel_rfl) rfl rfl (by simp) ?_
 unfold ref06_lits at h
 simp
 obtain ⟨w21, h20, h⟩ := bind_some' h
 rw [evLoop_loopF (ι := Int) (ρ := Unit ⊕ Unit) (fun p => match p with | x14 => mk 30 [(0, T.c (sls 1 intF l)), (1, T.c (C.lit (Value.int IntKind.i64 v))), (5, T.c (C.lit (Value.int IntKind.i64 x14)))] [] []) (fun r => match r with | .inl () => (Ex.ret, mk 30 [(4, T.c (C.lit (Value.bool false)))] [] []) | .inr () => (Ex.exit 0, mk 30 [(0, T.c (sls 1 intF l))] [] [])) (ref06_lits_B0 l v) h20 ?_ _ ?_]
 ·rcases w21 with ⟨⟩ | ⟨⟩
  ·simp
   cases h
   rfl
  ·simp
   cases h
   rfl
 ·clear h20 h
  rintro x14 y L res h hL hR
  unfold ref06_lits_B0 at h
  simp
  rcases iteB_cases h with ⟨c15, h⟩ | ⟨c15, h⟩
  ·simp [c15]
   obtain ⟨v16, h17, h⟩ := bind_some' h
   simp [c15, h17]
   rcases iteB_cases h with ⟨c18, h⟩ | ⟨c18, h⟩
   ·simp [c15, h17, c18]
    cases h
    exact hR _ rfl
   ·simp [c15, h17, c18]
    rcases iteB_cases h with ⟨c19, h⟩ | ⟨c19, h⟩
    ·simp [c15, h17, c18, c19]
     cases h
     exact hR _ rfl
    ·simp [c15, h17, c18, c19]
     cases h
     exact hL _ _ rfl (by simp [headOf])
  ·simp [c15]
   cases h
   exact hR _ rfl
 ·simp [headOf]
theorem w_ref06_Vars (a : Aig) (r : Int) (h : ref06_Vars a = some r) : ev 19 [T.agg (Aig.cells a)] = some (T.c (C.lit (Value.int IntKind.i64 r)), []) := by
 refine ev_run' (kp := k19) (us := [3]) fn19 rfl rfl rfl rfl rfl (by kernel_rfl) rfl rfl (by simp) ?_
 unfold ref06_Vars at h
 simp
 cases h
 rfl
theorem w_ref06_Right (a : Aig) (r : Bool) (h : ref06_Right a = some r) : ev 34 [T.agg (Aig.cells a)] = some (T.c (C.lit (Value.bool r)), []) := by
 refine ev_run' (kp := k34) (us := [4]) fn34 rfl rfl rfl rfl rfl (by kernel_rfl) rfl rfl (by simp) ?_
 unfold ref06_Right at h
 simp
 rcases iteB_cases h with ⟨c0, h⟩ | ⟨c0, h⟩
 ·simp [c0]
  cases h
  rfl
 ·simp [c0]
  rcases iteB_cases h with ⟨c1, h⟩ | ⟨c1, h⟩
  ·simp [c0, c1]
   cases h
   rfl
  ·simp [c0, c1]
   rcases iteB_cases h with ⟨c2, h⟩ | ⟨c2, h⟩
   ·simp [c0, c1, c2]
    cases h
    rfl
   ·simp [c0, c1, c2]
    rcases iteB_cases h with ⟨c3, h⟩ | ⟨c3, h⟩
    ·simp [c0, c1, c2, c3]
     cases h
     rfl
    ·simp [c0, c1, c2, c3]
     obtain ⟨v4, h5', h⟩ := bind_some' h
     have h5 : ev 19 [T.agg a.cells] = some (T.c (C.lit (Value.int IntKind.i64 v4)), []) := w_ref06_Vars _ _ h5'
     simp [c0, c1, c2, c3, h5]
     rcases iteB_cases h with ⟨c6, h⟩ | ⟨c6, h⟩
     ·simp [c0, c1, c2, c3, h5, c6]
      cases h
      rfl
     ·simp [c0, c1, c2, c3, h5, c6]
      rcases iteB_cases h with ⟨c7, h⟩ | ⟨c7, h⟩
      ·simp [c0, c1, c2, c3, h5, c6, c7]
       cases h
       rfl
      ·simp [c0, c1, c2, c3, h5, c6, c7]
       obtain ⟨v8, h9', h⟩ := bind_some' h
       have h9 : ev 37 [T.c (sls 1 intF a.outs), T.c (C.lit (Value.int IntKind.i64 v4))] = some (T.c (C.lit (Value.bool v8)), []) := w_ref06_lits _ _ _ h9'
       simp [c0, c1, c2, c3, h5, c6, c7, h9]
       obtain ⟨v10, h11', h⟩ := bind_some' h
       have h11 : ev 37 [T.c (sls 1 intF a.bad), T.c (C.lit (Value.int IntKind.i64 v4))] = some (T.c (C.lit (Value.bool v10)), []) := w_ref06_lits _ _ _ h11'
       simp [c0, c1, c2, c3, h5, c6, c7, h9, h11]
       obtain ⟨v12, h13', h⟩ := bind_some' h
       have h13 : ev 37 [T.c (sls 1 intF a.con), T.c (C.lit (Value.int IntKind.i64 v4))] = some (T.c (C.lit (Value.bool v12)), []) := w_ref06_lits _ _ _ h13'
       simp [c0, c1, c2, c3, h5, c6, c7, h9, h11, h13]
       rcases iteB_cases h with ⟨c14, h⟩ | ⟨c14, h⟩
       ·simp [c0, c1, c2, c3, h5, c6, c7, h9, h11, h13, c14]
        rcases iteB_cases h with ⟨c15, h⟩ | ⟨c15, h⟩
        ·simp [c0, c1, c2, c3, h5, c6, c7, h9, h11, h13, c14, c15]
         rcases iteB_cases h with ⟨c16, h⟩ | ⟨c16, h⟩
         ·simp [c0, c1, c2, c3, h5, c6, c7, h9, h11, h13, c14, c15, c16]
          obtain ⟨w131, h130, h⟩ := bind_some' h
          rw [evLoop_loopF (ι := Int) (ρ := Unit ⊕ Unit) (fun p => match p with | x37 => mk 195 [(1, T.c (C.ptr 1 0 0)), (3, T.c (C.lit (Value.int IntKind.i64 v4))), (7, T.c (C.lit (Value.int IntKind.i64 x37)))] [(1, { box := true, free := true, elem := 27, sz := 7, es := [a.cells] })] []) (fun r => match r with | .inl () => (Ex.ret, mk 195 [(2, T.c (C.lit (Value.bool false)))] [] []) | .inr () => (Ex.exit 0, mk 195 [(1, T.c (C.ptr 1 0 0))] [(1, { box := true, free := true, elem := 27, sz := 7, es := [a.cells] })] [])) (ref06_Right_B0 a v4) h130 ?_ _ ?_]
          ·rcases w131 with ⟨⟩ | ⟨⟩
           ·simp [c0, c1, c2, c3, h5, c6, c7, h9, h11, h13, c14, c15, c16]
            cases h
            rfl
           ·simp [c0, c1, c2, c3, h5, c6, c7, h9, h11, h13, c14, c15, c16]
            obtain ⟨w129, h128, h⟩ := bind_some' h
            rw [evLoop_loopF (ι := Int) (ρ := Unit ⊕ Unit) (fun p => match p with | x61 => mk 195 [(1, T.c (C.ptr 1 0 0)), (9, T.c (C.lit (Value.int IntKind.i64 x61)))] [(1, { box := true, free := true, elem := 27, sz := 7, es := [a.cells] })] []) (fun r => match r with | .inl () => (Ex.ret, mk 195 [(2, T.c (C.lit (Value.bool false)))] [] []) | .inr () => (Ex.exit 2, mk 195 [(1, T.c (C.ptr 1 0 0))] [(1, { box := true, free := true, elem := 27, sz := 7, es := [a.cells] })] [])) (ref06_Right_B1 a) h128 ?_ _ ?_]
            ·rcases w129 with ⟨⟩ | ⟨⟩
             ·simp [c0, c1, c2, c3, h5, c6, c7, h9, h11, h13, c14, c15, c16]
              cases h
              rfl
             ·simp [c0, c1, c2, c3, h5, c6, c7, h9, h11, h13, c14, c15, c16]
              obtain ⟨w127, h126, h⟩ := bind_some' h
              rw [evLoop_loopF (ι := Int) (ρ := Unit ⊕ Unit) (fun p => match p with | x107 => mk 195 [(1, T.c (C.ptr 1 0 0)), (11, T.c (C.lit (Value.int IntKind.i64 x107)))] [(1, { box := true, free := true, elem := 27, sz := 7, es := [a.cells] })] []) (fun r => match r with | .inl () => (Ex.ret, mk 195 [(2, T.c (C.lit (Value.bool false)))] [] []) | .inr () => (Ex.exit 4, mk 195 [] [] [])) (ref06_Right_B2 a) h126 ?_ _ ?_]
              ·rcases w127 with ⟨⟩ | ⟨⟩
               ·simp [c0, c1, c2, c3, h5, c6, c7, h9, h11, h13, c14, c15, c16]
                cases h
                rfl
               ·simp [c0, c1, c2, c3, h5, c6, c7, h9, h11, h13, c14, c15, c16]
                cases h
                rfl
              ·clear h126 h
               rintro x107 y L res h hL hR
               unfold ref06_Right_B2 at h
               simp
               rcases iteB_cases h with ⟨c108, h⟩ | ⟨c108, h⟩
               ·simp [c108]
                obtain ⟨v109, h110, h⟩ := bind_some' h
                simp [c108, h110]
                obtain ⟨v111, h112', h⟩ := bind_some' h
                have h112 : ev 38 [T.c (C.lit (Value.string v109.s))] = some (T.c (C.lit (Value.bool v111)), []) := w_ref01_IsName _ _ h112'
                simp [c108, h110, h112]
                rcases iteB_cases h with ⟨c113, h⟩ | ⟨c113, h⟩
                ·simp [c108, h110, h112, c113]
                 rcases iteB_cases h with ⟨c114, h⟩ | ⟨c114, h⟩
                 ·simp [c108, h110, h112, c113, c114]
                  cases h
                  exact hR _ rfl
                 ·simp [c108, h110, h112, c113, c114]
                  obtain ⟨v115, h116', h⟩ := bind_some' h
                  have h116 : ev 40 [T.c (C.lit (Value.int IntKind.u8 v109.kind))] = some (T.c (C.lit (Value.int IntKind.i64 v115)), []) := w_ref06_kind _ _ h116'
                  simp [c108, h110, h112, c113, c114, h116]
                  obtain ⟨v117, h118', h⟩ := bind_some' h
                  have h118 : ev 39 [T.agg a.cells, T.c (C.lit (Value.int IntKind.i64 v115))] = some (T.c (C.lit (Value.int IntKind.i64 v117)), []) := w_ref06_many _ _ _ h118'
                  simp [c108, h110, h112, c113, c114, h116, h118]
                  rcases iteB_cases h with ⟨c119, h⟩ | ⟨c119, h⟩
                  ·simp [c108, h110, h112, c113, c114, h116, h118, c119]
                   cases h
                   exact hR _ rfl
                  ·simp [c108, h110, h112, c113, c114, h116, h118, c119]
                   rcases iteB_cases h with ⟨c120, h⟩ | ⟨c120, h⟩
                   ·simp [c108, h110, h112, c113, c114, h116, h118, c119, c120]
                    obtain ⟨v121, h122, h⟩ := bind_some' h
                    simp [c108, h110, h112, c113, c114, h116, h118, c119, c120, h122]
                    obtain ⟨v123, h124', h⟩ := bind_some' h
                    have h124 : ev 41 [T.agg v121.cells, T.agg v109.cells] = some (T.c (C.lit (Value.bool v123)), []) := w_ref06_Behind _ _ _ h124'
                    simp [c108, h110, h112, c113, c114, h116, h118, c119, c120, h122, h124]
                    rcases iteB_cases h with ⟨c125, h⟩ | ⟨c125, h⟩
                    ·simp [c108, h110, h112, c113, c114, h116, h118, c119, c120, h122, h124, c125]
                     cases h
                     exact hL _ _ rfl (by simp [headOf])
                    ·simp [c108, h110, h112, c113, c114, h116, h118, c119, c120, h122, h124, c125]
                     cases h
                     exact hR _ rfl
                   ·simp [c108, h110, h112, c113, c114, h116, h118, c119, c120]
                    cases h
                    exact hL _ _ rfl (by simp [headOf])
                ·simp [c108, h110, h112, c113]
                 cases h
                 exact hR _ rfl
               ·simp [c108]
                cases h
                exact hR _ rfl
              ·simp [headOf]
            ·clear h128 h
             rintro x61 y L res h hL hR
             unfold ref06_Right_B1 at h
             simp
             rcases iteB_cases h with ⟨c62, h⟩ | ⟨c62, h⟩
             ·simp [c62]
              obtain ⟨v63, h64, h⟩ := bind_some' h
              simp [c62, h64]
              rcases iteB_cases h with ⟨c65, h⟩ | ⟨c65, h⟩
              ·simp [c62, h64, c65]
               cases h
               exact hR _ rfl
              ·simp [c62, h64, c65]
               rcases iteB_cases h with ⟨c66, h⟩ | ⟨c66, h⟩
               ·simp [c62, h64, c65, c66]
                cases h
                exact hR _ rfl
               ·simp [c62, h64, c65, c66]
                rcases iteB_cases h with ⟨c67, h⟩ | ⟨c67, h⟩
                ·simp [c62, h64, c65, c66, c67]
                 cases h
                 exact hR _ rfl
                ·simp [c62, h64, c65, c66, c67]
                 cases h
                 exact hL _ _ rfl (by simp [headOf])
             ·simp [c62]
              cases h
              exact hR _ rfl
            ·simp [headOf]
          ·clear h130 h
           rintro x37 y L res h hL hR
           unfold ref06_Right_B0 at h
           simp
           rcases iteB_cases h with ⟨c38, h⟩ | ⟨c38, h⟩
           ·simp [c38]
            obtain ⟨v39, h40, h⟩ := bind_some' h
            simp [c38, h40]
            rcases iteB_cases h with ⟨c41, h⟩ | ⟨c41, h⟩
            ·simp [c38, h40, c41]
             cases h
             exact hR _ rfl
            ·simp [c38, h40, c41]
             rcases iteB_cases h with ⟨c42, h⟩ | ⟨c42, h⟩
             ·simp [c38, h40, c41, c42]
              cases h
              exact hR _ rfl
             ·simp [c38, h40, c41, c42]
              rcases iteB_cases h with ⟨c43, h⟩ | ⟨c43, h⟩
              ·simp [c38, h40, c41, c42, c43]
               cases h
               exact hL _ _ rfl (by simp [headOf])
              ·simp [c38, h40, c41, c42, c43]
               rcases iteB_cases h with ⟨c44, h⟩ | ⟨c44, h⟩
               ·simp [c38, h40, c41, c42, c43, c44]
                cases h
                exact hL _ _ rfl (by simp [headOf])
               ·simp [c38, h40, c41, c42, c43, c44]
                rcases iteB_cases h with ⟨c45, h⟩ | ⟨c45, h⟩
                ·simp [c38, h40, c41, c42, c43, c44, c45]
                 cases h
                 exact hL _ _ rfl (by simp [headOf])
                ·simp [c38, h40, c41, c42, c43, c44, c45]
                 cases h
                 exact hR _ rfl
           ·simp [c38]
            cases h
            exact hR _ rfl
          ·simp [headOf]
         ·simp [c0, c1, c2, c3, h5, c6, c7, h9, h11, h13, c14, c15, c16]
          cases h
          rfl
        ·simp [c0, c1, c2, c3, h5, c6, c7, h9, h11, h13, c14, c15]
         cases h
         rfl
       ·simp [c0, c1, c2, c3, h5, c6, c7, h9, h11, h13, c14]
        cases h
        rfl
theorem w_ref06_Small (a : Aig) (most : Int) (r : Bool) (h : ref06_Small a most = some r) : ev 33 [T.agg (Aig.cells a), T.c (C.lit (Value.int IntKind.i64 most))] = some (T.c (C.lit (Value.bool r)), []) := by
 refine ev_run' (kp := k33) (us := [4]) fn33 rfl rfl rfl rfl rfl (by kernel_rfl) rfl rfl (by simp) ?_
 unfold ref06_Small at h
 simp
 rcases iteB_cases h with ⟨c0, h⟩ | ⟨c0, h⟩
 ·simp [c0]
  cases h
  rfl
 ·simp [c0]
  rcases iteB_cases h with ⟨c1, h⟩ | ⟨c1, h⟩
  ·simp [c0, c1]
   cases h
   rfl
  ·simp [c0, c1]
   rcases iteB_cases h with ⟨c2, h⟩ | ⟨c2, h⟩
   ·simp [c0, c1, c2]
    cases h
    rfl
   ·simp [c0, c1, c2]
    rcases iteB_cases h with ⟨c3, h⟩ | ⟨c3, h⟩
    ·simp [c0, c1, c2, c3]
     cases h
     rfl
    ·simp [c0, c1, c2, c3]
     rcases iteB_cases h with ⟨c4, h⟩ | ⟨c4, h⟩
     ·simp [c0, c1, c2, c3, c4]
      cases h
      rfl
     ·simp [c0, c1, c2, c3, c4]
      rcases iteB_cases h with ⟨c5, h⟩ | ⟨c5, h⟩
      ·simp [c0, c1, c2, c3, c4, c5]
       cases h
       rfl
      ·simp [c0, c1, c2, c3, c4, c5]
       rcases iteB_cases h with ⟨c6, h⟩ | ⟨c6, h⟩
       ·simp [c0, c1, c2, c3, c4, c5, c6]
        cases h
        rfl
       ·simp [c0, c1, c2, c3, c4, c5, c6]
        obtain ⟨w24, h23, h⟩ := bind_some' h
        rw [evLoop_loopF (ι := Int) (ρ := Unit ⊕ Unit) (fun p => match p with | x18 => mk 67 [(2, T.c (C.ptr 2 0 0)), (5, T.c (C.lit (Value.int IntKind.i64 x18)))] [(2, { box := true, free := true, elem := 27, sz := 7, es := [a.cells] })] []) (fun r => match r with | .inl () => (Ex.ret, mk 67 [(4, T.c (C.lit (Value.bool false)))] [] []) | .inr () => (Ex.exit 0, mk 67 [] [] [])) (ref06_Small_B0 a) h23 ?_ _ ?_]
        ·rcases w24 with ⟨⟩ | ⟨⟩
         ·simp [c0, c1, c2, c3, c4, c5, c6]
          cases h
          rfl
         ·simp [c0, c1, c2, c3, c4, c5, c6]
          cases h
          rfl
        ·clear h23 h
         rintro x18 y L res h hL hR
         unfold ref06_Small_B0 at h
         simp
         rcases iteB_cases h with ⟨c19, h⟩ | ⟨c19, h⟩
         ·simp [c19]
          obtain ⟨v20, h21, h⟩ := bind_some' h
          simp [c19, h21]
          rcases iteB_cases h with ⟨c22, h⟩ | ⟨c22, h⟩
          ·simp [c19, h21, c22]
           cases h
           exact hR _ rfl
          ·simp [c19, h21, c22]
           cases h
           exact hL _ _ rfl (by simp [headOf])
         ·simp [c19]
          cases h
          exact hR _ rfl
        ·simp [headOf]
theorem w_ref08_May (a : Aig) (r : Bool) (h : ref08_May a = some r) : ev 18 [T.agg (Aig.cells a)] = some (T.c (C.lit (Value.bool r)), []) := by
 refine ev_run' (kp := k18) (us := [4]) fn18 rfl rfl rfl rfl rfl (by kernel_rfl) rfl rfl (by simp) ?_
 unfold ref08_May at h
 simp
 obtain ⟨v0, h1', h⟩ := bind_some' h
 have h1 : ev 33 [T.agg a.cells, T.c (C.lit (Value.int IntKind.i64 40))] = some (T.c (C.lit (Value.bool v0)), []) := w_ref06_Small _ _ _ h1'
 simp [h1]
 obtain ⟨v2, h3', h⟩ := bind_some' h
 have h3 : ev 34 [T.agg a.cells] = some (T.c (C.lit (Value.bool v2)), []) := w_ref06_Right _ _ h3'
 simp [h1, h3]
 rcases iteB_cases h with ⟨c4, h⟩ | ⟨c4, h⟩
 ·simp [h1, h3, c4]
  cases h
  rfl
 ·simp [h1, h3, c4]
  cases h
  rfl
theorem w_law19_may (a : Aig) (l : Int) (r : Bool) (h : law19_may a l = some r) : ev 5 [T.agg (Aig.cells a), T.c (C.lit (Value.int IntKind.i64 l))] = some (T.c (C.lit (Value.bool r)), []) := by
 refine ev_run' (kp := k5) (us := [4]) fn5 rfl rfl rfl rfl rfl (by kernel_rfl) rfl rfl (by simp) ?_
 unfold law19_may at h
 simp
 obtain ⟨v0, h1', h⟩ := bind_some' h
 have h1 : ev 18 [T.agg a.cells] = some (T.c (C.lit (Value.bool v0)), []) := w_ref08_May _ _ h1'
 simp [h1]
 rcases iteB_cases h with ⟨c2, h⟩ | ⟨c2, h⟩
 ·simp [h1, c2]
  rcases iteB_cases h with ⟨c3, h⟩ | ⟨c3, h⟩
  ·simp [h1, c2, c3]
   obtain ⟨v4, h5', h⟩ := bind_some' h
   have h5 : ev 19 [T.agg a.cells] = some (T.c (C.lit (Value.int IntKind.i64 v4)), []) := w_ref06_Vars _ _ h5'
   simp [h1, c2, c3, h5]
   cases h
   rfl
  ·simp [h1, c2, c3]
   cases h
   rfl
 ·simp [h1, c2]
  cases h
  rfl
theorem w_aig_Vars (a : Aig) (r : Int) (h : aig_Vars a = some r) : ev 32 [T.agg (Aig.cells a)] = some (T.c (C.lit (Value.int IntKind.i64 r)), []) := by
 refine ev_run' (kp := k32) (us := [3]) fn32 rfl rfl rfl rfl rfl (by kernel_rfl) rfl rfl (by simp) ?_
 unfold aig_Vars at h
 simp
 cases h
 rfl
theorem w_enc_Vars (a : Aig) (frames : Int) (r : Int) (h : enc_Vars a frames = some r) : ev 16 [T.agg (Aig.cells a), T.c (C.lit (Value.int IntKind.i64 frames))] = some (T.c (C.lit (Value.int IntKind.i64 r)), []) := by
 refine ev_run' (kp := k16) (us := [3]) fn16 rfl rfl rfl rfl rfl (by kernel_rfl) rfl rfl (by simp) ?_
 unfold enc_Vars at h
 simp
 obtain ⟨v0, h1', h⟩ := bind_some' h
 have h1 : ev 32 [T.agg a.cells] = some (T.c (C.lit (Value.int IntKind.i64 v0)), []) := w_aig_Vars _ _ h1'
 simp [h1]
 cases h
 rfl
theorem w_enc_Lit (a : Aig) (k : Int) (l : Int) (r : Int) (h : enc_Lit a k l = some r) : ev 17 [T.agg (Aig.cells a), T.c (C.lit (Value.int IntKind.i64 k)), T.c (C.lit (Value.int IntKind.i64 l))] = some (T.c (C.lit (Value.int IntKind.i64 r)), []) := by
 refine ev_run' (kp := k17) (us := [3]) fn17 rfl rfl rfl rfl rfl (by kernel_rfl) rfl rfl (by simp) ?_
 unfold enc_Lit at h
 simp
 obtain ⟨v0, h1', h⟩ := bind_some' h
 have h1 : ev 16 [T.agg a.cells, T.c (C.lit (Value.int IntKind.i64 k))] = some (T.c (C.lit (Value.int IntKind.i64 v0)), []) := w_enc_Vars _ _ _ h1'
 simp [h1]
 rcases iteB_cases h with ⟨c2, h⟩ | ⟨c2, h⟩
 ·simp [h1, c2]
  cases h
  rfl
 ·simp [h1, c2]
  cases h
  rfl
theorem w_enc_clause (a : Aig) (k : Int) (l : List Int) (r : List Int) (h : enc_clause a k l = some r) : ev 22 [T.agg (Aig.cells a), T.c (C.lit (Value.int IntKind.i64 k)), T.c (sls 1 intF l)] = some (T.c (C.ref 0 0 (lenN r)), [rowO 3 1 intF r]) := by
 refine ev_run' (kp := k22) (us := [24]) fn22 rfl rfl rfl rfl rfl (by kernel_rfl) rfl rfl (by simp) ?_
 unfold enc_clause at h
 simp
 rcases iteB_cases h with ⟨c0, h⟩ | ⟨c0, h⟩
 ·simp [c0]
  obtain ⟨y35, h36, h⟩ := bind_some' h
  rw [evLoop_loopF (ι := (List Int) × Int) (ρ := (List Int)) (fun p => match p with | (x25, x26) => mk 29 [(1, T.c (C.lit (Value.int IntKind.i64 k))), (3, T.c (C.ptr 3 0 0)), (7, T.c (C.ref 12 0 (lenN x25))), (13, T.c (sls 1 intF l)), (14, T.c (C.lit (Value.int IntKind.i64 (lenI l)))), (15, T.c (C.lit (Value.int IntKind.i64 x26)))] [(3, { box := true, free := true, elem := 27, sz := 7, es := [a.cells] }), (12, rowO 3 1 intF x25)] []) (fun r => match r with | y35 => (Ex.exit 0, mk 29 [(7, T.c (C.ref 12 0 (lenN y35)))] [(12, rowO 3 1 intF y35)] [])) (enc_clause_B0 a k l) h36 ?_ _ ?_]
  ·simp [c0]
   cases h
   rfl
  ·clear h36 h
   rintro ⟨x25, x26⟩ y L res h hL hR
   unfold enc_clause_B0 at h
   simp
   rcases iteB_cases h with ⟨c27, h⟩ | ⟨c27, h⟩
   ·simp [c27]
    obtain ⟨v28, h29, h⟩ := bind_some' h
    simp [c27, h29]
    obtain ⟨v30, h31', h⟩ := bind_some' h
    have h31 : ev 17 [T.agg a.cells, T.c (C.lit (Value.int IntKind.i64 k)), T.c (C.lit (Value.int IntKind.i64 v28))] = some (T.c (C.lit (Value.int IntKind.i64 v30)), []) := w_enc_Lit _ _ _ _ h31'
    simp [c27, h29, h31]
    rcases iteB_cases h with ⟨c32, h⟩ | ⟨c32, h⟩
    ·simp [c27, h29, h31, c32]
     obtain ⟨v33, h34, h⟩ := bind_some' h
     simp [c27, h29, h31, c32, h34]
     cases h
     exact hL _ _ rfl (by simp [headOf])
    ·simp [c27, h29, h31, c32]
     cases h
   ·simp [c27]
    cases h
    exact hR _ rfl
  ·simp [headOf]
 ·simp [c0]
  cases h
theorem w_slices_Grow'_nil0 (n : Int) (r : List Int) (h : slices_Grow'_nil0 n = some r) : ev 42 [T.c (C.lit (Value.slice none 0 0)), T.c (C.lit (Value.int IntKind.i64 n))] = some (T.c (C.ref 0 0 (lenN r)), [rowO 3 1 intF r]) := by
 refine ev_run' (kp := k42) (us := [24]) fn42 rfl rfl rfl rfl rfl (by kernel_rfl) rfl rfl (by simp) ?_
 unfold slices_Grow'_nil0 at h
 simp
 rcases iteB_cases h with ⟨c0, h⟩ | ⟨c0, h⟩
 ·simp [c0]
  cases h
 ·simp [c0]
  rcases iteB_cases h with ⟨c1, h⟩ | ⟨c1, h⟩
  ·simp [c0, c1]
   rcases iteB_cases h with ⟨c2, h⟩ | ⟨c2, h⟩
   ·simp [c0, c1, c2]
    rcases iteB_cases h with ⟨c3, h⟩ | ⟨c3, h⟩
    ·simp [c0, c1, c2, c3]
     rcases iteB_cases h with ⟨c4, h⟩ | ⟨c4, h⟩
     ·simp [c0, c1, c2, c3, c4]
      cases h
      rfl
     ·simp [c0, c1, c2, c3, c4]
      cases h
    ·simp [c0, c1, c2, c3]
     cases h
   ·simp [c0, c1, c2]
    cases h
  ·simp [c0, c1]
   cases h
   rfl
theorem w_slices_Concat' (slices : List (List Int)) (r : List Int) (h : slices_Concat' slices = some r) : ev 36 [T.c (sls 1 rowF slices)] = some (T.c (C.ref 0 0 (lenN r)), [rowO 3 1 intF r]) := by
 refine ev_run' (kp := k36) (us := [24]) fn36 rfl rfl rfl rfl rfl (by kernel_rfl) rfl rfl (by simp) ?_
 unfold slices_Concat' at h
 simp
 obtain ⟨y21, h47, h⟩ := bind_some' h
 rw [evLoop_loopF (ι := Int × Int) (ρ := Int) (fun p => match p with | (x15, x16) => mk 36 [(0, T.c (sls 1 rowF slices)), (3, T.c (C.lit (Value.int IntKind.i64 x15))), (9, T.c (sls 1 rowF slices)), (10, T.c (C.lit (Value.int IntKind.i64 (lenI slices)))), (11, T.c (C.lit (Value.int IntKind.i64 x16)))] [] []) (fun r => match r with | y21 => (Ex.exit 0, mk 36 [(0, T.c (sls 1 rowF slices)), (3, T.c (C.lit (Value.int IntKind.i64 y21)))] [] [])) (slices_Concat'_B0 slices) h47 ?_ _ ?_]
 ·simp
  obtain ⟨v22, h23', h⟩ := bind_some' h
  have h23 : ev 42 [T.c (C.lit (Value.slice none 0 0)), T.c (C.lit (Value.int IntKind.i64 y21))] = some (T.c (C.ref 0 0 (lenN v22)), [rowO 3 1 intF v22]) := w_slices_Grow'_nil0 _ _ h23'
  simp [h23]
  obtain ⟨y44, h45, h⟩ := bind_some' h
  rw [evLoop_loopF (ι := (List Int) × Int) (ρ := (List Int)) (fun p => match p with | (x38, x39) => mk 36 [(6, T.c (C.ref 24 0 (lenN x38))), (25, T.c (sls 1 rowF slices)), (26, T.c (C.lit (Value.int IntKind.i64 (lenI slices)))), (27, T.c (C.lit (Value.int IntKind.i64 x39)))] [(24, rowO 3 1 intF x38)] []) (fun r => match r with | y44 => (Ex.exit 2, mk 36 [(6, T.c (C.ref 24 0 (lenN y44)))] [(24, rowO 3 1 intF y44)] [])) (slices_Concat'_B1 slices) h45 ?_ _ ?_]
  ·simp [h23]
   cases h
   rfl
  ·clear h45 h
   rintro ⟨x38, x39⟩ y L res h hL hR
   unfold slices_Concat'_B1 at h
   simp
   rcases iteB_cases h with ⟨c40, h⟩ | ⟨c40, h⟩
   ·simp [c40]
    obtain ⟨v41, h42, h⟩ := bind_some' h
    simp [c40, h42]
    rcases iteB_cases h with ⟨c43, h⟩ | ⟨c43, h⟩
    ·simp [c40, h42, c43]
     cases h
     exact hL _ _ rfl (by simp [headOf])
    ·simp [c40, h42, c43]
     cases h
   ·simp [c40]
    cases h
    exact hR _ rfl
  ·simp [headOf]
 ·clear h47 h
  rintro ⟨x15, x16⟩ y L res h hL hR
  unfold slices_Concat'_B0 at h
  simp
  rcases iteB_cases h with ⟨c17, h⟩ | ⟨c17, h⟩
  ·simp [c17]
   obtain ⟨v18, h19, h⟩ := bind_some' h
   simp [c17, h19]
   rcases iteB_cases h with ⟨c20, h⟩ | ⟨c20, h⟩
   ·simp [c17, h19, c20]
    cases h
   ·simp [c17, h19, c20]
    cases h
    exact hL _ _ rfl (by simp [headOf])
  ·simp [c17]
   cases h
   exact hR _ rfl
 ·simp [headOf]
theorem w_slices_Grow_nil0 (n : Int) (r : List (List Int)) (h : slices_Grow_nil0 n = some r) : ev 35 [T.c (C.lit (Value.slice none 0 0)), T.c (C.lit (Value.int IntKind.i64 n))] = some (T.c (C.ref 0 0 (lenN r)), [rowO 24 1 rowF r]) := by
 refine ev_run' (kp := k35) (us := [30]) fn35 rfl rfl rfl rfl rfl (by kernel_rfl) rfl rfl (by simp) ?_
 unfold slices_Grow_nil0 at h
 simp
 rcases iteB_cases h with ⟨c0, h⟩ | ⟨c0, h⟩
 ·simp [c0]
  cases h
 ·simp [c0]
  rcases iteB_cases h with ⟨c1, h⟩ | ⟨c1, h⟩
  ·simp [c0, c1]
   rcases iteB_cases h with ⟨c2, h⟩ | ⟨c2, h⟩
   ·simp [c0, c1, c2]
    rcases iteB_cases h with ⟨c3, h⟩ | ⟨c3, h⟩
    ·simp [c0, c1, c2, c3]
     rcases iteB_cases h with ⟨c4, h⟩ | ⟨c4, h⟩
     ·simp [c0, c1, c2, c3, c4]
      cases h
      rfl
     ·simp [c0, c1, c2, c3, c4]
      cases h
    ·simp [c0, c1, c2, c3]
     cases h
   ·simp [c0, c1, c2]
    cases h
  ·simp [c0, c1]
   cases h
   rfl
theorem w_slices_Concat (slices : List (List (List Int))) (r : List (List Int)) (h : slices_Concat slices = some r) : ev 20 [T.c (sls 1 rrowF slices)] = some (T.c (C.ref 0 0 (lenN r)), [rowO 24 1 rowF r]) := by
 refine ev_run' (kp := k20) (us := [30]) fn20 rfl rfl rfl rfl rfl (by kernel_rfl) rfl rfl (by simp) ?_
 unfold slices_Concat at h
 simp
 obtain ⟨y21, h47, h⟩ := bind_some' h
 rw [evLoop_loopF (ι := Int × Int) (ρ := Int) (fun p => match p with | (x15, x16) => mk 36 [(0, T.c (sls 1 rrowF slices)), (3, T.c (C.lit (Value.int IntKind.i64 x15))), (9, T.c (sls 1 rrowF slices)), (10, T.c (C.lit (Value.int IntKind.i64 (lenI slices)))), (11, T.c (C.lit (Value.int IntKind.i64 x16)))] [] []) (fun r => match r with | y21 => (Ex.exit 0, mk 36 [(0, T.c (sls 1 rrowF slices)), (3, T.c (C.lit (Value.int IntKind.i64 y21)))] [] [])) (slices_Concat_B0 slices) h47 ?_ _ ?_]
 ·simp
  obtain ⟨v22, h23', h⟩ := bind_some' h
  have h23 : ev 35 [T.c (C.lit (Value.slice none 0 0)), T.c (C.lit (Value.int IntKind.i64 y21))] = some (T.c (C.ref 0 0 (lenN v22)), [rowO 24 1 rowF v22]) := w_slices_Grow_nil0 _ _ h23'
  simp [h23]
  obtain ⟨y44, h45, h⟩ := bind_some' h
  rw [evLoop_loopF (ι := ((List (List Int))) × Int) (ρ := ((List (List Int)))) (fun p => match p with | (x38, x39) => mk 36 [(6, T.c (C.ref 24 0 (lenN x38))), (25, T.c (sls 1 rrowF slices)), (26, T.c (C.lit (Value.int IntKind.i64 (lenI slices)))), (27, T.c (C.lit (Value.int IntKind.i64 x39)))] [(24, rowO 24 1 rowF x38)] []) (fun r => match r with | y44 => (Ex.exit 2, mk 36 [(6, T.c (C.ref 24 0 (lenN y44)))] [(24, rowO 24 1 rowF y44)] [])) (slices_Concat_B1 slices) h45 ?_ _ ?_]
  ·simp [h23]
   cases h
   rfl
  ·clear h45 h
   rintro ⟨x38, x39⟩ y L res h hL hR
   unfold slices_Concat_B1 at h
   simp
   rcases iteB_cases h with ⟨c40, h⟩ | ⟨c40, h⟩
   ·simp [c40]
    obtain ⟨v41, h42, h⟩ := bind_some' h
    simp [c40, h42]
    rcases iteB_cases h with ⟨c43, h⟩ | ⟨c43, h⟩
    ·simp [c40, h42, c43]
     cases h
     exact hL _ _ rfl (by simp [headOf])
    ·simp [c40, h42, c43]
     cases h
   ·simp [c40]
    cases h
    exact hR _ rfl
  ·simp [headOf]
 ·clear h47 h
  rintro ⟨x15, x16⟩ y L res h hL hR
  unfold slices_Concat_B0 at h
  simp
  rcases iteB_cases h with ⟨c17, h⟩ | ⟨c17, h⟩
  ·simp [c17]
   obtain ⟨v18, h19, h⟩ := bind_some' h
   simp [c17, h19]
   rcases iteB_cases h with ⟨c20, h⟩ | ⟨c20, h⟩
   ·simp [c17, h19, c20]
    cases h
   ·simp [c17, h19, c20]
    cases h
    exact hL _ _ rfl (by simp [headOf])
  ·simp [c17]
   cases h
   exact hR _ rfl
 ·simp [headOf]
theorem w_enc_Frame (a : Aig) (k : Int) (r : List (List Int)) (h : enc_Frame a k = some r) : ev 15 [T.agg (Aig.cells a), T.c (C.lit (Value.int IntKind.i64 k))] = some (T.c (C.ref 0 0 (lenN r)), [rowO 24 1 rowF r]) := by
 refine ev_run' (kp := k15) (us := [30]) fn15 rfl rfl rfl rfl rfl (by kernel_rfl) rfl rfl (by simp) ?_
 unfold enc_Frame at h
 simp
 obtain ⟨v0, h1', h⟩ := bind_some' h
 have h1 : ev 22 [T.agg a.cells, T.c (C.lit (Value.int IntKind.i64 k)), T.c (sls 1 intF [1])] = some (T.c (C.ref 0 0 (lenN v0)), [rowO 3 1 intF v0]) := w_enc_clause _ _ _ _ h1'
 simp [h1]
 obtain ⟨y41, h42, h⟩ := bind_some' h
 rw [evLoop_loopF (ι := ((List (List Int))) × Int) (ρ := ((List (List Int)))) (fun p => match p with | (x29, x30) => mk 71 [(1, T.c (C.lit (Value.int IntKind.i64 k))), (2, T.c (C.ptr 2 0 0)), (5, T.c (C.ref 14 0 (lenN x29))), (17, T.c (C.lit (Value.int IntKind.i64 (lenI a.G)))), (18, T.c (C.lit (Value.int IntKind.i64 x30)))] [(2, { box := true, free := true, elem := 27, sz := 7, es := [a.cells] }), (14, rowO 24 1 rowF x29)] []) (fun r => match r with | y41 => (Ex.exit 0, mk 71 [(5, T.c (C.ref 14 0 (lenN y41)))] [(14, rowO 24 1 rowF y41)] [])) (enc_Frame_B0 a k) h42 ?_ _ ?_]
 ·simp [h1]
  cases h
  rfl
 ·clear h42 h
  rintro ⟨x29, x30⟩ y L res h hL hR
  unfold enc_Frame_B0 at h
  simp
  rcases iteB_cases h with ⟨c31, h⟩ | ⟨c31, h⟩
  ·simp [c31]
   obtain ⟨v32, h33, h⟩ := bind_some' h
   simp [c31, h33]
   obtain ⟨v34, h35', h⟩ := bind_some' h
   have h35 : ev 22 [T.agg a.cells, T.c (C.lit (Value.int IntKind.i64 k)), T.c (sls 1 intF [bxor IntKind.i64 (imul IntKind.i64 2 (iadd IntKind.i64 (iadd IntKind.i64 (iadd IntKind.i64 a.I (lenI a.L)) 1) x30)) 1, v32.a])] = some (T.c (C.ref 0 0 (lenN v34)), [rowO 3 1 intF v34]) := w_enc_clause _ _ _ _ h35'
   simp [c31, h33, h35]
   obtain ⟨v36, h37', h⟩ := bind_some' h
   have h37 : ev 22 [T.agg a.cells, T.c (C.lit (Value.int IntKind.i64 k)), T.c (sls 1 intF [bxor IntKind.i64 (imul IntKind.i64 2 (iadd IntKind.i64 (iadd IntKind.i64 (iadd IntKind.i64 a.I (lenI a.L)) 1) x30)) 1, v32.b])] = some (T.c (C.ref 0 0 (lenN v36)), [rowO 3 1 intF v36]) := w_enc_clause _ _ _ _ h37'
   simp [c31, h33, h35, h37]
   obtain ⟨v38, h39', h⟩ := bind_some' h
   have h39 : ev 22 [T.agg a.cells, T.c (C.lit (Value.int IntKind.i64 k)), T.c (sls 1 intF [imul IntKind.i64 2 (iadd IntKind.i64 (iadd IntKind.i64 (iadd IntKind.i64 a.I (lenI a.L)) 1) x30), bxor IntKind.i64 v32.a 1, bxor IntKind.i64 v32.b 1])] = some (T.c (C.ref 0 0 (lenN v38)), [rowO 3 1 intF v38]) := w_enc_clause _ _ _ _ h39'
   simp [c31, h33, h35, h37, h39]
   rcases iteB_cases h with ⟨c40, h⟩ | ⟨c40, h⟩
   ·simp [c31, h33, h35, h37, h39, c40]
    cases h
    exact hL _ _ rfl (by simp [headOf])
   ·simp [c31, h33, h35, h37, h39, c40]
    cases h
  ·simp [c31]
   cases h
   exact hR _ rfl
 ·simp [headOf]
theorem w_enc_First (a : Aig) (r : List (List Int)) (h : enc_First a = some r) : ev 21 [T.agg (Aig.cells a)] = some (T.c (C.ref 0 0 (lenN r)), [rowO 24 1 rowF r]) := by
 refine ev_run' (kp := k21) (us := [30]) fn21 rfl rfl rfl rfl rfl (by kernel_rfl) rfl rfl (by simp) ?_
 unfold enc_First at h
 simp
 obtain ⟨y30, h31, h⟩ := bind_some' h
 rw [evLoop_loopF (ι := ((List (List Int))) × Int) (ρ := ((List (List Int)))) (fun p => match p with | (x21, x22) => mk 35 [(1, T.c (C.ptr 1 0 0)), (3, T.c (C.ref 3 0 (lenN x21))), (7, T.c (sls 2 Latch.cells a.L)), (8, T.c (C.lit (Value.int IntKind.i64 (lenI a.L)))), (9, T.c (C.lit (Value.int IntKind.i64 x22)))] [(1, { box := true, free := true, elem := 27, sz := 7, es := [a.cells] }), (3, rowO 24 1 rowF x21)] []) (fun r => match r with | y30 => (Ex.exit 0, mk 35 [(3, T.c (C.ref 3 0 (lenN y30)))] [(3, rowO 24 1 rowF y30)] [])) (enc_First_B0 a) h31 ?_ _ ?_]
 ·simp
  cases h
  rfl
 ·clear h31 h
  rintro ⟨x21, x22⟩ y L res h hL hR
  unfold enc_First_B0 at h
  simp
  rcases iteB_cases h with ⟨c23, h⟩ | ⟨c23, h⟩
  ·simp [c23]
   obtain ⟨v24, h25, h⟩ := bind_some' h
   simp [c23, h25]
   rcases iteB_cases h with ⟨c26, h⟩ | ⟨c26, h⟩
   ·simp [c23, h25, c26]
    obtain ⟨v27, h28', h⟩ := bind_some' h
    have h28 : ev 22 [T.agg a.cells, T.c (C.lit (Value.int IntKind.i64 0)), T.c (sls 1 intF [isub IntKind.i64 (iadd IntKind.i64 (imul IntKind.i64 2 (iadd IntKind.i64 (iadd IntKind.i64 a.I 1) x22)) 1) v24.reset])] = some (T.c (C.ref 0 0 (lenN v27)), [rowO 3 1 intF v27]) := w_enc_clause _ _ _ _ h28'
    simp [c23, h25, c26, h28]
    rcases iteB_cases h with ⟨c29, h⟩ | ⟨c29, h⟩
    ·simp [c23, h25, c26, h28, c29]
     cases h
     exact hL _ _ rfl (by simp [headOf])
    ·simp [c23, h25, c26, h28, c29]
     cases h
   ·simp [c23, h25, c26]
    cases h
    exact hL _ _ rfl (by simp [headOf])
  ·simp [c23]
   cases h
   exact hR _ rfl
 ·simp [headOf]
theorem w_enc_Link (a : Aig) (r : List (List Int)) (h : enc_Link a = some r) : ev 23 [T.agg (Aig.cells a)] = some (T.c (C.ref 0 0 (lenN r)), [rowO 24 1 rowF r]) := by
 refine ev_run' (kp := k23) (us := [30]) fn23 rfl rfl rfl rfl rfl (by kernel_rfl) rfl rfl (by simp) ?_
 unfold enc_Link at h
 simp
 obtain ⟨y33, h34, h⟩ := bind_some' h
 rw [evLoop_loopF (ι := ((List (List Int))) × Int) (ρ := ((List (List Int)))) (fun p => match p with | (x23, x24) => mk 41 [(1, T.c (C.ptr 1 0 0)), (3, T.c (C.ref 3 0 (lenN x23))), (9, T.c (sls 2 Latch.cells a.L)), (10, T.c (C.lit (Value.int IntKind.i64 (lenI a.L)))), (11, T.c (C.lit (Value.int IntKind.i64 x24)))] [(1, { box := true, free := true, elem := 27, sz := 7, es := [a.cells] }), (3, rowO 24 1 rowF x23)] []) (fun r => match r with | y33 => (Ex.exit 0, mk 41 [(3, T.c (C.ref 3 0 (lenN y33)))] [(3, rowO 24 1 rowF y33)] [])) (enc_Link_B0 a) h34 ?_ _ ?_]
 ·simp
  cases h
  rfl
 ·clear h34 h
  rintro ⟨x23, x24⟩ y L res h hL hR
  unfold enc_Link_B0 at h
  simp
  rcases iteB_cases h with ⟨c25, h⟩ | ⟨c25, h⟩
  ·simp [c25]
   obtain ⟨v26, h27, h⟩ := bind_some' h
   simp [c25, h27]
   obtain ⟨v28, h29', h⟩ := bind_some' h
   have h29 : ev 17 [T.agg a.cells, T.c (C.lit (Value.int IntKind.i64 1)), T.c (C.lit (Value.int IntKind.i64 (imul IntKind.i64 2 (iadd IntKind.i64 (iadd IntKind.i64 a.I 1) x24))))] = some (T.c (C.lit (Value.int IntKind.i64 v28)), []) := w_enc_Lit _ _ _ _ h29'
   simp [c25, h27, h29]
   obtain ⟨v30, h31', h⟩ := bind_some' h
   have h31 : ev 17 [T.agg a.cells, T.c (C.lit (Value.int IntKind.i64 0)), T.c (C.lit (Value.int IntKind.i64 v26.next))] = some (T.c (C.lit (Value.int IntKind.i64 v30)), []) := w_enc_Lit _ _ _ _ h31'
   simp [c25, h27, h29, h31]
   rcases iteB_cases h with ⟨c32, h⟩ | ⟨c32, h⟩
   ·simp [c25, h27, h29, h31, c32]
    cases h
    exact hL _ _ rfl (by simp [headOf])
   ·simp [c25, h27, h29, h31, c32]
    cases h
  ·simp [c25]
   cases h
   exact hR _ rfl
 ·simp [headOf]
theorem w_enc_holds (a : Aig) (more : List Int) (r : List (List Int)) (h : enc_holds a more = some r) : ev 24 [T.agg (Aig.cells a), T.c (sls 1 intF more)] = some (T.c (C.ref 0 0 (lenN r)), [rowO 24 1 rowF r]) := by
 refine ev_run' (kp := k24) (us := [30]) fn24 rfl rfl rfl rfl rfl (by kernel_rfl) rfl rfl (by simp) ?_
 unfold enc_holds at h
 simp
 obtain ⟨v0, h1', h⟩ := bind_some' h
 have h1 : ev 36 [T.c (sls 1 rowF [a.con, more])] = some (T.c (C.ref 0 0 (lenN v0)), [rowO 3 1 intF v0]) := w_slices_Concat' _ _ h1'
 simp [h1]
 obtain ⟨y32, h33, h⟩ := bind_some' h
 rw [evLoop_loopF (ι := ((List (List Int))) × Int) (ρ := ((List (List Int)))) (fun p => match p with | (x23, x24) => mk 27 [(2, T.c (C.ptr 2 0 0)), (5, T.c (C.ref 5 0 (lenN x23))), (12, T.c (C.ref 12 0 (lenN v0))), (13, T.c (C.lit (Value.int IntKind.i64 (lenI v0)))), (14, T.c (C.lit (Value.int IntKind.i64 x24)))] [(2, { box := true, free := true, elem := 27, sz := 7, es := [a.cells] }), (5, rowO 24 1 rowF x23), (12, rowO 3 1 intF v0)] []) (fun r => match r with | y32 => (Ex.exit 0, mk 27 [(5, T.c (C.ref 5 0 (lenN y32)))] [(5, rowO 24 1 rowF y32)] [])) (enc_holds_B0 a v0) h33 ?_ _ ?_]
 ·simp [h1]
  cases h
  rfl
 ·clear h33 h
  rintro ⟨x23, x24⟩ y L res h hL hR
  unfold enc_holds_B0 at h
  simp
  rcases iteB_cases h with ⟨c25, h⟩ | ⟨c25, h⟩
  ·simp [c25]
   rcases iteB_cases h with ⟨c26, h⟩ | ⟨c26, h⟩
   ·simp [c25, c26]
    obtain ⟨v27, h28, h⟩ := bind_some' h
    simp [c25, c26, h28]
    obtain ⟨v29, h30', h⟩ := bind_some' h
    have h30 : ev 22 [T.agg a.cells, T.c (C.lit (Value.int IntKind.i64 0)), T.c (sls 1 intF [v27])] = some (T.c (C.ref 0 0 (lenN v29)), [rowO 3 1 intF v29]) := w_enc_clause _ _ _ _ h30'
    simp [c25, c26, h28, h30]
    rcases iteB_cases h with ⟨c31, h⟩ | ⟨c31, h⟩
    ·simp [c25, c26, h28, h30, c31]
     cases h
     exact hL _ _ rfl (by simp [headOf])
    ·simp [c25, c26, h28, h30, c31]
     cases h
   ·simp [c25, c26]
    cases h
  ·simp [c25]
   cases h
   exact hR _ rfl
 ·simp [headOf]
theorem w_enc_Starts (a : Aig) (inv : Int) (r : Cnf) (h : enc_Starts a inv = some r) : ev 6 [T.agg (Aig.cells a), T.c (C.lit (Value.int IntKind.i64 inv))] = some (T.agg [C.lit (Value.int IntKind.i64 r.N), C.ref 0 0 (lenN r.cs)], [rowO 24 1 rowF r.cs]) := by
 refine ev_run' (kp := k6) (us := [32]) fn6 rfl rfl rfl rfl rfl (by kernel_rfl) rfl rfl (by simp) ?_
 unfold enc_Starts at h
 simp
 obtain ⟨v0, h1', h⟩ := bind_some' h
 have h1 : ev 16 [T.agg a.cells, T.c (C.lit (Value.int IntKind.i64 1))] = some (T.c (C.lit (Value.int IntKind.i64 v0)), []) := w_enc_Vars _ _ _ h1'
 simp [h1]
 obtain ⟨v2, h3', h⟩ := bind_some' h
 have h3 : ev 15 [T.agg a.cells, T.c (C.lit (Value.int IntKind.i64 0))] = some (T.c (C.ref 0 0 (lenN v2)), [rowO 24 1 rowF v2]) := w_enc_Frame _ _ _ h3'
 simp [h1, h3]
 obtain ⟨v4, h5', h⟩ := bind_some' h
 have h5 : ev 21 [T.agg a.cells] = some (T.c (C.ref 0 0 (lenN v4)), [rowO 24 1 rowF v4]) := w_enc_First _ _ h5'
 simp [h1, h3, h5]
 obtain ⟨v6, h7', h⟩ := bind_some' h
 have h7 : ev 22 [T.agg a.cells, T.c (C.lit (Value.int IntKind.i64 0)), T.c (sls 1 intF [bxor IntKind.i64 inv 1])] = some (T.c (C.ref 0 0 (lenN v6)), [rowO 3 1 intF v6]) := w_enc_clause _ _ _ _ h7'
 simp [h1, h3, h5, h7]
 obtain ⟨v8, h9', h⟩ := bind_some' h
 have h9 : ev 20 [T.c (sls 1 rrowF [v2, v4, [v6]])] = some (T.c (C.ref 0 0 (lenN v8)), [rowO 24 1 rowF v8]) := w_slices_Concat _ _ h9'
 simp [h1, h3, h5, h7, h9]
 cases h
 rfl
theorem w_enc_Stays (a : Aig) (inv : Int) (r : Cnf) (h : enc_Stays a inv = some r) : ev 7 [T.agg (Aig.cells a), T.c (C.lit (Value.int IntKind.i64 inv))] = some (T.agg [C.lit (Value.int IntKind.i64 r.N), C.ref 0 0 (lenN r.cs)], [rowO 24 1 rowF r.cs]) := by
 refine ev_run' (kp := k7) (us := [32]) fn7 rfl rfl rfl rfl rfl (by kernel_rfl) rfl rfl (by simp) ?_
 unfold enc_Stays at h
 simp
 obtain ⟨v0, h1', h⟩ := bind_some' h
 have h1 : ev 22 [T.agg a.cells, T.c (C.lit (Value.int IntKind.i64 1)), T.c (sls 1 intF [bxor IntKind.i64 inv 1])] = some (T.c (C.ref 0 0 (lenN v0)), [rowO 3 1 intF v0]) := w_enc_clause _ _ _ _ h1'
 simp [h1]
 obtain ⟨v2, h3', h⟩ := bind_some' h
 have h3 : ev 16 [T.agg a.cells, T.c (C.lit (Value.int IntKind.i64 2))] = some (T.c (C.lit (Value.int IntKind.i64 v2)), []) := w_enc_Vars _ _ _ h3'
 simp [h1, h3]
 obtain ⟨v4, h5', h⟩ := bind_some' h
 have h5 : ev 15 [T.agg a.cells, T.c (C.lit (Value.int IntKind.i64 0))] = some (T.c (C.ref 0 0 (lenN v4)), [rowO 24 1 rowF v4]) := w_enc_Frame _ _ _ h5'
 simp [h1, h3, h5]
 obtain ⟨v6, h7', h⟩ := bind_some' h
 have h7 : ev 15 [T.agg a.cells, T.c (C.lit (Value.int IntKind.i64 1))] = some (T.c (C.ref 0 0 (lenN v6)), [rowO 24 1 rowF v6]) := w_enc_Frame _ _ _ h7'
 simp [h1, h3, h5, h7]
 obtain ⟨v8, h9', h⟩ := bind_some' h
 have h9 : ev 23 [T.agg a.cells] = some (T.c (C.ref 0 0 (lenN v8)), [rowO 24 1 rowF v8]) := w_enc_Link _ _ h9'
 simp [h1, h3, h5, h7, h9]
 obtain ⟨v10, h11', h⟩ := bind_some' h
 have h11 : ev 24 [T.agg a.cells, T.c (sls 1 intF [inv])] = some (T.c (C.ref 0 0 (lenN v10)), [rowO 24 1 rowF v10]) := w_enc_holds _ _ _ h11'
 simp [h1, h3, h5, h7, h9, h11]
 obtain ⟨v12, h13', h⟩ := bind_some' h
 have h13 : ev 20 [T.c (sls 1 rrowF [v4, v6, v8, v10, [v0]])] = some (T.c (C.ref 0 0 (lenN v12)), [rowO 24 1 rowF v12]) := w_slices_Concat _ _ h13'
 simp [h1, h3, h5, h7, h9, h11, h13]
 cases h
 rfl
theorem w_enc_Safe (a : Aig) (inv : Int) (bad : Int) (r : Cnf) (h : enc_Safe a inv bad = some r) : ev 8 [T.agg (Aig.cells a), T.c (C.lit (Value.int IntKind.i64 inv)), T.c (C.lit (Value.int IntKind.i64 bad))] = some (T.agg [C.lit (Value.int IntKind.i64 r.N), C.ref 0 0 (lenN r.cs)], [rowO 24 1 rowF r.cs]) := by
 refine ev_run' (kp := k8) (us := [32]) fn8 rfl rfl rfl rfl rfl (by kernel_rfl) rfl rfl (by simp) ?_
 unfold enc_Safe at h
 simp
 obtain ⟨v0, h1', h⟩ := bind_some' h
 have h1 : ev 16 [T.agg a.cells, T.c (C.lit (Value.int IntKind.i64 1))] = some (T.c (C.lit (Value.int IntKind.i64 v0)), []) := w_enc_Vars _ _ _ h1'
 simp [h1]
 obtain ⟨v2, h3', h⟩ := bind_some' h
 have h3 : ev 15 [T.agg a.cells, T.c (C.lit (Value.int IntKind.i64 0))] = some (T.c (C.ref 0 0 (lenN v2)), [rowO 24 1 rowF v2]) := w_enc_Frame _ _ _ h3'
 simp [h1, h3]
 obtain ⟨v4, h5', h⟩ := bind_some' h
 have h5 : ev 24 [T.agg a.cells, T.c (sls 1 intF [inv, bad])] = some (T.c (C.ref 0 0 (lenN v4)), [rowO 24 1 rowF v4]) := w_enc_holds _ _ _ h5'
 simp [h1, h3, h5]
 obtain ⟨v6, h7', h⟩ := bind_some' h
 have h7 : ev 20 [T.c (sls 1 rrowF [v2, v4])] = some (T.c (C.ref 0 0 (lenN v6)), [rowO 24 1 rowF v6]) := w_slices_Concat _ _ h7'
 simp [h1, h3, h5, h7]
 cases h
 rfl
theorem w_ref03_Right (f_ : Cnf) (r : Bool) (h : ref03_Right f_ = some r) : ev 9 [T.agg (Cnf.cells f_)] = some (T.c (C.lit (Value.bool r)), []) := by
 refine ev_run' (kp := k9) (us := [4]) fn9 rfl rfl rfl rfl rfl (by kernel_rfl) rfl rfl (by simp) ?_
 unfold ref03_Right at h
 simp
 rcases iteB_cases h with ⟨c0, h⟩ | ⟨c0, h⟩
 ·simp [c0]
  cases h
  rfl
 ·simp [c0]
  rcases iteB_cases h with ⟨c1, h⟩ | ⟨c1, h⟩
  ·simp [c0, c1]
   cases h
   rfl
  ·simp [c0, c1]
   rcases iteB_cases h with ⟨c2, h⟩ | ⟨c2, h⟩
   ·simp [c0, c1, c2]
    cases h
    rfl
   ·simp [c0, c1, c2]
    obtain ⟨w113, h112, h⟩ := bind_some' h
    rw [evLoop_loopF (ι := Int) (ρ := Unit ⊕ Unit) (fun p => match p with | x76 => mk 67 [(1, T.c (C.ptr 1 0 0)), (3, T.c (C.lit (Value.int IntKind.i64 x76)))] [(1, { box := true, free := true, elem := 32, sz := 2, es := [f_.cells] })] []) (fun r => match r with | .inl () => (Ex.ret, mk 67 [(2, T.c (C.lit (Value.bool false)))] [] []) | .inr () => (Ex.exit 0, mk 67 [] [] [])) (ref03_Right_B1 f_) h112 ?_ _ ?_]
    ·rcases w113 with ⟨⟩ | ⟨⟩
     ·simp [c0, c1, c2]
      cases h
      rfl
     ·simp [c0, c1, c2]
      cases h
      rfl
    ·clear h112 h
     rintro x76 y L res h hL hR
     unfold ref03_Right_B1 at h
     simp
     rcases iteB_cases h with ⟨c77, h⟩ | ⟨c77, h⟩
     ·simp [c77]
      obtain ⟨v78, h79, h⟩ := bind_some' h
      simp [c77, h79]
      rcases iteB_cases h with ⟨c80, h⟩ | ⟨c80, h⟩
      ·simp [c77, h79, c80]
       cases h
       exact hR _ rfl
      ·simp [c77, h79, c80]
       obtain ⟨w111, h110, h⟩ := bind_some' h
       rw [evLoop_loopF (ι := Int) (ρ := Unit ⊕ Unit) (fun p => match p with | x101 => mk 67 [(1, T.c (C.ptr 1 0 0)), (3, T.c (C.lit (Value.int IntKind.i64 x76))), (4, T.c (C.lit (Value.int IntKind.i64 x101)))] [(1, { box := true, free := true, elem := 32, sz := 2, es := [f_.cells] })] []) (fun r => match r with | .inl () => (Ex.ret, mk 67 [(2, T.c (C.lit (Value.bool false)))] [] []) | .inr () => (Ex.exit 2, mk 67 [(1, T.c (C.ptr 1 0 0)), (3, T.c (C.lit (Value.int IntKind.i64 x76)))] [(1, { box := true, free := true, elem := 32, sz := 2, es := [f_.cells] })] [])) (ref03_Right_B0 f_ x76) h110 ?_ _ ?_]
       ·rcases w111 with ⟨⟩ | ⟨⟩
        ·simp [c77, h79, c80]
         cases h
         exact hR _ rfl
        ·simp [c77, h79, c80]
         cases h
         exact hL _ _ rfl (by simp [headOf])
       ·clear h110 h
        rintro x101 y L res h hL hR
        unfold ref03_Right_B0 at h
        simp
        obtain ⟨v102, h103, h⟩ := bind_some' h
        simp [h103]
        rcases iteB_cases h with ⟨c104, h⟩ | ⟨c104, h⟩
        ·simp [h103, c104]
         obtain ⟨v105, h106, h⟩ := bind_some' h
         simp [h103, c104, h106]
         rcases iteB_cases h with ⟨c107, h⟩ | ⟨c107, h⟩
         ·simp [h103, c104, h106, c107]
          cases h
          exact hR _ rfl
         ·simp [h103, c104, h106, c107]
          rcases iteB_cases h with ⟨c108, h⟩ | ⟨c108, h⟩
          ·simp [h103, c104, h106, c107, c108]
           cases h
           exact hR _ rfl
          ·simp [h103, c104, h106, c107, c108]
           rcases iteB_cases h with ⟨c109, h⟩ | ⟨c109, h⟩
           ·simp [h103, c104, h106, c107, c108, c109]
            cases h
            exact hR _ rfl
           ·simp [h103, c104, h106, c107, c108, c109]
            cases h
            exact hL _ _ rfl (by simp [headOf])
        ·simp [h103, c104]
         cases h
         exact hR _ rfl
       ·simp [headOf]
     ·simp [c77]
      cases h
      exact hR _ rfl
    ·simp [headOf]
theorem w_ref03_Ints (a : List Int) (b : List Int) (r : Bool) (h : ref03_Ints a b = some r) : ev 25 [T.c (sls 1 intF a), T.c (sls 1 intF b)] = some (T.c (C.lit (Value.bool r)), []) := by
 refine ev_run' (kp := k25) (us := [4]) fn25 rfl rfl rfl rfl rfl (by kernel_rfl) rfl rfl (by simp) ?_
 unfold ref03_Ints at h
 simp
 rcases iteB_cases h with ⟨c0, h⟩ | ⟨c0, h⟩
 ·simp [c0]
  obtain ⟨w25, h24, h⟩ := bind_some' h
  rw [evLoop_loopF (ι := Int) (ρ := Unit ⊕ Unit) (fun p => match p with | x17 => mk 26 [(0, T.c (sls 1 intF a)), (1, T.c (sls 1 intF b)), (5, T.c (C.lit (Value.int IntKind.i64 x17)))] [] []) (fun r => match r with | .inl () => (Ex.ret, mk 26 [(4, T.c (C.lit (Value.bool false)))] [] []) | .inr () => (Ex.exit 0, mk 26 [] [] [])) (ref03_Ints_B0 a b) h24 ?_ _ ?_]
  ·rcases w25 with ⟨⟩ | ⟨⟩
   ·simp [c0]
    cases h
    rfl
   ·simp [c0]
    cases h
    rfl
  ·clear h24 h
   rintro x17 y L res h hL hR
   unfold ref03_Ints_B0 at h
   simp
   rcases iteB_cases h with ⟨c18, h⟩ | ⟨c18, h⟩
   ·simp [c18]
    obtain ⟨v19, h20, h⟩ := bind_some' h
    simp [c18, h20]
    obtain ⟨v21, h22, h⟩ := bind_some' h
    simp [c18, h20, h22]
    rcases iteB_cases h with ⟨c23, h⟩ | ⟨c23, h⟩
    ·simp [c18, h20, h22, c23]
     cases h
     exact hL _ _ rfl (by simp [headOf])
    ·simp [c18, h20, h22, c23]
     cases h
     exact hR _ rfl
   ·simp [c18]
    cases h
    exact hR _ rfl
  ·simp [headOf]
 ·simp [c0]
  cases h
  rfl
theorem w_ref03_Same (a : Cnf) (b : Cnf) (r : Bool) (h : ref03_Same a b = some r) : ev 10 [T.agg (Cnf.cells a), T.agg (Cnf.cells b)] = some (T.c (C.lit (Value.bool r)), []) := by
 refine ev_run' (kp := k10) (us := [4]) fn10 rfl rfl rfl rfl rfl (by kernel_rfl) rfl rfl (by simp) ?_
 unfold ref03_Same at h
 simp
 rcases iteB_cases h with ⟨c0, h⟩ | ⟨c0, h⟩
 ·simp [c0]
  rcases iteB_cases h with ⟨c1, h⟩ | ⟨c1, h⟩
  ·simp [c0, c1]
   obtain ⟨w32, h31, h⟩ := bind_some' h
   rw [evLoop_loopF (ι := Int) (ρ := Unit ⊕ Unit) (fun p => match p with | x22 => mk 41 [(2, T.c (C.ptr 2 0 0)), (3, T.c (C.ptr 3 0 0)), (5, T.c (C.lit (Value.int IntKind.i64 x22)))] [(2, { box := true, free := true, elem := 32, sz := 2, es := [a.cells] }), (3, { box := true, free := true, elem := 32, sz := 2, es := [b.cells] })] []) (fun r => match r with | .inl () => (Ex.ret, mk 41 [(4, T.c (C.lit (Value.bool false)))] [] []) | .inr () => (Ex.exit 0, mk 41 [] [] [])) (ref03_Same_B0 a b) h31 ?_ _ ?_]
   ·rcases w32 with ⟨⟩ | ⟨⟩
    ·simp [c0, c1]
     cases h
     rfl
    ·simp [c0, c1]
     cases h
     rfl
   ·clear h31 h
    rintro x22 y L res h hL hR
    unfold ref03_Same_B0 at h
    simp
    rcases iteB_cases h with ⟨c23, h⟩ | ⟨c23, h⟩
    ·simp [c23]
     obtain ⟨v24, h25, h⟩ := bind_some' h
     simp [c23, h25]
     obtain ⟨v26, h27, h⟩ := bind_some' h
     simp [c23, h25, h27]
     obtain ⟨v28, h29', h⟩ := bind_some' h
     have h29 : ev 25 [T.c (sls 1 intF v24), T.c (sls 1 intF v26)] = some (T.c (C.lit (Value.bool v28)), []) := w_ref03_Ints _ _ _ h29'
     simp [c23, h25, h27, h29]
     rcases iteB_cases h with ⟨c30, h⟩ | ⟨c30, h⟩
     ·simp [c23, h25, h27, h29, c30]
      cases h
      exact hL _ _ rfl (by simp [headOf])
     ·simp [c23, h25, h27, h29, c30]
      cases h
      exact hR _ rfl
    ·simp [c23]
     cases h
     exact hR _ rfl
   ·simp [headOf]
  ·simp [c0, c1]
   cases h
   rfl
 ·simp [c0]
  cases h
  rfl
theorem w_ref19_Lit (a : Aig) (k : Int) (l : Int) (r : Int) (h : ref19_Lit a k l = some r) : ev 29 [T.agg (Aig.cells a), T.c (C.lit (Value.int IntKind.i64 k)), T.c (C.lit (Value.int IntKind.i64 l))] = some (T.c (C.lit (Value.int IntKind.i64 r)), []) := by
 refine ev_run' (kp := k29) (us := [3]) fn29 rfl rfl rfl rfl rfl (by kernel_rfl) rfl rfl (by simp) ?_
 unfold ref19_Lit at h
 simp
 obtain ⟨v0, h1', h⟩ := bind_some' h
 have h1 : ev 19 [T.agg a.cells] = some (T.c (C.lit (Value.int IntKind.i64 v0)), []) := w_ref06_Vars _ _ h1'
 simp [h1]
 rcases iteB_cases h with ⟨c2, h⟩ | ⟨c2, h⟩
 ·simp [h1, c2]
  cases h
  rfl
 ·simp [h1, c2]
  cases h
  rfl
theorem w_ref19_Vars (a : Aig) (frames : Int) (r : Int) (h : ref19_Vars a frames = some r) : ev 28 [T.agg (Aig.cells a), T.c (C.lit (Value.int IntKind.i64 frames))] = some (T.c (C.lit (Value.int IntKind.i64 r)), []) := by
 refine ev_run' (kp := k28) (us := [3]) fn28 rfl rfl rfl rfl rfl (by kernel_rfl) rfl rfl (by simp) ?_
 unfold ref19_Vars at h
 simp
 obtain ⟨v0, h1', h⟩ := bind_some' h
 have h1 : ev 19 [T.agg a.cells] = some (T.c (C.lit (Value.int IntKind.i64 v0)), []) := w_ref06_Vars _ _ h1'
 simp [h1]
 cases h
 rfl
end Go.Proofs.Ythmnnieiibeiaaa

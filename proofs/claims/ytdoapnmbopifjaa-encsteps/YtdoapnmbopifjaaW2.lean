/- What the interpreter comes to is what the plain functions come to. No condition. -/
import Derived.Test.YtdoapnmbopifjaaW1
set_option linter.unusedSimpArgs false
set_option linter.unusedVariables false
set_option maxRecDepth 20000
set_option maxHeartbeats 4000000
namespace Go.Proofs.Ytdoapnmbopifjaa
open Go.Vabs Go.Vid
theorem w_ref01_IsName (s : ByteArray) (r : Bool) (h : ref01_IsName s = some r) : ev 51 [T.c (C.lit (Value.string s))] = some (T.c (C.lit (Value.bool r)), []) := by
  refine ev_run' (kp := k51) (us := [4]) fn51 rfl rfl rfl rfl rfl (by kernel_rfl) (by simp) ?_
  unfold ref01_IsName at h
  simp
  obtain ⟨w34, h33, h⟩ := bind_some' h
  rw [evLoop_loopF (ι := Int × Int) (ρ := Unit ⊕ Int) (fun p => match p with | (x21, x22) => mk 38 [(0, T.c (C.lit (Value.string s))), (3, T.c (C.lit (Value.int IntKind.i64 x21))), (4, T.c (C.lit (Value.int IntKind.i64 x22)))] [] []) (fun r => match r with | .inl () => (Ex.ret, mk 38 [(2, T.c (C.lit (Value.bool false)))] [] []) | .inr y31 => (Ex.exit 0, mk 38 [(3, T.c (C.lit (Value.int IntKind.i64 y31)))] [] [])) (ref01_IsName_B0 s) h33 ?_ _ ?_]
  · rcases w34 with ⟨⟩ | y31
    · simp
      cases h
      rfl
    · simp
      rcases iteB_cases h with ⟨c32, h⟩ | ⟨c32, h⟩
      · simp [c32]
        cases h
        rfl
      · simp [c32]
        cases h
        rfl
  · clear h33 h
    rintro ⟨x21, x22⟩ y L res h hL hR
    unfold ref01_IsName_B0 at h
    simp
    rcases iteB_cases h with ⟨c23, h⟩ | ⟨c23, h⟩
    · simp [c23]
      obtain ⟨v24, h25', h⟩ := bind_some' h
      have h25 : ev 57 [T.c (C.lit (Value.string s)), T.c (C.lit (Value.int IntKind.i64 x22))] = some (T.c (C.lit (Value.int IntKind.i64 v24)), []) := w_ref01_Long _ _ _ h25'
      simp [c23, h25]
      rcases iteB_cases h with ⟨c26, h⟩ | ⟨c26, h⟩
      · simp [c23, h25, c26]
        cases h
        exact hR _ rfl
      · simp [c23, h25, c26]
        obtain ⟨v27, h28, h⟩ := bind_some' h
        simp [c23, h25, c26, h28]
        rcases iteB_cases h with ⟨c29, h⟩ | ⟨c29, h⟩
        · simp [c23, h25, c26, h28, c29]
          cases h
          exact hR _ rfl
        · simp [c23, h25, c26, h28, c29]
          rcases iteB_cases h with ⟨c30, h⟩ | ⟨c30, h⟩
          · simp [c23, h25, c26, h28, c29, c30]
            cases h
            exact hR _ rfl
          · simp [c23, h25, c26, h28, c29, c30]
            cases h
            exact hL _ _ rfl (by simp [headOf])
    · simp [c23]
      cases h
      exact hR _ rfl
  · simp [headOf]
theorem w_ref06_many (a : Aig) (k : Int) (r : Int) (h : ref06_many a k = some r) : ev 52 [T.agg (Aig.cells a), T.c (C.lit (Value.int IntKind.i64 k))] = some (T.c (C.lit (Value.int IntKind.i64 r)), []) := by
  refine ev_run' (kp := k52) (us := [3]) fn52 rfl rfl rfl rfl rfl (by kernel_rfl) (by simp) ?_
  unfold ref06_many at h
  simp
  rcases iteB_cases h with ⟨c0, h⟩ | ⟨c0, h⟩
  · simp [c0]
    cases h
    rfl
  · simp [c0]
    rcases iteB_cases h with ⟨c1, h⟩ | ⟨c1, h⟩
    · simp [c0, c1]
      cases h
      rfl
    · simp [c0, c1]
      rcases iteB_cases h with ⟨c2, h⟩ | ⟨c2, h⟩
      · simp [c0, c1, c2]
        cases h
        rfl
      · simp [c0, c1, c2]
        rcases iteB_cases h with ⟨c3, h⟩ | ⟨c3, h⟩
        · simp [c0, c1, c2, c3]
          cases h
          rfl
        · simp [c0, c1, c2, c3]
          rcases iteB_cases h with ⟨c4, h⟩ | ⟨c4, h⟩
          · simp [c0, c1, c2, c3, c4]
            cases h
            rfl
          · simp [c0, c1, c2, c3, c4]
            cases h
            rfl
theorem w_ref06_kind (c : Int) (r : Int) (h : ref06_kind c = some r) : ev 53 [T.c (C.lit (Value.int IntKind.u8 c))] = some (T.c (C.lit (Value.int IntKind.i64 r)), []) := by
  refine ev_run' (kp := k53) (us := [3]) fn53 rfl rfl rfl rfl rfl (by kernel_rfl) (by simp) ?_
  unfold ref06_kind at h
  simp
  obtain ⟨w22, h21, h⟩ := bind_some' h
  rw [evLoop_loopF (ι := Int) (ρ := Int ⊕ Unit) (fun p => match p with | x14 => mk 17 [(0, T.c (C.lit (Value.int IntKind.u8 c))), (3, T.c (C.ref 5 0 (lenN [105, 108, 111, 98, 99]))), (4, T.c (C.lit (Value.int IntKind.i64 x14)))] [(5, rowO 5 1 byteF [105, 108, 111, 98, 99])] []) (fun r => match r with | .inl y20 => (Ex.ret, mk 17 [(2, T.c (C.lit (Value.int IntKind.i64 y20)))] [] []) | .inr () => (Ex.exit 0, mk 17 [] [] [])) (ref06_kind_B0 c) h21 ?_ _ ?_]
  · rcases w22 with y20 | ⟨⟩
    · simp
      cases h
      rfl
    · simp
      cases h
      rfl
  · clear h21 h
    rintro x14 y L res h hL hR
    unfold ref06_kind_B0 at h
    simp
    rcases iteB_cases h with ⟨c15, h⟩ | ⟨c15, h⟩
    · simp [c15]
      rcases iteB_cases h with ⟨c16, h⟩ | ⟨c16, h⟩
      · simp [c15, c16]
        obtain ⟨v17, h18, h⟩ := bind_some' h
        simp [c15, c16, h18]
        rcases iteB_cases h with ⟨c19, h⟩ | ⟨c19, h⟩
        · simp [c15, c16, h18, c19]
          cases h
          exact hR _ rfl
        · simp [c15, c16, h18, c19]
          cases h
          exact hL _ _ rfl (by simp [headOf])
      · simp [c15, c16]
        cases h
    · simp [c15]
      cases h
      exact hR _ rfl
  · simp [headOf]
theorem w_ref06_Behind (x : Name) (y_ : Name) (r : Bool) (h : ref06_Behind x y_ = some r) : ev 54 [T.agg (Name.cells x), T.agg (Name.cells y_)] = some (T.c (C.lit (Value.bool r)), []) := by
  refine ev_run' (kp := k54) (us := [4]) fn54 rfl rfl rfl rfl rfl (by kernel_rfl) (by simp) ?_
  unfold ref06_Behind at h
  simp
  obtain ⟨v0, h1', h⟩ := bind_some' h
  have h1 : ev 53 [T.c (C.lit (Value.int IntKind.u8 x.kind))] = some (T.c (C.lit (Value.int IntKind.i64 v0)), []) := w_ref06_kind _ _ h1'
  simp [h1]
  obtain ⟨v2, h3', h⟩ := bind_some' h
  have h3 : ev 53 [T.c (C.lit (Value.int IntKind.u8 y_.kind))] = some (T.c (C.lit (Value.int IntKind.i64 v2)), []) := w_ref06_kind _ _ h3'
  simp [h1, h3]
  rcases iteB_cases h with ⟨c4, h⟩ | ⟨c4, h⟩
  · simp [h1, h3, c4]
    cases h
    rfl
  · simp [h1, h3, c4]
    rcases iteB_cases h with ⟨c5, h⟩ | ⟨c5, h⟩
    · simp [h1, h3, c4, c5]
      cases h
      rfl
    · simp [h1, h3, c4, c5]
      cases h
      rfl
theorem w_ref06_Right (a : Aig) (r : Bool) (h : ref06_Right a = some r) : ev 43 [T.agg (Aig.cells a)] = some (T.c (C.lit (Value.bool r)), []) := by
  refine ev_run' (kp := k43) (us := [4]) fn43 rfl rfl rfl rfl rfl (by kernel_rfl) (by simp) ?_
  unfold ref06_Right at h
  simp
  rcases iteB_cases h with ⟨c0, h⟩ | ⟨c0, h⟩
  · simp [c0]
    cases h
    rfl
  · simp [c0]
    rcases iteB_cases h with ⟨c1, h⟩ | ⟨c1, h⟩
    · simp [c0, c1]
      cases h
      rfl
    · simp [c0, c1]
      rcases iteB_cases h with ⟨c2, h⟩ | ⟨c2, h⟩
      · simp [c0, c1, c2]
        cases h
        rfl
      · simp [c0, c1, c2]
        rcases iteB_cases h with ⟨c3, h⟩ | ⟨c3, h⟩
        · simp [c0, c1, c2, c3]
          cases h
          rfl
        · simp [c0, c1, c2, c3]
          obtain ⟨v4, h5', h⟩ := bind_some' h
          have h5 : ev 13 [T.agg a.cells] = some (T.c (C.lit (Value.int IntKind.i64 v4)), []) := w_ref06_Vars _ _ h5'
          simp [c0, c1, c2, c3, h5]
          rcases iteB_cases h with ⟨c6, h⟩ | ⟨c6, h⟩
          · simp [c0, c1, c2, c3, h5, c6]
            cases h
            rfl
          · simp [c0, c1, c2, c3, h5, c6]
            rcases iteB_cases h with ⟨c7, h⟩ | ⟨c7, h⟩
            · simp [c0, c1, c2, c3, h5, c6, c7]
              cases h
              rfl
            · simp [c0, c1, c2, c3, h5, c6, c7]
              obtain ⟨v8, h9', h⟩ := bind_some' h
              have h9 : ev 50 [T.c (sls 1 intF a.outs), T.c (C.lit (Value.int IntKind.i64 v4))] = some (T.c (C.lit (Value.bool v8)), []) := w_ref06_lits _ _ _ h9'
              simp [c0, c1, c2, c3, h5, c6, c7, h9]
              obtain ⟨v10, h11', h⟩ := bind_some' h
              have h11 : ev 50 [T.c (sls 1 intF a.bad), T.c (C.lit (Value.int IntKind.i64 v4))] = some (T.c (C.lit (Value.bool v10)), []) := w_ref06_lits _ _ _ h11'
              simp [c0, c1, c2, c3, h5, c6, c7, h9, h11]
              obtain ⟨v12, h13', h⟩ := bind_some' h
              have h13 : ev 50 [T.c (sls 1 intF a.con), T.c (C.lit (Value.int IntKind.i64 v4))] = some (T.c (C.lit (Value.bool v12)), []) := w_ref06_lits _ _ _ h13'
              simp [c0, c1, c2, c3, h5, c6, c7, h9, h11, h13]
              rcases iteB_cases h with ⟨c14, h⟩ | ⟨c14, h⟩
              · simp [c0, c1, c2, c3, h5, c6, c7, h9, h11, h13, c14]
                rcases iteB_cases h with ⟨c15, h⟩ | ⟨c15, h⟩
                · simp [c0, c1, c2, c3, h5, c6, c7, h9, h11, h13, c14, c15]
                  rcases iteB_cases h with ⟨c16, h⟩ | ⟨c16, h⟩
                  · simp [c0, c1, c2, c3, h5, c6, c7, h9, h11, h13, c14, c15, c16]
                    obtain ⟨w131, h130, h⟩ := bind_some' h
                    rw [evLoop_loopF (ι := Int) (ρ := Unit ⊕ Unit) (fun p => match p with | x37 => mk 195 [(1, T.c (C.ptr 1 0 0)), (3, T.c (C.lit (Value.int IntKind.i64 v4))), (7, T.c (C.lit (Value.int IntKind.i64 x37)))] [(1, { box := true, free := true, elem := 27, sz := 7, es := [a.cells] })] []) (fun r => match r with | .inl () => (Ex.ret, mk 195 [(2, T.c (C.lit (Value.bool false)))] [] []) | .inr () => (Ex.exit 0, mk 195 [(1, T.c (C.ptr 1 0 0))] [(1, { box := true, free := true, elem := 27, sz := 7, es := [a.cells] })] [])) (ref06_Right_B0 a v4) h130 ?_ _ ?_]
                    · rcases w131 with ⟨⟩ | ⟨⟩
                      · simp [c0, c1, c2, c3, h5, c6, c7, h9, h11, h13, c14, c15, c16]
                        cases h
                        rfl
                      · simp [c0, c1, c2, c3, h5, c6, c7, h9, h11, h13, c14, c15, c16]
                        obtain ⟨w129, h128, h⟩ := bind_some' h
                        rw [evLoop_loopF (ι := Int) (ρ := Unit ⊕ Unit) (fun p => match p with | x61 => mk 195 [(1, T.c (C.ptr 1 0 0)), (9, T.c (C.lit (Value.int IntKind.i64 x61)))] [(1, { box := true, free := true, elem := 27, sz := 7, es := [a.cells] })] []) (fun r => match r with | .inl () => (Ex.ret, mk 195 [(2, T.c (C.lit (Value.bool false)))] [] []) | .inr () => (Ex.exit 2, mk 195 [(1, T.c (C.ptr 1 0 0))] [(1, { box := true, free := true, elem := 27, sz := 7, es := [a.cells] })] [])) (ref06_Right_B1 a) h128 ?_ _ ?_]
                        · rcases w129 with ⟨⟩ | ⟨⟩
                          · simp [c0, c1, c2, c3, h5, c6, c7, h9, h11, h13, c14, c15, c16]
                            cases h
                            rfl
                          · simp [c0, c1, c2, c3, h5, c6, c7, h9, h11, h13, c14, c15, c16]
                            obtain ⟨w127, h126, h⟩ := bind_some' h
                            rw [evLoop_loopF (ι := Int) (ρ := Unit ⊕ Unit) (fun p => match p with | x107 => mk 195 [(1, T.c (C.ptr 1 0 0)), (11, T.c (C.lit (Value.int IntKind.i64 x107)))] [(1, { box := true, free := true, elem := 27, sz := 7, es := [a.cells] })] []) (fun r => match r with | .inl () => (Ex.ret, mk 195 [(2, T.c (C.lit (Value.bool false)))] [] []) | .inr () => (Ex.exit 4, mk 195 [] [] [])) (ref06_Right_B2 a) h126 ?_ _ ?_]
                            · rcases w127 with ⟨⟩ | ⟨⟩
                              · simp [c0, c1, c2, c3, h5, c6, c7, h9, h11, h13, c14, c15, c16]
                                cases h
                                rfl
                              · simp [c0, c1, c2, c3, h5, c6, c7, h9, h11, h13, c14, c15, c16]
                                cases h
                                rfl
                            · clear h126 h
                              rintro x107 y L res h hL hR
                              unfold ref06_Right_B2 at h
                              simp
                              rcases iteB_cases h with ⟨c108, h⟩ | ⟨c108, h⟩
                              · simp [c108]
                                obtain ⟨v109, h110, h⟩ := bind_some' h
                                simp [c108, h110]
                                obtain ⟨v111, h112', h⟩ := bind_some' h
                                have h112 : ev 51 [T.c (C.lit (Value.string v109.s))] = some (T.c (C.lit (Value.bool v111)), []) := w_ref01_IsName _ _ h112'
                                simp [c108, h110, h112]
                                rcases iteB_cases h with ⟨c113, h⟩ | ⟨c113, h⟩
                                · simp [c108, h110, h112, c113]
                                  rcases iteB_cases h with ⟨c114, h⟩ | ⟨c114, h⟩
                                  · simp [c108, h110, h112, c113, c114]
                                    cases h
                                    exact hR _ rfl
                                  · simp [c108, h110, h112, c113, c114]
                                    obtain ⟨v115, h116', h⟩ := bind_some' h
                                    have h116 : ev 53 [T.c (C.lit (Value.int IntKind.u8 v109.kind))] = some (T.c (C.lit (Value.int IntKind.i64 v115)), []) := w_ref06_kind _ _ h116'
                                    simp [c108, h110, h112, c113, c114, h116]
                                    obtain ⟨v117, h118', h⟩ := bind_some' h
                                    have h118 : ev 52 [T.agg a.cells, T.c (C.lit (Value.int IntKind.i64 v115))] = some (T.c (C.lit (Value.int IntKind.i64 v117)), []) := w_ref06_many _ _ _ h118'
                                    simp [c108, h110, h112, c113, c114, h116, h118]
                                    rcases iteB_cases h with ⟨c119, h⟩ | ⟨c119, h⟩
                                    · simp [c108, h110, h112, c113, c114, h116, h118, c119]
                                      cases h
                                      exact hR _ rfl
                                    · simp [c108, h110, h112, c113, c114, h116, h118, c119]
                                      rcases iteB_cases h with ⟨c120, h⟩ | ⟨c120, h⟩
                                      · simp [c108, h110, h112, c113, c114, h116, h118, c119, c120]
                                        obtain ⟨v121, h122, h⟩ := bind_some' h
                                        simp [c108, h110, h112, c113, c114, h116, h118, c119, c120, h122]
                                        obtain ⟨v123, h124', h⟩ := bind_some' h
                                        have h124 : ev 54 [T.agg v121.cells, T.agg v109.cells] = some (T.c (C.lit (Value.bool v123)), []) := w_ref06_Behind _ _ _ h124'
                                        simp [c108, h110, h112, c113, c114, h116, h118, c119, c120, h122, h124]
                                        rcases iteB_cases h with ⟨c125, h⟩ | ⟨c125, h⟩
                                        · simp [c108, h110, h112, c113, c114, h116, h118, c119, c120, h122, h124, c125]
                                          cases h
                                          exact hL _ _ rfl (by simp [headOf])
                                        · simp [c108, h110, h112, c113, c114, h116, h118, c119, c120, h122, h124, c125]
                                          cases h
                                          exact hR _ rfl
                                      · simp [c108, h110, h112, c113, c114, h116, h118, c119, c120]
                                        cases h
                                        exact hL _ _ rfl (by simp [headOf])
                                · simp [c108, h110, h112, c113]
                                  cases h
                                  exact hR _ rfl
                              · simp [c108]
                                cases h
                                exact hR _ rfl
                            · simp [headOf]
                        · clear h128 h
                          rintro x61 y L res h hL hR
                          unfold ref06_Right_B1 at h
                          simp
                          rcases iteB_cases h with ⟨c62, h⟩ | ⟨c62, h⟩
                          · simp [c62]
                            obtain ⟨v63, h64, h⟩ := bind_some' h
                            simp [c62, h64]
                            rcases iteB_cases h with ⟨c65, h⟩ | ⟨c65, h⟩
                            · simp [c62, h64, c65]
                              cases h
                              exact hR _ rfl
                            · simp [c62, h64, c65]
                              rcases iteB_cases h with ⟨c66, h⟩ | ⟨c66, h⟩
                              · simp [c62, h64, c65, c66]
                                cases h
                                exact hR _ rfl
                              · simp [c62, h64, c65, c66]
                                rcases iteB_cases h with ⟨c67, h⟩ | ⟨c67, h⟩
                                · simp [c62, h64, c65, c66, c67]
                                  cases h
                                  exact hR _ rfl
                                · simp [c62, h64, c65, c66, c67]
                                  cases h
                                  exact hL _ _ rfl (by simp [headOf])
                          · simp [c62]
                            cases h
                            exact hR _ rfl
                        · simp [headOf]
                    · clear h130 h
                      rintro x37 y L res h hL hR
                      unfold ref06_Right_B0 at h
                      simp
                      rcases iteB_cases h with ⟨c38, h⟩ | ⟨c38, h⟩
                      · simp [c38]
                        obtain ⟨v39, h40, h⟩ := bind_some' h
                        simp [c38, h40]
                        rcases iteB_cases h with ⟨c41, h⟩ | ⟨c41, h⟩
                        · simp [c38, h40, c41]
                          cases h
                          exact hR _ rfl
                        · simp [c38, h40, c41]
                          rcases iteB_cases h with ⟨c42, h⟩ | ⟨c42, h⟩
                          · simp [c38, h40, c41, c42]
                            cases h
                            exact hR _ rfl
                          · simp [c38, h40, c41, c42]
                            rcases iteB_cases h with ⟨c43, h⟩ | ⟨c43, h⟩
                            · simp [c38, h40, c41, c42, c43]
                              cases h
                              exact hL _ _ rfl (by simp [headOf])
                            · simp [c38, h40, c41, c42, c43]
                              rcases iteB_cases h with ⟨c44, h⟩ | ⟨c44, h⟩
                              · simp [c38, h40, c41, c42, c43, c44]
                                cases h
                                exact hL _ _ rfl (by simp [headOf])
                              · simp [c38, h40, c41, c42, c43, c44]
                                rcases iteB_cases h with ⟨c45, h⟩ | ⟨c45, h⟩
                                · simp [c38, h40, c41, c42, c43, c44, c45]
                                  cases h
                                  exact hL _ _ rfl (by simp [headOf])
                                · simp [c38, h40, c41, c42, c43, c44, c45]
                                  cases h
                                  exact hR _ rfl
                      · simp [c38]
                        cases h
                        exact hR _ rfl
                    · simp [headOf]
                  · simp [c0, c1, c2, c3, h5, c6, c7, h9, h11, h13, c14, c15, c16]
                    cases h
                    rfl
                · simp [c0, c1, c2, c3, h5, c6, c7, h9, h11, h13, c14, c15]
                  cases h
                  rfl
              · simp [c0, c1, c2, c3, h5, c6, c7, h9, h11, h13, c14]
                cases h
                rfl
theorem w_ref08_May (a : Aig) (r : Bool) (h : ref08_May a = some r) : ev 21 [T.agg (Aig.cells a)] = some (T.c (C.lit (Value.bool r)), []) := by
  refine ev_run' (kp := k21) (us := [4]) fn21 rfl rfl rfl rfl rfl (by kernel_rfl) (by simp) ?_
  unfold ref08_May at h
  simp
  obtain ⟨v0, h1', h⟩ := bind_some' h
  have h1 : ev 42 [T.agg a.cells, T.c (C.lit (Value.int IntKind.i64 40))] = some (T.c (C.lit (Value.bool v0)), []) := w_ref06_Small _ _ _ h1'
  simp [h1]
  obtain ⟨v2, h3', h⟩ := bind_some' h
  have h3 : ev 43 [T.agg a.cells] = some (T.c (C.lit (Value.bool v2)), []) := w_ref06_Right _ _ h3'
  simp [h1, h3]
  rcases iteB_cases h with ⟨c4, h⟩ | ⟨c4, h⟩
  · simp [h1, h3, c4]
    cases h
    rfl
  · simp [h1, h3, c4]
    cases h
    rfl
theorem w_law19_may (a : Aig) (l : Int) (r : Bool) (h : law19_may a l = some r) : ev 12 [T.agg (Aig.cells a), T.c (C.lit (Value.int IntKind.i64 l))] = some (T.c (C.lit (Value.bool r)), []) := by
  refine ev_run' (kp := k12) (us := [4]) fn12 rfl rfl rfl rfl rfl (by kernel_rfl) (by simp) ?_
  unfold law19_may at h
  simp
  obtain ⟨v0, h1', h⟩ := bind_some' h
  have h1 : ev 21 [T.agg a.cells] = some (T.c (C.lit (Value.bool v0)), []) := w_ref08_May _ _ h1'
  simp [h1]
  rcases iteB_cases h with ⟨c2, h⟩ | ⟨c2, h⟩
  · simp [h1, c2]
    rcases iteB_cases h with ⟨c3, h⟩ | ⟨c3, h⟩
    · simp [h1, c2, c3]
      obtain ⟨v4, h5', h⟩ := bind_some' h
      have h5 : ev 13 [T.agg a.cells] = some (T.c (C.lit (Value.int IntKind.i64 v4)), []) := w_ref06_Vars _ _ h5'
      simp [h1, c2, c3, h5]
      cases h
      rfl
    · simp [h1, c2, c3]
      cases h
      rfl
  · simp [h1, c2]
    cases h
    rfl
theorem w_ref08_Lit (v : List Bool) (l : Int) (r : Bool) (h : ref08_Lit v l = some r) : ev 20 [T.c (sls 1 boolF v), T.c (C.lit (Value.int IntKind.i64 l))] = some (T.c (C.lit (Value.bool r)), []) := by
  refine ev_run' (kp := k20) (us := [4]) fn20 rfl rfl rfl rfl rfl (by kernel_rfl) (by simp) ?_
  unfold ref08_Lit at h
  simp
  rcases iteB_cases h with ⟨c0, h⟩ | ⟨c0, h⟩
  · simp [c0]
    cases h
    rfl
  · simp [c0]
    rcases iteB_cases h with ⟨c1, h⟩ | ⟨c1, h⟩
    · simp [c0, c1]
      cases h
      rfl
    · simp [c0, c1]
      rcases iteB_cases h with ⟨c2, h⟩ | ⟨c2, h⟩
      · simp [c0, c1, c2]
        obtain ⟨v3, h4, h⟩ := bind_some' h
        simp [c0, c1, c2, h4]
        cases h
        rfl
      · simp [c0, c1, c2]
        obtain ⟨v5, h6, h⟩ := bind_some' h
        simp [c0, c1, c2, h6]
        cases h
        rfl
theorem w_ref08_Values (a : Aig) (state : List Bool) (in_ : List Bool) (r : (List Bool) × Int) (h : ref08_Values a state in_ = some r) : ev 14 [T.agg (Aig.cells a), T.c (sls 1 boolF state), T.c (sls 1 boolF in_)] = some (T.tup [T.c (C.ref 0 0 (lenN r.1)), T.c (C.lit (Value.int IntKind.i64 r.2))], [rowO 4 1 boolF r.1]) := by
  refine ev_run' (kp := k14) (us := [28, 3]) fn14 rfl rfl rfl rfl rfl (by kernel_rfl) (by simp) ?_
  unfold ref08_Values at h
  simp
  rcases iteB_cases h with ⟨c0, h⟩ | ⟨c0, h⟩
  · simp [c0]
    rcases iteB_cases h with ⟨c1, h⟩ | ⟨c1, h⟩
    · simp [c0, c1]
      rcases iteB_cases h with ⟨c2, h⟩ | ⟨c2, h⟩
      · simp [c0, c1, c2]
        rcases iteB_cases h with ⟨c3, h⟩ | ⟨c3, h⟩
        · simp [c0, c1, c2, c3]
          obtain ⟨y41, h42, h⟩ := bind_some' h
          rw [evLoop_loopF (ι := (List Bool) × Int) (ρ := (List Bool)) (fun p => match p with | (x29, x30) => mk 63 [(3, T.c (C.ptr 3 0 0)), (8, T.c (C.ref 25 0 (lenN x29))), (9, T.c (C.lit (Value.int IntKind.i64 x30)))] [(3, { box := true, free := true, elem := 27, sz := 7, es := [a.cells] }), (25, rowO 4 1 boolF x29)] []) (fun r => match r with | y41 => (Ex.exit 0, mk 63 [(8, T.c (C.ref 25 0 (lenN y41)))] [(25, rowO 4 1 boolF y41)] [])) (ref08_Values_B0 a) h42 ?_ _ ?_]
          · simp [c0, c1, c2, c3]
            cases h
            rfl
          · clear h42 h
            rintro ⟨x29, x30⟩ y L res h hL hR
            unfold ref08_Values_B0 at h
            simp
            rcases iteB_cases h with ⟨c31, h⟩ | ⟨c31, h⟩
            · simp [c31]
              obtain ⟨v32, h33, h⟩ := bind_some' h
              simp [c31, h33]
              obtain ⟨v34, h35', h⟩ := bind_some' h
              have h35 : ev 20 [T.c (sls 1 boolF x29), T.c (C.lit (Value.int IntKind.i64 v32.a))] = some (T.c (C.lit (Value.bool v34)), []) := w_ref08_Lit _ _ _ h35'
              simp [c31, h33, h35]
              obtain ⟨v36, h37', h⟩ := bind_some' h
              have h37 : ev 20 [T.c (sls 1 boolF x29), T.c (C.lit (Value.int IntKind.i64 v32.b))] = some (T.c (C.lit (Value.bool v36)), []) := w_ref08_Lit _ _ _ h37'
              simp [c31, h33, h35, h37]
              rcases iteB_cases h with ⟨c38, h⟩ | ⟨c38, h⟩
              · simp [c31, h33, h35, h37, c38]
                rcases iteB_cases h with ⟨c39, h⟩ | ⟨c39, h⟩
                · simp [c31, h33, h35, h37, c38, c39]
                  cases h
                  exact hL _ _ rfl (by simp [headOf])
                · simp [c31, h33, h35, h37, c38, c39]
                  cases h
              · simp [c31, h33, h35, h37, c38]
                rcases iteB_cases h with ⟨c40, h⟩ | ⟨c40, h⟩
                · simp [c31, h33, h35, h37, c38, c40]
                  cases h
                  exact hL _ _ rfl (by simp [headOf])
                · simp [c31, h33, h35, h37, c38, c40]
                  cases h
            · simp [c31]
              cases h
              exact hR _ rfl
          · simp [headOf]
        · simp [c0, c1, c2, c3]
          cases h
      · simp [c0, c1, c2]
        cases h
    · simp [c0, c1]
      cases h
      rfl
  · simp [c0]
    cases h
    rfl
theorem w_ref03_Flags (a : List Bool) (b : List Bool) (r : Bool) (h : ref03_Flags a b = some r) : ev 15 [T.c (sls 1 boolF a), T.c (sls 1 boolF b)] = some (T.c (C.lit (Value.bool r)), []) := by
  refine ev_run' (kp := k15) (us := [4]) fn15 rfl rfl rfl rfl rfl (by kernel_rfl) (by simp) ?_
  unfold ref03_Flags at h
  simp
  rcases iteB_cases h with ⟨c0, h⟩ | ⟨c0, h⟩
  · simp [c0]
    obtain ⟨w25, h24, h⟩ := bind_some' h
    rw [evLoop_loopF (ι := Int) (ρ := Unit ⊕ Unit) (fun p => match p with | x17 => mk 26 [(0, T.c (sls 1 boolF a)), (1, T.c (sls 1 boolF b)), (5, T.c (C.lit (Value.int IntKind.i64 x17)))] [] []) (fun r => match r with | .inl () => (Ex.ret, mk 26 [(4, T.c (C.lit (Value.bool false)))] [] []) | .inr () => (Ex.exit 0, mk 26 [] [] [])) (ref03_Flags_B0 a b) h24 ?_ _ ?_]
    · rcases w25 with ⟨⟩ | ⟨⟩
      · simp [c0]
        cases h
        rfl
      · simp [c0]
        cases h
        rfl
    · clear h24 h
      rintro x17 y L res h hL hR
      unfold ref03_Flags_B0 at h
      simp
      rcases iteB_cases h with ⟨c18, h⟩ | ⟨c18, h⟩
      · simp [c18]
        obtain ⟨v19, h20, h⟩ := bind_some' h
        simp [c18, h20]
        obtain ⟨v21, h22, h⟩ := bind_some' h
        simp [c18, h20, h22]
        rcases iteB_cases h with ⟨c23, h⟩ | ⟨c23, h⟩
        · simp [c18, h20, h22, c23]
          cases h
          exact hL _ _ rfl (by simp [headOf])
        · simp [c18, h20, h22, c23]
          cases h
          exact hR _ rfl
      · simp [c18]
        cases h
        exact hR _ rfl
    · simp [headOf]
  · simp [c0]
    cases h
    rfl
theorem w_ref03_Clause (c : List Int) (m : List Bool) (r : Bool) (h : ref03_Clause c m = some r) : ev 18 [T.c (sls 1 intF c), T.c (sls 1 boolF m)] = some (T.c (C.lit (Value.bool r)), []) := by
  refine ev_run' (kp := k18) (us := [4]) fn18 rfl rfl rfl rfl rfl (by kernel_rfl) (by simp) ?_
  unfold ref03_Clause at h
  simp
  obtain ⟨w123, h122, h⟩ := bind_some' h
  rw [evLoop_loopF (ι := Int) (ρ := Unit ⊕ Unit) (fun p => match p with | x82 => mk 49 [(0, T.c (sls 1 intF c)), (1, T.c (sls 1 boolF m)), (5, T.c (C.lit (Value.int IntKind.i64 x82)))] [] []) (fun r => match r with | .inl () => (Ex.ret, mk 49 [(4, T.c (C.lit (Value.bool true)))] [] []) | .inr () => (Ex.exit 0, mk 49 [] [] [])) (ref03_Clause_B1 c m) h122 ?_ _ ?_]
  · rcases w123 with ⟨⟩ | ⟨⟩
    · simp
      cases h
      rfl
    · simp
      cases h
      rfl
  · clear h122 h
    rintro x82 y L res h hL hR
    unfold ref03_Clause_B1 at h
    simp
    rcases iteB_cases h with ⟨c83, h⟩ | ⟨c83, h⟩
    · simp [c83]
      obtain ⟨w121, h120, h⟩ := bind_some' h
      rw [evLoop_loopF (ι := Int) (ρ := Unit ⊕ Unit) (fun p => match p with | x109 => mk 49 [(0, T.c (sls 1 intF c)), (1, T.c (sls 1 boolF m)), (5, T.c (C.lit (Value.int IntKind.i64 x82))), (6, T.c (C.lit (Value.int IntKind.i64 x109)))] [] []) (fun r => match r with | .inl () => (Ex.ret, mk 49 [(4, T.c (C.lit (Value.bool true)))] [] []) | .inr () => (Ex.exit 2, mk 49 [(0, T.c (sls 1 intF c)), (1, T.c (sls 1 boolF m)), (5, T.c (C.lit (Value.int IntKind.i64 x82)))] [] [])) (ref03_Clause_B0 c m x82) h120 ?_ _ ?_]
      · rcases w121 with ⟨⟩ | ⟨⟩
        · simp [c83]
          cases h
          exact hR _ rfl
        · simp [c83]
          cases h
          exact hL _ _ rfl (by simp [headOf])
      · clear h120 h
        rintro x109 y L res h hL hR
        unfold ref03_Clause_B0 at h
        simp
        rcases iteB_cases h with ⟨c110, h⟩ | ⟨c110, h⟩
        · simp [c110]
          obtain ⟨v111, h112, h⟩ := bind_some' h
          simp [c110, h112]
          rcases iteB_cases h with ⟨c113, h⟩ | ⟨c113, h⟩
          · simp [c110, h112, c113]
            obtain ⟨v114, h115, h⟩ := bind_some' h
            simp [c110, h112, c113, h115]
            rcases iteB_cases h with ⟨c116, h⟩ | ⟨c116, h⟩
            · simp [c110, h112, c113, h115, c116]
              cases h
              exact hR _ rfl
            · simp [c110, h112, c113, h115, c116]
              cases h
              exact hL _ _ rfl (by simp [headOf])
          · simp [c110, h112, c113]
            obtain ⟨v117, h118, h⟩ := bind_some' h
            simp [c110, h112, c113, h118]
            rcases iteB_cases h with ⟨c119, h⟩ | ⟨c119, h⟩
            · simp [c110, h112, c113, h118, c119]
              cases h
              exact hR _ rfl
            · simp [c110, h112, c113, h118, c119]
              cases h
              exact hL _ _ rfl (by simp [headOf])
        · simp [c110]
          cases h
          exact hR _ rfl
      · simp [headOf]
    · simp [c83]
      cases h
      exact hR _ rfl
  · simp [headOf]
theorem w_ref03_Holds (f_ : Cnf) (m : List Bool) (r : Bool) (h : ref03_Holds f_ m = some r) : ev 16 [T.agg (Cnf.cells f_), T.c (sls 1 boolF m)] = some (T.c (C.lit (Value.bool r)), []) := by
  refine ev_run' (kp := k16) (us := [4]) fn16 rfl rfl rfl rfl rfl (by kernel_rfl) (by simp) ?_
  unfold ref03_Holds at h
  simp
  obtain ⟨w24, h23, h⟩ := bind_some' h
  rw [evLoop_loopF (ι := Int) (ρ := Unit ⊕ Unit) (fun p => match p with | x16 => mk 23 [(1, T.c (sls 1 boolF m)), (2, T.c (C.ptr 2 0 0)), (5, T.c (C.lit (Value.int IntKind.i64 x16)))] [(2, { box := true, free := true, elem := 39, sz := 2, es := [f_.cells] })] []) (fun r => match r with | .inl () => (Ex.ret, mk 23 [(4, T.c (C.lit (Value.bool false)))] [] []) | .inr () => (Ex.exit 0, mk 23 [] [] [])) (ref03_Holds_B0 f_ m) h23 ?_ _ ?_]
  · rcases w24 with ⟨⟩ | ⟨⟩
    · simp
      cases h
      rfl
    · simp
      cases h
      rfl
  · clear h23 h
    rintro x16 y L res h hL hR
    unfold ref03_Holds_B0 at h
    simp
    rcases iteB_cases h with ⟨c17, h⟩ | ⟨c17, h⟩
    · simp [c17]
      obtain ⟨v18, h19, h⟩ := bind_some' h
      simp [c17, h19]
      obtain ⟨v20, h21', h⟩ := bind_some' h
      have h21 : ev 18 [T.c (sls 1 intF v18), T.c (sls 1 boolF m)] = some (T.c (C.lit (Value.bool v20)), []) := w_ref03_Clause _ _ _ h21'
      simp [c17, h19, h21]
      rcases iteB_cases h with ⟨c22, h⟩ | ⟨c22, h⟩
      · simp [c17, h19, h21, c22]
        cases h
        exact hL _ _ rfl (by simp [headOf])
      · simp [c17, h19, h21, c22]
        cases h
        exact hR _ rfl
    · simp [c17]
      cases h
      exact hR _ rfl
  · simp [headOf]
theorem w_law19_EncModels (a : Aig) (v : List Bool) (l : Int) (h : law19_EncModels a v l = some true) : ev 3 [T.agg (Aig.cells a), T.c (sls 1 boolF v), T.c (C.lit (Value.int IntKind.i64 l))] = some (T.c (C.lit (Value.bool true)), []) := by
  refine ev_run' (kp := k3) (us := [4]) fn3 rfl rfl rfl rfl rfl (by kernel_rfl) (by simp) ?_
  unfold law19_EncModels at h
  simp
  obtain ⟨v0, h1', h⟩ := bind_some' h
  have h1 : ev 11 [] = some (T.c (C.lit (Value.bool v0)), []) := w_law19_shown _ h1'
  simp [h1]
  obtain ⟨v2, h3', h⟩ := bind_some' h
  have h3 : ev 12 [T.agg a.cells, T.c (C.lit (Value.int IntKind.i64 l))] = some (T.c (C.lit (Value.bool v2)), []) := w_law19_may _ _ _ h3'
  simp [h1, h3]
  rcases iteB_cases h with ⟨c4, h⟩ | ⟨c4, h⟩
  · simp [h1, h3, c4]
    obtain ⟨v5, h6', h⟩ := bind_some' h
    have h6 : ev 13 [T.agg a.cells] = some (T.c (C.lit (Value.int IntKind.i64 v5)), []) := w_ref06_Vars _ _ h6'
    simp [h1, h3, c4, h6]
    rcases iteB_cases h with ⟨c7, h⟩ | ⟨c7, h⟩
    · simp [h1, h3, c4, h6, c7]
      rcases iteB_cases h with ⟨c8, h⟩ | ⟨c8, h⟩
      · simp [h1, h3, c4, h6, c7, c8]
        rcases iteB_cases h with ⟨c9, h⟩ | ⟨c9, h⟩
        · simp [h1, h3, c4, h6, c7, c8, c9]
          obtain ⟨⟨v10, v11⟩, h12', h⟩ := bind_some' h
          have h12 : ev 14 [T.agg a.cells, T.c (sls 1 boolF (cut v (iadd IntKind.i64 1 a.I) (iadd IntKind.i64 (iadd IntKind.i64 1 a.I) (lenI a.L)))), T.c (sls 1 boolF (cut v 1 (iadd IntKind.i64 1 a.I)))] = some (T.tup [T.c (C.ref 0 0 (lenN v10)), T.c (C.lit (Value.int IntKind.i64 v11))], [rowO 4 1 boolF v10]) := w_ref08_Values _ _ _ _ h12'
          simp [h1, h3, c4, h6, c7, c8, c9, h12]
          rcases iteB_cases h with ⟨c13, h⟩ | ⟨c13, h⟩
          · simp [h1, h3, c4, h6, c7, c8, c9, h12, c13]
            obtain ⟨v14, h15', h⟩ := bind_some' h
            have h15 : ev 15 [T.c (sls 1 boolF v10), T.c (sls 1 boolF v)] = some (T.c (C.lit (Value.bool v14)), []) := w_ref03_Flags _ _ _ h15'
            simp [h1, h3, c4, h6, c7, c8, c9, h12, c13, h15]
            obtain ⟨v16, h17', h⟩ := bind_some' h
            have h17 : ev 17 [T.agg a.cells, T.c (C.lit (Value.int IntKind.i64 0))] = some (T.c (C.ref 0 0 (lenN v16)), [rowO 24 1 rowF v16]) := w_enc_Frame _ _ _ h17'
            simp [h1, h3, c4, h6, c7, c8, c9, h12, c13, h15, h17]
            obtain ⟨v18, h19', h⟩ := bind_some' h
            have h19 : ev 16 [T.agg [C.lit (Value.int IntKind.i64 (lenI v)), sls 1 rowF v16], T.c (sls 1 boolF v)] = some (T.c (C.lit (Value.bool v18)), []) := w_ref03_Holds _ _ _ h19'
            simp [h1, h3, c4, h6, c7, c8, c9, h12, c13, h15, h17, h19]
            rcases iteB_cases h with ⟨c20, h⟩ | ⟨c20, h⟩
            · simp [h1, h3, c4, h6, c7, c8, c9, h12, c13, h15, h17, h19, c20]
              rcases iteB_cases h with ⟨c21, h⟩ | ⟨c21, h⟩
              · simp [h1, h3, c4, h6, c7, c8, c9, h12, c13, h15, h17, h19, c20, c21]
                obtain ⟨v22, h23', h⟩ := bind_some' h
                have h23 : ev 19 [T.agg a.cells, T.c (C.lit (Value.int IntKind.i64 0)), T.c (C.lit (Value.int IntKind.i64 l))] = some (T.c (C.lit (Value.int IntKind.i64 v22)), []) := w_enc_Lit _ _ _ _ h23'
                simp [h1, h3, c4, h6, c7, c8, c9, h12, c13, h15, h17, h19, c20, c21, h23]
                obtain ⟨v24, h25', h⟩ := bind_some' h
                have h25 : ev 18 [T.c (sls 1 intF [v22]), T.c (sls 1 boolF v)] = some (T.c (C.lit (Value.bool v24)), []) := w_ref03_Clause _ _ _ h25'
                simp [h1, h3, c4, h6, c7, c8, c9, h12, c13, h15, h17, h19, c20, c21, h23, h25]
                obtain ⟨v26, h27', h⟩ := bind_some' h
                have h27 : ev 20 [T.c (sls 1 boolF v), T.c (C.lit (Value.int IntKind.i64 l))] = some (T.c (C.lit (Value.bool v26)), []) := w_ref08_Lit _ _ _ h27'
                first | (cases h; done) | (simp [h1, h3, c4, h6, c7, c8, c9, h12, c13, h15, h17, h19, c20, c21, h23, h25, h27]; first | rfl | (injection h with h; rw [h]; rfl) | (injection h with h; rw [h]))
              · first | (cases h; done) | (simp [h1, h3, c4, h6, c7, c8, c9, h12, c13, h15, h17, h19, c20, c21]; first | rfl | (injection h with h; rw [h]; rfl) | (injection h with h; rw [h]))
            · first | (cases h; done) | (simp [h1, h3, c4, h6, c7, c8, c9, h12, c13, h15, h17, h19, c20]; first | rfl | (injection h with h; rw [h]; rfl) | (injection h with h; rw [h]))
          · simp [h1, h3, c4, h6, c7, c8, c9, h12, c13]
            obtain ⟨v28, h29', h⟩ := bind_some' h
            have h29 : ev 17 [T.agg a.cells, T.c (C.lit (Value.int IntKind.i64 0))] = some (T.c (C.ref 0 0 (lenN v28)), [rowO 24 1 rowF v28]) := w_enc_Frame _ _ _ h29'
            simp [h1, h3, c4, h6, c7, c8, c9, h12, c13, h29]
            obtain ⟨v30, h31', h⟩ := bind_some' h
            have h31 : ev 16 [T.agg [C.lit (Value.int IntKind.i64 (lenI v)), sls 1 rowF v28], T.c (sls 1 boolF v)] = some (T.c (C.lit (Value.bool v30)), []) := w_ref03_Holds _ _ _ h31'
            simp [h1, h3, c4, h6, c7, c8, c9, h12, c13, h29, h31]
            rcases iteB_cases h with ⟨c32, h⟩ | ⟨c32, h⟩
            · simp [h1, h3, c4, h6, c7, c8, c9, h12, c13, h29, h31, c32]
              rcases iteB_cases h with ⟨c33, h⟩ | ⟨c33, h⟩
              · simp [h1, h3, c4, h6, c7, c8, c9, h12, c13, h29, h31, c32, c33]
                obtain ⟨v34, h35', h⟩ := bind_some' h
                have h35 : ev 19 [T.agg a.cells, T.c (C.lit (Value.int IntKind.i64 0)), T.c (C.lit (Value.int IntKind.i64 l))] = some (T.c (C.lit (Value.int IntKind.i64 v34)), []) := w_enc_Lit _ _ _ _ h35'
                simp [h1, h3, c4, h6, c7, c8, c9, h12, c13, h29, h31, c32, c33, h35]
                obtain ⟨v36, h37', h⟩ := bind_some' h
                have h37 : ev 18 [T.c (sls 1 intF [v34]), T.c (sls 1 boolF v)] = some (T.c (C.lit (Value.bool v36)), []) := w_ref03_Clause _ _ _ h37'
                simp [h1, h3, c4, h6, c7, c8, c9, h12, c13, h29, h31, c32, c33, h35, h37]
                obtain ⟨v38, h39', h⟩ := bind_some' h
                have h39 : ev 20 [T.c (sls 1 boolF v), T.c (C.lit (Value.int IntKind.i64 l))] = some (T.c (C.lit (Value.bool v38)), []) := w_ref08_Lit _ _ _ h39'
                first | (cases h; done) | (simp [h1, h3, c4, h6, c7, c8, c9, h12, c13, h29, h31, c32, c33, h35, h37, h39]; first | rfl | (injection h with h; rw [h]; rfl) | (injection h with h; rw [h]))
              · first | (cases h; done) | (simp [h1, h3, c4, h6, c7, c8, c9, h12, c13, h29, h31, c32, c33]; first | rfl | (injection h with h; rw [h]; rfl) | (injection h with h; rw [h]))
            · first | (cases h; done) | (simp [h1, h3, c4, h6, c7, c8, c9, h12, c13, h29, h31, c32]; first | rfl | (injection h with h; rw [h]; rfl) | (injection h with h; rw [h]))
        · simp [h1, h3, c4, h6, c7, c8, c9]
          cases h
      · simp [h1, h3, c4, h6, c7, c8]
        cases h
    · first | (cases h; done) | (simp [h1, h3, c4, h6, c7]; first | rfl | (injection h with h; rw [h]; rfl) | (injection h with h; rw [h]))
  · first | (cases h; done) | (simp [h1, h3, c4]; first | rfl | (injection h with h; rw [h]; rfl) | (injection h with h; rw [h]))
theorem w_ref08_Start (a : Aig) (free : List Bool) (r : (List Bool) × Int) (h : ref08_Start a free = some r) : ev 22 [T.agg (Aig.cells a), T.c (sls 1 boolF free)] = some (T.tup [T.c (C.ref 0 0 (lenN r.1)), T.c (C.lit (Value.int IntKind.i64 r.2))], [rowO 4 1 boolF r.1]) := by
  refine ev_run' (kp := k22) (us := [28, 3]) fn22 rfl rfl rfl rfl rfl (by kernel_rfl) (by simp) ?_
  unfold ref08_Start at h
  simp
  rcases iteB_cases h with ⟨c0, h⟩ | ⟨c0, h⟩
  · simp [c0]
    obtain ⟨y39, h40, h⟩ := bind_some' h
    rw [evLoop_loopF (ι := (List Bool) × Int) (ρ := (List Bool)) (fun p => match p with | (x27, x28) => mk 45 [(1, T.c (sls 1 boolF free)), (2, T.c (C.ptr 2 0 0)), (6, T.c (C.ref 6 0 (lenN x27))), (7, T.c (C.lit (Value.int IntKind.i64 x28)))] [(2, { box := true, free := true, elem := 27, sz := 7, es := [a.cells] }), (6, rowO 4 1 boolF x27)] []) (fun r => match r with | y39 => (Ex.exit 0, mk 45 [(6, T.c (C.ref 6 0 (lenN y39)))] [(6, rowO 4 1 boolF y39)] [])) (ref08_Start_B0 a free) h40 ?_ _ ?_]
    · simp [c0]
      cases h
      rfl
    · clear h40 h
      rintro ⟨x27, x28⟩ y L res h hL hR
      unfold ref08_Start_B0 at h
      simp
      rcases iteB_cases h with ⟨c29, h⟩ | ⟨c29, h⟩
      · simp [c29]
        obtain ⟨v30, h31, h⟩ := bind_some' h
        simp [c29, h31]
        rcases iteB_cases h with ⟨c32, h⟩ | ⟨c32, h⟩
        · simp [c29, h31, c32]
          rcases iteB_cases h with ⟨c33, h⟩ | ⟨c33, h⟩
          · simp [c29, h31, c32, c33]
            cases h
            exact hL _ _ rfl (by simp [headOf])
          · simp [c29, h31, c32, c33]
            cases h
        · simp [c29, h31, c32]
          rcases iteB_cases h with ⟨c34, h⟩ | ⟨c34, h⟩
          · simp [c29, h31, c32, c34]
            rcases iteB_cases h with ⟨c35, h⟩ | ⟨c35, h⟩
            · simp [c29, h31, c32, c34, c35]
              cases h
              exact hL _ _ rfl (by simp [headOf])
            · simp [c29, h31, c32, c34, c35]
              cases h
          · simp [c29, h31, c32, c34]
            obtain ⟨v36, h37, h⟩ := bind_some' h
            simp [c29, h31, c32, c34, h37]
            rcases iteB_cases h with ⟨c38, h⟩ | ⟨c38, h⟩
            · simp [c29, h31, c32, c34, h37, c38]
              cases h
              exact hL _ _ rfl (by simp [headOf])
            · simp [c29, h31, c32, c34, h37, c38]
              cases h
      · simp [c29]
        cases h
        exact hR _ rfl
    · simp [headOf]
  · simp [c0]
    cases h
    rfl
theorem w_law19_EncFirst (a : Aig) (state : List Bool) (in_ : List Bool) (h : law19_EncFirst a state in_ = some true) : ev 4 [T.agg (Aig.cells a), T.c (sls 1 boolF state), T.c (sls 1 boolF in_)] = some (T.c (C.lit (Value.bool true)), []) := by
  refine ev_run' (kp := k4) (us := [4]) fn4 rfl rfl rfl rfl rfl (by kernel_rfl) (by simp) ?_
  unfold law19_EncFirst at h
  simp
  obtain ⟨v0, h1', h⟩ := bind_some' h
  have h1 : ev 11 [] = some (T.c (C.lit (Value.bool v0)), []) := w_law19_shown _ h1'
  simp [h1]
  obtain ⟨v2, h3', h⟩ := bind_some' h
  have h3 : ev 21 [T.agg a.cells] = some (T.c (C.lit (Value.bool v2)), []) := w_ref08_May _ _ h3'
  simp [h1, h3]
  rcases iteB_cases h with ⟨c4, h⟩ | ⟨c4, h⟩
  · simp [h1, h3, c4]
    rcases iteB_cases h with ⟨c5, h⟩ | ⟨c5, h⟩
    · first | (cases h; done) | (simp [h1, h3, c4, c5]; first | rfl | (injection h with h; rw [h]; rfl) | (injection h with h; rw [h]))
    · simp [h1, h3, c4, c5]
      obtain ⟨⟨v6, v7⟩, h8', h⟩ := bind_some' h
      have h8 : ev 14 [T.agg a.cells, T.c (sls 1 boolF state), T.c (sls 1 boolF in_)] = some (T.tup [T.c (C.ref 0 0 (lenN v6)), T.c (C.lit (Value.int IntKind.i64 v7))], [rowO 4 1 boolF v6]) := w_ref08_Values _ _ _ _ h8'
      simp [h1, h3, c4, c5, h8]
      obtain ⟨⟨v9, v10⟩, h11', h⟩ := bind_some' h
      have h11 : ev 22 [T.agg a.cells, T.c (sls 1 boolF state)] = some (T.tup [T.c (C.ref 0 0 (lenN v9)), T.c (C.lit (Value.int IntKind.i64 v10))], [rowO 4 1 boolF v9]) := w_ref08_Start _ _ _ h11'
      simp [h1, h3, c4, c5, h8, h11]
      rcases iteB_cases h with ⟨c12, h⟩ | ⟨c12, h⟩
      · simp [h1, h3, c4, c5, h8, h11, c12]
        rcases iteB_cases h with ⟨c13, h⟩ | ⟨c13, h⟩
        · simp [h1, h3, c4, c5, h8, h11, c12, c13]
          rcases iteB_cases h with ⟨c14, h⟩ | ⟨c14, h⟩
          · simp [h1, h3, c4, c5, h8, h11, c12, c13, c14]
            obtain ⟨v15, h16', h⟩ := bind_some' h
            have h16 : ev 23 [T.agg a.cells] = some (T.c (C.ref 0 0 (lenN v15)), [rowO 24 1 rowF v15]) := w_enc_First _ _ h16'
            simp [h1, h3, c4, c5, h8, h11, c12, c13, c14, h16]
            obtain ⟨v17, h18', h⟩ := bind_some' h
            have h18 : ev 16 [T.agg [C.lit (Value.int IntKind.i64 (lenI v6)), sls 1 rowF v15], T.c (sls 1 boolF v6)] = some (T.c (C.lit (Value.bool v17)), []) := w_ref03_Holds _ _ _ h18'
            simp [h1, h3, c4, c5, h8, h11, c12, c13, c14, h16, h18]
            obtain ⟨v19, h20', h⟩ := bind_some' h
            have h20 : ev 15 [T.c (sls 1 boolF v9), T.c (sls 1 boolF state)] = some (T.c (C.lit (Value.bool v19)), []) := w_ref03_Flags _ _ _ h20'
            first | (cases h; done) | (simp [h1, h3, c4, c5, h8, h11, c12, c13, c14, h16, h18, h20]; first | rfl | (injection h with h; rw [h]; rfl) | (injection h with h; rw [h]))
          · first | (cases h; done) | (simp [h1, h3, c4, c5, h8, h11, c12, c13, c14]; first | rfl | (injection h with h; rw [h]; rfl) | (injection h with h; rw [h]))
        · first | (cases h; done) | (simp [h1, h3, c4, c5, h8, h11, c12, c13]; first | rfl | (injection h with h; rw [h]; rfl) | (injection h with h; rw [h]))
      · first | (cases h; done) | (simp [h1, h3, c4, c5, h8, h11, c12]; first | rfl | (injection h with h; rw [h]; rfl) | (injection h with h; rw [h]))
  · first | (cases h; done) | (simp [h1, h3, c4]; first | rfl | (injection h with h; rw [h]; rfl) | (injection h with h; rw [h]))
end Go.Proofs.Ytdoapnmbopifjaa

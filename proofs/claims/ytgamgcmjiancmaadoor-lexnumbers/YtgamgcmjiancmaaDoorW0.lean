/- What the interpreter comes to is what the plain functions come to. No condition. -/
import Derived.Test.YtgamgcmjiancmaaDoorK
import Derived.Test.YtgamgcmjiancmaaDoorG
set_option linter.unusedSimpArgs false
set_option linter.unusedVariables false
set_option maxRecDepth 20000
set_option maxHeartbeats 4000000
namespace Go.Proofs.YtgamgcmjiancmaaDoor
open Go.Vabs Go.Vid
theorem w_lex_isPlace (b : List Int) (at_ : Int) (r : Bool) (h : lex_isPlace b at_ = some r) : ev 24 [T.c (sls 1 byteF b), T.c (C.lit (Value.int IntKind.i64 at_))] = some (T.c (C.lit (Value.bool r)), []) := by
  refine ev_run' (kp := k24) (us := [4]) fn24 rfl rfl rfl rfl rfl (by kernel_rfl) (by simp) ?_
  unfold lex_isPlace at h
  simp
  rcases iteB_cases h with ⟨c0, h⟩ | ⟨c0, h⟩
  · simp [c0]
    cases h
    rfl
  · simp [c0]
    cases h
    rfl
theorem w_lex_Ones_1 (c : Int) (r : Bool) (h : lex_Ones_1 c = some r) : ev 29 [T.c (C.lit (Value.int IntKind.u8 c))] = some (T.c (C.lit (Value.bool r)), []) := by
  refine ev_run' (kp := k29) (us := [4]) fn29 rfl rfl rfl rfl rfl (by kernel_rfl) (by simp) ?_
  unfold lex_Ones_1 at h
  simp
  rcases iteB_cases h with ⟨c0, h⟩ | ⟨c0, h⟩
  · simp [c0]
    cases h
    rfl
  · simp [c0]
    cases h
    rfl
theorem w_lex_Number_1 (c : Int) (r : Bool) (h : lex_Number_1 c = some r) : ev 30 [T.c (C.lit (Value.int IntKind.u8 c))] = some (T.c (C.lit (Value.bool r)), []) := by
  refine ev_run' (kp := k30) (us := [4]) fn30 rfl rfl rfl rfl rfl (by kernel_rfl) (by simp) ?_
  unfold lex_Number_1 at h
  simp
  rcases iteB_cases h with ⟨c0, h⟩ | ⟨c0, h⟩
  · simp [c0]
    cases h
    rfl
  · simp [c0]
    cases h
    rfl
theorem w_lex_run_1_ones (r_ : Int) (r : Bool) (h : lex_run_1_ones r_ = some r) : ev 35 [T.c (C.lit (Value.int IntKind.i32 r_)), T.c (C.fptr [C.lit (Go.Value.func (Go.Fn.func 29) #[] #[])] 0)] = some (T.c (C.lit (Value.bool r)), []) := by
  refine ev_run' (kp := k35) (us := [4]) fn35 rfl rfl rfl rfl rfl (by kernel_rfl) (by simp) ?_
  unfold lex_run_1_ones at h
  simp
  rcases iteB_cases h with ⟨c0, h⟩ | ⟨c0, h⟩
  · simp [c0]
    cases h
    rfl
  · simp [c0]
    obtain ⟨v1, h2', h⟩ := bind_some' h
    have h2 : ev 29 [T.c (C.lit (Value.int IntKind.u8 (iconv IntKind.u8 r_)))] = some (T.c (C.lit (Value.bool v1)), []) := w_lex_Ones_1 _ _ h2'
    simp [c0, h2]
    cases h
    rfl
theorem w_lex_run_1_figs (r_ : Int) (r : Bool) (h : lex_run_1_figs r_ = some r) : ev 35 [T.c (C.lit (Value.int IntKind.i32 r_)), T.c (C.fptr [C.lit (Go.Value.func (Go.Fn.func 30) #[] #[])] 0)] = some (T.c (C.lit (Value.bool r)), []) := by
  refine ev_run' (kp := k35) (us := [4]) fn35 rfl rfl rfl rfl rfl (by kernel_rfl) (by simp) ?_
  unfold lex_run_1_figs at h
  simp
  rcases iteB_cases h with ⟨c0, h⟩ | ⟨c0, h⟩
  · simp [c0]
    cases h
    rfl
  · simp [c0]
    obtain ⟨v1, h2', h⟩ := bind_some' h
    have h2 : ev 30 [T.c (C.lit (Value.int IntKind.u8 (iconv IntKind.u8 r_)))] = some (T.c (C.lit (Value.bool v1)), []) := w_lex_Number_1 _ _ h2'
    simp [c0, h2]
    cases h
    rfl
theorem w_unicode_utf8_decodeRuneInStringSlow (s : ByteArray) (r : Int × Int) (h : unicode_utf8_decodeRuneInStringSlow s = some r) : ev 33 [T.c (C.lit (Value.string s))] = some (T.tup [T.c (C.lit (Value.int IntKind.i32 r.1)), T.c (C.lit (Value.int IntKind.i64 r.2))], []) := by
  refine ev_run' (kp := k33) (us := [21, 3]) fn33 rfl rfl rfl rfl rfl (by kernel_rfl) (by simp) ?_
  unfold unicode_utf8_decodeRuneInStringSlow at h
  simp
  rcases iteB_cases h with ⟨c0, h⟩ | ⟨c0, h⟩
  · simp [c0]
    cases h
    rfl
  · simp [c0]
    obtain ⟨v1, h2, h⟩ := bind_some' h
    simp [c0, h2]
    rcases iteB_cases h with ⟨c3, h⟩ | ⟨c3, h⟩
    · simp [c0, h2, c3]
      obtain ⟨v4, h5, h⟩ := bind_some' h
      simp [c0, h2, c3, h5]
      rcases iteB_cases h with ⟨c6, h⟩ | ⟨c6, h⟩
      · simp [c0, h2, c3, h5, c6]
        rcases iteB_cases h with ⟨c7, h⟩ | ⟨c7, h⟩
        · simp [c0, h2, c3, h5, c6, c7]
          cases h
        · simp [c0, h2, c3, h5, c6, c7]
          cases h
          rfl
      · simp [c0, h2, c3, h5, c6]
        rcases iteB_cases h with ⟨c8, h⟩ | ⟨c8, h⟩
        · simp [c0, h2, c3, h5, c6, c8]
          cases h
        · simp [c0, h2, c3, h5, c6, c8]
          rcases iteB_cases h with ⟨c9, h⟩ | ⟨c9, h⟩
          · simp [c0, h2, c3, h5, c6, c8, c9]
            obtain ⟨v10, h11, h⟩ := bind_some' h
            simp [c0, h2, c3, h5, c6, c8, c9, h11]
            rcases iteB_cases h with ⟨c12, h⟩ | ⟨c12, h⟩
            · simp [c0, h2, c3, h5, c6, c8, c9, h11, c12]
              cases h
              rfl
            · simp [c0, h2, c3, h5, c6, c8, c9, h11, c12]
              obtain ⟨v13, h14, h⟩ := bind_some' h
              simp [c0, h2, c3, h5, c6, c8, c9, h11, c12, h14]
              rcases iteB_cases h with ⟨c15, h⟩ | ⟨c15, h⟩
              · simp [c0, h2, c3, h5, c6, c8, c9, h11, c12, h14, c15]
                cases h
                rfl
              · simp [c0, h2, c3, h5, c6, c8, c9, h11, c12, h14, c15]
                rcases iteB_cases h with ⟨c16, h⟩ | ⟨c16, h⟩
                · simp [c0, h2, c3, h5, c6, c8, c9, h11, c12, h14, c15, c16]
                  cases h
                  rfl
                · simp [c0, h2, c3, h5, c6, c8, c9, h11, c12, h14, c15, c16]
                  rcases iteB_cases h with ⟨c17, h⟩ | ⟨c17, h⟩
                  · simp [c0, h2, c3, h5, c6, c8, c9, h11, c12, h14, c15, c16, c17]
                    rcases iteB_cases h with ⟨c18, h⟩ | ⟨c18, h⟩
                    · simp [c0, h2, c3, h5, c6, c8, c9, h11, c12, h14, c15, c16, c17, c18]
                      cases h
                    · simp [c0, h2, c3, h5, c6, c8, c9, h11, c12, h14, c15, c16, c17, c18]
                      cases h
                      rfl
                  · simp [c0, h2, c3, h5, c6, c8, c9, h11, c12, h14, c15, c16, c17]
                    obtain ⟨v19, h20, h⟩ := bind_some' h
                    simp [c0, h2, c3, h5, c6, c8, c9, h11, c12, h14, c15, c16, c17, h20]
                    rcases iteB_cases h with ⟨c21, h⟩ | ⟨c21, h⟩
                    · simp [c0, h2, c3, h5, c6, c8, c9, h11, c12, h14, c15, c16, c17, h20, c21]
                      cases h
                      rfl
                    · simp [c0, h2, c3, h5, c6, c8, c9, h11, c12, h14, c15, c16, c17, h20, c21]
                      rcases iteB_cases h with ⟨c22, h⟩ | ⟨c22, h⟩
                      · simp [c0, h2, c3, h5, c6, c8, c9, h11, c12, h14, c15, c16, c17, h20, c21, c22]
                        cases h
                        rfl
                      · simp [c0, h2, c3, h5, c6, c8, c9, h11, c12, h14, c15, c16, c17, h20, c21, c22]
                        rcases iteB_cases h with ⟨c23, h⟩ | ⟨c23, h⟩
                        · simp [c0, h2, c3, h5, c6, c8, c9, h11, c12, h14, c15, c16, c17, h20, c21, c22, c23]
                          rcases iteB_cases h with ⟨c24, h⟩ | ⟨c24, h⟩
                          · simp [c0, h2, c3, h5, c6, c8, c9, h11, c12, h14, c15, c16, c17, h20, c21, c22, c23, c24]
                            cases h
                          · simp [c0, h2, c3, h5, c6, c8, c9, h11, c12, h14, c15, c16, c17, h20, c21, c22, c23, c24]
                            rcases iteB_cases h with ⟨c25, h⟩ | ⟨c25, h⟩
                            · simp [c0, h2, c3, h5, c6, c8, c9, h11, c12, h14, c15, c16, c17, h20, c21, c22, c23, c24, c25]
                              cases h
                            · simp [c0, h2, c3, h5, c6, c8, c9, h11, c12, h14, c15, c16, c17, h20, c21, c22, c23, c24, c25]
                              cases h
                              rfl
                        · simp [c0, h2, c3, h5, c6, c8, c9, h11, c12, h14, c15, c16, c17, h20, c21, c22, c23]
                          obtain ⟨v26, h27, h⟩ := bind_some' h
                          simp [c0, h2, c3, h5, c6, c8, c9, h11, c12, h14, c15, c16, c17, h20, c21, c22, c23, h27]
                          rcases iteB_cases h with ⟨c28, h⟩ | ⟨c28, h⟩
                          · simp [c0, h2, c3, h5, c6, c8, c9, h11, c12, h14, c15, c16, c17, h20, c21, c22, c23, h27, c28]
                            cases h
                            rfl
                          · simp [c0, h2, c3, h5, c6, c8, c9, h11, c12, h14, c15, c16, c17, h20, c21, c22, c23, h27, c28]
                            rcases iteB_cases h with ⟨c29, h⟩ | ⟨c29, h⟩
                            · simp [c0, h2, c3, h5, c6, c8, c9, h11, c12, h14, c15, c16, c17, h20, c21, c22, c23, h27, c28, c29]
                              cases h
                              rfl
                            · simp [c0, h2, c3, h5, c6, c8, c9, h11, c12, h14, c15, c16, c17, h20, c21, c22, c23, h27, c28, c29]
                              rcases iteB_cases h with ⟨c30, h⟩ | ⟨c30, h⟩
                              · simp [c0, h2, c3, h5, c6, c8, c9, h11, c12, h14, c15, c16, c17, h20, c21, c22, c23, h27, c28, c29, c30]
                                cases h
                              · simp [c0, h2, c3, h5, c6, c8, c9, h11, c12, h14, c15, c16, c17, h20, c21, c22, c23, h27, c28, c29, c30]
                                rcases iteB_cases h with ⟨c31, h⟩ | ⟨c31, h⟩
                                · simp [c0, h2, c3, h5, c6, c8, c9, h11, c12, h14, c15, c16, c17, h20, c21, c22, c23, h27, c28, c29, c30, c31]
                                  cases h
                                · simp [c0, h2, c3, h5, c6, c8, c9, h11, c12, h14, c15, c16, c17, h20, c21, c22, c23, h27, c28, c29, c30, c31]
                                  rcases iteB_cases h with ⟨c32, h⟩ | ⟨c32, h⟩
                                  · simp [c0, h2, c3, h5, c6, c8, c9, h11, c12, h14, c15, c16, c17, h20, c21, c22, c23, h27, c28, c29, c30, c31, c32]
                                    cases h
                                  · simp [c0, h2, c3, h5, c6, c8, c9, h11, c12, h14, c15, c16, c17, h20, c21, c22, c23, h27, c28, c29, c30, c31, c32]
                                    cases h
                                    rfl
          · simp [c0, h2, c3, h5, c6, c8, c9]
            cases h
    · simp [c0, h2, c3]
      cases h
theorem w_unicode_utf8_decodeRuneSlow (p_ : List Int) (r : Int × Int) (h : unicode_utf8_decodeRuneSlow p_ = some r) : ev 46 [T.c (sls 1 byteF p_)] = some (T.tup [T.c (C.lit (Value.int IntKind.i32 r.1)), T.c (C.lit (Value.int IntKind.i64 r.2))], []) := by
  refine ev_run' (kp := k46) (us := [21, 3]) fn46 rfl rfl rfl rfl rfl (by kernel_rfl) (by simp) ?_
  unfold unicode_utf8_decodeRuneSlow at h
  simp
  rcases iteB_cases h with ⟨c0, h⟩ | ⟨c0, h⟩
  · simp [c0]
    cases h
    rfl
  · simp [c0]
    obtain ⟨v1, h2, h⟩ := bind_some' h
    simp [c0, h2]
    rcases iteB_cases h with ⟨c3, h⟩ | ⟨c3, h⟩
    · simp [c0, h2, c3]
      obtain ⟨v4, h5, h⟩ := bind_some' h
      simp [c0, h2, c3, h5]
      rcases iteB_cases h with ⟨c6, h⟩ | ⟨c6, h⟩
      · simp [c0, h2, c3, h5, c6]
        rcases iteB_cases h with ⟨c7, h⟩ | ⟨c7, h⟩
        · simp [c0, h2, c3, h5, c6, c7]
          cases h
        · simp [c0, h2, c3, h5, c6, c7]
          cases h
          rfl
      · simp [c0, h2, c3, h5, c6]
        rcases iteB_cases h with ⟨c8, h⟩ | ⟨c8, h⟩
        · simp [c0, h2, c3, h5, c6, c8]
          cases h
        · simp [c0, h2, c3, h5, c6, c8]
          rcases iteB_cases h with ⟨c9, h⟩ | ⟨c9, h⟩
          · simp [c0, h2, c3, h5, c6, c8, c9]
            obtain ⟨v10, h11, h⟩ := bind_some' h
            simp [c0, h2, c3, h5, c6, c8, c9, h11]
            rcases iteB_cases h with ⟨c12, h⟩ | ⟨c12, h⟩
            · simp [c0, h2, c3, h5, c6, c8, c9, h11, c12]
              cases h
              rfl
            · simp [c0, h2, c3, h5, c6, c8, c9, h11, c12]
              obtain ⟨v13, h14, h⟩ := bind_some' h
              simp [c0, h2, c3, h5, c6, c8, c9, h11, c12, h14]
              rcases iteB_cases h with ⟨c15, h⟩ | ⟨c15, h⟩
              · simp [c0, h2, c3, h5, c6, c8, c9, h11, c12, h14, c15]
                cases h
                rfl
              · simp [c0, h2, c3, h5, c6, c8, c9, h11, c12, h14, c15]
                rcases iteB_cases h with ⟨c16, h⟩ | ⟨c16, h⟩
                · simp [c0, h2, c3, h5, c6, c8, c9, h11, c12, h14, c15, c16]
                  cases h
                  rfl
                · simp [c0, h2, c3, h5, c6, c8, c9, h11, c12, h14, c15, c16]
                  rcases iteB_cases h with ⟨c17, h⟩ | ⟨c17, h⟩
                  · simp [c0, h2, c3, h5, c6, c8, c9, h11, c12, h14, c15, c16, c17]
                    rcases iteB_cases h with ⟨c18, h⟩ | ⟨c18, h⟩
                    · simp [c0, h2, c3, h5, c6, c8, c9, h11, c12, h14, c15, c16, c17, c18]
                      cases h
                    · simp [c0, h2, c3, h5, c6, c8, c9, h11, c12, h14, c15, c16, c17, c18]
                      cases h
                      rfl
                  · simp [c0, h2, c3, h5, c6, c8, c9, h11, c12, h14, c15, c16, c17]
                    obtain ⟨v19, h20, h⟩ := bind_some' h
                    simp [c0, h2, c3, h5, c6, c8, c9, h11, c12, h14, c15, c16, c17, h20]
                    rcases iteB_cases h with ⟨c21, h⟩ | ⟨c21, h⟩
                    · simp [c0, h2, c3, h5, c6, c8, c9, h11, c12, h14, c15, c16, c17, h20, c21]
                      cases h
                      rfl
                    · simp [c0, h2, c3, h5, c6, c8, c9, h11, c12, h14, c15, c16, c17, h20, c21]
                      rcases iteB_cases h with ⟨c22, h⟩ | ⟨c22, h⟩
                      · simp [c0, h2, c3, h5, c6, c8, c9, h11, c12, h14, c15, c16, c17, h20, c21, c22]
                        cases h
                        rfl
                      · simp [c0, h2, c3, h5, c6, c8, c9, h11, c12, h14, c15, c16, c17, h20, c21, c22]
                        rcases iteB_cases h with ⟨c23, h⟩ | ⟨c23, h⟩
                        · simp [c0, h2, c3, h5, c6, c8, c9, h11, c12, h14, c15, c16, c17, h20, c21, c22, c23]
                          rcases iteB_cases h with ⟨c24, h⟩ | ⟨c24, h⟩
                          · simp [c0, h2, c3, h5, c6, c8, c9, h11, c12, h14, c15, c16, c17, h20, c21, c22, c23, c24]
                            cases h
                          · simp [c0, h2, c3, h5, c6, c8, c9, h11, c12, h14, c15, c16, c17, h20, c21, c22, c23, c24]
                            rcases iteB_cases h with ⟨c25, h⟩ | ⟨c25, h⟩
                            · simp [c0, h2, c3, h5, c6, c8, c9, h11, c12, h14, c15, c16, c17, h20, c21, c22, c23, c24, c25]
                              cases h
                            · simp [c0, h2, c3, h5, c6, c8, c9, h11, c12, h14, c15, c16, c17, h20, c21, c22, c23, c24, c25]
                              cases h
                              rfl
                        · simp [c0, h2, c3, h5, c6, c8, c9, h11, c12, h14, c15, c16, c17, h20, c21, c22, c23]
                          obtain ⟨v26, h27, h⟩ := bind_some' h
                          simp [c0, h2, c3, h5, c6, c8, c9, h11, c12, h14, c15, c16, c17, h20, c21, c22, c23, h27]
                          rcases iteB_cases h with ⟨c28, h⟩ | ⟨c28, h⟩
                          · simp [c0, h2, c3, h5, c6, c8, c9, h11, c12, h14, c15, c16, c17, h20, c21, c22, c23, h27, c28]
                            cases h
                            rfl
                          · simp [c0, h2, c3, h5, c6, c8, c9, h11, c12, h14, c15, c16, c17, h20, c21, c22, c23, h27, c28]
                            rcases iteB_cases h with ⟨c29, h⟩ | ⟨c29, h⟩
                            · simp [c0, h2, c3, h5, c6, c8, c9, h11, c12, h14, c15, c16, c17, h20, c21, c22, c23, h27, c28, c29]
                              cases h
                              rfl
                            · simp [c0, h2, c3, h5, c6, c8, c9, h11, c12, h14, c15, c16, c17, h20, c21, c22, c23, h27, c28, c29]
                              rcases iteB_cases h with ⟨c30, h⟩ | ⟨c30, h⟩
                              · simp [c0, h2, c3, h5, c6, c8, c9, h11, c12, h14, c15, c16, c17, h20, c21, c22, c23, h27, c28, c29, c30]
                                cases h
                              · simp [c0, h2, c3, h5, c6, c8, c9, h11, c12, h14, c15, c16, c17, h20, c21, c22, c23, h27, c28, c29, c30]
                                rcases iteB_cases h with ⟨c31, h⟩ | ⟨c31, h⟩
                                · simp [c0, h2, c3, h5, c6, c8, c9, h11, c12, h14, c15, c16, c17, h20, c21, c22, c23, h27, c28, c29, c30, c31]
                                  cases h
                                · simp [c0, h2, c3, h5, c6, c8, c9, h11, c12, h14, c15, c16, c17, h20, c21, c22, c23, h27, c28, c29, c30, c31]
                                  rcases iteB_cases h with ⟨c32, h⟩ | ⟨c32, h⟩
                                  · simp [c0, h2, c3, h5, c6, c8, c9, h11, c12, h14, c15, c16, c17, h20, c21, c22, c23, h27, c28, c29, c30, c31, c32]
                                    cases h
                                  · simp [c0, h2, c3, h5, c6, c8, c9, h11, c12, h14, c15, c16, c17, h20, c21, c22, c23, h27, c28, c29, c30, c31, c32]
                                    cases h
                                    rfl
          · simp [c0, h2, c3, h5, c6, c8, c9]
            cases h
    · simp [c0, h2, c3]
      cases h
theorem w_unicode_utf8_DecodeRuneInString (s : ByteArray) (r : Int × Int) (h : unicode_utf8_DecodeRuneInString s = some r) : ev 26 [T.c (C.lit (Value.string s))] = some (T.tup [T.c (C.lit (Value.int IntKind.i32 r.1)), T.c (C.lit (Value.int IntKind.i64 r.2))], []) := by
  refine ev_run' (kp := k26) (us := [21, 3]) fn26 rfl rfl rfl rfl rfl (by kernel_rfl) (by simp) ?_
  unfold unicode_utf8_DecodeRuneInString at h
  simp
  rcases iteB_cases h with ⟨c0, h⟩ | ⟨c0, h⟩
  · simp [c0]
    obtain ⟨⟨v1, v2⟩, h3', h⟩ := bind_some' h
    have h3 : ev 33 [T.c (C.lit (Value.string s))] = some (T.tup [T.c (C.lit (Value.int IntKind.i32 v1)), T.c (C.lit (Value.int IntKind.i64 v2))], []) := w_unicode_utf8_decodeRuneInStringSlow _ _ h3'
    simp [c0, h3]
    cases h
    rfl
  · simp [c0]
    obtain ⟨v4, h5, h⟩ := bind_some' h
    simp [c0, h5]
    rcases iteB_cases h with ⟨c6, h⟩ | ⟨c6, h⟩
    · simp [c0, h5, c6]
      cases h
      rfl
    · simp [c0, h5, c6]
      obtain ⟨⟨v7, v8⟩, h9', h⟩ := bind_some' h
      have h9 : ev 33 [T.c (C.lit (Value.string s))] = some (T.tup [T.c (C.lit (Value.int IntKind.i32 v7)), T.c (C.lit (Value.int IntKind.i64 v8))], []) := w_unicode_utf8_decodeRuneInStringSlow _ _ h9'
      simp [c0, h5, c6, h9]
      cases h
      rfl
theorem w_unicode_utf8_DecodeRune (p_ : List Int) (r : Int × Int) (h : unicode_utf8_DecodeRune p_ = some r) : ev 43 [T.c (sls 1 byteF p_)] = some (T.tup [T.c (C.lit (Value.int IntKind.i32 r.1)), T.c (C.lit (Value.int IntKind.i64 r.2))], []) := by
  refine ev_run' (kp := k43) (us := [21, 3]) fn43 rfl rfl rfl rfl rfl (by kernel_rfl) (by simp) ?_
  unfold unicode_utf8_DecodeRune at h
  simp
  obtain ⟨w21, h20, h⟩ := bind_some' h
  rw [evLoop_loopF (ι := Unit) (ρ := Int ⊕ Unit) (fun p => match p with | () => mk 22 [(0, T.c (sls 1 byteF p_)), (6, T.c (sls 1 byteF p_)), (7, T.c (C.lit (Value.int IntKind.i64 (lenI p_)))), (8, T.c (C.lit (Value.int IntKind.i64 0)))] [] []) (fun r => match r with | .inl y16 => (Ex.ret, mk 22 [(2, T.c (C.lit (Value.int IntKind.i32 y16))), (3, T.c (C.lit (Value.int IntKind.i64 1)))] [] []) | .inr () => (Ex.exit 0, mk 22 [(0, T.c (sls 1 byteF p_))] [] [])) (unicode_utf8_DecodeRune_B0 p_) h20 ?_ _ ?_]
  · rcases w21 with y16 | ⟨⟩
    · simp
      cases h
      rfl
    · simp
      obtain ⟨⟨v17, v18⟩, h19', h⟩ := bind_some' h
      have h19 : ev 46 [T.c (sls 1 byteF p_)] = some (T.tup [T.c (C.lit (Value.int IntKind.i32 v17)), T.c (C.lit (Value.int IntKind.i64 v18))], []) := w_unicode_utf8_decodeRuneSlow _ _ h19'
      simp [h19]
      cases h
      rfl
  · clear h20 h
    rintro ⟨⟩ y L res h hL hR
    unfold unicode_utf8_DecodeRune_B0 at h
    simp
    rcases iteB_cases h with ⟨c12, h⟩ | ⟨c12, h⟩
    · simp [c12]
      obtain ⟨v13, h14, h⟩ := bind_some' h
      simp [c12, h14]
      rcases iteB_cases h with ⟨c15, h⟩ | ⟨c15, h⟩
      · simp [c12, h14, c15]
        cases h
        exact hR _ rfl
      · simp [c12, h14, c15]
        cases h
        exact hR _ rfl
    · simp [c12]
      cases h
      exact hR _ rfl
  · simp [headOf]
theorem w_bytes_indexFunc_ones (s : List Int) (r : Int) (h : bytes_indexFunc_ones s = some r) : ev 38 [T.c (sls 1 byteF s), T.c (C.fn 35 [C.fptr [C.lit (Go.Value.func (Go.Fn.func 29) #[] #[])] 0]), T.c (C.lit (Go.Value.bool true))] = some (T.c (C.lit (Value.int IntKind.i64 r)), []) := by
  refine ev_run' (kp := k38) (us := [3]) fn38 rfl rfl rfl rfl rfl (by kernel_rfl) (by simp) ?_
  unfold bytes_indexFunc_ones at h
  simp
  obtain ⟨w31, h30, h⟩ := bind_some' h
  rw [evLoop_loopF (ι := Int) (ρ := Int ⊕ Unit) (fun p => match p with | x20 => mk 30 [(0, T.c (sls 1 byteF s)), (1, T.c (C.fn 35 [C.fptr [C.lit (Value.func (Fn.func 29) #[] #[])] 0])), (2, T.c (C.lit (Value.bool true))), (7, T.c (C.lit (Value.int IntKind.i64 x20)))] [] []) (fun r => match r with | .inl y29 => (Ex.ret, mk 30 [(6, T.c (C.lit (Value.int IntKind.i64 y29)))] [] []) | .inr () => (Ex.exit 0, mk 30 [] [] [])) (bytes_indexFunc_ones_B0 s) h30 ?_ _ ?_]
  · rcases w31 with y29 | ⟨⟩
    · simp
      cases h
      rfl
    · simp
      cases h
      rfl
  · clear h30 h
    rintro x20 y L res h hL hR
    unfold bytes_indexFunc_ones_B0 at h
    simp
    rcases iteB_cases h with ⟨c21, h⟩ | ⟨c21, h⟩
    · simp [c21]
      rcases iteB_cases h with ⟨c22, h⟩ | ⟨c22, h⟩
      · simp [c21, c22]
        obtain ⟨⟨v23, v24⟩, h25', h⟩ := bind_some' h
        have h25 : ev 43 [T.c (sls 1 byteF (cut s x20 (lenI s)))] = some (T.tup [T.c (C.lit (Value.int IntKind.i32 v23)), T.c (C.lit (Value.int IntKind.i64 v24))], []) := w_unicode_utf8_DecodeRune _ _ h25'
        simp [c21, c22, h25]
        obtain ⟨v26, h27', h⟩ := bind_some' h
        have h27 : ev 35 [T.c (C.lit (Value.int IntKind.i32 v23)), T.c (C.fptr [C.lit (Value.func (Fn.func 29) #[] #[])] 0)] = some (T.c (C.lit (Value.bool v26)), []) := w_lex_run_1_ones _ _ h27'
        simp [c21, c22, h25, h27]
        rcases iteB_cases h with ⟨c28, h⟩ | ⟨c28, h⟩
        · simp [c21, c22, h25, h27, c28]
          cases h
          exact hR _ rfl
        · simp [c21, c22, h25, h27, c28]
          cases h
          exact hL _ _ rfl (by simp [headOf])
      · simp [c21, c22]
        cases h
    · simp [c21]
      cases h
      exact hR _ rfl
  · simp [headOf]
theorem w_bytes_indexFunc_figs (s : List Int) (r : Int) (h : bytes_indexFunc_figs s = some r) : ev 38 [T.c (sls 1 byteF s), T.c (C.fn 35 [C.fptr [C.lit (Go.Value.func (Go.Fn.func 30) #[] #[])] 0]), T.c (C.lit (Go.Value.bool true))] = some (T.c (C.lit (Value.int IntKind.i64 r)), []) := by
  refine ev_run' (kp := k38) (us := [3]) fn38 rfl rfl rfl rfl rfl (by kernel_rfl) (by simp) ?_
  unfold bytes_indexFunc_figs at h
  simp
  obtain ⟨w31, h30, h⟩ := bind_some' h
  rw [evLoop_loopF (ι := Int) (ρ := Int ⊕ Unit) (fun p => match p with | x20 => mk 30 [(0, T.c (sls 1 byteF s)), (1, T.c (C.fn 35 [C.fptr [C.lit (Value.func (Fn.func 30) #[] #[])] 0])), (2, T.c (C.lit (Value.bool true))), (7, T.c (C.lit (Value.int IntKind.i64 x20)))] [] []) (fun r => match r with | .inl y29 => (Ex.ret, mk 30 [(6, T.c (C.lit (Value.int IntKind.i64 y29)))] [] []) | .inr () => (Ex.exit 0, mk 30 [] [] [])) (bytes_indexFunc_figs_B0 s) h30 ?_ _ ?_]
  · rcases w31 with y29 | ⟨⟩
    · simp
      cases h
      rfl
    · simp
      cases h
      rfl
  · clear h30 h
    rintro x20 y L res h hL hR
    unfold bytes_indexFunc_figs_B0 at h
    simp
    rcases iteB_cases h with ⟨c21, h⟩ | ⟨c21, h⟩
    · simp [c21]
      rcases iteB_cases h with ⟨c22, h⟩ | ⟨c22, h⟩
      · simp [c21, c22]
        obtain ⟨⟨v23, v24⟩, h25', h⟩ := bind_some' h
        have h25 : ev 43 [T.c (sls 1 byteF (cut s x20 (lenI s)))] = some (T.tup [T.c (C.lit (Value.int IntKind.i32 v23)), T.c (C.lit (Value.int IntKind.i64 v24))], []) := w_unicode_utf8_DecodeRune _ _ h25'
        simp [c21, c22, h25]
        obtain ⟨v26, h27', h⟩ := bind_some' h
        have h27 : ev 35 [T.c (C.lit (Value.int IntKind.i32 v23)), T.c (C.fptr [C.lit (Value.func (Fn.func 30) #[] #[])] 0)] = some (T.c (C.lit (Value.bool v26)), []) := w_lex_run_1_figs _ _ h27'
        simp [c21, c22, h25, h27]
        rcases iteB_cases h with ⟨c28, h⟩ | ⟨c28, h⟩
        · simp [c21, c22, h25, h27, c28]
          cases h
          exact hR _ rfl
        · simp [c21, c22, h25, h27, c28]
          cases h
          exact hL _ _ rfl (by simp [headOf])
      · simp [c21, c22]
        cases h
    · simp [c21]
      cases h
      exact hR _ rfl
  · simp [headOf]
theorem w_bytes_IndexFunc_ones (s : List Int) (r : Int) (h : bytes_IndexFunc_ones s = some r) : ev 34 [T.c (sls 1 byteF s), T.c (C.fn 35 [C.fptr [C.lit (Go.Value.func (Go.Fn.func 29) #[] #[])] 0])] = some (T.c (C.lit (Value.int IntKind.i64 r)), []) := by
  refine ev_run' (kp := k34) (us := [3]) fn34 rfl rfl rfl rfl rfl (by kernel_rfl) (by simp) ?_
  unfold bytes_IndexFunc_ones at h
  simp
  obtain ⟨v0, h1', h⟩ := bind_some' h
  have h1 : ev 38 [T.c (sls 1 byteF s), T.c (C.fn 35 [C.fptr [C.lit (Value.func (Fn.func 29) #[] #[])] 0]), T.c (C.lit (Value.bool true))] = some (T.c (C.lit (Value.int IntKind.i64 v0)), []) := w_bytes_indexFunc_ones _ _ h1'
  simp [h1]
  cases h
  rfl
theorem w_bytes_IndexFunc_figs (s : List Int) (r : Int) (h : bytes_IndexFunc_figs s = some r) : ev 34 [T.c (sls 1 byteF s), T.c (C.fn 35 [C.fptr [C.lit (Go.Value.func (Go.Fn.func 30) #[] #[])] 0])] = some (T.c (C.lit (Value.int IntKind.i64 r)), []) := by
  refine ev_run' (kp := k34) (us := [3]) fn34 rfl rfl rfl rfl rfl (by kernel_rfl) (by simp) ?_
  unfold bytes_IndexFunc_figs at h
  simp
  obtain ⟨v0, h1', h⟩ := bind_some' h
  have h1 : ev 38 [T.c (sls 1 byteF s), T.c (C.fn 35 [C.fptr [C.lit (Value.func (Fn.func 30) #[] #[])] 0]), T.c (C.lit (Value.bool true))] = some (T.c (C.lit (Value.int IntKind.i64 v0)), []) := w_bytes_indexFunc_figs _ _ h1'
  simp [h1]
  cases h
  rfl
theorem w_lex_run_ones (b : List Int) (at_ : Int) (r : Int) (h : lex_run_ones b at_ = some r) : ev 28 [T.c (sls 1 byteF b), T.c (C.lit (Value.int IntKind.i64 at_)), T.c (C.lit (Go.Value.func (Go.Fn.func 29) #[] #[]))] = some (T.c (C.lit (Value.int IntKind.i64 r)), []) := by
  refine ev_run' (kp := k28) (us := [3]) fn28 rfl rfl rfl rfl rfl (by kernel_rfl) (by simp) ?_
  unfold lex_run_ones at h
  simp
  rcases iteB_cases h with ⟨c0, h⟩ | ⟨c0, h⟩
  · simp [c0]
    obtain ⟨v1, h2', h⟩ := bind_some' h
    have h2 : ev 34 [T.c (sls 1 byteF (cut b at_ (lenI b))), T.c (C.fn 35 [C.fptr [C.lit (Value.func (Fn.func 29) #[] #[])] 0])] = some (T.c (C.lit (Value.int IntKind.i64 v1)), []) := w_bytes_IndexFunc_ones _ _ h2'
    simp [c0, h2]
    rcases iteB_cases h with ⟨c3, h⟩ | ⟨c3, h⟩
    · simp [c0, h2, c3]
      cases h
      rfl
    · simp [c0, h2, c3]
      cases h
      rfl
  · simp [c0]
    cases h
theorem w_lex_run_figs (b : List Int) (at_ : Int) (r : Int) (h : lex_run_figs b at_ = some r) : ev 28 [T.c (sls 1 byteF b), T.c (C.lit (Value.int IntKind.i64 at_)), T.c (C.lit (Go.Value.func (Go.Fn.func 30) #[] #[]))] = some (T.c (C.lit (Value.int IntKind.i64 r)), []) := by
  refine ev_run' (kp := k28) (us := [3]) fn28 rfl rfl rfl rfl rfl (by kernel_rfl) (by simp) ?_
  unfold lex_run_figs at h
  simp
  rcases iteB_cases h with ⟨c0, h⟩ | ⟨c0, h⟩
  · simp [c0]
    obtain ⟨v1, h2', h⟩ := bind_some' h
    have h2 : ev 34 [T.c (sls 1 byteF (cut b at_ (lenI b))), T.c (C.fn 35 [C.fptr [C.lit (Value.func (Fn.func 30) #[] #[])] 0])] = some (T.c (C.lit (Value.int IntKind.i64 v1)), []) := w_bytes_IndexFunc_figs _ _ h2'
    simp [c0, h2]
    rcases iteB_cases h with ⟨c3, h⟩ | ⟨c3, h⟩
    · simp [c0, h2, c3]
      cases h
      rfl
    · simp [c0, h2, c3]
      cases h
      rfl
  · simp [c0]
    cases h
theorem w_internal_stringslite_HasPrefix (s : ByteArray) (prefix_ : ByteArray) (r : Bool) (h : internal_stringslite_HasPrefix s prefix_ = some r) : ev 36 [T.c (C.lit (Value.string s)), T.c (C.lit (Value.string prefix_))] = some (T.c (C.lit (Value.bool r)), []) := by
  refine ev_run' (kp := k36) (us := [4]) fn36 rfl rfl rfl rfl rfl (by kernel_rfl) (by simp) ?_
  unfold internal_stringslite_HasPrefix at h
  simp
  rcases iteB_cases h with ⟨c0, h⟩ | ⟨c0, h⟩
  · simp [c0]
    rcases iteB_cases h with ⟨c1, h⟩ | ⟨c1, h⟩
    · simp [c0, c1]
      cases h
      rfl
    · simp [c0, c1]
      cases h
  · simp [c0]
    cases h
    rfl
theorem w_strings_HasPrefix (s : ByteArray) (prefix_ : ByteArray) (r : Bool) (h : strings_HasPrefix s prefix_ = some r) : ev 31 [T.c (C.lit (Value.string s)), T.c (C.lit (Value.string prefix_))] = some (T.c (C.lit (Value.bool r)), []) := by
  refine ev_run' (kp := k31) (us := [4]) fn31 rfl rfl rfl rfl rfl (by kernel_rfl) (by simp) ?_
  unfold strings_HasPrefix at h
  simp
  obtain ⟨v0, h1', h⟩ := bind_some' h
  have h1 : ev 36 [T.c (C.lit (Value.string s)), T.c (C.lit (Value.string prefix_))] = some (T.c (C.lit (Value.bool v0)), []) := w_internal_stringslite_HasPrefix _ _ _ h1'
  simp [h1]
  cases h
  rfl
theorem w_lex_Is (b : List Int) (at_ : Int) (s : ByteArray) (r : Int × Bool) (h : lex_Is b at_ s = some r) : ev 23 [T.c (sls 1 byteF b), T.c (C.lit (Value.int IntKind.i64 at_)), T.c (C.lit (Value.string s))] = some (T.tup [T.c (C.lit (Value.int IntKind.i64 r.1)), T.c (C.lit (Value.bool r.2))], []) := by
  refine ev_run' (kp := k23) (us := [3, 4]) fn23 rfl rfl rfl rfl rfl (by kernel_rfl) (by simp) ?_
  unfold lex_Is at h
  simp
  obtain ⟨v0, h1', h⟩ := bind_some' h
  have h1 : ev 24 [T.c (sls 1 byteF b), T.c (C.lit (Value.int IntKind.i64 at_))] = some (T.c (C.lit (Value.bool v0)), []) := w_lex_isPlace _ _ _ h1'
  simp [h1]
  rcases iteB_cases h with ⟨c2, h⟩ | ⟨c2, h⟩
  · simp [h1, c2]
    rcases iteB_cases h with ⟨c3, h⟩ | ⟨c3, h⟩
    · simp [h1, c2, c3]
      obtain ⟨v4, h5', h⟩ := bind_some' h
      have h5 : ev 31 [T.c (C.lit (Value.string (strOf (cut b at_ (lenI b))))), T.c (C.lit (Value.string s))] = some (T.c (C.lit (Value.bool v4)), []) := w_strings_HasPrefix _ _ _ h5'
      simp [h1, c2, c3, h5]
      rcases iteB_cases h with ⟨c6, h⟩ | ⟨c6, h⟩
      · simp [h1, c2, c3, h5, c6]
        cases h
        rfl
      · simp [h1, c2, c3, h5, c6]
        cases h
        rfl
    · simp [h1, c2, c3]
      cases h
  · simp [h1, c2]
    cases h
    rfl
theorem w_internal_stringslite_IndexByte (s : ByteArray) (c : Int) (r : Int) (h : internal_stringslite_IndexByte s c = some r) : ev 39 [T.c (C.lit (Value.string s)), T.c (C.lit (Value.int IntKind.u8 c))] = some (T.c (C.lit (Value.int IntKind.i64 r)), []) := by
  refine ev_run' (kp := k39) (us := [3]) fn39 rfl rfl rfl rfl rfl (by kernel_rfl) (by simp) ?_
  unfold internal_stringslite_IndexByte at h
  simp
  cases h
  rfl
theorem w_internal_stringslite_Index_nl (s : ByteArray) (r : Int) (h : internal_stringslite_Index_nl s = some r) : ev 37 [T.c (C.lit (Value.string s)), T.c (C.lit (Go.Value.string { data := #[10] }))] = some (T.c (C.lit (Value.int IntKind.i64 r)), []) := by
  refine ev_run' (kp := k37) (us := [3]) fn37 rfl rfl rfl rfl rfl (by kernel_rfl) (by simp) ?_
  unfold internal_stringslite_Index_nl at h
  simp
  rcases iteB_cases h with ⟨c0, h⟩ | ⟨c0, h⟩
  · simp [c0]
    cases h
    rfl
  · simp [c0]
    obtain ⟨v1, h2, h⟩ := bind_some' h
    simp [c0, h2]
    obtain ⟨v3, h4', h⟩ := bind_some' h
    have h4 : ev 39 [T.c (C.lit (Value.string s)), T.c (C.lit (Value.int IntKind.u8 v1))] = some (T.c (C.lit (Value.int IntKind.i64 v3)), []) := w_internal_stringslite_IndexByte _ _ _ h4'
    simp [c0, h2, h4]
    cases h
    rfl
theorem w_internal_stringslite_Cut_nl (s : ByteArray) (r : ByteArray × ByteArray × Bool) (h : internal_stringslite_Cut_nl s = some r) : ev 32 [T.c (C.lit (Value.string s)), T.c (C.lit (Go.Value.string { data := #[10] }))] = some (T.tup [T.c (C.lit (Value.string r.1)), T.c (C.lit (Value.string r.2.1)), T.c (C.lit (Value.bool r.2.2))], []) := by
  refine ev_run' (kp := k32) (us := [9, 9, 4]) fn32 rfl rfl rfl rfl rfl (by kernel_rfl) (by simp) ?_
  unfold internal_stringslite_Cut_nl at h
  simp
  obtain ⟨v0, h1', h⟩ := bind_some' h
  have h1 : ev 37 [T.c (C.lit (Value.string s)), T.c (C.lit (Value.string { data := #[10] }))] = some (T.c (C.lit (Value.int IntKind.i64 v0)), []) := w_internal_stringslite_Index_nl _ _ h1'
  simp [h1]
  rcases iteB_cases h with ⟨c2, h⟩ | ⟨c2, h⟩
  · simp [h1, c2]
    rcases iteB_cases h with ⟨c3, h⟩ | ⟨c3, h⟩
    · simp [h1, c2, c3]
      rcases iteB_cases h with ⟨c4, h⟩ | ⟨c4, h⟩
      · simp [h1, c2, c3, c4]
        cases h
        rfl
      · simp [h1, c2, c3, c4]
        cases h
    · simp [h1, c2, c3]
      cases h
  · simp [h1, c2]
    cases h
    rfl
theorem w_strings_Cut_nl (s : ByteArray) (r : ByteArray × ByteArray × Bool) (h : strings_Cut_nl s = some r) : ev 25 [T.c (C.lit (Value.string s)), T.c (C.lit (Go.Value.string { data := #[10] }))] = some (T.tup [T.c (C.lit (Value.string r.1)), T.c (C.lit (Value.string r.2.1)), T.c (C.lit (Value.bool r.2.2))], []) := by
  refine ev_run' (kp := k25) (us := [9, 9, 4]) fn25 rfl rfl rfl rfl rfl (by kernel_rfl) (by simp) ?_
  unfold strings_Cut_nl at h
  simp
  obtain ⟨⟨v0, v1, v2⟩, h3', h⟩ := bind_some' h
  have h3 : ev 32 [T.c (C.lit (Value.string s)), T.c (C.lit (Value.string { data := #[10] }))] = some (T.tup [T.c (C.lit (Value.string v0)), T.c (C.lit (Value.string v1)), T.c (C.lit (Value.bool v2))], []) := w_internal_stringslite_Cut_nl _ _ h3'
  simp [h3]
  cases h
  rfl
theorem w_lex_IsName (s : ByteArray) (r : Bool) (h : lex_IsName s = some r) : ev 14 [T.c (C.lit (Value.string s))] = some (T.c (C.lit (Value.bool r)), []) := by
  refine ev_run' (kp := k14) (us := [4]) fn14 rfl rfl rfl rfl rfl (by kernel_rfl) (by simp) ?_
  unfold lex_IsName at h
  simp
  obtain ⟨w38, h37, h⟩ := bind_some' h
  rw [evLoop_loopF (ι := Int × Nat) (ρ := Unit ⊕ Int) (fun p => match p with | (x24, x25) => mk 43 [(0, T.c (C.lit (Value.string s))), (3, T.c (C.lit (Value.int IntKind.i64 x24))), (9, T.itr s x25)] [] []) (fun r => match r with | .inl () => (Ex.ret, mk 43 [(2, T.c (C.lit (Value.bool false)))] [] []) | .inr y35 => (Ex.exit 0, mk 43 [(3, T.c (C.lit (Value.int IntKind.i64 y35)))] [] [])) (lex_IsName_B0 s) h37 ?_ _ ?_]
  · rcases w38 with ⟨⟩ | y35
    · simp
      cases h
      rfl
    · simp
      rcases iteB_cases h with ⟨c36, h⟩ | ⟨c36, h⟩
      · simp [c36]
        cases h
        rfl
      · simp [c36]
        cases h
        rfl
  · clear h37 h
    rintro ⟨x24, x25⟩ y L res h hL hR
    unfold lex_IsName_B0 at h
    simp
    rcases iteB_cases h with ⟨c26, h⟩ | ⟨c26, h⟩
    · simp [c26]
      rcases iteB_cases h with ⟨c27, h⟩ | ⟨c27, h⟩
      · simp [c26, c27]
        obtain ⟨⟨v28, v29⟩, h30', h⟩ := bind_some' h
        have h30 : ev 26 [T.c (C.lit (Value.string (cutB s (ofN x25) (sizI s))))] = some (T.tup [T.c (C.lit (Value.int IntKind.i32 v28)), T.c (C.lit (Value.int IntKind.i64 v29))], []) := w_unicode_utf8_DecodeRuneInString _ _ h30'
        simp [c26, c27, h30]
        rcases iteB_cases h with ⟨c31, h⟩ | ⟨c31, h⟩
        · simp [c26, c27, h30, c31]
          cases h
          exact hR _ rfl
        · simp [c26, c27, h30, c31]
          rcases iteB_cases h with ⟨c32, h⟩ | ⟨c32, h⟩
          · simp [c26, c27, h30, c31, c32]
            cases h
            exact hR _ rfl
          · simp [c26, c27, h30, c31, c32]
            rcases iteB_cases h with ⟨c33, h⟩ | ⟨c33, h⟩
            · simp [c26, c27, h30, c31, c32, c33]
              rcases iteB_cases h with ⟨c34, h⟩ | ⟨c34, h⟩
              · simp [c26, c27, h30, c31, c32, c33, c34]
                cases h
                exact hR _ rfl
              · simp [c26, c27, h30, c31, c32, c33, c34]
                cases h
                exact hL _ _ rfl (by simp [headOf])
            · simp [c26, c27, h30, c31, c32, c33]
              cases h
              exact hL _ _ rfl (by simp [headOf])
      · simp [c26, c27]
        cases h
    · simp [c26]
      cases h
      exact hR _ rfl
  · simp [headOf]
theorem w_lex_Name (b : List Int) (at_ : Int) (r : ByteArray × Int × Int) (h : lex_Name b at_ = some r) : ev 10 [T.c (sls 1 byteF b), T.c (C.lit (Value.int IntKind.i64 at_))] = some (T.tup [T.c (C.lit (Value.string r.1)), T.c (C.lit (Value.int IntKind.i64 r.2.1)), T.c (C.lit (Value.int IntKind.i64 r.2.2))], []) := by
  refine ev_run' (kp := k10) (us := [9, 3, 26]) fn10 rfl rfl rfl rfl rfl (by kernel_rfl) (by simp) ?_
  unfold lex_Name at h
  simp
  obtain ⟨v0, h1', h⟩ := bind_some' h
  have h1 : ev 24 [T.c (sls 1 byteF b), T.c (C.lit (Value.int IntKind.i64 at_))] = some (T.c (C.lit (Value.bool v0)), []) := w_lex_isPlace _ _ _ h1'
  simp [h1]
  rcases iteB_cases h with ⟨c2, h⟩ | ⟨c2, h⟩
  · simp [h1, c2]
    rcases iteB_cases h with ⟨c3, h⟩ | ⟨c3, h⟩
    · simp [h1, c2, c3]
      obtain ⟨⟨v4, v5, v6⟩, h7', h⟩ := bind_some' h
      have h7 : ev 25 [T.c (C.lit (Value.string (strOf (cut b at_ (lenI b))))), T.c (C.lit (Value.string { data := #[10] }))] = some (T.tup [T.c (C.lit (Value.string v4)), T.c (C.lit (Value.string v5)), T.c (C.lit (Value.bool v6))], []) := w_strings_Cut_nl _ _ h7'
      simp [h1, c2, c3, h7]
      obtain ⟨v8, h9', h⟩ := bind_some' h
      have h9 : ev 14 [T.c (C.lit (Value.string v4))] = some (T.c (C.lit (Value.bool v8)), []) := w_lex_IsName _ _ h9'
      simp [h1, c2, c3, h7, h9]
      rcases iteB_cases h with ⟨c10, h⟩ | ⟨c10, h⟩
      · simp [h1, c2, c3, h7, h9, c10]
        cases h
        rfl
      · simp [h1, c2, c3, h7, h9, c10]
        cases h
        rfl
    · simp [h1, c2, c3]
      cases h
  · simp [h1, c2]
    cases h
    rfl
theorem w_lex_Number (b : List Int) (at_ : Int) (most : Int) (r : Int × Int × Int) (h : lex_Number b at_ most = some r) : ev 22 [T.c (sls 1 byteF b), T.c (C.lit (Value.int IntKind.i64 at_)), T.c (C.lit (Value.int IntKind.i64 most))] = some (T.tup [T.c (C.lit (Value.int IntKind.i64 r.1)), T.c (C.lit (Value.int IntKind.i64 r.2.1)), T.c (C.lit (Value.int IntKind.i64 r.2.2))], []) := by
  refine ev_run' (kp := k22) (us := [3, 3, 26]) fn22 rfl rfl rfl rfl rfl (by kernel_rfl) (by simp) ?_
  unfold lex_Number at h
  simp
  obtain ⟨v0, h1', h⟩ := bind_some' h
  have h1 : ev 24 [T.c (sls 1 byteF b), T.c (C.lit (Value.int IntKind.i64 at_))] = some (T.c (C.lit (Value.bool v0)), []) := w_lex_isPlace _ _ _ h1'
  simp [h1]
  rcases iteB_cases h with ⟨c2, h⟩ | ⟨c2, h⟩
  · simp [h1, c2]
    obtain ⟨v3, h4', h⟩ := bind_some' h
    have h4 : ev 28 [T.c (sls 1 byteF b), T.c (C.lit (Value.int IntKind.i64 at_)), T.c (C.lit (Value.func (Fn.func 30) #[] #[]))] = some (T.c (C.lit (Value.int IntKind.i64 v3)), []) := w_lex_run_figs _ _ _ h4'
    simp [h1, c2, h4]
    rcases iteB_cases h with ⟨c5, h⟩ | ⟨c5, h⟩
    · simp [h1, c2, h4, c5]
      cases h
      rfl
    · simp [h1, c2, h4, c5]
      obtain ⟨v6, h7, h⟩ := bind_some' h
      simp [h1, c2, h4, c5, h7]
      rcases iteB_cases h with ⟨c8, h⟩ | ⟨c8, h⟩
      · simp [h1, c2, h4, c5, h7, c8]
        rcases iteB_cases h with ⟨c9, h⟩ | ⟨c9, h⟩
        · simp [h1, c2, h4, c5, h7, c8, c9]
          cases h
          rfl
        · simp [h1, c2, h4, c5, h7, c8, c9]
          rcases iteB_cases h with ⟨c10, h⟩ | ⟨c10, h⟩
          · simp [h1, c2, h4, c5, h7, c8, c9, c10]
            obtain ⟨w36, h35, h⟩ := bind_some' h
            rw [evLoop_loopF (ι := Int × Int) (ρ := Unit ⊕ Int) (fun p => match p with | (x28, x29) => mk 60 [(1, T.c (C.lit (Value.int IntKind.i64 at_))), (2, T.c (C.lit (Value.int IntKind.i64 most))), (9, T.c (C.lit (Value.int IntKind.i64 v3))), (10, T.c (C.lit (Value.int IntKind.i64 x28))), (40, T.c (sls 1 byteF (cut b at_ v3))), (41, T.c (C.lit (Value.int IntKind.i64 (lenI (cut b at_ v3))))), (42, T.c (C.lit (Value.int IntKind.i64 x29)))] [] []) (fun r => match r with | .inl () => (Ex.ret, mk 60 [(6, T.c (C.lit (Value.int IntKind.i64 0))), (7, T.c (C.lit (Value.int IntKind.i64 at_))), (8, T.c (C.lit (Value.int IntKind.i64 3)))] [] []) | .inr y34 => (Ex.exit 0, mk 60 [(9, T.c (C.lit (Value.int IntKind.i64 v3))), (10, T.c (C.lit (Value.int IntKind.i64 y34)))] [] [])) (lex_Number_B0 b at_ most v3) h35 ?_ _ ?_]
            · rcases w36 with ⟨⟩ | y34
              · simp [h1, c2, h4, c5, h7, c8, c9, c10]
                cases h
                rfl
              · simp [h1, c2, h4, c5, h7, c8, c9, c10]
                cases h
                rfl
            · clear h35 h
              rintro ⟨x28, x29⟩ y L res h hL hR
              unfold lex_Number_B0 at h
              simp
              rcases iteB_cases h with ⟨c30, h⟩ | ⟨c30, h⟩
              · simp [c30]
                obtain ⟨v31, h32, h⟩ := bind_some' h
                simp [c30, h32]
                rcases iteB_cases h with ⟨c33, h⟩ | ⟨c33, h⟩
                · simp [c30, h32, c33]
                  cases h
                  exact hR _ rfl
                · simp [c30, h32, c33]
                  cases h
                  exact hL _ _ rfl (by simp [headOf])
              · simp [c30]
                cases h
                exact hR _ rfl
            · simp [headOf]
          · simp [h1, c2, h4, c5, h7, c8, c9, c10]
            cases h
      · simp [h1, c2, h4, c5, h7, c8]
        rcases iteB_cases h with ⟨c37, h⟩ | ⟨c37, h⟩
        · simp [h1, c2, h4, c5, h7, c8, c37]
          obtain ⟨w63, h62, h⟩ := bind_some' h
          rw [evLoop_loopF (ι := Int × Int) (ρ := Unit ⊕ Int) (fun p => match p with | (x55, x56) => mk 60 [(1, T.c (C.lit (Value.int IntKind.i64 at_))), (2, T.c (C.lit (Value.int IntKind.i64 most))), (9, T.c (C.lit (Value.int IntKind.i64 v3))), (10, T.c (C.lit (Value.int IntKind.i64 x55))), (40, T.c (sls 1 byteF (cut b at_ v3))), (41, T.c (C.lit (Value.int IntKind.i64 (lenI (cut b at_ v3))))), (42, T.c (C.lit (Value.int IntKind.i64 x56)))] [] []) (fun r => match r with | .inl () => (Ex.ret, mk 60 [(6, T.c (C.lit (Value.int IntKind.i64 0))), (7, T.c (C.lit (Value.int IntKind.i64 at_))), (8, T.c (C.lit (Value.int IntKind.i64 3)))] [] []) | .inr y61 => (Ex.exit 0, mk 60 [(9, T.c (C.lit (Value.int IntKind.i64 v3))), (10, T.c (C.lit (Value.int IntKind.i64 y61)))] [] [])) (lex_Number_B1 b at_ most v3) h62 ?_ _ ?_]
          · rcases w63 with ⟨⟩ | y61
            · simp [h1, c2, h4, c5, h7, c8, c37]
              cases h
              rfl
            · simp [h1, c2, h4, c5, h7, c8, c37]
              cases h
              rfl
          · clear h62 h
            rintro ⟨x55, x56⟩ y L res h hL hR
            unfold lex_Number_B1 at h
            simp
            rcases iteB_cases h with ⟨c57, h⟩ | ⟨c57, h⟩
            · simp [c57]
              obtain ⟨v58, h59, h⟩ := bind_some' h
              simp [c57, h59]
              rcases iteB_cases h with ⟨c60, h⟩ | ⟨c60, h⟩
              · simp [c57, h59, c60]
                cases h
                exact hR _ rfl
              · simp [c57, h59, c60]
                cases h
                exact hL _ _ rfl (by simp [headOf])
            · simp [c57]
              cases h
              exact hR _ rfl
          · simp [headOf]
        · simp [h1, c2, h4, c5, h7, c8, c37]
          cases h
  · simp [h1, c2]
    cases h
    rfl
theorem w_lex_Ones (b : List Int) (at_ : Int) (most : Int) (r : ByteArray × Int × Int) (h : lex_Ones b at_ most = some r) : ev 20 [T.c (sls 1 byteF b), T.c (C.lit (Value.int IntKind.i64 at_)), T.c (C.lit (Value.int IntKind.i64 most))] = some (T.tup [T.c (C.lit (Value.string r.1)), T.c (C.lit (Value.int IntKind.i64 r.2.1)), T.c (C.lit (Value.int IntKind.i64 r.2.2))], []) := by
  refine ev_run' (kp := k20) (us := [9, 3, 26]) fn20 rfl rfl rfl rfl rfl (by kernel_rfl) (by simp) ?_
  unfold lex_Ones at h
  simp
  obtain ⟨v0, h1', h⟩ := bind_some' h
  have h1 : ev 24 [T.c (sls 1 byteF b), T.c (C.lit (Value.int IntKind.i64 at_))] = some (T.c (C.lit (Value.bool v0)), []) := w_lex_isPlace _ _ _ h1'
  simp [h1]
  rcases iteB_cases h with ⟨c2, h⟩ | ⟨c2, h⟩
  · simp [h1, c2]
    obtain ⟨v3, h4', h⟩ := bind_some' h
    have h4 : ev 28 [T.c (sls 1 byteF b), T.c (C.lit (Value.int IntKind.i64 at_)), T.c (C.lit (Value.func (Fn.func 29) #[] #[]))] = some (T.c (C.lit (Value.int IntKind.i64 v3)), []) := w_lex_run_ones _ _ _ h4'
    simp [h1, c2, h4]
    rcases iteB_cases h with ⟨c5, h⟩ | ⟨c5, h⟩
    · simp [h1, c2, h4, c5]
      cases h
      rfl
    · simp [h1, c2, h4, c5]
      rcases iteB_cases h with ⟨c6, h⟩ | ⟨c6, h⟩
      · simp [h1, c2, h4, c5, c6]
        cases h
        rfl
      · simp [h1, c2, h4, c5, c6]
        rcases iteB_cases h with ⟨c7, h⟩ | ⟨c7, h⟩
        · simp [h1, c2, h4, c5, c6, c7]
          cases h
          rfl
        · simp [h1, c2, h4, c5, c6, c7]
          cases h
  · simp [h1, c2]
    cases h
    rfl
theorem w_lex_Signed (b : List Int) (at_ : Int) (most : Int) (r : Int × Int × Int) (h : lex_Signed b at_ most = some r) : ev 19 [T.c (sls 1 byteF b), T.c (C.lit (Value.int IntKind.i64 at_)), T.c (C.lit (Value.int IntKind.i64 most))] = some (T.tup [T.c (C.lit (Value.int IntKind.i64 r.1)), T.c (C.lit (Value.int IntKind.i64 r.2.1)), T.c (C.lit (Value.int IntKind.i64 r.2.2))], []) := by
  refine ev_run' (kp := k19) (us := [3, 3, 26]) fn19 rfl rfl rfl rfl rfl (by kernel_rfl) (by simp) ?_
  unfold lex_Signed at h
  simp
  obtain ⟨v0, h1', h⟩ := bind_some' h
  have h1 : ev 24 [T.c (sls 1 byteF b), T.c (C.lit (Value.int IntKind.i64 at_))] = some (T.c (C.lit (Value.bool v0)), []) := w_lex_isPlace _ _ _ h1'
  simp [h1]
  rcases iteB_cases h with ⟨c2, h⟩ | ⟨c2, h⟩
  · simp [h1, c2]
    obtain ⟨⟨v3, v4⟩, h5', h⟩ := bind_some' h
    have h5 : ev 23 [T.c (sls 1 byteF b), T.c (C.lit (Value.int IntKind.i64 at_)), T.c (C.lit (Value.string { data := #[45] }))] = some (T.tup [T.c (C.lit (Value.int IntKind.i64 v3)), T.c (C.lit (Value.bool v4))], []) := w_lex_Is _ _ _ _ h5'
    simp [h1, c2, h5]
    obtain ⟨⟨v6, v7, v8⟩, h9', h⟩ := bind_some' h
    have h9 : ev 22 [T.c (sls 1 byteF b), T.c (C.lit (Value.int IntKind.i64 v3)), T.c (C.lit (Value.int IntKind.i64 most))] = some (T.tup [T.c (C.lit (Value.int IntKind.i64 v6)), T.c (C.lit (Value.int IntKind.i64 v7)), T.c (C.lit (Value.int IntKind.i64 v8))], []) := w_lex_Number _ _ _ _ h9'
    simp [h1, c2, h5, h9]
    rcases iteB_cases h with ⟨c10, h⟩ | ⟨c10, h⟩
    · simp [h1, c2, h5, h9, c10]
      rcases iteB_cases h with ⟨c11, h⟩ | ⟨c11, h⟩
      · simp [h1, c2, h5, h9, c10, c11]
        rcases iteB_cases h with ⟨c12, h⟩ | ⟨c12, h⟩
        · simp [h1, c2, h5, h9, c10, c11, c12]
          cases h
          rfl
        · simp [h1, c2, h5, h9, c10, c11, c12]
          cases h
          rfl
      · simp [h1, c2, h5, h9, c10, c11]
        cases h
        rfl
    · simp [h1, c2, h5, h9, c10]
      cases h
      rfl
  · simp [h1, c2]
    cases h
    rfl
theorem w_lex_Take (b : List Int) (at_ : Int) (r : Int × Int × Int) (h : lex_Take b at_ = some r) : ev 12 [T.c (sls 1 byteF b), T.c (C.lit (Value.int IntKind.i64 at_))] = some (T.tup [T.c (C.lit (Value.int IntKind.i64 r.1)), T.c (C.lit (Value.int IntKind.i64 r.2.1)), T.c (C.lit (Value.int IntKind.i64 r.2.2))], []) := by
  refine ev_run' (kp := k12) (us := [3, 3, 26]) fn12 rfl rfl rfl rfl rfl (by kernel_rfl) (by simp) ?_
  unfold lex_Take at h
  simp
  obtain ⟨v0, h1', h⟩ := bind_some' h
  have h1 : ev 24 [T.c (sls 1 byteF b), T.c (C.lit (Value.int IntKind.i64 at_))] = some (T.c (C.lit (Value.bool v0)), []) := w_lex_isPlace _ _ _ h1'
  simp [h1]
  rcases iteB_cases h with ⟨c2, h⟩ | ⟨c2, h⟩
  · simp [h1, c2]
    rcases iteB_cases h with ⟨c3, h⟩ | ⟨c3, h⟩
    · simp [h1, c2, c3]
      obtain ⟨w62, h61, h⟩ := bind_some' h
      rw [evLoop_loopF (ι := Int × Int) (ρ := (Int × Int × Int) ⊕ Unit) (fun p => match p with | (x41, x42) => mk 57 [(1, T.c (C.lit (Value.int IntKind.i64 at_))), (7, T.c (C.lit (Value.int IntKind.i64 x41))), (16, T.c (sls 1 byteF (cut b at_ (lenI b)))), (17, T.c (C.lit (Value.int IntKind.i64 (lenI (cut b at_ (lenI b)))))), (18, T.c (C.lit (Value.int IntKind.i64 x42)))] [] []) (fun r => match r with | .inl (y58, y59, y60) => (Ex.ret, mk 57 [(4, T.c (C.lit (Value.int IntKind.i64 y58))), (5, T.c (C.lit (Value.int IntKind.i64 y59))), (6, T.c (C.lit (Value.int IntKind.i64 y60)))] [] []) | .inr () => (Ex.exit 0, mk 57 [(1, T.c (C.lit (Value.int IntKind.i64 at_)))] [] [])) (lex_Take_B0 b at_) h61 ?_ _ ?_]
      · rcases w62 with ⟨y58, y59, y60⟩ | ⟨⟩
        · simp [h1, c2, c3]
          cases h
          rfl
        · simp [h1, c2, c3]
          cases h
          rfl
      · clear h61 h
        rintro ⟨x41, x42⟩ y L res h hL hR
        unfold lex_Take_B0 at h
        simp
        rcases iteB_cases h with ⟨c43, h⟩ | ⟨c43, h⟩
        · simp [c43]
          obtain ⟨v44, h45, h⟩ := bind_some' h
          simp [c43, h45]
          rcases iteB_cases h with ⟨c46, h⟩ | ⟨c46, h⟩
          · simp [c43, h45, c46]
            cases h
          · simp [c43, h45, c46]
            rcases iteB_cases h with ⟨c47, h⟩ | ⟨c47, h⟩
            · simp [c43, h45, c46, c47]
              cases h
              exact hR _ rfl
            · simp [c43, h45, c46, c47]
              rcases iteB_cases h with ⟨c48, h⟩ | ⟨c48, h⟩
              · simp [c43, h45, c46, c47, c48]
                rcases iteB_cases h with ⟨c49, h⟩ | ⟨c49, h⟩
                · simp [c43, h45, c46, c47, c48, c49]
                  cases h
                  exact hR _ rfl
                · simp [c43, h45, c46, c47, c48, c49]
                  rcases iteB_cases h with ⟨c50, h⟩ | ⟨c50, h⟩
                  · simp [c43, h45, c46, c47, c48, c49, c50]
                    rcases iteB_cases h with ⟨c51, h⟩ | ⟨c51, h⟩
                    · simp [c43, h45, c46, c47, c48, c49, c50, c51]
                      cases h
                      exact hR _ rfl
                    · simp [c43, h45, c46, c47, c48, c49, c50, c51]
                      rcases iteB_cases h with ⟨c52, h⟩ | ⟨c52, h⟩
                      · simp [c43, h45, c46, c47, c48, c49, c50, c51, c52]
                        cases h
                        exact hR _ rfl
                      · simp [c43, h45, c46, c47, c48, c49, c50, c51, c52]
                        cases h
                        exact hL _ _ rfl (by simp [headOf])
                  · simp [c43, h45, c46, c47, c48, c49, c50]
                    rcases iteB_cases h with ⟨c53, h⟩ | ⟨c53, h⟩
                    · simp [c43, h45, c46, c47, c48, c49, c50, c53]
                      cases h
                      exact hR _ rfl
                    · simp [c43, h45, c46, c47, c48, c49, c50, c53]
                      cases h
                      exact hL _ _ rfl (by simp [headOf])
              · simp [c43, h45, c46, c47, c48]
                rcases iteB_cases h with ⟨c54, h⟩ | ⟨c54, h⟩
                · simp [c43, h45, c46, c47, c48, c54]
                  rcases iteB_cases h with ⟨c55, h⟩ | ⟨c55, h⟩
                  · simp [c43, h45, c46, c47, c48, c54, c55]
                    cases h
                    exact hR _ rfl
                  · simp [c43, h45, c46, c47, c48, c54, c55]
                    rcases iteB_cases h with ⟨c56, h⟩ | ⟨c56, h⟩
                    · simp [c43, h45, c46, c47, c48, c54, c55, c56]
                      cases h
                      exact hR _ rfl
                    · simp [c43, h45, c46, c47, c48, c54, c55, c56]
                      cases h
                      exact hL _ _ rfl (by simp [headOf])
                · simp [c43, h45, c46, c47, c48, c54]
                  rcases iteB_cases h with ⟨c57, h⟩ | ⟨c57, h⟩
                  · simp [c43, h45, c46, c47, c48, c54, c57]
                    cases h
                    exact hR _ rfl
                  · simp [c43, h45, c46, c47, c48, c54, c57]
                    cases h
                    exact hL _ _ rfl (by simp [headOf])
        · simp [c43]
          cases h
          exact hR _ rfl
      · simp [headOf]
    · simp [h1, c2, c3]
      cases h
  · simp [h1, c2]
    cases h
    rfl
theorem w_ref01_Take (b : List Int) (at_ : Int) (r : Int × Int × Int) (h : ref01_Take b at_ = some r) : ev 13 [T.c (sls 1 byteF b), T.c (C.lit (Value.int IntKind.i64 at_))] = some (T.tup [T.c (C.lit (Value.int IntKind.i64 r.1)), T.c (C.lit (Value.int IntKind.i64 r.2.1)), T.c (C.lit (Value.int IntKind.i64 r.2.2))], []) := by
  refine ev_run' (kp := k13) (us := [3, 3, 3]) fn13 rfl rfl rfl rfl rfl (by kernel_rfl) (by simp) ?_
  unfold ref01_Take at h
  simp
  rcases iteB_cases h with ⟨c0, h⟩ | ⟨c0, h⟩
  · simp [c0]
    cases h
    rfl
  · simp [c0]
    rcases iteB_cases h with ⟨c1, h⟩ | ⟨c1, h⟩
    · simp [c0, c1]
      cases h
      rfl
    · simp [c0, c1]
      obtain ⟨w41, h40, h⟩ := bind_some' h
      rw [evLoop_loopF (ι := Int × Int × Int) (ρ := (Int × Int × Int) ⊕ Unit) (fun p => match p with | (x26, x27, x28) => mk 65 [(0, T.c (sls 1 byteF b)), (1, T.c (C.lit (Value.int IntKind.i64 at_))), (7, T.c (C.lit (Value.int IntKind.i64 x26))), (8, T.c (C.lit (Value.int IntKind.i64 x27))), (9, T.c (C.lit (Value.int IntKind.i64 x28)))] [] []) (fun r => match r with | .inl (y37, y38, y39) => (Ex.ret, mk 65 [(4, T.c (C.lit (Value.int IntKind.i64 y37))), (5, T.c (C.lit (Value.int IntKind.i64 y38))), (6, T.c (C.lit (Value.int IntKind.i64 y39)))] [] []) | .inr () => (Ex.exit 0, mk 65 [(1, T.c (C.lit (Value.int IntKind.i64 at_)))] [] [])) (ref01_Take_B0 b at_) h40 ?_ _ ?_]
      · rcases w41 with ⟨y37, y38, y39⟩ | ⟨⟩
        · simp [c0, c1]
          cases h
          rfl
        · simp [c0, c1]
          cases h
          rfl
      · clear h40 h
        rintro ⟨x26, x27, x28⟩ y L res h hL hR
        unfold ref01_Take_B0 at h
        simp
        rcases iteB_cases h with ⟨c29, h⟩ | ⟨c29, h⟩
        · simp [c29]
          rcases iteB_cases h with ⟨c30, h⟩ | ⟨c30, h⟩
          · simp [c29, c30]
            obtain ⟨v31, h32, h⟩ := bind_some' h
            simp [c29, c30, h32]
            rcases iteB_cases h with ⟨c33, h⟩ | ⟨c33, h⟩
            · simp [c29, c30, h32, c33]
              rcases iteB_cases h with ⟨c34, h⟩ | ⟨c34, h⟩
              · simp [c29, c30, h32, c33, c34]
                cases h
                exact hR _ rfl
              · simp [c29, c30, h32, c33, c34]
                rcases iteB_cases h with ⟨c35, h⟩ | ⟨c35, h⟩
                · simp [c29, c30, h32, c33, c34, c35]
                  rcases iteB_cases h with ⟨c36, h⟩ | ⟨c36, h⟩
                  · simp [c29, c30, h32, c33, c34, c35, c36]
                    cases h
                    exact hR _ rfl
                  · simp [c29, c30, h32, c33, c34, c35, c36]
                    cases h
                    exact hR _ rfl
                · simp [c29, c30, h32, c33, c34, c35]
                  cases h
                  exact hR _ rfl
            · simp [c29, c30, h32, c33]
              cases h
              exact hL _ _ rfl (by simp [headOf])
          · simp [c29, c30]
            cases h
            exact hR _ rfl
        · simp [c29]
          cases h
          exact hR _ rfl
      · simp [headOf]
theorem w_lex_Put (n : Int) (r : List Int) (h : lex_Put n = some r) : ev 17 [T.c (C.lit (Value.int IntKind.i64 n))] = some (T.c (C.ref 0 0 (lenN r)), [rowO 5 1 byteF r]) := by
  refine ev_run' (kp := k17) (us := [22]) fn17 rfl rfl rfl rfl rfl (by kernel_rfl) (by simp) ?_
  unfold lex_Put at h
  simp
  rcases iteB_cases h with ⟨c0, h⟩ | ⟨c0, h⟩
  · simp [c0]
    cases h
    rfl
  · simp [c0]
    rcases iteB_cases h with ⟨c1, h⟩ | ⟨c1, h⟩
    · simp [c0, c1]
      cases h
      rfl
    · simp [c0, c1]
      obtain ⟨w21, h20, h⟩ := bind_some' h
      rw [evLoop_loopF (ι := (List Int) × Int) (ρ := (List Int) × Int) (fun p => match p with | (x12, x13) => mk 25 [(0, T.c (C.lit (Value.int IntKind.i64 x13))), (3, T.c (C.ref 3 0 (lenN x12)))] [(3, rowO 5 1 byteF x12)] []) (fun r => match r with | (y17, y18) => (Ex.exit 0, mk 25 [(0, T.c (C.lit (Value.int IntKind.i64 y18))), (3, T.c (C.ref 3 0 (lenN y17)))] [(3, rowO 5 1 byteF y17)] [])) (lex_Put_B0) h20 ?_ _ ?_]
      · obtain ⟨y17, y18⟩ := w21
        simp [c0, c1]
        rcases iteB_cases h with ⟨c19, h⟩ | ⟨c19, h⟩
        · simp [c0, c1, c19]
          cases h
          rfl
        · simp [c0, c1, c19]
          cases h
      · clear h20 h
        rintro ⟨x12, x13⟩ y L res h hL hR
        unfold lex_Put_B0 at h
        simp
        rcases iteB_cases h with ⟨c14, h⟩ | ⟨c14, h⟩
        · simp [c14]
          rcases iteB_cases h with ⟨c15, h⟩ | ⟨c15, h⟩
          · simp [c14, c15]
            rcases iteB_cases h with ⟨c16, h⟩ | ⟨c16, h⟩
            · simp [c14, c15, c16]
              cases h
            · simp [c14, c15, c16]
              cases h
              exact hL _ _ rfl (by simp [headOf])
          · simp [c14, c15]
            cases h
        · simp [c14]
          cases h
          exact hR _ rfl
      · simp [headOf]
theorem w_ref01_Put (n : Int) (r : List Int) (h : ref01_Put n = some r) : ev 18 [T.c (C.lit (Value.int IntKind.i64 n))] = some (T.c (C.ref 0 0 (lenN r)), [rowO 5 1 byteF r]) := by
  refine ev_run' (kp := k18) (us := [22]) fn18 rfl rfl rfl rfl rfl (by kernel_rfl) (by simp) ?_
  unfold ref01_Put at h
  simp
  rcases iteB_cases h with ⟨c0, h⟩ | ⟨c0, h⟩
  · simp [c0]
    cases h
    rfl
  · simp [c0]
    rcases iteB_cases h with ⟨c1, h⟩ | ⟨c1, h⟩
    · simp [c0, c1]
      cases h
      rfl
    · simp [c0, c1]
      obtain ⟨w18, h17, h⟩ := bind_some' h
      rw [evLoop_loopF (ι := (List Int) × Int) (ρ := (List Int) × Int) (fun p => match p with | (x10, x11) => mk 26 [(0, T.c (C.lit (Value.int IntKind.i64 x11))), (3, T.c (C.ref 3 0 (lenN x10)))] [(3, rowO 5 1 byteF x10)] []) (fun r => match r with | (y14, y15) => (Ex.exit 0, mk 26 [(0, T.c (C.lit (Value.int IntKind.i64 y15))), (3, T.c (C.ref 3 0 (lenN y14)))] [(3, rowO 5 1 byteF y14)] [])) (ref01_Put_B0) h17 ?_ _ ?_]
      · obtain ⟨y14, y15⟩ := w18
        simp [c0, c1]
        rcases iteB_cases h with ⟨c16, h⟩ | ⟨c16, h⟩
        · simp [c0, c1, c16]
          cases h
          rfl
        · simp [c0, c1, c16]
          cases h
      · clear h17 h
        rintro ⟨x10, x11⟩ y L res h hL hR
        unfold ref01_Put_B0 at h
        simp
        rcases iteB_cases h with ⟨c12, h⟩ | ⟨c12, h⟩
        · simp [c12]
          rcases iteB_cases h with ⟨c13, h⟩ | ⟨c13, h⟩
          · simp [c12, c13]
            cases h
            exact hL _ _ rfl (by simp [headOf])
          · simp [c12, c13]
            cases h
        · simp [c12]
          cases h
          exact hR _ rfl
      · simp [headOf]
theorem w_ref01_Row (a : List Int) (b : List Int) (r : Bool) (h : ref01_Row a b = some r) : ev 16 [T.c (sls 1 byteF a), T.c (sls 1 byteF b)] = some (T.c (C.lit (Value.bool r)), []) := by
  refine ev_run' (kp := k16) (us := [4]) fn16 rfl rfl rfl rfl rfl (by kernel_rfl) (by simp) ?_
  unfold ref01_Row at h
  simp
  rcases iteB_cases h with ⟨c0, h⟩ | ⟨c0, h⟩
  · simp [c0]
    obtain ⟨w25, h24, h⟩ := bind_some' h
    rw [evLoop_loopF (ι := Int) (ρ := Unit ⊕ Unit) (fun p => match p with | x17 => mk 26 [(0, T.c (sls 1 byteF a)), (1, T.c (sls 1 byteF b)), (5, T.c (C.lit (Value.int IntKind.i64 x17)))] [] []) (fun r => match r with | .inl () => (Ex.ret, mk 26 [(4, T.c (C.lit (Value.bool false)))] [] []) | .inr () => (Ex.exit 0, mk 26 [] [] [])) (ref01_Row_B0 a b) h24 ?_ _ ?_]
    · rcases w25 with ⟨⟩ | ⟨⟩
      · simp [c0]
        cases h
        rfl
      · simp [c0]
        cases h
        rfl
    · clear h24 h
      rintro x17 y L res h hL hR
      unfold ref01_Row_B0 at h
      simp
      rcases iteB_cases h with ⟨c18, h⟩ | ⟨c18, h⟩
      · simp [c18]
        obtain ⟨v19, h20, h⟩ := bind_some' h
        simp [c18, h20]
        obtain ⟨v21, h22, h⟩ := bind_some' h
        simp [c18, h20, h22]
        rcases iteB_cases h with ⟨c23, h⟩ | ⟨c23, h⟩
        · simp [c18, h20, h22, c23]
          cases h
          exact hL _ _ rfl (by simp [headOf])
        · simp [c18, h20, h22, c23]
          cases h
          exact hR _ rfl
      · simp [c18]
        cases h
        exact hR _ rfl
    · simp [headOf]
  · simp [c0]
    cases h
    rfl
end Go.Proofs.YtgamgcmjiancmaaDoor

/- What the interpreter comes to is what the plain functions come to. No condition. -/
import Derived.Test.YtgamgcmjiancmaaDoorW1
set_option linter.unusedSimpArgs false
set_option linter.unusedVariables false
set_option maxRecDepth 20000
set_option maxHeartbeats 4000000
namespace Go.Proofs.YtgamgcmjiancmaaDoor
open Go.Vabs Go.Vid
theorem w_law01_LexAhead (with_ : LexAheadIn_law01) (h : law01_LexAhead with_ = some true) : ev 4 [T.agg (LexAheadIn_law01.cells with_)] = some (T.c (C.lit (Value.bool true)), []) := by
  refine ev_run' (kp := k4) (us := [4]) fn4 rfl rfl rfl rfl rfl (by kernel_rfl) (by simp) ?_
  unfold law01_LexAhead at h
  simp -implicitDefEqProofs
  obtain ⟨v0, h1', h⟩ := bind_some' h
  have h1 : ev 9 [] = some (T.c (C.lit (Value.bool v0)), []) := w_law01_shown _ h1'
  simp -implicitDefEqProofs [h1]
  rcases iteB_cases h with ⟨c2, h⟩ | ⟨c2, h⟩
  · first | (cases h; done) | (simp -implicitDefEqProofs [h1, c2]; first | rfl | (injection h with h; rw [h]; rfl) | (injection h with h; rw [h]))
  · simp -implicitDefEqProofs [h1, c2]
    rcases iteB_cases h with ⟨c3, h⟩ | ⟨c3, h⟩
    · first | (cases h; done) | (simp -implicitDefEqProofs [h1, c2, c3]; first | rfl | (injection h with h; rw [h]; rfl) | (injection h with h; rw [h]))
    · simp -implicitDefEqProofs [h1, c2, c3]
      rcases iteB_cases h with ⟨c4, h⟩ | ⟨c4, h⟩
      · first | (cases h; done) | (simp -implicitDefEqProofs [h1, c2, c3, c4]; first | rfl | (injection h with h; rw [h]; rfl) | (injection h with h; rw [h]))
      · simp -implicitDefEqProofs [h1, c2, c3, c4]
        rcases iteB_cases h with ⟨c5, h⟩ | ⟨c5, h⟩
        · first | (cases h; done) | (simp -implicitDefEqProofs [h1, c2, c3, c4, c5]; first | rfl | (injection h with h; rw [h]; rfl) | (injection h with h; rw [h]))
        · simp -implicitDefEqProofs [h1, c2, c3, c4, c5]
          rcases iteB_cases h with ⟨c6, h⟩ | ⟨c6, h⟩
          · simp -implicitDefEqProofs [h1, c2, c3, c4, c5, c6]
            rcases iteB_cases h with ⟨c7, h⟩ | ⟨c7, h⟩
            · simp -implicitDefEqProofs [h1, c2, c3, c4, c5, c6, c7]
              obtain ⟨⟨v8, v9, v10⟩, h11', h⟩ := bind_some' h
              have h11 : ev 19 [T.c (sls 1 byteF with_.b), T.c (C.lit (Value.int IntKind.i64 with_.at')), T.c (C.lit (Value.int IntKind.i64 with_.most))] = some (T.tup [T.c (C.lit (Value.int IntKind.i64 v8)), T.c (C.lit (Value.int IntKind.i64 v9)), T.c (C.lit (Value.int IntKind.i64 v10))], []) := w_lex_Signed _ _ _ _ h11'
              simp -implicitDefEqProofs [h1, c2, c3, c4, c5, c6, c7, h11]
              obtain ⟨⟨v12, v13, v14⟩, h15', h⟩ := bind_some' h
              have h15 : ev 19 [T.c (sls 1 byteF (with_.a ++ with_.b)), T.c (C.lit (Value.int IntKind.i64 (iadd IntKind.i64 (lenI with_.a) with_.at'))), T.c (C.lit (Value.int IntKind.i64 with_.most))] = some (T.tup [T.c (C.lit (Value.int IntKind.i64 v12)), T.c (C.lit (Value.int IntKind.i64 v13)), T.c (C.lit (Value.int IntKind.i64 v14))], []) := w_lex_Signed _ _ _ _ h15'
              simp -implicitDefEqProofs [h1, c2, c3, c4, c5, c6, c7, h11, h15]
              obtain ⟨⟨v16, v17, v18⟩, h19', h⟩ := bind_some' h
              have h19 : ev 20 [T.c (sls 1 byteF with_.b), T.c (C.lit (Value.int IntKind.i64 with_.at')), T.c (C.lit (Value.int IntKind.i64 with_.most))] = some (T.tup [T.c (C.lit (Value.string v16)), T.c (C.lit (Value.int IntKind.i64 v17)), T.c (C.lit (Value.int IntKind.i64 v18))], []) := w_lex_Ones _ _ _ _ h19'
              simp -implicitDefEqProofs [h1, c2, c3, c4, c5, c6, c7, h11, h15, h19]
              obtain ⟨⟨v20, v21, v22⟩, h23', h⟩ := bind_some' h
              have h23 : ev 20 [T.c (sls 1 byteF (with_.a ++ with_.b)), T.c (C.lit (Value.int IntKind.i64 (iadd IntKind.i64 (lenI with_.a) with_.at'))), T.c (C.lit (Value.int IntKind.i64 with_.most))] = some (T.tup [T.c (C.lit (Value.string v20)), T.c (C.lit (Value.int IntKind.i64 v21)), T.c (C.lit (Value.int IntKind.i64 v22))], []) := w_lex_Ones _ _ _ _ h23'
              simp -implicitDefEqProofs [h1, c2, c3, c4, c5, c6, c7, h11, h15, h19, h23]
              obtain ⟨⟨v24, v25, v26⟩, h27', h⟩ := bind_some' h
              have h27 : ev 10 [T.c (sls 1 byteF with_.b), T.c (C.lit (Value.int IntKind.i64 with_.at'))] = some (T.tup [T.c (C.lit (Value.string v24)), T.c (C.lit (Value.int IntKind.i64 v25)), T.c (C.lit (Value.int IntKind.i64 v26))], []) := w_lex_Name _ _ _ h27'
              simp -implicitDefEqProofs [h1, c2, c3, c4, c5, c6, c7, h11, h15, h19, h23, h27]
              obtain ⟨⟨v28, v29, v30⟩, h31', h⟩ := bind_some' h
              have h31 : ev 10 [T.c (sls 1 byteF (with_.a ++ with_.b)), T.c (C.lit (Value.int IntKind.i64 (iadd IntKind.i64 (lenI with_.a) with_.at')))] = some (T.tup [T.c (C.lit (Value.string v28)), T.c (C.lit (Value.int IntKind.i64 v29)), T.c (C.lit (Value.int IntKind.i64 v30))], []) := w_lex_Name _ _ _ h31'
              simp -implicitDefEqProofs [h1, c2, c3, c4, c5, c6, c7, h11, h15, h19, h23, h27, h31]
              obtain ⟨⟨v32, v33, v34⟩, h35', h⟩ := bind_some' h
              have h35 : ev 12 [T.c (sls 1 byteF with_.b), T.c (C.lit (Value.int IntKind.i64 with_.at'))] = some (T.tup [T.c (C.lit (Value.int IntKind.i64 v32)), T.c (C.lit (Value.int IntKind.i64 v33)), T.c (C.lit (Value.int IntKind.i64 v34))], []) := w_lex_Take _ _ _ h35'
              simp -implicitDefEqProofs [h1, c2, c3, c4, c5, c6, c7, h11, h15, h19, h23, h27, h31, h35]
              obtain ⟨⟨v36, v37, v38⟩, h39', h⟩ := bind_some' h
              have h39 : ev 12 [T.c (sls 1 byteF (with_.a ++ with_.b)), T.c (C.lit (Value.int IntKind.i64 (iadd IntKind.i64 (lenI with_.a) with_.at')))] = some (T.tup [T.c (C.lit (Value.int IntKind.i64 v36)), T.c (C.lit (Value.int IntKind.i64 v37)), T.c (C.lit (Value.int IntKind.i64 v38))], []) := w_lex_Take _ _ _ h39'
              simp -implicitDefEqProofs [h1, c2, c3, c4, c5, c6, c7, h11, h15, h19, h23, h27, h31, h35, h39]
              rcases iteB_cases h with ⟨c40, h⟩ | ⟨c40, h⟩
              · simp -implicitDefEqProofs [h1, c2, c3, c4, c5, c6, c7, h11, h15, h19, h23, h27, h31, h35, h39, c40]
                rcases iteB_cases h with ⟨c41, h⟩ | ⟨c41, h⟩
                · simp -implicitDefEqProofs [h1, c2, c3, c4, c5, c6, c7, h11, h15, h19, h23, h27, h31, h35, h39, c40, c41]
                  rcases iteB_cases h with ⟨c42, h⟩ | ⟨c42, h⟩
                  · simp -implicitDefEqProofs [h1, c2, c3, c4, c5, c6, c7, h11, h15, h19, h23, h27, h31, h35, h39, c40, c41, c42]
                    rcases iteB_cases h with ⟨c43, h⟩ | ⟨c43, h⟩
                    · simp -implicitDefEqProofs [h1, c2, c3, c4, c5, c6, c7, h11, h15, h19, h23, h27, h31, h35, h39, c40, c41, c42, c43]
                      rcases iteB_cases h with ⟨c44, h⟩ | ⟨c44, h⟩
                      · simp -implicitDefEqProofs [h1, c2, c3, c4, c5, c6, c7, h11, h15, h19, h23, h27, h31, h35, h39, c40, c41, c42, c43, c44]
                        rcases iteB_cases h with ⟨c45, h⟩ | ⟨c45, h⟩
                        · simp -implicitDefEqProofs [h1, c2, c3, c4, c5, c6, c7, h11, h15, h19, h23, h27, h31, h35, h39, c40, c41, c42, c43, c44, c45]
                          rcases iteB_cases h with ⟨c46, h⟩ | ⟨c46, h⟩
                          · simp -implicitDefEqProofs [h1, c2, c3, c4, c5, c6, c7, h11, h15, h19, h23, h27, h31, h35, h39, c40, c41, c42, c43, c44, c45, c46]
                            rcases iteB_cases h with ⟨c47, h⟩ | ⟨c47, h⟩
                            · simp -implicitDefEqProofs [h1, c2, c3, c4, c5, c6, c7, h11, h15, h19, h23, h27, h31, h35, h39, c40, c41, c42, c43, c44, c45, c46, c47]
                              rcases iteB_cases h with ⟨c48, h⟩ | ⟨c48, h⟩
                              · simp -implicitDefEqProofs [h1, c2, c3, c4, c5, c6, c7, h11, h15, h19, h23, h27, h31, h35, h39, c40, c41, c42, c43, c44, c45, c46, c47, c48]
                                rcases iteB_cases h with ⟨c49, h⟩ | ⟨c49, h⟩
                                · simp -implicitDefEqProofs [h1, c2, c3, c4, c5, c6, c7, h11, h15, h19, h23, h27, h31, h35, h39, c40, c41, c42, c43, c44, c45, c46, c47, c48, c49]
                                  rcases iteB_cases h with ⟨c50, h⟩ | ⟨c50, h⟩
                                  · simp -implicitDefEqProofs [h1, c2, c3, c4, c5, c6, c7, h11, h15, h19, h23, h27, h31, h35, h39, c40, c41, c42, c43, c44, c45, c46, c47, c48, c49, c50]
                                    rcases iteB_cases h with ⟨c51, h⟩ | ⟨c51, h⟩
                                    · simp -implicitDefEqProofs [h1, c2, c3, c4, c5, c6, c7, h11, h15, h19, h23, h27, h31, h35, h39, c40, c41, c42, c43, c44, c45, c46, c47, c48, c49, c50, c51]
                                      rcases iteB_cases h with ⟨c52, h⟩ | ⟨c52, h⟩
                                      · simp -implicitDefEqProofs [h1, c2, c3, c4, c5, c6, c7, h11, h15, h19, h23, h27, h31, h35, h39, c40, c41, c42, c43, c44, c45, c46, c47, c48, c49, c50, c51, c52]
                                        rcases iteB_cases h with ⟨c53, h⟩ | ⟨c53, h⟩
                                        · simp -implicitDefEqProofs [h1, c2, c3, c4, c5, c6, c7, h11, h15, h19, h23, h27, h31, h35, h39, c40, c41, c42, c43, c44, c45, c46, c47, c48, c49, c50, c51, c52, c53]
                                          rcases iteB_cases h with ⟨c54, h⟩ | ⟨c54, h⟩
                                          · simp -implicitDefEqProofs [h1, c2, c3, c4, c5, c6, c7, h11, h15, h19, h23, h27, h31, h35, h39, c40, c41, c42, c43, c44, c45, c46, c47, c48, c49, c50, c51, c52, c53, c54]
                                            rcases iteB_cases h with ⟨c55, h⟩ | ⟨c55, h⟩
                                            · simp -implicitDefEqProofs [h1, c2, c3, c4, c5, c6, c7, h11, h15, h19, h23, h27, h31, h35, h39, c40, c41, c42, c43, c44, c45, c46, c47, c48, c49, c50, c51, c52, c53, c54, c55]
                                              rcases iteB_cases h with ⟨c56, h⟩ | ⟨c56, h⟩
                                              · simp -implicitDefEqProofs [h1, c2, c3, c4, c5, c6, c7, h11, h15, h19, h23, h27, h31, h35, h39, c40, c41, c42, c43, c44, c45, c46, c47, c48, c49, c50, c51, c52, c53, c54, c55, c56]
                                                rcases iteB_cases h with ⟨c57, h⟩ | ⟨c57, h⟩
                                                · simp -implicitDefEqProofs [h1, c2, c3, c4, c5, c6, c7, h11, h15, h19, h23, h27, h31, h35, h39, c40, c41, c42, c43, c44, c45, c46, c47, c48, c49, c50, c51, c52, c53, c54, c55, c56, c57]
                                                  rcases iteB_cases h with ⟨c58, h⟩ | ⟨c58, h⟩
                                                  · simp -implicitDefEqProofs [h1, c2, c3, c4, c5, c6, c7, h11, h15, h19, h23, h27, h31, h35, h39, c40, c41, c42, c43, c44, c45, c46, c47, c48, c49, c50, c51, c52, c53, c54, c55, c56, c57, c58]
                                                    rcases iteB_cases h with ⟨c59, h⟩ | ⟨c59, h⟩
                                                    · first | (cases h; done) | (simp -implicitDefEqProofs [h1, c2, c3, c4, c5, c6, c7, h11, h15, h19, h23, h27, h31, h35, h39, c40, c41, c42, c43, c44, c45, c46, c47, c48, c49, c50, c51, c52, c53, c54, c55, c56, c57, c58, c59]; first | rfl | (injection h with h; rw [h]; rfl) | (injection h with h; rw [h]))
                                                    · first | (cases h; done) | (simp -implicitDefEqProofs [h1, c2, c3, c4, c5, c6, c7, h11, h15, h19, h23, h27, h31, h35, h39, c40, c41, c42, c43, c44, c45, c46, c47, c48, c49, c50, c51, c52, c53, c54, c55, c56, c57, c58, c59]; first | rfl | (injection h with h; rw [h]; rfl) | (injection h with h; rw [h]))
                                                  · first | (cases h; done) | (simp -implicitDefEqProofs [h1, c2, c3, c4, c5, c6, c7, h11, h15, h19, h23, h27, h31, h35, h39, c40, c41, c42, c43, c44, c45, c46, c47, c48, c49, c50, c51, c52, c53, c54, c55, c56, c57, c58]; first | rfl | (injection h with h; rw [h]; rfl) | (injection h with h; rw [h]))
                                                · first | (cases h; done) | (simp -implicitDefEqProofs [h1, c2, c3, c4, c5, c6, c7, h11, h15, h19, h23, h27, h31, h35, h39, c40, c41, c42, c43, c44, c45, c46, c47, c48, c49, c50, c51, c52, c53, c54, c55, c56, c57]; first | rfl | (injection h with h; rw [h]; rfl) | (injection h with h; rw [h]))
                                              · first | (cases h; done) | (simp -implicitDefEqProofs [h1, c2, c3, c4, c5, c6, c7, h11, h15, h19, h23, h27, h31, h35, h39, c40, c41, c42, c43, c44, c45, c46, c47, c48, c49, c50, c51, c52, c53, c54, c55, c56]; first | rfl | (injection h with h; rw [h]; rfl) | (injection h with h; rw [h]))
                                            · first | (cases h; done) | (simp -implicitDefEqProofs [h1, c2, c3, c4, c5, c6, c7, h11, h15, h19, h23, h27, h31, h35, h39, c40, c41, c42, c43, c44, c45, c46, c47, c48, c49, c50, c51, c52, c53, c54, c55]; first | rfl | (injection h with h; rw [h]; rfl) | (injection h with h; rw [h]))
                                          · first | (cases h; done) | (simp -implicitDefEqProofs [h1, c2, c3, c4, c5, c6, c7, h11, h15, h19, h23, h27, h31, h35, h39, c40, c41, c42, c43, c44, c45, c46, c47, c48, c49, c50, c51, c52, c53, c54]; first | rfl | (injection h with h; rw [h]; rfl) | (injection h with h; rw [h]))
                                        · first | (cases h; done) | (simp -implicitDefEqProofs [h1, c2, c3, c4, c5, c6, c7, h11, h15, h19, h23, h27, h31, h35, h39, c40, c41, c42, c43, c44, c45, c46, c47, c48, c49, c50, c51, c52, c53]; first | rfl | (injection h with h; rw [h]; rfl) | (injection h with h; rw [h]))
                                      · first | (cases h; done) | (simp -implicitDefEqProofs [h1, c2, c3, c4, c5, c6, c7, h11, h15, h19, h23, h27, h31, h35, h39, c40, c41, c42, c43, c44, c45, c46, c47, c48, c49, c50, c51, c52]; first | rfl | (injection h with h; rw [h]; rfl) | (injection h with h; rw [h]))
                                    · first | (cases h; done) | (simp -implicitDefEqProofs [h1, c2, c3, c4, c5, c6, c7, h11, h15, h19, h23, h27, h31, h35, h39, c40, c41, c42, c43, c44, c45, c46, c47, c48, c49, c50, c51]; first | rfl | (injection h with h; rw [h]; rfl) | (injection h with h; rw [h]))
                                  · simp -implicitDefEqProofs [h1, c2, c3, c4, c5, c6, c7, h11, h15, h19, h23, h27, h31, h35, h39, c40, c41, c42, c43, c44, c45, c46, c47, c48, c49, c50]
                                    rcases iteB_cases h with ⟨c60, h⟩ | ⟨c60, h⟩
                                    · first | (cases h; done) | (simp -implicitDefEqProofs [h1, c2, c3, c4, c5, c6, c7, h11, h15, h19, h23, h27, h31, h35, h39, c40, c41, c42, c43, c44, c45, c46, c47, c48, c49, c50, c60]; first | rfl | (injection h with h; rw [h]; rfl) | (injection h with h; rw [h]))
                                    · first | (cases h; done) | (simp -implicitDefEqProofs [h1, c2, c3, c4, c5, c6, c7, h11, h15, h19, h23, h27, h31, h35, h39, c40, c41, c42, c43, c44, c45, c46, c47, c48, c49, c50, c60]; first | rfl | (injection h with h; rw [h]; rfl) | (injection h with h; rw [h]))
                                · simp -implicitDefEqProofs [h1, c2, c3, c4, c5, c6, c7, h11, h15, h19, h23, h27, h31, h35, h39, c40, c41, c42, c43, c44, c45, c46, c47, c48, c49]
                                  rcases iteB_cases h with ⟨c61, h⟩ | ⟨c61, h⟩
                                  · first | (cases h; done) | (simp -implicitDefEqProofs [h1, c2, c3, c4, c5, c6, c7, h11, h15, h19, h23, h27, h31, h35, h39, c40, c41, c42, c43, c44, c45, c46, c47, c48, c49, c61]; first | rfl | (injection h with h; rw [h]; rfl) | (injection h with h; rw [h]))
                                  · first | (cases h; done) | (simp -implicitDefEqProofs [h1, c2, c3, c4, c5, c6, c7, h11, h15, h19, h23, h27, h31, h35, h39, c40, c41, c42, c43, c44, c45, c46, c47, c48, c49, c61]; first | rfl | (injection h with h; rw [h]; rfl) | (injection h with h; rw [h]))
                              · simp -implicitDefEqProofs [h1, c2, c3, c4, c5, c6, c7, h11, h15, h19, h23, h27, h31, h35, h39, c40, c41, c42, c43, c44, c45, c46, c47, c48]
                                rcases iteB_cases h with ⟨c62, h⟩ | ⟨c62, h⟩
                                · first | (cases h; done) | (simp -implicitDefEqProofs [h1, c2, c3, c4, c5, c6, c7, h11, h15, h19, h23, h27, h31, h35, h39, c40, c41, c42, c43, c44, c45, c46, c47, c48, c62]; first | rfl | (injection h with h; rw [h]; rfl) | (injection h with h; rw [h]))
                                · first | (cases h; done) | (simp -implicitDefEqProofs [h1, c2, c3, c4, c5, c6, c7, h11, h15, h19, h23, h27, h31, h35, h39, c40, c41, c42, c43, c44, c45, c46, c47, c48, c62]; first | rfl | (injection h with h; rw [h]; rfl) | (injection h with h; rw [h]))
                            · simp -implicitDefEqProofs [h1, c2, c3, c4, c5, c6, c7, h11, h15, h19, h23, h27, h31, h35, h39, c40, c41, c42, c43, c44, c45, c46, c47]
                              rcases iteB_cases h with ⟨c63, h⟩ | ⟨c63, h⟩
                              · first | (cases h; done) | (simp -implicitDefEqProofs [h1, c2, c3, c4, c5, c6, c7, h11, h15, h19, h23, h27, h31, h35, h39, c40, c41, c42, c43, c44, c45, c46, c47, c63]; first | rfl | (injection h with h; rw [h]; rfl) | (injection h with h; rw [h]))
                              · first | (cases h; done) | (simp -implicitDefEqProofs [h1, c2, c3, c4, c5, c6, c7, h11, h15, h19, h23, h27, h31, h35, h39, c40, c41, c42, c43, c44, c45, c46, c47, c63]; first | rfl | (injection h with h; rw [h]; rfl) | (injection h with h; rw [h]))
                          · simp -implicitDefEqProofs [h1, c2, c3, c4, c5, c6, c7, h11, h15, h19, h23, h27, h31, h35, h39, c40, c41, c42, c43, c44, c45, c46]
                            rcases iteB_cases h with ⟨c64, h⟩ | ⟨c64, h⟩
                            · first | (cases h; done) | (simp -implicitDefEqProofs [h1, c2, c3, c4, c5, c6, c7, h11, h15, h19, h23, h27, h31, h35, h39, c40, c41, c42, c43, c44, c45, c46, c64]; first | rfl | (injection h with h; rw [h]; rfl) | (injection h with h; rw [h]))
                            · first | (cases h; done) | (simp -implicitDefEqProofs [h1, c2, c3, c4, c5, c6, c7, h11, h15, h19, h23, h27, h31, h35, h39, c40, c41, c42, c43, c44, c45, c46, c64]; first | rfl | (injection h with h; rw [h]; rfl) | (injection h with h; rw [h]))
                        · simp -implicitDefEqProofs [h1, c2, c3, c4, c5, c6, c7, h11, h15, h19, h23, h27, h31, h35, h39, c40, c41, c42, c43, c44, c45]
                          rcases iteB_cases h with ⟨c65, h⟩ | ⟨c65, h⟩
                          · first | (cases h; done) | (simp -implicitDefEqProofs [h1, c2, c3, c4, c5, c6, c7, h11, h15, h19, h23, h27, h31, h35, h39, c40, c41, c42, c43, c44, c45, c65]; first | rfl | (injection h with h; rw [h]; rfl) | (injection h with h; rw [h]))
                          · first | (cases h; done) | (simp -implicitDefEqProofs [h1, c2, c3, c4, c5, c6, c7, h11, h15, h19, h23, h27, h31, h35, h39, c40, c41, c42, c43, c44, c45, c65]; first | rfl | (injection h with h; rw [h]; rfl) | (injection h with h; rw [h]))
                      · simp -implicitDefEqProofs [h1, c2, c3, c4, c5, c6, c7, h11, h15, h19, h23, h27, h31, h35, h39, c40, c41, c42, c43, c44]
                        rcases iteB_cases h with ⟨c66, h⟩ | ⟨c66, h⟩
                        · first | (cases h; done) | (simp -implicitDefEqProofs [h1, c2, c3, c4, c5, c6, c7, h11, h15, h19, h23, h27, h31, h35, h39, c40, c41, c42, c43, c44, c66]; first | rfl | (injection h with h; rw [h]; rfl) | (injection h with h; rw [h]))
                        · first | (cases h; done) | (simp -implicitDefEqProofs [h1, c2, c3, c4, c5, c6, c7, h11, h15, h19, h23, h27, h31, h35, h39, c40, c41, c42, c43, c44, c66]; first | rfl | (injection h with h; rw [h]; rfl) | (injection h with h; rw [h]))
                    · simp -implicitDefEqProofs [h1, c2, c3, c4, c5, c6, c7, h11, h15, h19, h23, h27, h31, h35, h39, c40, c41, c42, c43]
                      rcases iteB_cases h with ⟨c67, h⟩ | ⟨c67, h⟩
                      · first | (cases h; done) | (simp -implicitDefEqProofs [h1, c2, c3, c4, c5, c6, c7, h11, h15, h19, h23, h27, h31, h35, h39, c40, c41, c42, c43, c67]; first | rfl | (injection h with h; rw [h]; rfl) | (injection h with h; rw [h]))
                      · first | (cases h; done) | (simp -implicitDefEqProofs [h1, c2, c3, c4, c5, c6, c7, h11, h15, h19, h23, h27, h31, h35, h39, c40, c41, c42, c43, c67]; first | rfl | (injection h with h; rw [h]; rfl) | (injection h with h; rw [h]))
                  · simp -implicitDefEqProofs [h1, c2, c3, c4, c5, c6, c7, h11, h15, h19, h23, h27, h31, h35, h39, c40, c41, c42]
                    rcases iteB_cases h with ⟨c68, h⟩ | ⟨c68, h⟩
                    · first | (cases h; done) | (simp -implicitDefEqProofs [h1, c2, c3, c4, c5, c6, c7, h11, h15, h19, h23, h27, h31, h35, h39, c40, c41, c42, c68]; first | rfl | (injection h with h; rw [h]; rfl) | (injection h with h; rw [h]))
                    · first | (cases h; done) | (simp -implicitDefEqProofs [h1, c2, c3, c4, c5, c6, c7, h11, h15, h19, h23, h27, h31, h35, h39, c40, c41, c42, c68]; first | rfl | (injection h with h; rw [h]; rfl) | (injection h with h; rw [h]))
                · simp -implicitDefEqProofs [h1, c2, c3, c4, c5, c6, c7, h11, h15, h19, h23, h27, h31, h35, h39, c40, c41]
                  rcases iteB_cases h with ⟨c69, h⟩ | ⟨c69, h⟩
                  · first | (cases h; done) | (simp -implicitDefEqProofs [h1, c2, c3, c4, c5, c6, c7, h11, h15, h19, h23, h27, h31, h35, h39, c40, c41, c69]; first | rfl | (injection h with h; rw [h]; rfl) | (injection h with h; rw [h]))
                  · first | (cases h; done) | (simp -implicitDefEqProofs [h1, c2, c3, c4, c5, c6, c7, h11, h15, h19, h23, h27, h31, h35, h39, c40, c41, c69]; first | rfl | (injection h with h; rw [h]; rfl) | (injection h with h; rw [h]))
              · simp -implicitDefEqProofs [h1, c2, c3, c4, c5, c6, c7, h11, h15, h19, h23, h27, h31, h35, h39, c40]
                rcases iteB_cases h with ⟨c70, h⟩ | ⟨c70, h⟩
                · first | (cases h; done) | (simp -implicitDefEqProofs [h1, c2, c3, c4, c5, c6, c7, h11, h15, h19, h23, h27, h31, h35, h39, c40, c70]; first | rfl | (injection h with h; rw [h]; rfl) | (injection h with h; rw [h]))
                · first | (cases h; done) | (simp -implicitDefEqProofs [h1, c2, c3, c4, c5, c6, c7, h11, h15, h19, h23, h27, h31, h35, h39, c40, c70]; first | rfl | (injection h with h; rw [h]; rfl) | (injection h with h; rw [h]))
            · simp -implicitDefEqProofs [h1, c2, c3, c4, c5, c6, c7]
              cases h
          · simp -implicitDefEqProofs [h1, c2, c3, c4, c5, c6]
            cases h
theorem w_law01_LexBack (n : Int) (m : Int) (b : List Int) (h : law01_LexBack n m b = some true) : ev 5 [T.c (C.lit (Value.int IntKind.i64 n)), T.c (C.lit (Value.int IntKind.i64 m)), T.c (sls 1 byteF b)] = some (T.c (C.lit (Value.bool true)), []) := by
  refine ev_run' (kp := k5) (us := [4]) fn5 rfl rfl rfl rfl rfl (by kernel_rfl) (by simp) ?_
  unfold law01_LexBack at h
  simp -implicitDefEqProofs
  obtain ⟨v0, h1', h⟩ := bind_some' h
  have h1 : ev 9 [] = some (T.c (C.lit (Value.bool v0)), []) := w_law01_shown _ h1'
  simp -implicitDefEqProofs [h1]
  rcases iteB_cases h with ⟨c2, h⟩ | ⟨c2, h⟩
  · first | (cases h; done) | (simp -implicitDefEqProofs [h1, c2]; first | rfl | (injection h with h; rw [h]; rfl) | (injection h with h; rw [h]))
  · simp -implicitDefEqProofs [h1, c2]
    obtain ⟨⟨v3, v4, v5⟩, h6', h⟩ := bind_some' h
    have h6 : ev 12 [T.c (sls 1 byteF b), T.c (C.lit (Value.int IntKind.i64 0))] = some (T.tup [T.c (C.lit (Value.int IntKind.i64 v3)), T.c (C.lit (Value.int IntKind.i64 v4)), T.c (C.lit (Value.int IntKind.i64 v5))], []) := w_lex_Take _ _ _ h6'
    simp -implicitDefEqProofs [h1, c2, h6]
    rcases iteB_cases h with ⟨c7, h⟩ | ⟨c7, h⟩
    · simp -implicitDefEqProofs [h1, c2, h6, c7]
      obtain ⟨v8, h9', h⟩ := bind_some' h
      have h9 : ev 17 [T.c (C.lit (Value.int IntKind.i64 v3))] = some (T.c (C.ref 0 0 (lenN v8)), [rowO 5 1 byteF v8]) := w_lex_Put _ _ h9'
      simp -implicitDefEqProofs [h1, c2, h6, c7, h9]
      rcases iteB_cases h with ⟨c10, h⟩ | ⟨c10, h⟩
      · simp -implicitDefEqProofs [h1, c2, h6, c7, h9, c10]
        obtain ⟨v11, h12', h⟩ := bind_some' h
        have h12 : ev 16 [T.c (sls 1 byteF v8), T.c (sls 1 byteF (cut b 0 v4))] = some (T.c (C.lit (Value.bool v11)), []) := w_ref01_Row _ _ _ h12'
        simp -implicitDefEqProofs [h1, c2, h6, c7, h9, c10, h12]
        rcases iteB_cases h with ⟨c13, h⟩ | ⟨c13, h⟩
        · simp -implicitDefEqProofs [h1, c2, h6, c7, h9, c10, h12, c13]
          obtain ⟨v14, h15', h⟩ := bind_some' h
          have h15 : ev 17 [T.c (C.lit (Value.int IntKind.i64 n))] = some (T.c (C.ref 0 0 (lenN v14)), [rowO 5 1 byteF v14]) := w_lex_Put _ _ h15'
          simp -implicitDefEqProofs [h1, c2, h6, c7, h9, c10, h12, c13, h15]
          rcases iteB_cases h with ⟨c16, h⟩ | ⟨c16, h⟩
          · simp -implicitDefEqProofs [h1, c2, h6, c7, h9, c10, h12, c13, h15, c16]
            rcases iteB_cases h with ⟨c17, h⟩ | ⟨c17, h⟩
            · first | (cases h; done) | (simp -implicitDefEqProofs [h1, c2, h6, c7, h9, c10, h12, c13, h15, c16, c17]; first | rfl | (injection h with h; rw [h]; rfl) | (injection h with h; rw [h]))
            · first | (cases h; done) | (simp -implicitDefEqProofs [h1, c2, h6, c7, h9, c10, h12, c13, h15, c16, c17]; first | rfl | (injection h with h; rw [h]; rfl) | (injection h with h; rw [h]))
          · simp -implicitDefEqProofs [h1, c2, h6, c7, h9, c10, h12, c13, h15, c16]
            rcases iteB_cases h with ⟨c18, h⟩ | ⟨c18, h⟩
            · simp -implicitDefEqProofs [h1, c2, h6, c7, h9, c10, h12, c13, h15, c16, c18]
              rcases iteB_cases h with ⟨c19, h⟩ | ⟨c19, h⟩
              · first | (cases h; done) | (simp -implicitDefEqProofs [h1, c2, h6, c7, h9, c10, h12, c13, h15, c16, c18, c19]; first | rfl | (injection h with h; rw [h]; rfl) | (injection h with h; rw [h]))
              · first | (cases h; done) | (simp -implicitDefEqProofs [h1, c2, h6, c7, h9, c10, h12, c13, h15, c16, c18, c19]; first | rfl | (injection h with h; rw [h]; rfl) | (injection h with h; rw [h]))
            · simp -implicitDefEqProofs [h1, c2, h6, c7, h9, c10, h12, c13, h15, c16, c18]
              rcases iteB_cases h with ⟨c20, h⟩ | ⟨c20, h⟩
              · simp -implicitDefEqProofs [h1, c2, h6, c7, h9, c10, h12, c13, h15, c16, c18, c20]
                rcases iteB_cases h with ⟨c21, h⟩ | ⟨c21, h⟩
                · simp -implicitDefEqProofs [h1, c2, h6, c7, h9, c10, h12, c13, h15, c16, c18, c20, c21]
                  obtain ⟨⟨v22, v23, v24⟩, h25', h⟩ := bind_some' h
                  have h25 : ev 12 [T.c (sls 1 byteF (v14 ++ b)), T.c (C.lit (Value.int IntKind.i64 0))] = some (T.tup [T.c (C.lit (Value.int IntKind.i64 v22)), T.c (C.lit (Value.int IntKind.i64 v23)), T.c (C.lit (Value.int IntKind.i64 v24))], []) := w_lex_Take _ _ _ h25'
                  simp -implicitDefEqProofs [h1, c2, h6, c7, h9, c10, h12, c13, h15, c16, c18, c20, c21, h25]
                  obtain ⟨v26, h27', h⟩ := bind_some' h
                  have h27 : ev 17 [T.c (C.lit (Value.int IntKind.i64 m))] = some (T.c (C.ref 0 0 (lenN v26)), [rowO 5 1 byteF v26]) := w_lex_Put _ _ h27'
                  simp -implicitDefEqProofs [h1, c2, h6, c7, h9, c10, h12, c13, h15, c16, c18, c20, c21, h25, h27]
                  rcases iteB_cases h with ⟨c28, h⟩ | ⟨c28, h⟩
                  · simp -implicitDefEqProofs [h1, c2, h6, c7, h9, c10, h12, c13, h15, c16, c18, c20, c21, h25, h27, c28]
                    rcases iteB_cases h with ⟨c29, h⟩ | ⟨c29, h⟩
                    · simp -implicitDefEqProofs [h1, c2, h6, c7, h9, c10, h12, c13, h15, c16, c18, c20, c21, h25, h27, c28, c29]
                      rcases iteB_cases h with ⟨c30, h⟩ | ⟨c30, h⟩
                      · simp -implicitDefEqProofs [h1, c2, h6, c7, h9, c10, h12, c13, h15, c16, c18, c20, c21, h25, h27, c28, c29, c30]
                        rcases iteB_cases h with ⟨c31, h⟩ | ⟨c31, h⟩
                        · simp -implicitDefEqProofs [h1, c2, h6, c7, h9, c10, h12, c13, h15, c16, c18, c20, c21, h25, h27, c28, c29, c30, c31]
                          rcases iteB_cases h with ⟨c32, h⟩ | ⟨c32, h⟩
                          · simp -implicitDefEqProofs [h1, c2, h6, c7, h9, c10, h12, c13, h15, c16, c18, c20, c21, h25, h27, c28, c29, c30, c31, c32]
                            rcases iteB_cases h with ⟨c33, h⟩ | ⟨c33, h⟩
                            · first | (cases h; done) | (simp -implicitDefEqProofs [h1, c2, h6, c7, h9, c10, h12, c13, h15, c16, c18, c20, c21, h25, h27, c28, c29, c30, c31, c32, c33]; first | rfl | (injection h with h; rw [h]; rfl) | (injection h with h; rw [h]))
                            · simp -implicitDefEqProofs [h1, c2, h6, c7, h9, c10, h12, c13, h15, c16, c18, c20, c21, h25, h27, c28, c29, c30, c31, c32, c33]
                              rcases iteB_cases h with ⟨c34, h⟩ | ⟨c34, h⟩
                              · first | (cases h; done) | (simp -implicitDefEqProofs [h1, c2, h6, c7, h9, c10, h12, c13, h15, c16, c18, c20, c21, h25, h27, c28, c29, c30, c31, c32, c33, c34]; first | rfl | (injection h with h; rw [h]; rfl) | (injection h with h; rw [h]))
                              · first | (cases h; done) | (simp -implicitDefEqProofs [h1, c2, h6, c7, h9, c10, h12, c13, h15, c16, c18, c20, c21, h25, h27, c28, c29, c30, c31, c32, c33, c34]; first | rfl | (injection h with h; rw [h]; rfl) | (injection h with h; rw [h]))
                          · first | (cases h; done) | (simp -implicitDefEqProofs [h1, c2, h6, c7, h9, c10, h12, c13, h15, c16, c18, c20, c21, h25, h27, c28, c29, c30, c31, c32]; first | rfl | (injection h with h; rw [h]; rfl) | (injection h with h; rw [h]))
                        · first | (cases h; done) | (simp -implicitDefEqProofs [h1, c2, h6, c7, h9, c10, h12, c13, h15, c16, c18, c20, c21, h25, h27, c28, c29, c30, c31]; first | rfl | (injection h with h; rw [h]; rfl) | (injection h with h; rw [h]))
                      · first | (cases h; done) | (simp -implicitDefEqProofs [h1, c2, h6, c7, h9, c10, h12, c13, h15, c16, c18, c20, c21, h25, h27, c28, c29, c30]; first | rfl | (injection h with h; rw [h]; rfl) | (injection h with h; rw [h]))
                    · first | (cases h; done) | (simp -implicitDefEqProofs [h1, c2, h6, c7, h9, c10, h12, c13, h15, c16, c18, c20, c21, h25, h27, c28, c29]; first | rfl | (injection h with h; rw [h]; rfl) | (injection h with h; rw [h]))
                  · first | (cases h; done) | (simp -implicitDefEqProofs [h1, c2, h6, c7, h9, c10, h12, c13, h15, c16, c18, c20, c21, h25, h27, c28]; first | rfl | (injection h with h; rw [h]; rfl) | (injection h with h; rw [h]))
                · simp -implicitDefEqProofs [h1, c2, h6, c7, h9, c10, h12, c13, h15, c16, c18, c20, c21]
                  cases h
              · simp -implicitDefEqProofs [h1, c2, h6, c7, h9, c10, h12, c13, h15, c16, c18, c20]
                cases h
        · first | (cases h; done) | (simp -implicitDefEqProofs [h1, c2, h6, c7, h9, c10, h12, c13]; first | rfl | (injection h with h; rw [h]; rfl) | (injection h with h; rw [h]))
      · simp -implicitDefEqProofs [h1, c2, h6, c7, h9, c10]
        cases h
    · simp -implicitDefEqProofs [h1, c2, h6, c7]
      obtain ⟨v35, h36', h⟩ := bind_some' h
      have h36 : ev 17 [T.c (C.lit (Value.int IntKind.i64 n))] = some (T.c (C.ref 0 0 (lenN v35)), [rowO 5 1 byteF v35]) := w_lex_Put _ _ h36'
      simp -implicitDefEqProofs [h1, c2, h6, c7, h36]
      rcases iteB_cases h with ⟨c37, h⟩ | ⟨c37, h⟩
      · simp -implicitDefEqProofs [h1, c2, h6, c7, h36, c37]
        rcases iteB_cases h with ⟨c38, h⟩ | ⟨c38, h⟩
        · first | (cases h; done) | (simp -implicitDefEqProofs [h1, c2, h6, c7, h36, c37, c38]; first | rfl | (injection h with h; rw [h]; rfl) | (injection h with h; rw [h]))
        · first | (cases h; done) | (simp -implicitDefEqProofs [h1, c2, h6, c7, h36, c37, c38]; first | rfl | (injection h with h; rw [h]; rfl) | (injection h with h; rw [h]))
      · simp -implicitDefEqProofs [h1, c2, h6, c7, h36, c37]
        rcases iteB_cases h with ⟨c39, h⟩ | ⟨c39, h⟩
        · simp -implicitDefEqProofs [h1, c2, h6, c7, h36, c37, c39]
          rcases iteB_cases h with ⟨c40, h⟩ | ⟨c40, h⟩
          · first | (cases h; done) | (simp -implicitDefEqProofs [h1, c2, h6, c7, h36, c37, c39, c40]; first | rfl | (injection h with h; rw [h]; rfl) | (injection h with h; rw [h]))
          · first | (cases h; done) | (simp -implicitDefEqProofs [h1, c2, h6, c7, h36, c37, c39, c40]; first | rfl | (injection h with h; rw [h]; rfl) | (injection h with h; rw [h]))
        · simp -implicitDefEqProofs [h1, c2, h6, c7, h36, c37, c39]
          rcases iteB_cases h with ⟨c41, h⟩ | ⟨c41, h⟩
          · simp -implicitDefEqProofs [h1, c2, h6, c7, h36, c37, c39, c41]
            rcases iteB_cases h with ⟨c42, h⟩ | ⟨c42, h⟩
            · simp -implicitDefEqProofs [h1, c2, h6, c7, h36, c37, c39, c41, c42]
              obtain ⟨⟨v43, v44, v45⟩, h46', h⟩ := bind_some' h
              have h46 : ev 12 [T.c (sls 1 byteF (v35 ++ b)), T.c (C.lit (Value.int IntKind.i64 0))] = some (T.tup [T.c (C.lit (Value.int IntKind.i64 v43)), T.c (C.lit (Value.int IntKind.i64 v44)), T.c (C.lit (Value.int IntKind.i64 v45))], []) := w_lex_Take _ _ _ h46'
              simp -implicitDefEqProofs [h1, c2, h6, c7, h36, c37, c39, c41, c42, h46]
              obtain ⟨v47, h48', h⟩ := bind_some' h
              have h48 : ev 17 [T.c (C.lit (Value.int IntKind.i64 m))] = some (T.c (C.ref 0 0 (lenN v47)), [rowO 5 1 byteF v47]) := w_lex_Put _ _ h48'
              simp -implicitDefEqProofs [h1, c2, h6, c7, h36, c37, c39, c41, c42, h46, h48]
              rcases iteB_cases h with ⟨c49, h⟩ | ⟨c49, h⟩
              · simp -implicitDefEqProofs [h1, c2, h6, c7, h36, c37, c39, c41, c42, h46, h48, c49]
                rcases iteB_cases h with ⟨c50, h⟩ | ⟨c50, h⟩
                · simp -implicitDefEqProofs [h1, c2, h6, c7, h36, c37, c39, c41, c42, h46, h48, c49, c50]
                  rcases iteB_cases h with ⟨c51, h⟩ | ⟨c51, h⟩
                  · simp -implicitDefEqProofs [h1, c2, h6, c7, h36, c37, c39, c41, c42, h46, h48, c49, c50, c51]
                    rcases iteB_cases h with ⟨c52, h⟩ | ⟨c52, h⟩
                    · simp -implicitDefEqProofs [h1, c2, h6, c7, h36, c37, c39, c41, c42, h46, h48, c49, c50, c51, c52]
                      rcases iteB_cases h with ⟨c53, h⟩ | ⟨c53, h⟩
                      · simp -implicitDefEqProofs [h1, c2, h6, c7, h36, c37, c39, c41, c42, h46, h48, c49, c50, c51, c52, c53]
                        rcases iteB_cases h with ⟨c54, h⟩ | ⟨c54, h⟩
                        · first | (cases h; done) | (simp -implicitDefEqProofs [h1, c2, h6, c7, h36, c37, c39, c41, c42, h46, h48, c49, c50, c51, c52, c53, c54]; first | rfl | (injection h with h; rw [h]; rfl) | (injection h with h; rw [h]))
                        · simp -implicitDefEqProofs [h1, c2, h6, c7, h36, c37, c39, c41, c42, h46, h48, c49, c50, c51, c52, c53, c54]
                          rcases iteB_cases h with ⟨c55, h⟩ | ⟨c55, h⟩
                          · first | (cases h; done) | (simp -implicitDefEqProofs [h1, c2, h6, c7, h36, c37, c39, c41, c42, h46, h48, c49, c50, c51, c52, c53, c54, c55]; first | rfl | (injection h with h; rw [h]; rfl) | (injection h with h; rw [h]))
                          · first | (cases h; done) | (simp -implicitDefEqProofs [h1, c2, h6, c7, h36, c37, c39, c41, c42, h46, h48, c49, c50, c51, c52, c53, c54, c55]; first | rfl | (injection h with h; rw [h]; rfl) | (injection h with h; rw [h]))
                      · first | (cases h; done) | (simp -implicitDefEqProofs [h1, c2, h6, c7, h36, c37, c39, c41, c42, h46, h48, c49, c50, c51, c52, c53]; first | rfl | (injection h with h; rw [h]; rfl) | (injection h with h; rw [h]))
                    · first | (cases h; done) | (simp -implicitDefEqProofs [h1, c2, h6, c7, h36, c37, c39, c41, c42, h46, h48, c49, c50, c51, c52]; first | rfl | (injection h with h; rw [h]; rfl) | (injection h with h; rw [h]))
                  · first | (cases h; done) | (simp -implicitDefEqProofs [h1, c2, h6, c7, h36, c37, c39, c41, c42, h46, h48, c49, c50, c51]; first | rfl | (injection h with h; rw [h]; rfl) | (injection h with h; rw [h]))
                · first | (cases h; done) | (simp -implicitDefEqProofs [h1, c2, h6, c7, h36, c37, c39, c41, c42, h46, h48, c49, c50]; first | rfl | (injection h with h; rw [h]; rfl) | (injection h with h; rw [h]))
              · first | (cases h; done) | (simp -implicitDefEqProofs [h1, c2, h6, c7, h36, c37, c39, c41, c42, h46, h48, c49]; first | rfl | (injection h with h; rw [h]; rfl) | (injection h with h; rw [h]))
            · simp -implicitDefEqProofs [h1, c2, h6, c7, h36, c37, c39, c41, c42]
              cases h
          · simp -implicitDefEqProofs [h1, c2, h6, c7, h36, c37, c39, c41]
            cases h
theorem w_law01_LexNumbers (with_ : LexNumbersIn_law01) (h : law01_LexNumbers with_ = some true) : ev 6 [T.agg (LexNumbersIn_law01.cells with_)] = some (T.c (C.lit (Value.bool true)), []) := by
  refine ev_run' (kp := k6) (us := [4]) fn6 rfl rfl rfl rfl rfl (by kernel_rfl) (by simp) ?_
  unfold law01_LexNumbers at h
  simp
  obtain ⟨v0, h1', h⟩ := bind_some' h
  have h1 : ev 9 [] = some (T.c (C.lit (Value.bool v0)), []) := w_law01_shown _ h1'
  simp [h1]
  rcases iteB_cases h with ⟨c2, h⟩ | ⟨c2, h⟩
  · first | (cases h; done) | (simp [h1, c2]; first | rfl | (injection h with h; rw [h]; rfl) | (injection h with h; rw [h]))
  · simp [h1, c2]
    rcases iteB_cases h with ⟨c3, h⟩ | ⟨c3, h⟩
    · first | (cases h; done) | (simp [h1, c2, c3]; first | rfl | (injection h with h; rw [h]; rfl) | (injection h with h; rw [h]))
    · simp [h1, c2, c3]
      rcases iteB_cases h with ⟨c4, h⟩ | ⟨c4, h⟩
      · simp [h1, c2, c3, c4]
        obtain ⟨v5, h6, h⟩ := bind_some' h
        simp [h1, c2, c3, c4, h6]
        rcases iteB_cases h with ⟨c7, h⟩ | ⟨c7, h⟩
        · simp [h1, c2, c3, c4, h6, c7]
          rcases iteB_cases h with ⟨c8, h⟩ | ⟨c8, h⟩
          · first | (cases h; done) | (simp [h1, c2, c3, c4, h6, c7, c8]; first | rfl | (injection h with h; rw [h]; rfl) | (injection h with h; rw [h]))
          · simp [h1, c2, c3, c4, h6, c7, c8]
            obtain ⟨v9, h10', h⟩ := bind_some' h
            have h10 : ev 21 [T.c (C.lit (Value.int IntKind.i64 (iconv IntKind.i64 with_.n)))] = some (T.c (C.ref 0 0 (lenN v9)), [rowO 5 1 byteF v9]) := w_law01_figures _ _ h10'
            simp [h1, c2, c3, c4, h6, c7, c8, h10]
            rcases iteB_cases h with ⟨c11, h⟩ | ⟨c11, h⟩
            · simp [h1, c2, c3, c4, h6, c7, c8, h10, c11]
              rcases iteB_cases h with ⟨c12, h⟩ | ⟨c12, h⟩
              · simp [h1, c2, c3, c4, h6, c7, c8, h10, c11, c12]
                rcases iteB_cases h with ⟨c13, h⟩ | ⟨c13, h⟩
                · simp [h1, c2, c3, c4, h6, c7, c8, h10, c11, c12, c13]
                  obtain ⟨⟨v14, v15, v16⟩, h17', h⟩ := bind_some' h
                  have h17 : ev 22 [T.c (sls 1 byteF (with_.a ++ (v9 ++ with_.b))), T.c (C.lit (Value.int IntKind.i64 (lenI with_.a))), T.c (C.lit (Value.int IntKind.i64 with_.most))] = some (T.tup [T.c (C.lit (Value.int IntKind.i64 v14)), T.c (C.lit (Value.int IntKind.i64 v15)), T.c (C.lit (Value.int IntKind.i64 v16))], []) := w_lex_Number _ _ _ _ h17'
                  simp [h1, c2, c3, c4, h6, c7, c8, h10, c11, c12, c13, h17]
                  rcases iteB_cases h with ⟨c18, h⟩ | ⟨c18, h⟩
                  · simp [h1, c2, c3, c4, h6, c7, c8, h10, c11, c12, c13, h17, c18]
                    rcases iteB_cases h with ⟨c19, h⟩ | ⟨c19, h⟩
                    · simp [h1, c2, c3, c4, h6, c7, c8, h10, c11, c12, c13, h17, c18, c19]
                      rcases iteB_cases h with ⟨c20, h⟩ | ⟨c20, h⟩
                      · simp [h1, c2, c3, c4, h6, c7, c8, h10, c11, c12, c13, h17, c18, c19, c20]
                        rcases iteB_cases h with ⟨c21, h⟩ | ⟨c21, h⟩
                        · first | (cases h; done) | (simp [h1, c2, c3, c4, h6, c7, c8, h10, c11, c12, c13, h17, c18, c19, c20, c21]; first | rfl | (injection h with h; rw [h]; rfl) | (injection h with h; rw [h]))
                        · first | (cases h; done) | (simp [h1, c2, c3, c4, h6, c7, c8, h10, c11, c12, c13, h17, c18, c19, c20, c21]; first | rfl | (injection h with h; rw [h]; rfl) | (injection h with h; rw [h]))
                      · first | (cases h; done) | (simp [h1, c2, c3, c4, h6, c7, c8, h10, c11, c12, c13, h17, c18, c19, c20]; first | rfl | (injection h with h; rw [h]; rfl) | (injection h with h; rw [h]))
                    · first | (cases h; done) | (simp [h1, c2, c3, c4, h6, c7, c8, h10, c11, c12, c13, h17, c18, c19]; first | rfl | (injection h with h; rw [h]; rfl) | (injection h with h; rw [h]))
                  · simp [h1, c2, c3, c4, h6, c7, c8, h10, c11, c12, c13, h17, c18]
                    rcases iteB_cases h with ⟨c22, h⟩ | ⟨c22, h⟩
                    · simp [h1, c2, c3, c4, h6, c7, c8, h10, c11, c12, c13, h17, c18, c22]
                      rcases iteB_cases h with ⟨c23, h⟩ | ⟨c23, h⟩
                      · simp [h1, c2, c3, c4, h6, c7, c8, h10, c11, c12, c13, h17, c18, c22, c23]
                        rcases iteB_cases h with ⟨c24, h⟩ | ⟨c24, h⟩
                        · simp [h1, c2, c3, c4, h6, c7, c8, h10, c11, c12, c13, h17, c18, c22, c23, c24]
                          rcases iteB_cases h with ⟨c25, h⟩ | ⟨c25, h⟩
                          · first | (cases h; done) | (simp [h1, c2, c3, c4, h6, c7, c8, h10, c11, c12, c13, h17, c18, c22, c23, c24, c25]; first | rfl | (injection h with h; rw [h]; rfl) | (injection h with h; rw [h]))
                          · first | (cases h; done) | (simp [h1, c2, c3, c4, h6, c7, c8, h10, c11, c12, c13, h17, c18, c22, c23, c24, c25]; first | rfl | (injection h with h; rw [h]; rfl) | (injection h with h; rw [h]))
                        · first | (cases h; done) | (simp [h1, c2, c3, c4, h6, c7, c8, h10, c11, c12, c13, h17, c18, c22, c23, c24]; first | rfl | (injection h with h; rw [h]; rfl) | (injection h with h; rw [h]))
                      · first | (cases h; done) | (simp [h1, c2, c3, c4, h6, c7, c8, h10, c11, c12, c13, h17, c18, c22, c23]; first | rfl | (injection h with h; rw [h]; rfl) | (injection h with h; rw [h]))
                    · simp [h1, c2, c3, c4, h6, c7, c8, h10, c11, c12, c13, h17, c18, c22]
                      rcases iteB_cases h with ⟨c26, h⟩ | ⟨c26, h⟩
                      · simp [h1, c2, c3, c4, h6, c7, c8, h10, c11, c12, c13, h17, c18, c22, c26]
                        obtain ⟨v27, h28, h⟩ := bind_some' h
                        simp [h1, c2, c3, c4, h6, c7, c8, h10, c11, c12, c13, h17, c18, c22, c26, h28]
                        obtain ⟨⟨v29, v30, v31⟩, h32', h⟩ := bind_some' h
                        have h32 : ev 22 [T.c (sls 1 byteF ((with_.a ++ (v9 ++ with_.b)).set (lenN with_.a) 48)), T.c (C.lit (Value.int IntKind.i64 (lenI with_.a))), T.c (C.lit (Value.int IntKind.i64 with_.most))] = some (T.tup [T.c (C.lit (Value.int IntKind.i64 v29)), T.c (C.lit (Value.int IntKind.i64 v30)), T.c (C.lit (Value.int IntKind.i64 v31))], []) := w_lex_Number _ _ _ _ h32'
                        simp [h1, c2, c3, c4, h6, c7, c8, h10, c11, c12, c13, h17, c18, c22, c26, h28, h32]
                        rcases iteB_cases h with ⟨c33, h⟩ | ⟨c33, h⟩
                        · simp [h1, c2, c3, c4, h6, c7, c8, h10, c11, c12, c13, h17, c18, c22, c26, h28, h32, c33]
                          rcases iteB_cases h with ⟨c34, h⟩ | ⟨c34, h⟩
                          · simp [h1, c2, c3, c4, h6, c7, c8, h10, c11, c12, c13, h17, c18, c22, c26, h28, h32, c33, c34]
                            rcases iteB_cases h with ⟨c35, h⟩ | ⟨c35, h⟩
                            · simp [h1, c2, c3, c4, h6, c7, c8, h10, c11, c12, c13, h17, c18, c22, c26, h28, h32, c33, c34, c35]
                              rcases iteB_cases h with ⟨c36, h⟩ | ⟨c36, h⟩
                              · first | (cases h; done) | (simp [h1, c2, c3, c4, h6, c7, c8, h10, c11, c12, c13, h17, c18, c22, c26, h28, h32, c33, c34, c35, c36]; first | rfl | (injection h with h; rw [h]; rfl) | (injection h with h; rw [h]))
                              · first | (cases h; done) | (simp [h1, c2, c3, c4, h6, c7, c8, h10, c11, c12, c13, h17, c18, c22, c26, h28, h32, c33, c34, c35, c36]; first | rfl | (injection h with h; rw [h]; rfl) | (injection h with h; rw [h]))
                            · first | (cases h; done) | (simp [h1, c2, c3, c4, h6, c7, c8, h10, c11, c12, c13, h17, c18, c22, c26, h28, h32, c33, c34, c35]; first | rfl | (injection h with h; rw [h]; rfl) | (injection h with h; rw [h]))
                          · first | (cases h; done) | (simp [h1, c2, c3, c4, h6, c7, c8, h10, c11, c12, c13, h17, c18, c22, c26, h28, h32, c33, c34]; first | rfl | (injection h with h; rw [h]; rfl) | (injection h with h; rw [h]))
                        · first | (cases h; done) | (simp [h1, c2, c3, c4, h6, c7, c8, h10, c11, c12, c13, h17, c18, c22, c26, h28, h32, c33]; first | rfl | (injection h with h; rw [h]; rfl) | (injection h with h; rw [h]))
                      · simp [h1, c2, c3, c4, h6, c7, c8, h10, c11, c12, c13, h17, c18, c22, c26]
                        cases h
                · simp [h1, c2, c3, c4, h6, c7, c8, h10, c11, c12, c13]
                  cases h
              · simp [h1, c2, c3, c4, h6, c7, c8, h10, c11, c12]
                cases h
            · simp [h1, c2, c3, c4, h6, c7, c8, h10, c11]
              cases h
        · simp [h1, c2, c3, c4, h6, c7]
          obtain ⟨v37, h38', h⟩ := bind_some' h
          have h38 : ev 21 [T.c (C.lit (Value.int IntKind.i64 (iconv IntKind.i64 with_.n)))] = some (T.c (C.ref 0 0 (lenN v37)), [rowO 5 1 byteF v37]) := w_law01_figures _ _ h38'
          simp [h1, c2, c3, c4, h6, c7, h38]
          rcases iteB_cases h with ⟨c39, h⟩ | ⟨c39, h⟩
          · simp [h1, c2, c3, c4, h6, c7, h38, c39]
            rcases iteB_cases h with ⟨c40, h⟩ | ⟨c40, h⟩
            · simp [h1, c2, c3, c4, h6, c7, h38, c39, c40]
              rcases iteB_cases h with ⟨c41, h⟩ | ⟨c41, h⟩
              · simp [h1, c2, c3, c4, h6, c7, h38, c39, c40, c41]
                obtain ⟨⟨v42, v43, v44⟩, h45', h⟩ := bind_some' h
                have h45 : ev 22 [T.c (sls 1 byteF (with_.a ++ (v37 ++ with_.b))), T.c (C.lit (Value.int IntKind.i64 (lenI with_.a))), T.c (C.lit (Value.int IntKind.i64 with_.most))] = some (T.tup [T.c (C.lit (Value.int IntKind.i64 v42)), T.c (C.lit (Value.int IntKind.i64 v43)), T.c (C.lit (Value.int IntKind.i64 v44))], []) := w_lex_Number _ _ _ _ h45'
                simp [h1, c2, c3, c4, h6, c7, h38, c39, c40, c41, h45]
                rcases iteB_cases h with ⟨c46, h⟩ | ⟨c46, h⟩
                · simp [h1, c2, c3, c4, h6, c7, h38, c39, c40, c41, h45, c46]
                  rcases iteB_cases h with ⟨c47, h⟩ | ⟨c47, h⟩
                  · simp [h1, c2, c3, c4, h6, c7, h38, c39, c40, c41, h45, c46, c47]
                    rcases iteB_cases h with ⟨c48, h⟩ | ⟨c48, h⟩
                    · simp [h1, c2, c3, c4, h6, c7, h38, c39, c40, c41, h45, c46, c47, c48]
                      rcases iteB_cases h with ⟨c49, h⟩ | ⟨c49, h⟩
                      · first | (cases h; done) | (simp [h1, c2, c3, c4, h6, c7, h38, c39, c40, c41, h45, c46, c47, c48, c49]; first | rfl | (injection h with h; rw [h]; rfl) | (injection h with h; rw [h]))
                      · first | (cases h; done) | (simp [h1, c2, c3, c4, h6, c7, h38, c39, c40, c41, h45, c46, c47, c48, c49]; first | rfl | (injection h with h; rw [h]; rfl) | (injection h with h; rw [h]))
                    · first | (cases h; done) | (simp [h1, c2, c3, c4, h6, c7, h38, c39, c40, c41, h45, c46, c47, c48]; first | rfl | (injection h with h; rw [h]; rfl) | (injection h with h; rw [h]))
                  · first | (cases h; done) | (simp [h1, c2, c3, c4, h6, c7, h38, c39, c40, c41, h45, c46, c47]; first | rfl | (injection h with h; rw [h]; rfl) | (injection h with h; rw [h]))
                · simp [h1, c2, c3, c4, h6, c7, h38, c39, c40, c41, h45, c46]
                  rcases iteB_cases h with ⟨c50, h⟩ | ⟨c50, h⟩
                  · simp [h1, c2, c3, c4, h6, c7, h38, c39, c40, c41, h45, c46, c50]
                    rcases iteB_cases h with ⟨c51, h⟩ | ⟨c51, h⟩
                    · simp [h1, c2, c3, c4, h6, c7, h38, c39, c40, c41, h45, c46, c50, c51]
                      rcases iteB_cases h with ⟨c52, h⟩ | ⟨c52, h⟩
                      · simp [h1, c2, c3, c4, h6, c7, h38, c39, c40, c41, h45, c46, c50, c51, c52]
                        rcases iteB_cases h with ⟨c53, h⟩ | ⟨c53, h⟩
                        · first | (cases h; done) | (simp [h1, c2, c3, c4, h6, c7, h38, c39, c40, c41, h45, c46, c50, c51, c52, c53]; first | rfl | (injection h with h; rw [h]; rfl) | (injection h with h; rw [h]))
                        · first | (cases h; done) | (simp [h1, c2, c3, c4, h6, c7, h38, c39, c40, c41, h45, c46, c50, c51, c52, c53]; first | rfl | (injection h with h; rw [h]; rfl) | (injection h with h; rw [h]))
                      · first | (cases h; done) | (simp [h1, c2, c3, c4, h6, c7, h38, c39, c40, c41, h45, c46, c50, c51, c52]; first | rfl | (injection h with h; rw [h]; rfl) | (injection h with h; rw [h]))
                    · first | (cases h; done) | (simp [h1, c2, c3, c4, h6, c7, h38, c39, c40, c41, h45, c46, c50, c51]; first | rfl | (injection h with h; rw [h]; rfl) | (injection h with h; rw [h]))
                  · simp [h1, c2, c3, c4, h6, c7, h38, c39, c40, c41, h45, c46, c50]
                    rcases iteB_cases h with ⟨c54, h⟩ | ⟨c54, h⟩
                    · simp [h1, c2, c3, c4, h6, c7, h38, c39, c40, c41, h45, c46, c50, c54]
                      obtain ⟨v55, h56, h⟩ := bind_some' h
                      simp [h1, c2, c3, c4, h6, c7, h38, c39, c40, c41, h45, c46, c50, c54, h56]
                      obtain ⟨⟨v57, v58, v59⟩, h60', h⟩ := bind_some' h
                      have h60 : ev 22 [T.c (sls 1 byteF ((with_.a ++ (v37 ++ with_.b)).set (lenN with_.a) 48)), T.c (C.lit (Value.int IntKind.i64 (lenI with_.a))), T.c (C.lit (Value.int IntKind.i64 with_.most))] = some (T.tup [T.c (C.lit (Value.int IntKind.i64 v57)), T.c (C.lit (Value.int IntKind.i64 v58)), T.c (C.lit (Value.int IntKind.i64 v59))], []) := w_lex_Number _ _ _ _ h60'
                      simp [h1, c2, c3, c4, h6, c7, h38, c39, c40, c41, h45, c46, c50, c54, h56, h60]
                      rcases iteB_cases h with ⟨c61, h⟩ | ⟨c61, h⟩
                      · simp [h1, c2, c3, c4, h6, c7, h38, c39, c40, c41, h45, c46, c50, c54, h56, h60, c61]
                        rcases iteB_cases h with ⟨c62, h⟩ | ⟨c62, h⟩
                        · simp [h1, c2, c3, c4, h6, c7, h38, c39, c40, c41, h45, c46, c50, c54, h56, h60, c61, c62]
                          rcases iteB_cases h with ⟨c63, h⟩ | ⟨c63, h⟩
                          · simp [h1, c2, c3, c4, h6, c7, h38, c39, c40, c41, h45, c46, c50, c54, h56, h60, c61, c62, c63]
                            rcases iteB_cases h with ⟨c64, h⟩ | ⟨c64, h⟩
                            · first | (cases h; done) | (simp [h1, c2, c3, c4, h6, c7, h38, c39, c40, c41, h45, c46, c50, c54, h56, h60, c61, c62, c63, c64]; first | rfl | (injection h with h; rw [h]; rfl) | (injection h with h; rw [h]))
                            · first | (cases h; done) | (simp [h1, c2, c3, c4, h6, c7, h38, c39, c40, c41, h45, c46, c50, c54, h56, h60, c61, c62, c63, c64]; first | rfl | (injection h with h; rw [h]; rfl) | (injection h with h; rw [h]))
                          · first | (cases h; done) | (simp [h1, c2, c3, c4, h6, c7, h38, c39, c40, c41, h45, c46, c50, c54, h56, h60, c61, c62, c63]; first | rfl | (injection h with h; rw [h]; rfl) | (injection h with h; rw [h]))
                        · first | (cases h; done) | (simp [h1, c2, c3, c4, h6, c7, h38, c39, c40, c41, h45, c46, c50, c54, h56, h60, c61, c62]; first | rfl | (injection h with h; rw [h]; rfl) | (injection h with h; rw [h]))
                      · first | (cases h; done) | (simp [h1, c2, c3, c4, h6, c7, h38, c39, c40, c41, h45, c46, c50, c54, h56, h60, c61]; first | rfl | (injection h with h; rw [h]; rfl) | (injection h with h; rw [h]))
                    · simp [h1, c2, c3, c4, h6, c7, h38, c39, c40, c41, h45, c46, c50, c54]
                      cases h
              · simp [h1, c2, c3, c4, h6, c7, h38, c39, c40, c41]
                cases h
            · simp [h1, c2, c3, c4, h6, c7, h38, c39, c40]
              cases h
          · simp [h1, c2, c3, c4, h6, c7, h38, c39]
            cases h
      · simp [h1, c2, c3, c4]
        obtain ⟨v65, h66', h⟩ := bind_some' h
        have h66 : ev 21 [T.c (C.lit (Value.int IntKind.i64 (iconv IntKind.i64 with_.n)))] = some (T.c (C.ref 0 0 (lenN v65)), [rowO 5 1 byteF v65]) := w_law01_figures _ _ h66'
        simp [h1, c2, c3, c4, h66]
        rcases iteB_cases h with ⟨c67, h⟩ | ⟨c67, h⟩
        · simp [h1, c2, c3, c4, h66, c67]
          rcases iteB_cases h with ⟨c68, h⟩ | ⟨c68, h⟩
          · simp [h1, c2, c3, c4, h66, c67, c68]
            rcases iteB_cases h with ⟨c69, h⟩ | ⟨c69, h⟩
            · simp [h1, c2, c3, c4, h66, c67, c68, c69]
              obtain ⟨⟨v70, v71, v72⟩, h73', h⟩ := bind_some' h
              have h73 : ev 22 [T.c (sls 1 byteF (with_.a ++ (v65 ++ with_.b))), T.c (C.lit (Value.int IntKind.i64 (lenI with_.a))), T.c (C.lit (Value.int IntKind.i64 with_.most))] = some (T.tup [T.c (C.lit (Value.int IntKind.i64 v70)), T.c (C.lit (Value.int IntKind.i64 v71)), T.c (C.lit (Value.int IntKind.i64 v72))], []) := w_lex_Number _ _ _ _ h73'
              simp [h1, c2, c3, c4, h66, c67, c68, c69, h73]
              rcases iteB_cases h with ⟨c74, h⟩ | ⟨c74, h⟩
              · simp [h1, c2, c3, c4, h66, c67, c68, c69, h73, c74]
                rcases iteB_cases h with ⟨c75, h⟩ | ⟨c75, h⟩
                · simp [h1, c2, c3, c4, h66, c67, c68, c69, h73, c74, c75]
                  rcases iteB_cases h with ⟨c76, h⟩ | ⟨c76, h⟩
                  · simp [h1, c2, c3, c4, h66, c67, c68, c69, h73, c74, c75, c76]
                    rcases iteB_cases h with ⟨c77, h⟩ | ⟨c77, h⟩
                    · first | (cases h; done) | (simp [h1, c2, c3, c4, h66, c67, c68, c69, h73, c74, c75, c76, c77]; first | rfl | (injection h with h; rw [h]; rfl) | (injection h with h; rw [h]))
                    · first | (cases h; done) | (simp [h1, c2, c3, c4, h66, c67, c68, c69, h73, c74, c75, c76, c77]; first | rfl | (injection h with h; rw [h]; rfl) | (injection h with h; rw [h]))
                  · first | (cases h; done) | (simp [h1, c2, c3, c4, h66, c67, c68, c69, h73, c74, c75, c76]; first | rfl | (injection h with h; rw [h]; rfl) | (injection h with h; rw [h]))
                · first | (cases h; done) | (simp [h1, c2, c3, c4, h66, c67, c68, c69, h73, c74, c75]; first | rfl | (injection h with h; rw [h]; rfl) | (injection h with h; rw [h]))
              · simp [h1, c2, c3, c4, h66, c67, c68, c69, h73, c74]
                rcases iteB_cases h with ⟨c78, h⟩ | ⟨c78, h⟩
                · simp [h1, c2, c3, c4, h66, c67, c68, c69, h73, c74, c78]
                  rcases iteB_cases h with ⟨c79, h⟩ | ⟨c79, h⟩
                  · simp [h1, c2, c3, c4, h66, c67, c68, c69, h73, c74, c78, c79]
                    rcases iteB_cases h with ⟨c80, h⟩ | ⟨c80, h⟩
                    · simp [h1, c2, c3, c4, h66, c67, c68, c69, h73, c74, c78, c79, c80]
                      rcases iteB_cases h with ⟨c81, h⟩ | ⟨c81, h⟩
                      · first | (cases h; done) | (simp [h1, c2, c3, c4, h66, c67, c68, c69, h73, c74, c78, c79, c80, c81]; first | rfl | (injection h with h; rw [h]; rfl) | (injection h with h; rw [h]))
                      · first | (cases h; done) | (simp [h1, c2, c3, c4, h66, c67, c68, c69, h73, c74, c78, c79, c80, c81]; first | rfl | (injection h with h; rw [h]; rfl) | (injection h with h; rw [h]))
                    · first | (cases h; done) | (simp [h1, c2, c3, c4, h66, c67, c68, c69, h73, c74, c78, c79, c80]; first | rfl | (injection h with h; rw [h]; rfl) | (injection h with h; rw [h]))
                  · first | (cases h; done) | (simp [h1, c2, c3, c4, h66, c67, c68, c69, h73, c74, c78, c79]; first | rfl | (injection h with h; rw [h]; rfl) | (injection h with h; rw [h]))
                · simp [h1, c2, c3, c4, h66, c67, c68, c69, h73, c74, c78]
                  rcases iteB_cases h with ⟨c82, h⟩ | ⟨c82, h⟩
                  · simp [h1, c2, c3, c4, h66, c67, c68, c69, h73, c74, c78, c82]
                    obtain ⟨v83, h84, h⟩ := bind_some' h
                    simp [h1, c2, c3, c4, h66, c67, c68, c69, h73, c74, c78, c82, h84]
                    obtain ⟨⟨v85, v86, v87⟩, h88', h⟩ := bind_some' h
                    have h88 : ev 22 [T.c (sls 1 byteF ((with_.a ++ (v65 ++ with_.b)).set (lenN with_.a) 48)), T.c (C.lit (Value.int IntKind.i64 (lenI with_.a))), T.c (C.lit (Value.int IntKind.i64 with_.most))] = some (T.tup [T.c (C.lit (Value.int IntKind.i64 v85)), T.c (C.lit (Value.int IntKind.i64 v86)), T.c (C.lit (Value.int IntKind.i64 v87))], []) := w_lex_Number _ _ _ _ h88'
                    simp [h1, c2, c3, c4, h66, c67, c68, c69, h73, c74, c78, c82, h84, h88]
                    rcases iteB_cases h with ⟨c89, h⟩ | ⟨c89, h⟩
                    · simp [h1, c2, c3, c4, h66, c67, c68, c69, h73, c74, c78, c82, h84, h88, c89]
                      rcases iteB_cases h with ⟨c90, h⟩ | ⟨c90, h⟩
                      · simp [h1, c2, c3, c4, h66, c67, c68, c69, h73, c74, c78, c82, h84, h88, c89, c90]
                        rcases iteB_cases h with ⟨c91, h⟩ | ⟨c91, h⟩
                        · simp [h1, c2, c3, c4, h66, c67, c68, c69, h73, c74, c78, c82, h84, h88, c89, c90, c91]
                          rcases iteB_cases h with ⟨c92, h⟩ | ⟨c92, h⟩
                          · first | (cases h; done) | (simp [h1, c2, c3, c4, h66, c67, c68, c69, h73, c74, c78, c82, h84, h88, c89, c90, c91, c92]; first | rfl | (injection h with h; rw [h]; rfl) | (injection h with h; rw [h]))
                          · first | (cases h; done) | (simp [h1, c2, c3, c4, h66, c67, c68, c69, h73, c74, c78, c82, h84, h88, c89, c90, c91, c92]; first | rfl | (injection h with h; rw [h]; rfl) | (injection h with h; rw [h]))
                        · first | (cases h; done) | (simp [h1, c2, c3, c4, h66, c67, c68, c69, h73, c74, c78, c82, h84, h88, c89, c90, c91]; first | rfl | (injection h with h; rw [h]; rfl) | (injection h with h; rw [h]))
                      · first | (cases h; done) | (simp [h1, c2, c3, c4, h66, c67, c68, c69, h73, c74, c78, c82, h84, h88, c89, c90]; first | rfl | (injection h with h; rw [h]; rfl) | (injection h with h; rw [h]))
                    · first | (cases h; done) | (simp [h1, c2, c3, c4, h66, c67, c68, c69, h73, c74, c78, c82, h84, h88, c89]; first | rfl | (injection h with h; rw [h]; rfl) | (injection h with h; rw [h]))
                  · simp [h1, c2, c3, c4, h66, c67, c68, c69, h73, c74, c78, c82]
                    cases h
            · simp [h1, c2, c3, c4, h66, c67, c68, c69]
              cases h
          · simp [h1, c2, c3, c4, h66, c67, c68]
            cases h
        · simp [h1, c2, c3, c4, h66, c67]
          cases h
theorem w_law01_LexWords (with_ : LexWordsIn_law01) (h : law01_LexWords with_ = some true) : ev 7 [T.agg (LexWordsIn_law01.cells with_)] = some (T.c (C.lit (Value.bool true)), []) := by
  refine ev_run' (kp := k7) (us := [4]) fn7 rfl rfl rfl rfl rfl (by kernel_rfl) (by simp) ?_
  unfold law01_LexWords at h
  simp -implicitDefEqProofs
  obtain ⟨v0, h1', h⟩ := bind_some' h
  have h1 : ev 9 [] = some (T.c (C.lit (Value.bool v0)), []) := w_law01_shown _ h1'
  simp -implicitDefEqProofs [h1]
  rcases iteB_cases h with ⟨c2, h⟩ | ⟨c2, h⟩
  · first | (cases h; done) | (simp -implicitDefEqProofs [h1, c2]; first | rfl | (injection h with h; rw [h]; rfl) | (injection h with h; rw [h]))
  · simp -implicitDefEqProofs [h1, c2]
    rcases iteB_cases h with ⟨c3, h⟩ | ⟨c3, h⟩
    · first | (cases h; done) | (simp -implicitDefEqProofs [h1, c2, c3]; first | rfl | (injection h with h; rw [h]; rfl) | (injection h with h; rw [h]))
    · simp -implicitDefEqProofs [h1, c2, c3]
      rcases iteB_cases h with ⟨c4, h⟩ | ⟨c4, h⟩
      · first | (cases h; done) | (simp -implicitDefEqProofs [h1, c2, c3, c4]; first | rfl | (injection h with h; rw [h]; rfl) | (injection h with h; rw [h]))
      · simp -implicitDefEqProofs [h1, c2, c3, c4]
        obtain ⟨⟨v5, v6⟩, h7', h⟩ := bind_some' h
        have h7 : ev 23 [T.c (sls 1 byteF with_.b), T.c (C.lit (Value.int IntKind.i64 with_.at')), T.c (C.lit (Value.string with_.s))] = some (T.tup [T.c (C.lit (Value.int IntKind.i64 v5)), T.c (C.lit (Value.bool v6))], []) := w_lex_Is _ _ _ _ h7'
        simp -implicitDefEqProofs [h1, c2, c3, c4, h7]
        rcases iteB_cases h with ⟨c8, h⟩ | ⟨c8, h⟩
        · simp -implicitDefEqProofs [h1, c2, c3, c4, h7, c8]
          obtain ⟨⟨v9, v10⟩, h11', h⟩ := bind_some' h
          have h11 : ev 23 [T.c (sls 1 byteF with_.b), T.c (C.lit (Value.int IntKind.i64 with_.at')), T.c (C.lit (Value.string (with_.s ++ with_.t)))] = some (T.tup [T.c (C.lit (Value.int IntKind.i64 v9)), T.c (C.lit (Value.bool v10))], []) := w_lex_Is _ _ _ _ h11'
          simp -implicitDefEqProofs [h1, c2, c3, c4, h7, c8, h11]
          obtain ⟨⟨v12, v13⟩, h14', h⟩ := bind_some' h
          have h14 : ev 23 [T.c (sls 1 byteF with_.b), T.c (C.lit (Value.int IntKind.i64 with_.at')), T.c (C.lit (Value.string { data := #[] }))] = some (T.tup [T.c (C.lit (Value.int IntKind.i64 v12)), T.c (C.lit (Value.bool v13))], []) := w_lex_Is _ _ _ _ h14'
          simp -implicitDefEqProofs [h1, c2, c3, c4, h7, c8, h11, h14]
          rcases iteB_cases h with ⟨c15, h⟩ | ⟨c15, h⟩
          · simp -implicitDefEqProofs [h1, c2, c3, c4, h7, c8, h11, h14, c15]
            rcases iteB_cases h with ⟨c16, h⟩ | ⟨c16, h⟩
            · simp -implicitDefEqProofs [h1, c2, c3, c4, h7, c8, h11, h14, c15, c16]
              rcases iteB_cases h with ⟨c17, h⟩ | ⟨c17, h⟩
              · first | (cases h; done) | (simp -implicitDefEqProofs [h1, c2, c3, c4, h7, c8, h11, h14, c15, c16, c17]; first | rfl | (injection h with h; rw [h]; rfl) | (injection h with h; rw [h]))
              · simp -implicitDefEqProofs [h1, c2, c3, c4, h7, c8, h11, h14, c15, c16, c17]
                rcases iteB_cases h with ⟨c18, h⟩ | ⟨c18, h⟩
                · first | (cases h; done) | (simp -implicitDefEqProofs [h1, c2, c3, c4, h7, c8, h11, h14, c15, c16, c17, c18]; first | rfl | (injection h with h; rw [h]; rfl) | (injection h with h; rw [h]))
                · simp -implicitDefEqProofs [h1, c2, c3, c4, h7, c8, h11, h14, c15, c16, c17, c18]
                  rcases iteB_cases h with ⟨c19, h⟩ | ⟨c19, h⟩
                  · first | (cases h; done) | (simp -implicitDefEqProofs [h1, c2, c3, c4, h7, c8, h11, h14, c15, c16, c17, c18, c19]; first | rfl | (injection h with h; rw [h]; rfl) | (injection h with h; rw [h]))
                  · first | (cases h; done) | (simp -implicitDefEqProofs [h1, c2, c3, c4, h7, c8, h11, h14, c15, c16, c17, c18, c19]; first | rfl | (injection h with h; rw [h]; rfl) | (injection h with h; rw [h]))
            · first | (cases h; done) | (simp -implicitDefEqProofs [h1, c2, c3, c4, h7, c8, h11, h14, c15, c16]; first | rfl | (injection h with h; rw [h]; rfl) | (injection h with h; rw [h]))
          · simp -implicitDefEqProofs [h1, c2, c3, c4, h7, c8, h11, h14, c15]
            rcases iteB_cases h with ⟨c20, h⟩ | ⟨c20, h⟩
            · simp -implicitDefEqProofs [h1, c2, c3, c4, h7, c8, h11, h14, c15, c20]
              rcases iteB_cases h with ⟨c21, h⟩ | ⟨c21, h⟩
              · simp -implicitDefEqProofs [h1, c2, c3, c4, h7, c8, h11, h14, c15, c20, c21]
                rcases iteB_cases h with ⟨c22, h⟩ | ⟨c22, h⟩
                · first | (cases h; done) | (simp -implicitDefEqProofs [h1, c2, c3, c4, h7, c8, h11, h14, c15, c20, c21, c22]; first | rfl | (injection h with h; rw [h]; rfl) | (injection h with h; rw [h]))
                · simp -implicitDefEqProofs [h1, c2, c3, c4, h7, c8, h11, h14, c15, c20, c21, c22]
                  rcases iteB_cases h with ⟨c23, h⟩ | ⟨c23, h⟩
                  · first | (cases h; done) | (simp -implicitDefEqProofs [h1, c2, c3, c4, h7, c8, h11, h14, c15, c20, c21, c22, c23]; first | rfl | (injection h with h; rw [h]; rfl) | (injection h with h; rw [h]))
                  · simp -implicitDefEqProofs [h1, c2, c3, c4, h7, c8, h11, h14, c15, c20, c21, c22, c23]
                    rcases iteB_cases h with ⟨c24, h⟩ | ⟨c24, h⟩
                    · first | (cases h; done) | (simp -implicitDefEqProofs [h1, c2, c3, c4, h7, c8, h11, h14, c15, c20, c21, c22, c23, c24]; first | rfl | (injection h with h; rw [h]; rfl) | (injection h with h; rw [h]))
                    · first | (cases h; done) | (simp -implicitDefEqProofs [h1, c2, c3, c4, h7, c8, h11, h14, c15, c20, c21, c22, c23, c24]; first | rfl | (injection h with h; rw [h]; rfl) | (injection h with h; rw [h]))
              · first | (cases h; done) | (simp -implicitDefEqProofs [h1, c2, c3, c4, h7, c8, h11, h14, c15, c20, c21]; first | rfl | (injection h with h; rw [h]; rfl) | (injection h with h; rw [h]))
            · simp -implicitDefEqProofs [h1, c2, c3, c4, h7, c8, h11, h14, c15, c20]
              obtain ⟨⟨v25, v26⟩, h27', h⟩ := bind_some' h
              have h27 : ev 23 [T.c (sls 1 byteF with_.b), T.c (C.lit (Value.int IntKind.i64 v5)), T.c (C.lit (Value.string with_.t))] = some (T.tup [T.c (C.lit (Value.int IntKind.i64 v25)), T.c (C.lit (Value.bool v26))], []) := w_lex_Is _ _ _ _ h27'
              simp -implicitDefEqProofs [h1, c2, c3, c4, h7, c8, h11, h14, c15, c20, h27]
              rcases iteB_cases h with ⟨c28, h⟩ | ⟨c28, h⟩
              · simp -implicitDefEqProofs [h1, c2, c3, c4, h7, c8, h11, h14, c15, c20, h27, c28]
                rcases iteB_cases h with ⟨c29, h⟩ | ⟨c29, h⟩
                · simp -implicitDefEqProofs [h1, c2, c3, c4, h7, c8, h11, h14, c15, c20, h27, c28, c29]
                  rcases iteB_cases h with ⟨c30, h⟩ | ⟨c30, h⟩
                  · simp -implicitDefEqProofs [h1, c2, c3, c4, h7, c8, h11, h14, c15, c20, h27, c28, c29, c30]
                    obtain ⟨⟨v31, v32⟩, h33', h⟩ := bind_some' h
                    have h33 : ev 23 [T.c (sls 1 byteF (cut with_.b 0 with_.at' ++ bytesOf (with_.s ++ with_.t))), T.c (C.lit (Value.int IntKind.i64 with_.at')), T.c (C.lit (Value.string with_.s))] = some (T.tup [T.c (C.lit (Value.int IntKind.i64 v31)), T.c (C.lit (Value.bool v32))], []) := w_lex_Is _ _ _ _ h33'
                    simp -implicitDefEqProofs [h1, c2, c3, c4, h7, c8, h11, h14, c15, c20, h27, c28, c29, c30, h33]
                    rcases iteB_cases h with ⟨c34, h⟩ | ⟨c34, h⟩
                    · simp -implicitDefEqProofs [h1, c2, c3, c4, h7, c8, h11, h14, c15, c20, h27, c28, c29, c30, h33, c34]
                      rcases iteB_cases h with ⟨c35, h⟩ | ⟨c35, h⟩
                      · simp -implicitDefEqProofs [h1, c2, c3, c4, h7, c8, h11, h14, c15, c20, h27, c28, c29, c30, h33, c34, c35]
                        rcases iteB_cases h with ⟨c36, h⟩ | ⟨c36, h⟩
                        · simp -implicitDefEqProofs [h1, c2, c3, c4, h7, c8, h11, h14, c15, c20, h27, c28, c29, c30, h33, c34, c35, c36]
                          rcases iteB_cases h with ⟨c37, h⟩ | ⟨c37, h⟩
                          · simp -implicitDefEqProofs [h1, c2, c3, c4, h7, c8, h11, h14, c15, c20, h27, c28, c29, c30, h33, c34, c35, c36, c37]
                            rcases iteB_cases h with ⟨c38, h⟩ | ⟨c38, h⟩
                            · simp -implicitDefEqProofs [h1, c2, c3, c4, h7, c8, h11, h14, c15, c20, h27, c28, c29, c30, h33, c34, c35, c36, c37, c38]
                              rcases iteB_cases h with ⟨c39, h⟩ | ⟨c39, h⟩
                              · simp -implicitDefEqProofs [h1, c2, c3, c4, h7, c8, h11, h14, c15, c20, h27, c28, c29, c30, h33, c34, c35, c36, c37, c38, c39]
                                rcases iteB_cases h with ⟨c40, h⟩ | ⟨c40, h⟩
                                · simp -implicitDefEqProofs [h1, c2, c3, c4, h7, c8, h11, h14, c15, c20, h27, c28, c29, c30, h33, c34, c35, c36, c37, c38, c39, c40]
                                  rcases iteB_cases h with ⟨c41, h⟩ | ⟨c41, h⟩
                                  · first | (cases h; done) | (simp -implicitDefEqProofs [h1, c2, c3, c4, h7, c8, h11, h14, c15, c20, h27, c28, c29, c30, h33, c34, c35, c36, c37, c38, c39, c40, c41]; first | rfl | (injection h with h; rw [h]; rfl) | (injection h with h; rw [h]))
                                  · first | (cases h; done) | (simp -implicitDefEqProofs [h1, c2, c3, c4, h7, c8, h11, h14, c15, c20, h27, c28, c29, c30, h33, c34, c35, c36, c37, c38, c39, c40, c41]; first | rfl | (injection h with h; rw [h]; rfl) | (injection h with h; rw [h]))
                                · first | (cases h; done) | (simp -implicitDefEqProofs [h1, c2, c3, c4, h7, c8, h11, h14, c15, c20, h27, c28, c29, c30, h33, c34, c35, c36, c37, c38, c39, c40]; first | rfl | (injection h with h; rw [h]; rfl) | (injection h with h; rw [h]))
                              · first | (cases h; done) | (simp -implicitDefEqProofs [h1, c2, c3, c4, h7, c8, h11, h14, c15, c20, h27, c28, c29, c30, h33, c34, c35, c36, c37, c38, c39]; first | rfl | (injection h with h; rw [h]; rfl) | (injection h with h; rw [h]))
                            · simp -implicitDefEqProofs [h1, c2, c3, c4, h7, c8, h11, h14, c15, c20, h27, c28, c29, c30, h33, c34, c35, c36, c37, c38]
                              rcases iteB_cases h with ⟨c42, h⟩ | ⟨c42, h⟩
                              · simp -implicitDefEqProofs [h1, c2, c3, c4, h7, c8, h11, h14, c15, c20, h27, c28, c29, c30, h33, c34, c35, c36, c37, c38, c42]
                                rcases iteB_cases h with ⟨c43, h⟩ | ⟨c43, h⟩
                                · simp -implicitDefEqProofs [h1, c2, c3, c4, h7, c8, h11, h14, c15, c20, h27, c28, c29, c30, h33, c34, c35, c36, c37, c38, c42, c43]
                                  rcases iteB_cases h with ⟨c44, h⟩ | ⟨c44, h⟩
                                  · first | (cases h; done) | (simp -implicitDefEqProofs [h1, c2, c3, c4, h7, c8, h11, h14, c15, c20, h27, c28, c29, c30, h33, c34, c35, c36, c37, c38, c42, c43, c44]; first | rfl | (injection h with h; rw [h]; rfl) | (injection h with h; rw [h]))
                                  · first | (cases h; done) | (simp -implicitDefEqProofs [h1, c2, c3, c4, h7, c8, h11, h14, c15, c20, h27, c28, c29, c30, h33, c34, c35, c36, c37, c38, c42, c43, c44]; first | rfl | (injection h with h; rw [h]; rfl) | (injection h with h; rw [h]))
                                · first | (cases h; done) | (simp -implicitDefEqProofs [h1, c2, c3, c4, h7, c8, h11, h14, c15, c20, h27, c28, c29, c30, h33, c34, c35, c36, c37, c38, c42, c43]; first | rfl | (injection h with h; rw [h]; rfl) | (injection h with h; rw [h]))
                              · first | (cases h; done) | (simp -implicitDefEqProofs [h1, c2, c3, c4, h7, c8, h11, h14, c15, c20, h27, c28, c29, c30, h33, c34, c35, c36, c37, c38, c42]; first | rfl | (injection h with h; rw [h]; rfl) | (injection h with h; rw [h]))
                          · first | (cases h; done) | (simp -implicitDefEqProofs [h1, c2, c3, c4, h7, c8, h11, h14, c15, c20, h27, c28, c29, c30, h33, c34, c35, c36, c37]; first | rfl | (injection h with h; rw [h]; rfl) | (injection h with h; rw [h]))
                        · first | (cases h; done) | (simp -implicitDefEqProofs [h1, c2, c3, c4, h7, c8, h11, h14, c15, c20, h27, c28, c29, c30, h33, c34, c35, c36]; first | rfl | (injection h with h; rw [h]; rfl) | (injection h with h; rw [h]))
                      · first | (cases h; done) | (simp -implicitDefEqProofs [h1, c2, c3, c4, h7, c8, h11, h14, c15, c20, h27, c28, c29, c30, h33, c34, c35]; first | rfl | (injection h with h; rw [h]; rfl) | (injection h with h; rw [h]))
                    · first | (cases h; done) | (simp -implicitDefEqProofs [h1, c2, c3, c4, h7, c8, h11, h14, c15, c20, h27, c28, c29, c30, h33, c34]; first | rfl | (injection h with h; rw [h]; rfl) | (injection h with h; rw [h]))
                  · simp -implicitDefEqProofs [h1, c2, c3, c4, h7, c8, h11, h14, c15, c20, h27, c28, c29, c30]
                    cases h
                · simp -implicitDefEqProofs [h1, c2, c3, c4, h7, c8, h11, h14, c15, c20, h27, c28, c29]
                  cases h
              · simp -implicitDefEqProofs [h1, c2, c3, c4, h7, c8, h11, h14, c15, c20, h27, c28]
                cases h
        · simp -implicitDefEqProofs [h1, c2, c3, c4, h7, c8]
          cases h
end Go.Proofs.YtgamgcmjiancmaaDoor

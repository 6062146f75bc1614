/- What the interpreter comes to is what the plain functions come to. No condition. -/
import Derived.Test.YtgamgcmjiancmaaDoorW3
set_option linter.unusedSimpArgs false
set_option linter.unusedVariables false
set_option maxRecDepth 20000
set_option maxHeartbeats 4000000
namespace Go.Proofs.YtgamgcmjiancmaaDoor
open Go.Vabs Go.Vid
theorem w_law01_LexBack (n : Int) (m : Int) (b : List Int) (h : law01_LexBack n m b = some true) : ev 5 [T.c (C.lit (Value.int IntKind.i64 n)), T.c (C.lit (Value.int IntKind.i64 m)), T.c (sls 1 byteF b)] = some (T.c (C.lit (Value.bool true)), []) := by
  refine ev_run' (kp := k5) (us := [4]) fn5 rfl rfl rfl rfl rfl (by kernel_rfl) (by simp) ?_
  unfold law01_LexBack at h
  simp -implicitDefEqProofs
  obtain ⟨v0, h1', h⟩ := bind_some' h
  have h1 : ev 9 [] = some (T.c (C.lit (Value.bool v0)), []) := w_law01_shown _ h1'
  simp -implicitDefEqProofs [h1]
  rcases iteB_cases h with ⟨c2, h⟩ | ⟨c2, h⟩
  · first | (cases h; done) | (simp -implicitDefEqProofs [h1, c2]; first | rfl | (injection h with h; rw [h]; rfl) | (injection h with h; rw [h]))
  · simp -implicitDefEqProofs [h1, c2]
    obtain ⟨⟨v3, v4, v5⟩, h6', h⟩ := bind_some' h
    have h6 : ev 12 [T.c (sls 1 byteF b), T.c (C.lit (Value.int IntKind.i64 0))] = some (T.tup [T.c (C.lit (Value.int IntKind.i64 v3)), T.c (C.lit (Value.int IntKind.i64 v4)), T.c (C.lit (Value.int IntKind.i64 v5))], []) := w_lex_Take _ _ _ h6'
    simp -implicitDefEqProofs [h1, c2, h6]
    rcases iteB_cases h with ⟨c7, h⟩ | ⟨c7, h⟩
    · simp -implicitDefEqProofs [h1, c2, h6, c7]
      obtain ⟨v8, h9', h⟩ := bind_some' h
      have h9 : ev 17 [T.c (C.lit (Value.int IntKind.i64 v3))] = some (T.c (C.ref 0 0 (lenN v8)), [rowO 5 1 byteF v8]) := w_lex_Put _ _ h9'
      simp -implicitDefEqProofs [h1, c2, h6, c7, h9]
      rcases iteB_cases h with ⟨c10, h⟩ | ⟨c10, h⟩
      · simp -implicitDefEqProofs [h1, c2, h6, c7, h9, c10]
        obtain ⟨v11, h12', h⟩ := bind_some' h
        have h12 : ev 16 [T.c (sls 1 byteF v8), T.c (sls 1 byteF (cut b 0 v4))] = some (T.c (C.lit (Value.bool v11)), []) := w_ref01_Row _ _ _ h12'
        simp -implicitDefEqProofs [h1, c2, h6, c7, h9, c10, h12]
        rcases iteB_cases h with ⟨c13, h⟩ | ⟨c13, h⟩
        · simp -implicitDefEqProofs [h1, c2, h6, c7, h9, c10, h12, c13]
          obtain ⟨v14, h15', h⟩ := bind_some' h
          have h15 : ev 17 [T.c (C.lit (Value.int IntKind.i64 n))] = some (T.c (C.ref 0 0 (lenN v14)), [rowO 5 1 byteF v14]) := w_lex_Put _ _ h15'
          simp -implicitDefEqProofs [h1, c2, h6, c7, h9, c10, h12, c13, h15]
          rcases iteB_cases h with ⟨c16, h⟩ | ⟨c16, h⟩
          · simp -implicitDefEqProofs [h1, c2, h6, c7, h9, c10, h12, c13, h15, c16]
            rcases iteB_cases h with ⟨c17, h⟩ | ⟨c17, h⟩
            · first | (cases h; done) | (simp -implicitDefEqProofs [h1, c2, h6, c7, h9, c10, h12, c13, h15, c16, c17]; first | rfl | (injection h with h; rw [h]; rfl) | (injection h with h; rw [h]))
            · first | (cases h; done) | (simp -implicitDefEqProofs [h1, c2, h6, c7, h9, c10, h12, c13, h15, c16, c17]; first | rfl | (injection h with h; rw [h]; rfl) | (injection h with h; rw [h]))
          · simp -implicitDefEqProofs [h1, c2, h6, c7, h9, c10, h12, c13, h15, c16]
            rcases iteB_cases h with ⟨c18, h⟩ | ⟨c18, h⟩
            · simp -implicitDefEqProofs [h1, c2, h6, c7, h9, c10, h12, c13, h15, c16, c18]
              rcases iteB_cases h with ⟨c19, h⟩ | ⟨c19, h⟩
              · first | (cases h; done) | (simp -implicitDefEqProofs [h1, c2, h6, c7, h9, c10, h12, c13, h15, c16, c18, c19]; first | rfl | (injection h with h; rw [h]; rfl) | (injection h with h; rw [h]))
              · first | (cases h; done) | (simp -implicitDefEqProofs [h1, c2, h6, c7, h9, c10, h12, c13, h15, c16, c18, c19]; first | rfl | (injection h with h; rw [h]; rfl) | (injection h with h; rw [h]))
            · simp -implicitDefEqProofs [h1, c2, h6, c7, h9, c10, h12, c13, h15, c16, c18]
              rcases iteB_cases h with ⟨c20, h⟩ | ⟨c20, h⟩
              · simp -implicitDefEqProofs [h1, c2, h6, c7, h9, c10, h12, c13, h15, c16, c18, c20]
                rcases iteB_cases h with ⟨c21, h⟩ | ⟨c21, h⟩
                · simp -implicitDefEqProofs [h1, c2, h6, c7, h9, c10, h12, c13, h15, c16, c18, c20, c21]
                  obtain ⟨⟨v22, v23, v24⟩, h25', h⟩ := bind_some' h
                  have h25 : ev 12 [T.c (sls 1 byteF (v14 ++ b)), T.c (C.lit (Value.int IntKind.i64 0))] = some (T.tup [T.c (C.lit (Value.int IntKind.i64 v22)), T.c (C.lit (Value.int IntKind.i64 v23)), T.c (C.lit (Value.int IntKind.i64 v24))], []) := w_lex_Take _ _ _ h25'
                  simp -implicitDefEqProofs [h1, c2, h6, c7, h9, c10, h12, c13, h15, c16, c18, c20, c21, h25]
                  obtain ⟨v26, h27', h⟩ := bind_some' h
                  have h27 : ev 17 [T.c (C.lit (Value.int IntKind.i64 m))] = some (T.c (C.ref 0 0 (lenN v26)), [rowO 5 1 byteF v26]) := w_lex_Put _ _ h27'
                  simp -implicitDefEqProofs [h1, c2, h6, c7, h9, c10, h12, c13, h15, c16, c18, c20, c21, h25, h27]
                  rcases iteB_cases h with ⟨c28, h⟩ | ⟨c28, h⟩
                  · simp -implicitDefEqProofs [h1, c2, h6, c7, h9, c10, h12, c13, h15, c16, c18, c20, c21, h25, h27, c28]
                    rcases iteB_cases h with ⟨c29, h⟩ | ⟨c29, h⟩
                    · simp -implicitDefEqProofs [h1, c2, h6, c7, h9, c10, h12, c13, h15, c16, c18, c20, c21, h25, h27, c28, c29]
                      rcases iteB_cases h with ⟨c30, h⟩ | ⟨c30, h⟩
                      · simp -implicitDefEqProofs [h1, c2, h6, c7, h9, c10, h12, c13, h15, c16, c18, c20, c21, h25, h27, c28, c29, c30]
                        rcases iteB_cases h with ⟨c31, h⟩ | ⟨c31, h⟩
                        · simp -implicitDefEqProofs [h1, c2, h6, c7, h9, c10, h12, c13, h15, c16, c18, c20, c21, h25, h27, c28, c29, c30, c31]
                          rcases iteB_cases h with ⟨c32, h⟩ | ⟨c32, h⟩
                          · simp -implicitDefEqProofs [h1, c2, h6, c7, h9, c10, h12, c13, h15, c16, c18, c20, c21, h25, h27, c28, c29, c30, c31, c32]
                            rcases iteB_cases h with ⟨c33, h⟩ | ⟨c33, h⟩
                            · first | (cases h; done) | (simp -implicitDefEqProofs [h1, c2, h6, c7, h9, c10, h12, c13, h15, c16, c18, c20, c21, h25, h27, c28, c29, c30, c31, c32, c33]; first | rfl | (injection h with h; rw [h]; rfl) | (injection h with h; rw [h]))
                            · simp -implicitDefEqProofs [h1, c2, h6, c7, h9, c10, h12, c13, h15, c16, c18, c20, c21, h25, h27, c28, c29, c30, c31, c32, c33]
                              rcases iteB_cases h with ⟨c34, h⟩ | ⟨c34, h⟩
                              · first | (cases h; done) | (simp -implicitDefEqProofs [h1, c2, h6, c7, h9, c10, h12, c13, h15, c16, c18, c20, c21, h25, h27, c28, c29, c30, c31, c32, c33, c34]; first | rfl | (injection h with h; rw [h]; rfl) | (injection h with h; rw [h]))
                              · first | (cases h; done) | (simp -implicitDefEqProofs [h1, c2, h6, c7, h9, c10, h12, c13, h15, c16, c18, c20, c21, h25, h27, c28, c29, c30, c31, c32, c33, c34]; first | rfl | (injection h with h; rw [h]; rfl) | (injection h with h; rw [h]))
                          · first | (cases h; done) | (simp -implicitDefEqProofs [h1, c2, h6, c7, h9, c10, h12, c13, h15, c16, c18, c20, c21, h25, h27, c28, c29, c30, c31, c32]; first | rfl | (injection h with h; rw [h]; rfl) | (injection h with h; rw [h]))
                        · first | (cases h; done) | (simp -implicitDefEqProofs [h1, c2, h6, c7, h9, c10, h12, c13, h15, c16, c18, c20, c21, h25, h27, c28, c29, c30, c31]; first | rfl | (injection h with h; rw [h]; rfl) | (injection h with h; rw [h]))
                      · first | (cases h; done) | (simp -implicitDefEqProofs [h1, c2, h6, c7, h9, c10, h12, c13, h15, c16, c18, c20, c21, h25, h27, c28, c29, c30]; first | rfl | (injection h with h; rw [h]; rfl) | (injection h with h; rw [h]))
                    · first | (cases h; done) | (simp -implicitDefEqProofs [h1, c2, h6, c7, h9, c10, h12, c13, h15, c16, c18, c20, c21, h25, h27, c28, c29]; first | rfl | (injection h with h; rw [h]; rfl) | (injection h with h; rw [h]))
                  · first | (cases h; done) | (simp -implicitDefEqProofs [h1, c2, h6, c7, h9, c10, h12, c13, h15, c16, c18, c20, c21, h25, h27, c28]; first | rfl | (injection h with h; rw [h]; rfl) | (injection h with h; rw [h]))
                · simp -implicitDefEqProofs [h1, c2, h6, c7, h9, c10, h12, c13, h15, c16, c18, c20, c21]
                  cases h
              · simp -implicitDefEqProofs [h1, c2, h6, c7, h9, c10, h12, c13, h15, c16, c18, c20]
                cases h
        · first | (cases h; done) | (simp -implicitDefEqProofs [h1, c2, h6, c7, h9, c10, h12, c13]; first | rfl | (injection h with h; rw [h]; rfl) | (injection h with h; rw [h]))
      · simp -implicitDefEqProofs [h1, c2, h6, c7, h9, c10]
        cases h
    · simp -implicitDefEqProofs [h1, c2, h6, c7]
      obtain ⟨v35, h36', h⟩ := bind_some' h
      have h36 : ev 17 [T.c (C.lit (Value.int IntKind.i64 n))] = some (T.c (C.ref 0 0 (lenN v35)), [rowO 5 1 byteF v35]) := w_lex_Put _ _ h36'
      simp -implicitDefEqProofs [h1, c2, h6, c7, h36]
      rcases iteB_cases h with ⟨c37, h⟩ | ⟨c37, h⟩
      · simp -implicitDefEqProofs [h1, c2, h6, c7, h36, c37]
        rcases iteB_cases h with ⟨c38, h⟩ | ⟨c38, h⟩
        · first | (cases h; done) | (simp -implicitDefEqProofs [h1, c2, h6, c7, h36, c37, c38]; first | rfl | (injection h with h; rw [h]; rfl) | (injection h with h; rw [h]))
        · first | (cases h; done) | (simp -implicitDefEqProofs [h1, c2, h6, c7, h36, c37, c38]; first | rfl | (injection h with h; rw [h]; rfl) | (injection h with h; rw [h]))
      · simp -implicitDefEqProofs [h1, c2, h6, c7, h36, c37]
        rcases iteB_cases h with ⟨c39, h⟩ | ⟨c39, h⟩
        · simp -implicitDefEqProofs [h1, c2, h6, c7, h36, c37, c39]
          rcases iteB_cases h with ⟨c40, h⟩ | ⟨c40, h⟩
          · first | (cases h; done) | (simp -implicitDefEqProofs [h1, c2, h6, c7, h36, c37, c39, c40]; first | rfl | (injection h with h; rw [h]; rfl) | (injection h with h; rw [h]))
          · first | (cases h; done) | (simp -implicitDefEqProofs [h1, c2, h6, c7, h36, c37, c39, c40]; first | rfl | (injection h with h; rw [h]; rfl) | (injection h with h; rw [h]))
        · simp -implicitDefEqProofs [h1, c2, h6, c7, h36, c37, c39]
          rcases iteB_cases h with ⟨c41, h⟩ | ⟨c41, h⟩
          · simp -implicitDefEqProofs [h1, c2, h6, c7, h36, c37, c39, c41]
            rcases iteB_cases h with ⟨c42, h⟩ | ⟨c42, h⟩
            · simp -implicitDefEqProofs [h1, c2, h6, c7, h36, c37, c39, c41, c42]
              obtain ⟨⟨v43, v44, v45⟩, h46', h⟩ := bind_some' h
              have h46 : ev 12 [T.c (sls 1 byteF (v35 ++ b)), T.c (C.lit (Value.int IntKind.i64 0))] = some (T.tup [T.c (C.lit (Value.int IntKind.i64 v43)), T.c (C.lit (Value.int IntKind.i64 v44)), T.c (C.lit (Value.int IntKind.i64 v45))], []) := w_lex_Take _ _ _ h46'
              simp -implicitDefEqProofs [h1, c2, h6, c7, h36, c37, c39, c41, c42, h46]
              obtain ⟨v47, h48', h⟩ := bind_some' h
              have h48 : ev 17 [T.c (C.lit (Value.int IntKind.i64 m))] = some (T.c (C.ref 0 0 (lenN v47)), [rowO 5 1 byteF v47]) := w_lex_Put _ _ h48'
              simp -implicitDefEqProofs [h1, c2, h6, c7, h36, c37, c39, c41, c42, h46, h48]
              rcases iteB_cases h with ⟨c49, h⟩ | ⟨c49, h⟩
              · simp -implicitDefEqProofs [h1, c2, h6, c7, h36, c37, c39, c41, c42, h46, h48, c49]
                rcases iteB_cases h with ⟨c50, h⟩ | ⟨c50, h⟩
                · simp -implicitDefEqProofs [h1, c2, h6, c7, h36, c37, c39, c41, c42, h46, h48, c49, c50]
                  rcases iteB_cases h with ⟨c51, h⟩ | ⟨c51, h⟩
                  · simp -implicitDefEqProofs [h1, c2, h6, c7, h36, c37, c39, c41, c42, h46, h48, c49, c50, c51]
                    rcases iteB_cases h with ⟨c52, h⟩ | ⟨c52, h⟩
                    · simp -implicitDefEqProofs [h1, c2, h6, c7, h36, c37, c39, c41, c42, h46, h48, c49, c50, c51, c52]
                      rcases iteB_cases h with ⟨c53, h⟩ | ⟨c53, h⟩
                      · simp -implicitDefEqProofs [h1, c2, h6, c7, h36, c37, c39, c41, c42, h46, h48, c49, c50, c51, c52, c53]
                        rcases iteB_cases h with ⟨c54, h⟩ | ⟨c54, h⟩
                        · first | (cases h; done) | (simp -implicitDefEqProofs [h1, c2, h6, c7, h36, c37, c39, c41, c42, h46, h48, c49, c50, c51, c52, c53, c54]; first | rfl | (injection h with h; rw [h]; rfl) | (injection h with h; rw [h]))
                        · simp -implicitDefEqProofs [h1, c2, h6, c7, h36, c37, c39, c41, c42, h46, h48, c49, c50, c51, c52, c53, c54]
                          rcases iteB_cases h with ⟨c55, h⟩ | ⟨c55, h⟩
                          · first | (cases h; done) | (simp -implicitDefEqProofs [h1, c2, h6, c7, h36, c37, c39, c41, c42, h46, h48, c49, c50, c51, c52, c53, c54, c55]; first | rfl | (injection h with h; rw [h]; rfl) | (injection h with h; rw [h]))
                          · first | (cases h; done) | (simp -implicitDefEqProofs [h1, c2, h6, c7, h36, c37, c39, c41, c42, h46, h48, c49, c50, c51, c52, c53, c54, c55]; first | rfl | (injection h with h; rw [h]; rfl) | (injection h with h; rw [h]))
                      · first | (cases h; done) | (simp -implicitDefEqProofs [h1, c2, h6, c7, h36, c37, c39, c41, c42, h46, h48, c49, c50, c51, c52, c53]; first | rfl | (injection h with h; rw [h]; rfl) | (injection h with h; rw [h]))
                    · first | (cases h; done) | (simp -implicitDefEqProofs [h1, c2, h6, c7, h36, c37, c39, c41, c42, h46, h48, c49, c50, c51, c52]; first | rfl | (injection h with h; rw [h]; rfl) | (injection h with h; rw [h]))
                  · first | (cases h; done) | (simp -implicitDefEqProofs [h1, c2, h6, c7, h36, c37, c39, c41, c42, h46, h48, c49, c50, c51]; first | rfl | (injection h with h; rw [h]; rfl) | (injection h with h; rw [h]))
                · first | (cases h; done) | (simp -implicitDefEqProofs [h1, c2, h6, c7, h36, c37, c39, c41, c42, h46, h48, c49, c50]; first | rfl | (injection h with h; rw [h]; rfl) | (injection h with h; rw [h]))
              · first | (cases h; done) | (simp -implicitDefEqProofs [h1, c2, h6, c7, h36, c37, c39, c41, c42, h46, h48, c49]; first | rfl | (injection h with h; rw [h]; rfl) | (injection h with h; rw [h]))
            · simp -implicitDefEqProofs [h1, c2, h6, c7, h36, c37, c39, c41, c42]
              cases h
          · simp -implicitDefEqProofs [h1, c2, h6, c7, h36, c37, c39, c41]
            cases h
theorem w_law01_LexWords (with_ : LexWordsIn_law01) (h : law01_LexWords with_ = some true) : ev 7 [T.agg (LexWordsIn_law01.cells with_)] = some (T.c (C.lit (Value.bool true)), []) := by
  refine ev_run' (kp := k7) (us := [4]) fn7 rfl rfl rfl rfl rfl (by kernel_rfl) (by simp) ?_
  unfold law01_LexWords at h
  simp -implicitDefEqProofs
  obtain ⟨v0, h1', h⟩ := bind_some' h
  have h1 : ev 9 [] = some (T.c (C.lit (Value.bool v0)), []) := w_law01_shown _ h1'
  simp -implicitDefEqProofs [h1]
  rcases iteB_cases h with ⟨c2, h⟩ | ⟨c2, h⟩
  · first | (cases h; done) | (simp -implicitDefEqProofs [h1, c2]; first | rfl | (injection h with h; rw [h]; rfl) | (injection h with h; rw [h]))
  · simp -implicitDefEqProofs [h1, c2]
    rcases iteB_cases h with ⟨c3, h⟩ | ⟨c3, h⟩
    · first | (cases h; done) | (simp -implicitDefEqProofs [h1, c2, c3]; first | rfl | (injection h with h; rw [h]; rfl) | (injection h with h; rw [h]))
    · simp -implicitDefEqProofs [h1, c2, c3]
      rcases iteB_cases h with ⟨c4, h⟩ | ⟨c4, h⟩
      · first | (cases h; done) | (simp -implicitDefEqProofs [h1, c2, c3, c4]; first | rfl | (injection h with h; rw [h]; rfl) | (injection h with h; rw [h]))
      · simp -implicitDefEqProofs [h1, c2, c3, c4]
        obtain ⟨⟨v5, v6⟩, h7', h⟩ := bind_some' h
        have h7 : ev 23 [T.c (sls 1 byteF with_.b), T.c (C.lit (Value.int IntKind.i64 with_.at')), T.c (C.lit (Value.string with_.s))] = some (T.tup [T.c (C.lit (Value.int IntKind.i64 v5)), T.c (C.lit (Value.bool v6))], []) := w_lex_Is _ _ _ _ h7'
        simp -implicitDefEqProofs [h1, c2, c3, c4, h7]
        rcases iteB_cases h with ⟨c8, h⟩ | ⟨c8, h⟩
        · simp -implicitDefEqProofs [h1, c2, c3, c4, h7, c8]
          obtain ⟨⟨v9, v10⟩, h11', h⟩ := bind_some' h
          have h11 : ev 23 [T.c (sls 1 byteF with_.b), T.c (C.lit (Value.int IntKind.i64 with_.at')), T.c (C.lit (Value.string (with_.s ++ with_.t)))] = some (T.tup [T.c (C.lit (Value.int IntKind.i64 v9)), T.c (C.lit (Value.bool v10))], []) := w_lex_Is _ _ _ _ h11'
          simp -implicitDefEqProofs [h1, c2, c3, c4, h7, c8, h11]
          obtain ⟨⟨v12, v13⟩, h14', h⟩ := bind_some' h
          have h14 : ev 23 [T.c (sls 1 byteF with_.b), T.c (C.lit (Value.int IntKind.i64 with_.at')), T.c (C.lit (Value.string { data := #[] }))] = some (T.tup [T.c (C.lit (Value.int IntKind.i64 v12)), T.c (C.lit (Value.bool v13))], []) := w_lex_Is _ _ _ _ h14'
          simp -implicitDefEqProofs [h1, c2, c3, c4, h7, c8, h11, h14]
          rcases iteB_cases h with ⟨c15, h⟩ | ⟨c15, h⟩
          · simp -implicitDefEqProofs [h1, c2, c3, c4, h7, c8, h11, h14, c15]
            rcases iteB_cases h with ⟨c16, h⟩ | ⟨c16, h⟩
            · simp -implicitDefEqProofs [h1, c2, c3, c4, h7, c8, h11, h14, c15, c16]
              rcases iteB_cases h with ⟨c17, h⟩ | ⟨c17, h⟩
              · first | (cases h; done) | (simp -implicitDefEqProofs [h1, c2, c3, c4, h7, c8, h11, h14, c15, c16, c17]; first | rfl | (injection h with h; rw [h]; rfl) | (injection h with h; rw [h]))
              · simp -implicitDefEqProofs [h1, c2, c3, c4, h7, c8, h11, h14, c15, c16, c17]
                rcases iteB_cases h with ⟨c18, h⟩ | ⟨c18, h⟩
                · first | (cases h; done) | (simp -implicitDefEqProofs [h1, c2, c3, c4, h7, c8, h11, h14, c15, c16, c17, c18]; first | rfl | (injection h with h; rw [h]; rfl) | (injection h with h; rw [h]))
                · simp -implicitDefEqProofs [h1, c2, c3, c4, h7, c8, h11, h14, c15, c16, c17, c18]
                  rcases iteB_cases h with ⟨c19, h⟩ | ⟨c19, h⟩
                  · first | (cases h; done) | (simp -implicitDefEqProofs [h1, c2, c3, c4, h7, c8, h11, h14, c15, c16, c17, c18, c19]; first | rfl | (injection h with h; rw [h]; rfl) | (injection h with h; rw [h]))
                  · first | (cases h; done) | (simp -implicitDefEqProofs [h1, c2, c3, c4, h7, c8, h11, h14, c15, c16, c17, c18, c19]; first | rfl | (injection h with h; rw [h]; rfl) | (injection h with h; rw [h]))
            · first | (cases h; done) | (simp -implicitDefEqProofs [h1, c2, c3, c4, h7, c8, h11, h14, c15, c16]; first | rfl | (injection h with h; rw [h]; rfl) | (injection h with h; rw [h]))
          · simp -implicitDefEqProofs [h1, c2, c3, c4, h7, c8, h11, h14, c15]
            rcases iteB_cases h with ⟨c20, h⟩ | ⟨c20, h⟩
            · simp -implicitDefEqProofs [h1, c2, c3, c4, h7, c8, h11, h14, c15, c20]
              rcases iteB_cases h with ⟨c21, h⟩ | ⟨c21, h⟩
              · simp -implicitDefEqProofs [h1, c2, c3, c4, h7, c8, h11, h14, c15, c20, c21]
                rcases iteB_cases h with ⟨c22, h⟩ | ⟨c22, h⟩
                · first | (cases h; done) | (simp -implicitDefEqProofs [h1, c2, c3, c4, h7, c8, h11, h14, c15, c20, c21, c22]; first | rfl | (injection h with h; rw [h]; rfl) | (injection h with h; rw [h]))
                · simp -implicitDefEqProofs [h1, c2, c3, c4, h7, c8, h11, h14, c15, c20, c21, c22]
                  rcases iteB_cases h with ⟨c23, h⟩ | ⟨c23, h⟩
                  · first | (cases h; done) | (simp -implicitDefEqProofs [h1, c2, c3, c4, h7, c8, h11, h14, c15, c20, c21, c22, c23]; first | rfl | (injection h with h; rw [h]; rfl) | (injection h with h; rw [h]))
                  · simp -implicitDefEqProofs [h1, c2, c3, c4, h7, c8, h11, h14, c15, c20, c21, c22, c23]
                    rcases iteB_cases h with ⟨c24, h⟩ | ⟨c24, h⟩
                    · first | (cases h; done) | (simp -implicitDefEqProofs [h1, c2, c3, c4, h7, c8, h11, h14, c15, c20, c21, c22, c23, c24]; first | rfl | (injection h with h; rw [h]; rfl) | (injection h with h; rw [h]))
                    · first | (cases h; done) | (simp -implicitDefEqProofs [h1, c2, c3, c4, h7, c8, h11, h14, c15, c20, c21, c22, c23, c24]; first | rfl | (injection h with h; rw [h]; rfl) | (injection h with h; rw [h]))
              · first | (cases h; done) | (simp -implicitDefEqProofs [h1, c2, c3, c4, h7, c8, h11, h14, c15, c20, c21]; first | rfl | (injection h with h; rw [h]; rfl) | (injection h with h; rw [h]))
            · simp -implicitDefEqProofs [h1, c2, c3, c4, h7, c8, h11, h14, c15, c20]
              obtain ⟨⟨v25, v26⟩, h27', h⟩ := bind_some' h
              have h27 : ev 23 [T.c (sls 1 byteF with_.b), T.c (C.lit (Value.int IntKind.i64 v5)), T.c (C.lit (Value.string with_.t))] = some (T.tup [T.c (C.lit (Value.int IntKind.i64 v25)), T.c (C.lit (Value.bool v26))], []) := w_lex_Is _ _ _ _ h27'
              simp -implicitDefEqProofs [h1, c2, c3, c4, h7, c8, h11, h14, c15, c20, h27]
              rcases iteB_cases h with ⟨c28, h⟩ | ⟨c28, h⟩
              · simp -implicitDefEqProofs [h1, c2, c3, c4, h7, c8, h11, h14, c15, c20, h27, c28]
                rcases iteB_cases h with ⟨c29, h⟩ | ⟨c29, h⟩
                · simp -implicitDefEqProofs [h1, c2, c3, c4, h7, c8, h11, h14, c15, c20, h27, c28, c29]
                  rcases iteB_cases h with ⟨c30, h⟩ | ⟨c30, h⟩
                  · simp -implicitDefEqProofs [h1, c2, c3, c4, h7, c8, h11, h14, c15, c20, h27, c28, c29, c30]
                    obtain ⟨⟨v31, v32⟩, h33', h⟩ := bind_some' h
                    have h33 : ev 23 [T.c (sls 1 byteF (cut with_.b 0 with_.at' ++ bytesOf (with_.s ++ with_.t))), T.c (C.lit (Value.int IntKind.i64 with_.at')), T.c (C.lit (Value.string with_.s))] = some (T.tup [T.c (C.lit (Value.int IntKind.i64 v31)), T.c (C.lit (Value.bool v32))], []) := w_lex_Is _ _ _ _ h33'
                    simp -implicitDefEqProofs [h1, c2, c3, c4, h7, c8, h11, h14, c15, c20, h27, c28, c29, c30, h33]
                    rcases iteB_cases h with ⟨c34, h⟩ | ⟨c34, h⟩
                    · simp -implicitDefEqProofs [h1, c2, c3, c4, h7, c8, h11, h14, c15, c20, h27, c28, c29, c30, h33, c34]
                      rcases iteB_cases h with ⟨c35, h⟩ | ⟨c35, h⟩
                      · simp -implicitDefEqProofs [h1, c2, c3, c4, h7, c8, h11, h14, c15, c20, h27, c28, c29, c30, h33, c34, c35]
                        rcases iteB_cases h with ⟨c36, h⟩ | ⟨c36, h⟩
                        · simp -implicitDefEqProofs [h1, c2, c3, c4, h7, c8, h11, h14, c15, c20, h27, c28, c29, c30, h33, c34, c35, c36]
                          rcases iteB_cases h with ⟨c37, h⟩ | ⟨c37, h⟩
                          · simp -implicitDefEqProofs [h1, c2, c3, c4, h7, c8, h11, h14, c15, c20, h27, c28, c29, c30, h33, c34, c35, c36, c37]
                            rcases iteB_cases h with ⟨c38, h⟩ | ⟨c38, h⟩
                            · simp -implicitDefEqProofs [h1, c2, c3, c4, h7, c8, h11, h14, c15, c20, h27, c28, c29, c30, h33, c34, c35, c36, c37, c38]
                              rcases iteB_cases h with ⟨c39, h⟩ | ⟨c39, h⟩
                              · simp -implicitDefEqProofs [h1, c2, c3, c4, h7, c8, h11, h14, c15, c20, h27, c28, c29, c30, h33, c34, c35, c36, c37, c38, c39]
                                rcases iteB_cases h with ⟨c40, h⟩ | ⟨c40, h⟩
                                · simp -implicitDefEqProofs [h1, c2, c3, c4, h7, c8, h11, h14, c15, c20, h27, c28, c29, c30, h33, c34, c35, c36, c37, c38, c39, c40]
                                  rcases iteB_cases h with ⟨c41, h⟩ | ⟨c41, h⟩
                                  · first | (cases h; done) | (simp -implicitDefEqProofs [h1, c2, c3, c4, h7, c8, h11, h14, c15, c20, h27, c28, c29, c30, h33, c34, c35, c36, c37, c38, c39, c40, c41]; first | rfl | (injection h with h; rw [h]; rfl) | (injection h with h; rw [h]))
                                  · first | (cases h; done) | (simp -implicitDefEqProofs [h1, c2, c3, c4, h7, c8, h11, h14, c15, c20, h27, c28, c29, c30, h33, c34, c35, c36, c37, c38, c39, c40, c41]; first | rfl | (injection h with h; rw [h]; rfl) | (injection h with h; rw [h]))
                                · first | (cases h; done) | (simp -implicitDefEqProofs [h1, c2, c3, c4, h7, c8, h11, h14, c15, c20, h27, c28, c29, c30, h33, c34, c35, c36, c37, c38, c39, c40]; first | rfl | (injection h with h; rw [h]; rfl) | (injection h with h; rw [h]))
                              · first | (cases h; done) | (simp -implicitDefEqProofs [h1, c2, c3, c4, h7, c8, h11, h14, c15, c20, h27, c28, c29, c30, h33, c34, c35, c36, c37, c38, c39]; first | rfl | (injection h with h; rw [h]; rfl) | (injection h with h; rw [h]))
                            · simp -implicitDefEqProofs [h1, c2, c3, c4, h7, c8, h11, h14, c15, c20, h27, c28, c29, c30, h33, c34, c35, c36, c37, c38]
                              rcases iteB_cases h with ⟨c42, h⟩ | ⟨c42, h⟩
                              · simp -implicitDefEqProofs [h1, c2, c3, c4, h7, c8, h11, h14, c15, c20, h27, c28, c29, c30, h33, c34, c35, c36, c37, c38, c42]
                                rcases iteB_cases h with ⟨c43, h⟩ | ⟨c43, h⟩
                                · simp -implicitDefEqProofs [h1, c2, c3, c4, h7, c8, h11, h14, c15, c20, h27, c28, c29, c30, h33, c34, c35, c36, c37, c38, c42, c43]
                                  rcases iteB_cases h with ⟨c44, h⟩ | ⟨c44, h⟩
                                  · first | (cases h; done) | (simp -implicitDefEqProofs [h1, c2, c3, c4, h7, c8, h11, h14, c15, c20, h27, c28, c29, c30, h33, c34, c35, c36, c37, c38, c42, c43, c44]; first | rfl | (injection h with h; rw [h]; rfl) | (injection h with h; rw [h]))
                                  · first | (cases h; done) | (simp -implicitDefEqProofs [h1, c2, c3, c4, h7, c8, h11, h14, c15, c20, h27, c28, c29, c30, h33, c34, c35, c36, c37, c38, c42, c43, c44]; first | rfl | (injection h with h; rw [h]; rfl) | (injection h with h; rw [h]))
                                · first | (cases h; done) | (simp -implicitDefEqProofs [h1, c2, c3, c4, h7, c8, h11, h14, c15, c20, h27, c28, c29, c30, h33, c34, c35, c36, c37, c38, c42, c43]; first | rfl | (injection h with h; rw [h]; rfl) | (injection h with h; rw [h]))
                              · first | (cases h; done) | (simp -implicitDefEqProofs [h1, c2, c3, c4, h7, c8, h11, h14, c15, c20, h27, c28, c29, c30, h33, c34, c35, c36, c37, c38, c42]; first | rfl | (injection h with h; rw [h]; rfl) | (injection h with h; rw [h]))
                          · first | (cases h; done) | (simp -implicitDefEqProofs [h1, c2, c3, c4, h7, c8, h11, h14, c15, c20, h27, c28, c29, c30, h33, c34, c35, c36, c37]; first | rfl | (injection h with h; rw [h]; rfl) | (injection h with h; rw [h]))
                        · first | (cases h; done) | (simp -implicitDefEqProofs [h1, c2, c3, c4, h7, c8, h11, h14, c15, c20, h27, c28, c29, c30, h33, c34, c35, c36]; first | rfl | (injection h with h; rw [h]; rfl) | (injection h with h; rw [h]))
                      · first | (cases h; done) | (simp -implicitDefEqProofs [h1, c2, c3, c4, h7, c8, h11, h14, c15, c20, h27, c28, c29, c30, h33, c34, c35]; first | rfl | (injection h with h; rw [h]; rfl) | (injection h with h; rw [h]))
                    · first | (cases h; done) | (simp -implicitDefEqProofs [h1, c2, c3, c4, h7, c8, h11, h14, c15, c20, h27, c28, c29, c30, h33, c34]; first | rfl | (injection h with h; rw [h]; rfl) | (injection h with h; rw [h]))
                  · simp -implicitDefEqProofs [h1, c2, c3, c4, h7, c8, h11, h14, c15, c20, h27, c28, c29, c30]
                    cases h
                · simp -implicitDefEqProofs [h1, c2, c3, c4, h7, c8, h11, h14, c15, c20, h27, c28, c29]
                  cases h
              · simp -implicitDefEqProofs [h1, c2, c3, c4, h7, c8, h11, h14, c15, c20, h27, c28]
                cases h
        · simp -implicitDefEqProofs [h1, c2, c3, c4, h7, c8]
          cases h
theorem w_law01_LexNamed (s : ByteArray) (t : ByteArray) (h : law01_LexNamed s t = some true) : ev 8 [T.c (C.lit (Value.string s)), T.c (C.lit (Value.string t))] = some (T.c (C.lit (Value.bool true)), []) := by
  refine ev_run' (kp := k8) (us := [4]) fn8 rfl rfl rfl rfl rfl (by kernel_rfl) (by simp) ?_
  unfold law01_LexNamed at h
  simp -implicitDefEqProofs
  obtain ⟨v0, h1', h⟩ := bind_some' h
  have h1 : ev 9 [] = some (T.c (C.lit (Value.bool v0)), []) := w_law01_shown _ h1'
  simp -implicitDefEqProofs [h1]
  rcases iteB_cases h with ⟨c2, h⟩ | ⟨c2, h⟩
  · first | (cases h; done) | (simp -implicitDefEqProofs [h1, c2]; first | rfl | (injection h with h; rw [h]; rfl) | (injection h with h; rw [h]))
  · simp -implicitDefEqProofs [h1, c2]
    rcases iteB_cases h with ⟨c3, h⟩ | ⟨c3, h⟩
    · first | (cases h; done) | (simp -implicitDefEqProofs [h1, c2, c3]; first | rfl | (injection h with h; rw [h]; rfl) | (injection h with h; rw [h]))
    · simp -implicitDefEqProofs [h1, c2, c3]
      obtain ⟨v4, h5', h⟩ := bind_some' h
      have h5 : ev 14 [T.c (C.lit (Value.string s))] = some (T.c (C.lit (Value.bool v4)), []) := w_lex_IsName _ _ h5'
      simp -implicitDefEqProofs [h1, c2, c3, h5]
      obtain ⟨v6, h7', h⟩ := bind_some' h
      have h7 : ev 14 [T.c (C.lit (Value.string t))] = some (T.c (C.lit (Value.bool v6)), []) := w_lex_IsName _ _ h7'
      simp -implicitDefEqProofs [h1, c2, c3, h5, h7]
      rcases iteB_cases h with ⟨c8, h⟩ | ⟨c8, h⟩
      · simp -implicitDefEqProofs [h1, c2, c3, h5, h7, c8]
        rcases iteB_cases h with ⟨c9, h⟩ | ⟨c9, h⟩
        · simp -implicitDefEqProofs [h1, c2, c3, h5, h7, c8, c9]
          obtain ⟨⟨v10, v11, v12⟩, h13', h⟩ := bind_some' h
          have h13 : ev 10 [T.c (sls 1 byteF (bytesOf (s ++ { data := #[10] } ++ t))), T.c (C.lit (Value.int IntKind.i64 0))] = some (T.tup [T.c (C.lit (Value.string v10)), T.c (C.lit (Value.int IntKind.i64 v11)), T.c (C.lit (Value.int IntKind.i64 v12))], []) := w_lex_Name _ _ _ h13'
          simp -implicitDefEqProofs [h1, c2, c3, h5, h7, c8, c9, h13]
          obtain ⟨v14, h15', h⟩ := bind_some' h
          have h15 : ev 15 [T.c (C.lit (Value.string s))] = some (T.c (C.lit (Value.bool v14)), []) := w_ref01_IsName _ _ h15'
          simp -implicitDefEqProofs [h1, c2, c3, h5, h7, c8, c9, h13, h15]
          rcases iteB_cases h with ⟨c16, h⟩ | ⟨c16, h⟩
          · simp -implicitDefEqProofs [h1, c2, c3, h5, h7, c8, c9, h13, h15, c16]
            rcases iteB_cases h with ⟨c17, h⟩ | ⟨c17, h⟩
            · simp -implicitDefEqProofs [h1, c2, c3, h5, h7, c8, c9, h13, h15, c16, c17]
              rcases iteB_cases h with ⟨c18, h⟩ | ⟨c18, h⟩
              · simp -implicitDefEqProofs [h1, c2, c3, h5, h7, c8, c9, h13, h15, c16, c17, c18]
                rcases iteB_cases h with ⟨c19, h⟩ | ⟨c19, h⟩
                · simp -implicitDefEqProofs [h1, c2, c3, h5, h7, c8, c9, h13, h15, c16, c17, c18, c19]
                  rcases iteB_cases h with ⟨c20, h⟩ | ⟨c20, h⟩
                  · simp -implicitDefEqProofs [h1, c2, c3, h5, h7, c8, c9, h13, h15, c16, c17, c18, c19, c20]
                    obtain ⟨v21, h22', h⟩ := bind_some' h
                    have h22 : ev 14 [T.c (C.lit (Value.string (s ++ t)))] = some (T.c (C.lit (Value.bool v21)), []) := w_lex_IsName _ _ h22'
                    simp -implicitDefEqProofs [h1, c2, c3, h5, h7, c8, c9, h13, h15, c16, c17, c18, c19, c20, h22]
                    rcases iteB_cases h with ⟨c23, h⟩ | ⟨c23, h⟩
                    · simp -implicitDefEqProofs [h1, c2, c3, h5, h7, c8, c9, h13, h15, c16, c17, c18, c19, c20, h22, c23]
                      obtain ⟨v24, h25', h⟩ := bind_some' h
                      have h25 : ev 14 [T.c (C.lit (Value.string (s ++ { data := #[10] } ++ t)))] = some (T.c (C.lit (Value.bool v24)), []) := w_lex_IsName _ _ h25'
                      simp -implicitDefEqProofs [h1, c2, c3, h5, h7, c8, c9, h13, h15, c16, c17, c18, c19, c20, h22, c23, h25]
                      rcases iteB_cases h with ⟨c26, h⟩ | ⟨c26, h⟩
                      · first | (cases h; done) | (simp -implicitDefEqProofs [h1, c2, c3, h5, h7, c8, c9, h13, h15, c16, c17, c18, c19, c20, h22, c23, h25, c26]; first | rfl | (injection h with h; rw [h]; rfl) | (injection h with h; rw [h]))
                      · simp -implicitDefEqProofs [h1, c2, c3, h5, h7, c8, c9, h13, h15, c16, c17, c18, c19, c20, h22, c23, h25, c26]
                        rcases iteB_cases h with ⟨c27, h⟩ | ⟨c27, h⟩
                        · simp -implicitDefEqProofs [h1, c2, c3, h5, h7, c8, c9, h13, h15, c16, c17, c18, c19, c20, h22, c23, h25, c26, c27]
                          rcases iteB_cases h with ⟨c28, h⟩ | ⟨c28, h⟩
                          · simp -implicitDefEqProofs [h1, c2, c3, h5, h7, c8, c9, h13, h15, c16, c17, c18, c19, c20, h22, c23, h25, c26, c27, c28]
                            rcases iteB_cases h with ⟨c29, h⟩ | ⟨c29, h⟩
                            · simp -implicitDefEqProofs [h1, c2, c3, h5, h7, c8, c9, h13, h15, c16, c17, c18, c19, c20, h22, c23, h25, c26, c27, c28, c29]
                              rcases iteB_cases h with ⟨c30, h⟩ | ⟨c30, h⟩
                              · simp -implicitDefEqProofs [h1, c2, c3, h5, h7, c8, c9, h13, h15, c16, c17, c18, c19, c20, h22, c23, h25, c26, c27, c28, c29, c30]
                                obtain ⟨v31, h32', h⟩ := bind_some' h
                                have h32 : ev 14 [T.c (C.lit (Value.string v10))] = some (T.c (C.lit (Value.bool v31)), []) := w_lex_IsName _ _ h32'
                                first | (cases h; done) | (simp -implicitDefEqProofs [h1, c2, c3, h5, h7, c8, c9, h13, h15, c16, c17, c18, c19, c20, h22, c23, h25, c26, c27, c28, c29, c30, h32]; first | rfl | (injection h with h; rw [h]; rfl) | (injection h with h; rw [h]))
                              · first | (cases h; done) | (simp -implicitDefEqProofs [h1, c2, c3, h5, h7, c8, c9, h13, h15, c16, c17, c18, c19, c20, h22, c23, h25, c26, c27, c28, c29, c30]; first | rfl | (injection h with h; rw [h]; rfl) | (injection h with h; rw [h]))
                            · first | (cases h; done) | (simp -implicitDefEqProofs [h1, c2, c3, h5, h7, c8, c9, h13, h15, c16, c17, c18, c19, c20, h22, c23, h25, c26, c27, c28, c29]; first | rfl | (injection h with h; rw [h]; rfl) | (injection h with h; rw [h]))
                          · first | (cases h; done) | (simp -implicitDefEqProofs [h1, c2, c3, h5, h7, c8, c9, h13, h15, c16, c17, c18, c19, c20, h22, c23, h25, c26, c27, c28]; first | rfl | (injection h with h; rw [h]; rfl) | (injection h with h; rw [h]))
                        · first | (cases h; done) | (simp -implicitDefEqProofs [h1, c2, c3, h5, h7, c8, c9, h13, h15, c16, c17, c18, c19, c20, h22, c23, h25, c26, c27]; first | rfl | (injection h with h; rw [h]; rfl) | (injection h with h; rw [h]))
                    · first | (cases h; done) | (simp -implicitDefEqProofs [h1, c2, c3, h5, h7, c8, c9, h13, h15, c16, c17, c18, c19, c20, h22, c23]; first | rfl | (injection h with h; rw [h]; rfl) | (injection h with h; rw [h]))
                  · simp -implicitDefEqProofs [h1, c2, c3, h5, h7, c8, c9, h13, h15, c16, c17, c18, c19, c20]
                    cases h
                · simp -implicitDefEqProofs [h1, c2, c3, h5, h7, c8, c9, h13, h15, c16, c17, c18, c19]
                  obtain ⟨v33, h34', h⟩ := bind_some' h
                  have h34 : ev 14 [T.c (C.lit (Value.string (s ++ { data := #[10] } ++ t)))] = some (T.c (C.lit (Value.bool v33)), []) := w_lex_IsName _ _ h34'
                  simp -implicitDefEqProofs [h1, c2, c3, h5, h7, c8, c9, h13, h15, c16, c17, c18, c19, h34]
                  rcases iteB_cases h with ⟨c35, h⟩ | ⟨c35, h⟩
                  · first | (cases h; done) | (simp -implicitDefEqProofs [h1, c2, c3, h5, h7, c8, c9, h13, h15, c16, c17, c18, c19, h34, c35]; first | rfl | (injection h with h; rw [h]; rfl) | (injection h with h; rw [h]))
                  · simp -implicitDefEqProofs [h1, c2, c3, h5, h7, c8, c9, h13, h15, c16, c17, c18, c19, h34, c35]
                    rcases iteB_cases h with ⟨c36, h⟩ | ⟨c36, h⟩
                    · simp -implicitDefEqProofs [h1, c2, c3, h5, h7, c8, c9, h13, h15, c16, c17, c18, c19, h34, c35, c36]
                      rcases iteB_cases h with ⟨c37, h⟩ | ⟨c37, h⟩
                      · simp -implicitDefEqProofs [h1, c2, c3, h5, h7, c8, c9, h13, h15, c16, c17, c18, c19, h34, c35, c36, c37]
                        rcases iteB_cases h with ⟨c38, h⟩ | ⟨c38, h⟩
                        · simp -implicitDefEqProofs [h1, c2, c3, h5, h7, c8, c9, h13, h15, c16, c17, c18, c19, h34, c35, c36, c37, c38]
                          rcases iteB_cases h with ⟨c39, h⟩ | ⟨c39, h⟩
                          · simp -implicitDefEqProofs [h1, c2, c3, h5, h7, c8, c9, h13, h15, c16, c17, c18, c19, h34, c35, c36, c37, c38, c39]
                            obtain ⟨v40, h41', h⟩ := bind_some' h
                            have h41 : ev 14 [T.c (C.lit (Value.string v10))] = some (T.c (C.lit (Value.bool v40)), []) := w_lex_IsName _ _ h41'
                            first | (cases h; done) | (simp -implicitDefEqProofs [h1, c2, c3, h5, h7, c8, c9, h13, h15, c16, c17, c18, c19, h34, c35, c36, c37, c38, c39, h41]; first | rfl | (injection h with h; rw [h]; rfl) | (injection h with h; rw [h]))
                          · first | (cases h; done) | (simp -implicitDefEqProofs [h1, c2, c3, h5, h7, c8, c9, h13, h15, c16, c17, c18, c19, h34, c35, c36, c37, c38, c39]; first | rfl | (injection h with h; rw [h]; rfl) | (injection h with h; rw [h]))
                        · first | (cases h; done) | (simp -implicitDefEqProofs [h1, c2, c3, h5, h7, c8, c9, h13, h15, c16, c17, c18, c19, h34, c35, c36, c37, c38]; first | rfl | (injection h with h; rw [h]; rfl) | (injection h with h; rw [h]))
                      · first | (cases h; done) | (simp -implicitDefEqProofs [h1, c2, c3, h5, h7, c8, c9, h13, h15, c16, c17, c18, c19, h34, c35, c36, c37]; first | rfl | (injection h with h; rw [h]; rfl) | (injection h with h; rw [h]))
                    · first | (cases h; done) | (simp -implicitDefEqProofs [h1, c2, c3, h5, h7, c8, c9, h13, h15, c16, c17, c18, c19, h34, c35, c36]; first | rfl | (injection h with h; rw [h]; rfl) | (injection h with h; rw [h]))
              · simp -implicitDefEqProofs [h1, c2, c3, h5, h7, c8, c9, h13, h15, c16, c17, c18]
                obtain ⟨v42, h43', h⟩ := bind_some' h
                have h43 : ev 14 [T.c (C.lit (Value.string (s ++ { data := #[10] } ++ t)))] = some (T.c (C.lit (Value.bool v42)), []) := w_lex_IsName _ _ h43'
                simp -implicitDefEqProofs [h1, c2, c3, h5, h7, c8, c9, h13, h15, c16, c17, c18, h43]
                rcases iteB_cases h with ⟨c44, h⟩ | ⟨c44, h⟩
                · first | (cases h; done) | (simp -implicitDefEqProofs [h1, c2, c3, h5, h7, c8, c9, h13, h15, c16, c17, c18, h43, c44]; first | rfl | (injection h with h; rw [h]; rfl) | (injection h with h; rw [h]))
                · simp -implicitDefEqProofs [h1, c2, c3, h5, h7, c8, c9, h13, h15, c16, c17, c18, h43, c44]
                  rcases iteB_cases h with ⟨c45, h⟩ | ⟨c45, h⟩
                  · simp -implicitDefEqProofs [h1, c2, c3, h5, h7, c8, c9, h13, h15, c16, c17, c18, h43, c44, c45]
                    rcases iteB_cases h with ⟨c46, h⟩ | ⟨c46, h⟩
                    · simp -implicitDefEqProofs [h1, c2, c3, h5, h7, c8, c9, h13, h15, c16, c17, c18, h43, c44, c45, c46]
                      rcases iteB_cases h with ⟨c47, h⟩ | ⟨c47, h⟩
                      · simp -implicitDefEqProofs [h1, c2, c3, h5, h7, c8, c9, h13, h15, c16, c17, c18, h43, c44, c45, c46, c47]
                        rcases iteB_cases h with ⟨c48, h⟩ | ⟨c48, h⟩
                        · simp -implicitDefEqProofs [h1, c2, c3, h5, h7, c8, c9, h13, h15, c16, c17, c18, h43, c44, c45, c46, c47, c48]
                          obtain ⟨v49, h50', h⟩ := bind_some' h
                          have h50 : ev 14 [T.c (C.lit (Value.string v10))] = some (T.c (C.lit (Value.bool v49)), []) := w_lex_IsName _ _ h50'
                          first | (cases h; done) | (simp -implicitDefEqProofs [h1, c2, c3, h5, h7, c8, c9, h13, h15, c16, c17, c18, h43, c44, c45, c46, c47, c48, h50]; first | rfl | (injection h with h; rw [h]; rfl) | (injection h with h; rw [h]))
                        · first | (cases h; done) | (simp -implicitDefEqProofs [h1, c2, c3, h5, h7, c8, c9, h13, h15, c16, c17, c18, h43, c44, c45, c46, c47, c48]; first | rfl | (injection h with h; rw [h]; rfl) | (injection h with h; rw [h]))
                      · first | (cases h; done) | (simp -implicitDefEqProofs [h1, c2, c3, h5, h7, c8, c9, h13, h15, c16, c17, c18, h43, c44, c45, c46, c47]; first | rfl | (injection h with h; rw [h]; rfl) | (injection h with h; rw [h]))
                    · first | (cases h; done) | (simp -implicitDefEqProofs [h1, c2, c3, h5, h7, c8, c9, h13, h15, c16, c17, c18, h43, c44, c45, c46]; first | rfl | (injection h with h; rw [h]; rfl) | (injection h with h; rw [h]))
                  · first | (cases h; done) | (simp -implicitDefEqProofs [h1, c2, c3, h5, h7, c8, c9, h13, h15, c16, c17, c18, h43, c44, c45]; first | rfl | (injection h with h; rw [h]; rfl) | (injection h with h; rw [h]))
            · simp -implicitDefEqProofs [h1, c2, c3, h5, h7, c8, c9, h13, h15, c16, c17]
              obtain ⟨v51, h52', h⟩ := bind_some' h
              have h52 : ev 14 [T.c (C.lit (Value.string (s ++ { data := #[10] } ++ t)))] = some (T.c (C.lit (Value.bool v51)), []) := w_lex_IsName _ _ h52'
              simp -implicitDefEqProofs [h1, c2, c3, h5, h7, c8, c9, h13, h15, c16, c17, h52]
              rcases iteB_cases h with ⟨c53, h⟩ | ⟨c53, h⟩
              · first | (cases h; done) | (simp -implicitDefEqProofs [h1, c2, c3, h5, h7, c8, c9, h13, h15, c16, c17, h52, c53]; first | rfl | (injection h with h; rw [h]; rfl) | (injection h with h; rw [h]))
              · simp -implicitDefEqProofs [h1, c2, c3, h5, h7, c8, c9, h13, h15, c16, c17, h52, c53]
                rcases iteB_cases h with ⟨c54, h⟩ | ⟨c54, h⟩
                · simp -implicitDefEqProofs [h1, c2, c3, h5, h7, c8, c9, h13, h15, c16, c17, h52, c53, c54]
                  rcases iteB_cases h with ⟨c55, h⟩ | ⟨c55, h⟩
                  · simp -implicitDefEqProofs [h1, c2, c3, h5, h7, c8, c9, h13, h15, c16, c17, h52, c53, c54, c55]
                    obtain ⟨v56, h57', h⟩ := bind_some' h
                    have h57 : ev 14 [T.c (C.lit (Value.string v10))] = some (T.c (C.lit (Value.bool v56)), []) := w_lex_IsName _ _ h57'
                    first | (cases h; done) | (simp -implicitDefEqProofs [h1, c2, c3, h5, h7, c8, c9, h13, h15, c16, c17, h52, c53, c54, c55, h57]; first | rfl | (injection h with h; rw [h]; rfl) | (injection h with h; rw [h]))
                  · first | (cases h; done) | (simp -implicitDefEqProofs [h1, c2, c3, h5, h7, c8, c9, h13, h15, c16, c17, h52, c53, c54, c55]; first | rfl | (injection h with h; rw [h]; rfl) | (injection h with h; rw [h]))
                · first | (cases h; done) | (simp -implicitDefEqProofs [h1, c2, c3, h5, h7, c8, c9, h13, h15, c16, c17, h52, c53, c54]; first | rfl | (injection h with h; rw [h]; rfl) | (injection h with h; rw [h]))
          · first | (cases h; done) | (simp -implicitDefEqProofs [h1, c2, c3, h5, h7, c8, c9, h13, h15, c16]; first | rfl | (injection h with h; rw [h]; rfl) | (injection h with h; rw [h]))
        · simp -implicitDefEqProofs [h1, c2, c3, h5, h7, c8, c9]
          cases h
      · simp -implicitDefEqProofs [h1, c2, c3, h5, h7, c8]
        cases h
end Go.Proofs.YtgamgcmjiancmaaDoor

/- What the interpreter comes to is what the plain functions come to. No condition. -/
import Derived.Test.YtgamgcmjiancmaaDoorW2
set_option linter.unusedSimpArgs false
set_option linter.unusedVariables false
set_option maxRecDepth 20000
set_option maxHeartbeats 4000000
namespace Go.Proofs.YtgamgcmjiancmaaDoor
open Go.Vabs Go.Vid
theorem w_law01_LexNamed (s : ByteArray) (t : ByteArray) (h : law01_LexNamed s t = some true) : ev 8 [T.c (C.lit (Value.string s)), T.c (C.lit (Value.string t))] = some (T.c (C.lit (Value.bool true)), []) := by
  refine ev_run' (kp := k8) (us := [4]) fn8 rfl rfl rfl rfl rfl (by kernel_rfl) (by simp) ?_
  unfold law01_LexNamed at h
  simp -implicitDefEqProofs
  obtain ⟨v0, h1', h⟩ := bind_some' h
  have h1 : ev 9 [] = some (T.c (C.lit (Value.bool v0)), []) := w_law01_shown _ h1'
  simp -implicitDefEqProofs [h1]
  rcases iteB_cases h with ⟨c2, h⟩ | ⟨c2, h⟩
  · first | (cases h; done) | (simp -implicitDefEqProofs [h1, c2]; first | rfl | (injection h with h; rw [h]; rfl) | (injection h with h; rw [h]))
  · simp -implicitDefEqProofs [h1, c2]
    rcases iteB_cases h with ⟨c3, h⟩ | ⟨c3, h⟩
    · first | (cases h; done) | (simp -implicitDefEqProofs [h1, c2, c3]; first | rfl | (injection h with h; rw [h]; rfl) | (injection h with h; rw [h]))
    · simp -implicitDefEqProofs [h1, c2, c3]
      obtain ⟨v4, h5', h⟩ := bind_some' h
      have h5 : ev 14 [T.c (C.lit (Value.string s))] = some (T.c (C.lit (Value.bool v4)), []) := w_lex_IsName _ _ h5'
      simp -implicitDefEqProofs [h1, c2, c3, h5]
      obtain ⟨v6, h7', h⟩ := bind_some' h
      have h7 : ev 14 [T.c (C.lit (Value.string t))] = some (T.c (C.lit (Value.bool v6)), []) := w_lex_IsName _ _ h7'
      simp -implicitDefEqProofs [h1, c2, c3, h5, h7]
      rcases iteB_cases h with ⟨c8, h⟩ | ⟨c8, h⟩
      · simp -implicitDefEqProofs [h1, c2, c3, h5, h7, c8]
        rcases iteB_cases h with ⟨c9, h⟩ | ⟨c9, h⟩
        · simp -implicitDefEqProofs [h1, c2, c3, h5, h7, c8, c9]
          obtain ⟨⟨v10, v11, v12⟩, h13', h⟩ := bind_some' h
          have h13 : ev 10 [T.c (sls 1 byteF (bytesOf (s ++ { data := #[10] } ++ t))), T.c (C.lit (Value.int IntKind.i64 0))] = some (T.tup [T.c (C.lit (Value.string v10)), T.c (C.lit (Value.int IntKind.i64 v11)), T.c (C.lit (Value.int IntKind.i64 v12))], []) := w_lex_Name _ _ _ h13'
          simp -implicitDefEqProofs [h1, c2, c3, h5, h7, c8, c9, h13]
          obtain ⟨v14, h15', h⟩ := bind_some' h
          have h15 : ev 15 [T.c (C.lit (Value.string s))] = some (T.c (C.lit (Value.bool v14)), []) := w_ref01_IsName _ _ h15'
          simp -implicitDefEqProofs [h1, c2, c3, h5, h7, c8, c9, h13, h15]
          rcases iteB_cases h with ⟨c16, h⟩ | ⟨c16, h⟩
          · simp -implicitDefEqProofs [h1, c2, c3, h5, h7, c8, c9, h13, h15, c16]
            rcases iteB_cases h with ⟨c17, h⟩ | ⟨c17, h⟩
            · simp -implicitDefEqProofs [h1, c2, c3, h5, h7, c8, c9, h13, h15, c16, c17]
              rcases iteB_cases h with ⟨c18, h⟩ | ⟨c18, h⟩
              · simp -implicitDefEqProofs [h1, c2, c3, h5, h7, c8, c9, h13, h15, c16, c17, c18]
                rcases iteB_cases h with ⟨c19, h⟩ | ⟨c19, h⟩
                · simp -implicitDefEqProofs [h1, c2, c3, h5, h7, c8, c9, h13, h15, c16, c17, c18, c19]
                  rcases iteB_cases h with ⟨c20, h⟩ | ⟨c20, h⟩
                  · simp -implicitDefEqProofs [h1, c2, c3, h5, h7, c8, c9, h13, h15, c16, c17, c18, c19, c20]
                    obtain ⟨v21, h22', h⟩ := bind_some' h
                    have h22 : ev 14 [T.c (C.lit (Value.string (s ++ t)))] = some (T.c (C.lit (Value.bool v21)), []) := w_lex_IsName _ _ h22'
                    simp -implicitDefEqProofs [h1, c2, c3, h5, h7, c8, c9, h13, h15, c16, c17, c18, c19, c20, h22]
                    rcases iteB_cases h with ⟨c23, h⟩ | ⟨c23, h⟩
                    · simp -implicitDefEqProofs [h1, c2, c3, h5, h7, c8, c9, h13, h15, c16, c17, c18, c19, c20, h22, c23]
                      obtain ⟨v24, h25', h⟩ := bind_some' h
                      have h25 : ev 14 [T.c (C.lit (Value.string (s ++ { data := #[10] } ++ t)))] = some (T.c (C.lit (Value.bool v24)), []) := w_lex_IsName _ _ h25'
                      simp -implicitDefEqProofs [h1, c2, c3, h5, h7, c8, c9, h13, h15, c16, c17, c18, c19, c20, h22, c23, h25]
                      rcases iteB_cases h with ⟨c26, h⟩ | ⟨c26, h⟩
                      · first | (cases h; done) | (simp -implicitDefEqProofs [h1, c2, c3, h5, h7, c8, c9, h13, h15, c16, c17, c18, c19, c20, h22, c23, h25, c26]; first | rfl | (injection h with h; rw [h]; rfl) | (injection h with h; rw [h]))
                      · simp -implicitDefEqProofs [h1, c2, c3, h5, h7, c8, c9, h13, h15, c16, c17, c18, c19, c20, h22, c23, h25, c26]
                        rcases iteB_cases h with ⟨c27, h⟩ | ⟨c27, h⟩
                        · simp -implicitDefEqProofs [h1, c2, c3, h5, h7, c8, c9, h13, h15, c16, c17, c18, c19, c20, h22, c23, h25, c26, c27]
                          rcases iteB_cases h with ⟨c28, h⟩ | ⟨c28, h⟩
                          · simp -implicitDefEqProofs [h1, c2, c3, h5, h7, c8, c9, h13, h15, c16, c17, c18, c19, c20, h22, c23, h25, c26, c27, c28]
                            rcases iteB_cases h with ⟨c29, h⟩ | ⟨c29, h⟩
                            · simp -implicitDefEqProofs [h1, c2, c3, h5, h7, c8, c9, h13, h15, c16, c17, c18, c19, c20, h22, c23, h25, c26, c27, c28, c29]
                              rcases iteB_cases h with ⟨c30, h⟩ | ⟨c30, h⟩
                              · simp -implicitDefEqProofs [h1, c2, c3, h5, h7, c8, c9, h13, h15, c16, c17, c18, c19, c20, h22, c23, h25, c26, c27, c28, c29, c30]
                                obtain ⟨v31, h32', h⟩ := bind_some' h
                                have h32 : ev 14 [T.c (C.lit (Value.string v10))] = some (T.c (C.lit (Value.bool v31)), []) := w_lex_IsName _ _ h32'
                                first | (cases h; done) | (simp -implicitDefEqProofs [h1, c2, c3, h5, h7, c8, c9, h13, h15, c16, c17, c18, c19, c20, h22, c23, h25, c26, c27, c28, c29, c30, h32]; first | rfl | (injection h with h; rw [h]; rfl) | (injection h with h; rw [h]))
                              · first | (cases h; done) | (simp -implicitDefEqProofs [h1, c2, c3, h5, h7, c8, c9, h13, h15, c16, c17, c18, c19, c20, h22, c23, h25, c26, c27, c28, c29, c30]; first | rfl | (injection h with h; rw [h]; rfl) | (injection h with h; rw [h]))
                            · first | (cases h; done) | (simp -implicitDefEqProofs [h1, c2, c3, h5, h7, c8, c9, h13, h15, c16, c17, c18, c19, c20, h22, c23, h25, c26, c27, c28, c29]; first | rfl | (injection h with h; rw [h]; rfl) | (injection h with h; rw [h]))
                          · first | (cases h; done) | (simp -implicitDefEqProofs [h1, c2, c3, h5, h7, c8, c9, h13, h15, c16, c17, c18, c19, c20, h22, c23, h25, c26, c27, c28]; first | rfl | (injection h with h; rw [h]; rfl) | (injection h with h; rw [h]))
                        · first | (cases h; done) | (simp -implicitDefEqProofs [h1, c2, c3, h5, h7, c8, c9, h13, h15, c16, c17, c18, c19, c20, h22, c23, h25, c26, c27]; first | rfl | (injection h with h; rw [h]; rfl) | (injection h with h; rw [h]))
                    · first | (cases h; done) | (simp -implicitDefEqProofs [h1, c2, c3, h5, h7, c8, c9, h13, h15, c16, c17, c18, c19, c20, h22, c23]; first | rfl | (injection h with h; rw [h]; rfl) | (injection h with h; rw [h]))
                  · simp -implicitDefEqProofs [h1, c2, c3, h5, h7, c8, c9, h13, h15, c16, c17, c18, c19, c20]
                    cases h
                · simp -implicitDefEqProofs [h1, c2, c3, h5, h7, c8, c9, h13, h15, c16, c17, c18, c19]
                  obtain ⟨v33, h34', h⟩ := bind_some' h
                  have h34 : ev 14 [T.c (C.lit (Value.string (s ++ { data := #[10] } ++ t)))] = some (T.c (C.lit (Value.bool v33)), []) := w_lex_IsName _ _ h34'
                  simp -implicitDefEqProofs [h1, c2, c3, h5, h7, c8, c9, h13, h15, c16, c17, c18, c19, h34]
                  rcases iteB_cases h with ⟨c35, h⟩ | ⟨c35, h⟩
                  · first | (cases h; done) | (simp -implicitDefEqProofs [h1, c2, c3, h5, h7, c8, c9, h13, h15, c16, c17, c18, c19, h34, c35]; first | rfl | (injection h with h; rw [h]; rfl) | (injection h with h; rw [h]))
                  · simp -implicitDefEqProofs [h1, c2, c3, h5, h7, c8, c9, h13, h15, c16, c17, c18, c19, h34, c35]
                    rcases iteB_cases h with ⟨c36, h⟩ | ⟨c36, h⟩
                    · simp -implicitDefEqProofs [h1, c2, c3, h5, h7, c8, c9, h13, h15, c16, c17, c18, c19, h34, c35, c36]
                      rcases iteB_cases h with ⟨c37, h⟩ | ⟨c37, h⟩
                      · simp -implicitDefEqProofs [h1, c2, c3, h5, h7, c8, c9, h13, h15, c16, c17, c18, c19, h34, c35, c36, c37]
                        rcases iteB_cases h with ⟨c38, h⟩ | ⟨c38, h⟩
                        · simp -implicitDefEqProofs [h1, c2, c3, h5, h7, c8, c9, h13, h15, c16, c17, c18, c19, h34, c35, c36, c37, c38]
                          rcases iteB_cases h with ⟨c39, h⟩ | ⟨c39, h⟩
                          · simp -implicitDefEqProofs [h1, c2, c3, h5, h7, c8, c9, h13, h15, c16, c17, c18, c19, h34, c35, c36, c37, c38, c39]
                            obtain ⟨v40, h41', h⟩ := bind_some' h
                            have h41 : ev 14 [T.c (C.lit (Value.string v10))] = some (T.c (C.lit (Value.bool v40)), []) := w_lex_IsName _ _ h41'
                            first | (cases h; done) | (simp -implicitDefEqProofs [h1, c2, c3, h5, h7, c8, c9, h13, h15, c16, c17, c18, c19, h34, c35, c36, c37, c38, c39, h41]; first | rfl | (injection h with h; rw [h]; rfl) | (injection h with h; rw [h]))
                          · first | (cases h; done) | (simp -implicitDefEqProofs [h1, c2, c3, h5, h7, c8, c9, h13, h15, c16, c17, c18, c19, h34, c35, c36, c37, c38, c39]; first | rfl | (injection h with h; rw [h]; rfl) | (injection h with h; rw [h]))
                        · first | (cases h; done) | (simp -implicitDefEqProofs [h1, c2, c3, h5, h7, c8, c9, h13, h15, c16, c17, c18, c19, h34, c35, c36, c37, c38]; first | rfl | (injection h with h; rw [h]; rfl) | (injection h with h; rw [h]))
                      · first | (cases h; done) | (simp -implicitDefEqProofs [h1, c2, c3, h5, h7, c8, c9, h13, h15, c16, c17, c18, c19, h34, c35, c36, c37]; first | rfl | (injection h with h; rw [h]; rfl) | (injection h with h; rw [h]))
                    · first | (cases h; done) | (simp -implicitDefEqProofs [h1, c2, c3, h5, h7, c8, c9, h13, h15, c16, c17, c18, c19, h34, c35, c36]; first | rfl | (injection h with h; rw [h]; rfl) | (injection h with h; rw [h]))
              · simp -implicitDefEqProofs [h1, c2, c3, h5, h7, c8, c9, h13, h15, c16, c17, c18]
                obtain ⟨v42, h43', h⟩ := bind_some' h
                have h43 : ev 14 [T.c (C.lit (Value.string (s ++ { data := #[10] } ++ t)))] = some (T.c (C.lit (Value.bool v42)), []) := w_lex_IsName _ _ h43'
                simp -implicitDefEqProofs [h1, c2, c3, h5, h7, c8, c9, h13, h15, c16, c17, c18, h43]
                rcases iteB_cases h with ⟨c44, h⟩ | ⟨c44, h⟩
                · first | (cases h; done) | (simp -implicitDefEqProofs [h1, c2, c3, h5, h7, c8, c9, h13, h15, c16, c17, c18, h43, c44]; first | rfl | (injection h with h; rw [h]; rfl) | (injection h with h; rw [h]))
                · simp -implicitDefEqProofs [h1, c2, c3, h5, h7, c8, c9, h13, h15, c16, c17, c18, h43, c44]
                  rcases iteB_cases h with ⟨c45, h⟩ | ⟨c45, h⟩
                  · simp -implicitDefEqProofs [h1, c2, c3, h5, h7, c8, c9, h13, h15, c16, c17, c18, h43, c44, c45]
                    rcases iteB_cases h with ⟨c46, h⟩ | ⟨c46, h⟩
                    · simp -implicitDefEqProofs [h1, c2, c3, h5, h7, c8, c9, h13, h15, c16, c17, c18, h43, c44, c45, c46]
                      rcases iteB_cases h with ⟨c47, h⟩ | ⟨c47, h⟩
                      · simp -implicitDefEqProofs [h1, c2, c3, h5, h7, c8, c9, h13, h15, c16, c17, c18, h43, c44, c45, c46, c47]
                        rcases iteB_cases h with ⟨c48, h⟩ | ⟨c48, h⟩
                        · simp -implicitDefEqProofs [h1, c2, c3, h5, h7, c8, c9, h13, h15, c16, c17, c18, h43, c44, c45, c46, c47, c48]
                          obtain ⟨v49, h50', h⟩ := bind_some' h
                          have h50 : ev 14 [T.c (C.lit (Value.string v10))] = some (T.c (C.lit (Value.bool v49)), []) := w_lex_IsName _ _ h50'
                          first | (cases h; done) | (simp -implicitDefEqProofs [h1, c2, c3, h5, h7, c8, c9, h13, h15, c16, c17, c18, h43, c44, c45, c46, c47, c48, h50]; first | rfl | (injection h with h; rw [h]; rfl) | (injection h with h; rw [h]))
                        · first | (cases h; done) | (simp -implicitDefEqProofs [h1, c2, c3, h5, h7, c8, c9, h13, h15, c16, c17, c18, h43, c44, c45, c46, c47, c48]; first | rfl | (injection h with h; rw [h]; rfl) | (injection h with h; rw [h]))
                      · first | (cases h; done) | (simp -implicitDefEqProofs [h1, c2, c3, h5, h7, c8, c9, h13, h15, c16, c17, c18, h43, c44, c45, c46, c47]; first | rfl | (injection h with h; rw [h]; rfl) | (injection h with h; rw [h]))
                    · first | (cases h; done) | (simp -implicitDefEqProofs [h1, c2, c3, h5, h7, c8, c9, h13, h15, c16, c17, c18, h43, c44, c45, c46]; first | rfl | (injection h with h; rw [h]; rfl) | (injection h with h; rw [h]))
                  · first | (cases h; done) | (simp -implicitDefEqProofs [h1, c2, c3, h5, h7, c8, c9, h13, h15, c16, c17, c18, h43, c44, c45]; first | rfl | (injection h with h; rw [h]; rfl) | (injection h with h; rw [h]))
            · simp -implicitDefEqProofs [h1, c2, c3, h5, h7, c8, c9, h13, h15, c16, c17]
              obtain ⟨v51, h52', h⟩ := bind_some' h
              have h52 : ev 14 [T.c (C.lit (Value.string (s ++ { data := #[10] } ++ t)))] = some (T.c (C.lit (Value.bool v51)), []) := w_lex_IsName _ _ h52'
              simp -implicitDefEqProofs [h1, c2, c3, h5, h7, c8, c9, h13, h15, c16, c17, h52]
              rcases iteB_cases h with ⟨c53, h⟩ | ⟨c53, h⟩
              · first | (cases h; done) | (simp -implicitDefEqProofs [h1, c2, c3, h5, h7, c8, c9, h13, h15, c16, c17, h52, c53]; first | rfl | (injection h with h; rw [h]; rfl) | (injection h with h; rw [h]))
              · simp -implicitDefEqProofs [h1, c2, c3, h5, h7, c8, c9, h13, h15, c16, c17, h52, c53]
                rcases iteB_cases h with ⟨c54, h⟩ | ⟨c54, h⟩
                · simp -implicitDefEqProofs [h1, c2, c3, h5, h7, c8, c9, h13, h15, c16, c17, h52, c53, c54]
                  rcases iteB_cases h with ⟨c55, h⟩ | ⟨c55, h⟩
                  · simp -implicitDefEqProofs [h1, c2, c3, h5, h7, c8, c9, h13, h15, c16, c17, h52, c53, c54, c55]
                    obtain ⟨v56, h57', h⟩ := bind_some' h
                    have h57 : ev 14 [T.c (C.lit (Value.string v10))] = some (T.c (C.lit (Value.bool v56)), []) := w_lex_IsName _ _ h57'
                    first | (cases h; done) | (simp -implicitDefEqProofs [h1, c2, c3, h5, h7, c8, c9, h13, h15, c16, c17, h52, c53, c54, c55, h57]; first | rfl | (injection h with h; rw [h]; rfl) | (injection h with h; rw [h]))
                  · first | (cases h; done) | (simp -implicitDefEqProofs [h1, c2, c3, h5, h7, c8, c9, h13, h15, c16, c17, h52, c53, c54, c55]; first | rfl | (injection h with h; rw [h]; rfl) | (injection h with h; rw [h]))
                · first | (cases h; done) | (simp -implicitDefEqProofs [h1, c2, c3, h5, h7, c8, c9, h13, h15, c16, c17, h52, c53, c54]; first | rfl | (injection h with h; rw [h]; rfl) | (injection h with h; rw [h]))
          · first | (cases h; done) | (simp -implicitDefEqProofs [h1, c2, c3, h5, h7, c8, c9, h13, h15, c16]; first | rfl | (injection h with h; rw [h]; rfl) | (injection h with h; rw [h]))
        · simp -implicitDefEqProofs [h1, c2, c3, h5, h7, c8, c9]
          cases h
      · simp -implicitDefEqProofs [h1, c2, c3, h5, h7, c8]
        cases h
end Go.Proofs.YtgamgcmjiancmaaDoor

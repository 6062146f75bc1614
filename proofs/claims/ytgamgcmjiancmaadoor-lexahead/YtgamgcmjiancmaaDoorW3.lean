/- What the interpreter comes to is what the plain functions come to. No condition. -/
import Derived.Test.YtgamgcmjiancmaaDoorW2
set_option linter.unusedSimpArgs false
set_option linter.unusedVariables false
set_option maxRecDepth 20000
set_option maxHeartbeats 4000000
namespace Go.Proofs.YtgamgcmjiancmaaDoor
open Go.Vabs Go.Vid
theorem w_ref01_IsName (s : ByteArray) (r : Bool) (h : ref01_IsName s = some r) : ev 15 [T.c (C.lit (Value.string s))] = some (T.c (C.lit (Value.bool r)), []) := by
  refine ev_run' (kp := k15) (us := [4]) fn15 rfl rfl rfl rfl rfl (by kernel_rfl) (by simp) ?_
  unfold ref01_IsName at h
  simp
  obtain ⟨w34, h33, h⟩ := bind_some' h
  rw [evLoop_loopF (ι := Int × Int) (ρ := Unit ⊕ Int) (fun p => match p with | (x21, x22) => mk 38 [(0, T.c (C.lit (Value.string s))), (3, T.c (C.lit (Value.int IntKind.i64 x21))), (4, T.c (C.lit (Value.int IntKind.i64 x22)))] [] []) (fun r => match r with | .inl () => (Ex.ret, mk 38 [(2, T.c (C.lit (Value.bool false)))] [] []) | .inr y31 => (Ex.exit 0, mk 38 [(3, T.c (C.lit (Value.int IntKind.i64 y31)))] [] [])) (ref01_IsName_B0 s) h33 ?_ _ ?_]
  · rcases w34 with ⟨⟩ | y31
    · simp
      cases h
      rfl
    · simp
      rcases iteB_cases h with ⟨c32, h⟩ | ⟨c32, h⟩
      · simp [c32]
        cases h
        rfl
      · simp [c32]
        cases h
        rfl
  · clear h33 h
    rintro ⟨x21, x22⟩ y L res h hL hR
    unfold ref01_IsName_B0 at h
    simp
    rcases iteB_cases h with ⟨c23, h⟩ | ⟨c23, h⟩
    · simp [c23]
      obtain ⟨v24, h25', h⟩ := bind_some' h
      have h25 : ev 27 [T.c (C.lit (Value.string s)), T.c (C.lit (Value.int IntKind.i64 x22))] = some (T.c (C.lit (Value.int IntKind.i64 v24)), []) := w_ref01_Long _ _ _ h25'
      simp [c23, h25]
      rcases iteB_cases h with ⟨c26, h⟩ | ⟨c26, h⟩
      · simp [c23, h25, c26]
        cases h
        exact hR _ rfl
      · simp [c23, h25, c26]
        obtain ⟨v27, h28, h⟩ := bind_some' h
        simp [c23, h25, c26, h28]
        rcases iteB_cases h with ⟨c29, h⟩ | ⟨c29, h⟩
        · simp [c23, h25, c26, h28, c29]
          cases h
          exact hR _ rfl
        · simp [c23, h25, c26, h28, c29]
          rcases iteB_cases h with ⟨c30, h⟩ | ⟨c30, h⟩
          · simp [c23, h25, c26, h28, c29, c30]
            cases h
            exact hR _ rfl
          · simp [c23, h25, c26, h28, c29, c30]
            cases h
            exact hL _ _ rfl (by simp [headOf])
    · simp [c23]
      cases h
      exact hR _ rfl
  · simp [headOf]
theorem w_ref01_Name (b : List Int) (at_ : Int) (r : ByteArray × Int × Int) (h : ref01_Name b at_ = some r) : ev 11 [T.c (sls 1 byteF b), T.c (C.lit (Value.int IntKind.i64 at_))] = some (T.tup [T.c (C.lit (Value.string r.1)), T.c (C.lit (Value.int IntKind.i64 r.2.1)), T.c (C.lit (Value.int IntKind.i64 r.2.2))], []) := by
  refine ev_run' (kp := k11) (us := [9, 3, 3]) fn11 rfl rfl rfl rfl rfl (by kernel_rfl) (by simp) ?_
  unfold ref01_Name at h
  simp
  rcases iteB_cases h with ⟨c0, h⟩ | ⟨c0, h⟩
  · simp [c0]
    cases h
    rfl
  · simp [c0]
    rcases iteB_cases h with ⟨c1, h⟩ | ⟨c1, h⟩
    · simp [c0, c1]
      cases h
      rfl
    · simp [c0, c1]
      obtain ⟨y19, h24, h⟩ := bind_some' h
      rw [evLoop_loopF (ι := Int) (ρ := Int) (fun p => match p with | x14 => mk 44 [(0, T.c (sls 1 byteF b)), (1, T.c (C.lit (Value.int IntKind.i64 at_))), (7, T.c (C.lit (Value.int IntKind.i64 x14)))] [] []) (fun r => match r with | y19 => (Ex.exit 0, mk 44 [(0, T.c (sls 1 byteF b)), (1, T.c (C.lit (Value.int IntKind.i64 at_))), (7, T.c (C.lit (Value.int IntKind.i64 y19)))] [] [])) (ref01_Name_B0 b) h24 ?_ _ ?_]
      · simp [c0, c1]
        rcases iteB_cases h with ⟨c20, h⟩ | ⟨c20, h⟩
        · simp [c0, c1, c20]
          obtain ⟨v21, h22', h⟩ := bind_some' h
          have h22 : ev 15 [T.c (C.lit (Value.string (strOf (cut b at_ y19))))] = some (T.c (C.lit (Value.bool v21)), []) := w_ref01_IsName _ _ h22'
          simp [c0, c1, c20, h22]
          rcases iteB_cases h with ⟨c23, h⟩ | ⟨c23, h⟩
          · simp [c0, c1, c20, h22, c23]
            cases h
            rfl
          · simp [c0, c1, c20, h22, c23]
            cases h
            rfl
        · simp [c0, c1, c20]
          cases h
      · clear h24 h
        rintro x14 y L res h hL hR
        unfold ref01_Name_B0 at h
        simp
        rcases iteB_cases h with ⟨c15, h⟩ | ⟨c15, h⟩
        · simp [c15]
          obtain ⟨v16, h17, h⟩ := bind_some' h
          simp [c15, h17]
          rcases iteB_cases h with ⟨c18, h⟩ | ⟨c18, h⟩
          · simp [c15, h17, c18]
            cases h
            exact hR _ rfl
          · simp [c15, h17, c18]
            cases h
            exact hL _ _ rfl (by simp [headOf])
        · simp [c15]
          cases h
          exact hR _ rfl
      · simp [headOf]
theorem w_law01_shown (r : Bool) (h : law01_shown = some r) : ev 9 [] = some (T.c (C.lit (Value.bool r)), []) := by
  refine ev_run' (kp := k9) (us := [4]) fn9 rfl rfl rfl rfl rfl (by kernel_rfl) (by simp) ?_
  unfold law01_shown at h
  simp -implicitDefEqProofs
  obtain ⟨⟨v0, v1, v2⟩, h3', h⟩ := bind_some' h
  have h3 : ev 22 [T.c (sls 1 byteF [52, 50, 57]), T.c (C.lit (Value.int IntKind.i64 0)), T.c (C.lit (Value.int IntKind.i64 1000))] = some (T.tup [T.c (C.lit (Value.int IntKind.i64 v0)), T.c (C.lit (Value.int IntKind.i64 v1)), T.c (C.lit (Value.int IntKind.i64 v2))], []) := w_lex_Number _ _ _ _ h3'
  simp -implicitDefEqProofs [h3]
  obtain ⟨⟨v4, v5, v6⟩, h7', h⟩ := bind_some' h
  have h7 : ev 19 [T.c (sls 1 byteF [120, 45, 55, 32]), T.c (C.lit (Value.int IntKind.i64 1)), T.c (C.lit (Value.int IntKind.i64 9))] = some (T.tup [T.c (C.lit (Value.int IntKind.i64 v4)), T.c (C.lit (Value.int IntKind.i64 v5)), T.c (C.lit (Value.int IntKind.i64 v6))], []) := w_lex_Signed _ _ _ _ h7'
  simp -implicitDefEqProofs [h3, h7]
  obtain ⟨⟨v8, v9, v10⟩, h11', h⟩ := bind_some' h
  have h11 : ev 20 [T.c (sls 1 byteF [48, 49, 49, 50]), T.c (C.lit (Value.int IntKind.i64 0)), T.c (C.lit (Value.int IntKind.i64 9))] = some (T.tup [T.c (C.lit (Value.string v8)), T.c (C.lit (Value.int IntKind.i64 v9)), T.c (C.lit (Value.int IntKind.i64 v10))], []) := w_lex_Ones _ _ _ _ h11'
  simp -implicitDefEqProofs [h3, h7, h11]
  obtain ⟨v12, h13', h⟩ := bind_some' h
  have h13 : ev 17 [T.c (C.lit (Value.int IntKind.i64 300))] = some (T.c (C.ref 0 0 (lenN v12)), [rowO 5 1 byteF v12]) := w_lex_Put _ _ h13'
  simp -implicitDefEqProofs [h3, h7, h11, h13]
  obtain ⟨⟨v14, v15, v16⟩, h17', h⟩ := bind_some' h
  have h17 : ev 12 [T.c (sls 1 byteF v12), T.c (C.lit (Value.int IntKind.i64 0))] = some (T.tup [T.c (C.lit (Value.int IntKind.i64 v14)), T.c (C.lit (Value.int IntKind.i64 v15)), T.c (C.lit (Value.int IntKind.i64 v16))], []) := w_lex_Take _ _ _ h17'
  simp -implicitDefEqProofs [h3, h7, h11, h13, h17]
  obtain ⟨⟨v18, v19, v20⟩, h21', h⟩ := bind_some' h
  have h21 : ev 10 [T.c (sls 1 byteF [97, 32, 98, 10]), T.c (C.lit (Value.int IntKind.i64 0))] = some (T.tup [T.c (C.lit (Value.string v18)), T.c (C.lit (Value.int IntKind.i64 v19)), T.c (C.lit (Value.int IntKind.i64 v20))], []) := w_lex_Name _ _ _ h21'
  simp -implicitDefEqProofs [h3, h7, h11, h13, h17, h21]
  obtain ⟨⟨v22, v23⟩, h24', h⟩ := bind_some' h
  have h24 : ev 23 [T.c (sls 1 byteF [97, 97, 103, 32, 49]), T.c (C.lit (Value.int IntKind.i64 0)), T.c (C.lit (Value.string { data := #[97, 97, 103, 32] }))] = some (T.tup [T.c (C.lit (Value.int IntKind.i64 v22)), T.c (C.lit (Value.bool v23))], []) := w_lex_Is _ _ _ _ h24'
  simp -implicitDefEqProofs [h3, h7, h11, h13, h17, h21, h24]
  rcases iteB_cases h with ⟨c25, h⟩ | ⟨c25, h⟩
  · simp -implicitDefEqProofs [h3, h7, h11, h13, h17, h21, h24, c25]
    rcases iteB_cases h with ⟨c26, h⟩ | ⟨c26, h⟩
    · simp -implicitDefEqProofs [h3, h7, h11, h13, h17, h21, h24, c25, c26]
      rcases iteB_cases h with ⟨c27, h⟩ | ⟨c27, h⟩
      · simp -implicitDefEqProofs [h3, h7, h11, h13, h17, h21, h24, c25, c26, c27]
        rcases iteB_cases h with ⟨c28, h⟩ | ⟨c28, h⟩
        · simp -implicitDefEqProofs [h3, h7, h11, h13, h17, h21, h24, c25, c26, c27, c28]
          rcases iteB_cases h with ⟨c29, h⟩ | ⟨c29, h⟩
          · simp -implicitDefEqProofs [h3, h7, h11, h13, h17, h21, h24, c25, c26, c27, c28, c29]
            rcases iteB_cases h with ⟨c30, h⟩ | ⟨c30, h⟩
            · simp -implicitDefEqProofs [h3, h7, h11, h13, h17, h21, h24, c25, c26, c27, c28, c29, c30]
              rcases iteB_cases h with ⟨c31, h⟩ | ⟨c31, h⟩
              · simp -implicitDefEqProofs [h3, h7, h11, h13, h17, h21, h24, c25, c26, c27, c28, c29, c30, c31]
                rcases iteB_cases h with ⟨c32, h⟩ | ⟨c32, h⟩
                · simp -implicitDefEqProofs [h3, h7, h11, h13, h17, h21, h24, c25, c26, c27, c28, c29, c30, c31, c32]
                  rcases iteB_cases h with ⟨c33, h⟩ | ⟨c33, h⟩
                  · simp -implicitDefEqProofs [h3, h7, h11, h13, h17, h21, h24, c25, c26, c27, c28, c29, c30, c31, c32, c33]
                    rcases iteB_cases h with ⟨c34, h⟩ | ⟨c34, h⟩
                    · simp -implicitDefEqProofs [h3, h7, h11, h13, h17, h21, h24, c25, c26, c27, c28, c29, c30, c31, c32, c33, c34]
                      rcases iteB_cases h with ⟨c35, h⟩ | ⟨c35, h⟩
                      · simp -implicitDefEqProofs [h3, h7, h11, h13, h17, h21, h24, c25, c26, c27, c28, c29, c30, c31, c32, c33, c34, c35]
                        rcases iteB_cases h with ⟨c36, h⟩ | ⟨c36, h⟩
                        · simp -implicitDefEqProofs [h3, h7, h11, h13, h17, h21, h24, c25, c26, c27, c28, c29, c30, c31, c32, c33, c34, c35, c36]
                          rcases iteB_cases h with ⟨c37, h⟩ | ⟨c37, h⟩
                          · simp -implicitDefEqProofs [h3, h7, h11, h13, h17, h21, h24, c25, c26, c27, c28, c29, c30, c31, c32, c33, c34, c35, c36, c37]
                            rcases iteB_cases h with ⟨c38, h⟩ | ⟨c38, h⟩
                            · simp -implicitDefEqProofs [h3, h7, h11, h13, h17, h21, h24, c25, c26, c27, c28, c29, c30, c31, c32, c33, c34, c35, c36, c37, c38]
                              rcases iteB_cases h with ⟨c39, h⟩ | ⟨c39, h⟩
                              · simp -implicitDefEqProofs [h3, h7, h11, h13, h17, h21, h24, c25, c26, c27, c28, c29, c30, c31, c32, c33, c34, c35, c36, c37, c38, c39]
                                rcases iteB_cases h with ⟨c40, h⟩ | ⟨c40, h⟩
                                · simp -implicitDefEqProofs [h3, h7, h11, h13, h17, h21, h24, c25, c26, c27, c28, c29, c30, c31, c32, c33, c34, c35, c36, c37, c38, c39, c40]
                                  rcases iteB_cases h with ⟨c41, h⟩ | ⟨c41, h⟩
                                  · simp -implicitDefEqProofs [h3, h7, h11, h13, h17, h21, h24, c25, c26, c27, c28, c29, c30, c31, c32, c33, c34, c35, c36, c37, c38, c39, c40, c41]
                                    obtain ⟨v42, h43', h⟩ := bind_some' h
                                    have h43 : ev 14 [T.c (C.lit (Value.string { data := #[97] }))] = some (T.c (C.lit (Value.bool v42)), []) := w_lex_IsName _ _ h43'
                                    simp -implicitDefEqProofs [h3, h7, h11, h13, h17, h21, h24, c25, c26, c27, c28, c29, c30, c31, c32, c33, c34, c35, c36, c37, c38, c39, c40, c41, h43]
                                    cases h
                                    rfl
                                  · simp -implicitDefEqProofs [h3, h7, h11, h13, h17, h21, h24, c25, c26, c27, c28, c29, c30, c31, c32, c33, c34, c35, c36, c37, c38, c39, c40, c41]
                                    cases h
                                    rfl
                                · simp -implicitDefEqProofs [h3, h7, h11, h13, h17, h21, h24, c25, c26, c27, c28, c29, c30, c31, c32, c33, c34, c35, c36, c37, c38, c39, c40]
                                  cases h
                                  rfl
                              · simp -implicitDefEqProofs [h3, h7, h11, h13, h17, h21, h24, c25, c26, c27, c28, c29, c30, c31, c32, c33, c34, c35, c36, c37, c38, c39]
                                cases h
                                rfl
                            · simp -implicitDefEqProofs [h3, h7, h11, h13, h17, h21, h24, c25, c26, c27, c28, c29, c30, c31, c32, c33, c34, c35, c36, c37, c38]
                              cases h
                              rfl
                          · simp -implicitDefEqProofs [h3, h7, h11, h13, h17, h21, h24, c25, c26, c27, c28, c29, c30, c31, c32, c33, c34, c35, c36, c37]
                            cases h
                            rfl
                        · simp -implicitDefEqProofs [h3, h7, h11, h13, h17, h21, h24, c25, c26, c27, c28, c29, c30, c31, c32, c33, c34, c35, c36]
                          cases h
                          rfl
                      · simp -implicitDefEqProofs [h3, h7, h11, h13, h17, h21, h24, c25, c26, c27, c28, c29, c30, c31, c32, c33, c34, c35]
                        cases h
                        rfl
                    · simp -implicitDefEqProofs [h3, h7, h11, h13, h17, h21, h24, c25, c26, c27, c28, c29, c30, c31, c32, c33, c34]
                      cases h
                      rfl
                  · simp -implicitDefEqProofs [h3, h7, h11, h13, h17, h21, h24, c25, c26, c27, c28, c29, c30, c31, c32, c33]
                    cases h
                    rfl
                · simp -implicitDefEqProofs [h3, h7, h11, h13, h17, h21, h24, c25, c26, c27, c28, c29, c30, c31, c32]
                  cases h
                  rfl
              · simp -implicitDefEqProofs [h3, h7, h11, h13, h17, h21, h24, c25, c26, c27, c28, c29, c30, c31]
                cases h
                rfl
            · simp -implicitDefEqProofs [h3, h7, h11, h13, h17, h21, h24, c25, c26, c27, c28, c29, c30]
              cases h
              rfl
          · simp -implicitDefEqProofs [h3, h7, h11, h13, h17, h21, h24, c25, c26, c27, c28, c29]
            cases h
            rfl
        · simp -implicitDefEqProofs [h3, h7, h11, h13, h17, h21, h24, c25, c26, c27, c28]
          cases h
          rfl
      · simp -implicitDefEqProofs [h3, h7, h11, h13, h17, h21, h24, c25, c26, c27]
        cases h
        rfl
    · simp -implicitDefEqProofs [h3, h7, h11, h13, h17, h21, h24, c25, c26]
      cases h
      rfl
  · simp -implicitDefEqProofs [h3, h7, h11, h13, h17, h21, h24, c25]
    cases h
    rfl
theorem w_law01_LexNames (with_ : LexNamesIn_law01) (h : law01_LexNames with_ = some true) : ev 3 [T.agg (LexNamesIn_law01.cells with_)] = some (T.c (C.lit (Value.bool true)), []) := by
  refine ev_run' (kp := k3) (us := [4]) fn3 rfl rfl rfl rfl rfl (by kernel_rfl) (by simp) ?_
  unfold law01_LexNames at h
  simp -implicitDefEqProofs
  obtain ⟨v0, h1', h⟩ := bind_some' h
  have h1 : ev 9 [] = some (T.c (C.lit (Value.bool v0)), []) := w_law01_shown _ h1'
  simp -implicitDefEqProofs [h1]
  rcases iteB_cases h with ⟨c2, h⟩ | ⟨c2, h⟩
  · first | (cases h; done) | (simp -implicitDefEqProofs [h1, c2]; first | rfl | (injection h with h; rw [h]; rfl) | (injection h with h; rw [h]))
  · simp -implicitDefEqProofs [h1, c2]
    rcases iteB_cases h with ⟨c3, h⟩ | ⟨c3, h⟩
    · first | (cases h; done) | (simp -implicitDefEqProofs [h1, c2, c3]; first | rfl | (injection h with h; rw [h]; rfl) | (injection h with h; rw [h]))
    · simp -implicitDefEqProofs [h1, c2, c3]
      obtain ⟨⟨v4, v5, v6⟩, h7', h⟩ := bind_some' h
      have h7 : ev 10 [T.c (sls 1 byteF with_.b), T.c (C.lit (Value.int IntKind.i64 with_.at'))] = some (T.tup [T.c (C.lit (Value.string v4)), T.c (C.lit (Value.int IntKind.i64 v5)), T.c (C.lit (Value.int IntKind.i64 v6))], []) := w_lex_Name _ _ _ h7'
      simp -implicitDefEqProofs [h1, c2, c3, h7]
      obtain ⟨⟨v8, v9, v10⟩, h11', h⟩ := bind_some' h
      have h11 : ev 11 [T.c (sls 1 byteF with_.b), T.c (C.lit (Value.int IntKind.i64 with_.at'))] = some (T.tup [T.c (C.lit (Value.string v8)), T.c (C.lit (Value.int IntKind.i64 v9)), T.c (C.lit (Value.int IntKind.i64 v10))], []) := w_ref01_Name _ _ _ h11'
      simp -implicitDefEqProofs [h1, c2, c3, h7, h11]
      obtain ⟨⟨v12, v13, v14⟩, h15', h⟩ := bind_some' h
      have h15 : ev 12 [T.c (sls 1 byteF with_.b), T.c (C.lit (Value.int IntKind.i64 with_.at'))] = some (T.tup [T.c (C.lit (Value.int IntKind.i64 v12)), T.c (C.lit (Value.int IntKind.i64 v13)), T.c (C.lit (Value.int IntKind.i64 v14))], []) := w_lex_Take _ _ _ h15'
      simp -implicitDefEqProofs [h1, c2, c3, h7, h11, h15]
      obtain ⟨⟨v16, v17, v18⟩, h19', h⟩ := bind_some' h
      have h19 : ev 13 [T.c (sls 1 byteF with_.b), T.c (C.lit (Value.int IntKind.i64 with_.at'))] = some (T.tup [T.c (C.lit (Value.int IntKind.i64 v16)), T.c (C.lit (Value.int IntKind.i64 v17)), T.c (C.lit (Value.int IntKind.i64 v18))], []) := w_ref01_Take _ _ _ h19'
      simp -implicitDefEqProofs [h1, c2, c3, h7, h11, h15, h19]
      rcases iteB_cases h with ⟨c20, h⟩ | ⟨c20, h⟩
      · simp -implicitDefEqProofs [h1, c2, c3, h7, h11, h15, h19, c20]
        rcases iteB_cases h with ⟨c21, h⟩ | ⟨c21, h⟩
        · simp -implicitDefEqProofs [h1, c2, c3, h7, h11, h15, h19, c20, c21]
          rcases iteB_cases h with ⟨c22, h⟩ | ⟨c22, h⟩
          · simp -implicitDefEqProofs [h1, c2, c3, h7, h11, h15, h19, c20, c21, c22]
            rcases iteB_cases h with ⟨c23, h⟩ | ⟨c23, h⟩
            · simp -implicitDefEqProofs [h1, c2, c3, h7, h11, h15, h19, c20, c21, c22, c23]
              rcases iteB_cases h with ⟨c24, h⟩ | ⟨c24, h⟩
              · simp -implicitDefEqProofs [h1, c2, c3, h7, h11, h15, h19, c20, c21, c22, c23, c24]
                rcases iteB_cases h with ⟨c25, h⟩ | ⟨c25, h⟩
                · simp -implicitDefEqProofs [h1, c2, c3, h7, h11, h15, h19, c20, c21, c22, c23, c24, c25]
                  rcases iteB_cases h with ⟨c26, h⟩ | ⟨c26, h⟩
                  · simp -implicitDefEqProofs [h1, c2, c3, h7, h11, h15, h19, c20, c21, c22, c23, c24, c25, c26]
                    obtain ⟨v27, h28', h⟩ := bind_some' h
                    have h28 : ev 14 [T.c (C.lit (Value.string with_.s))] = some (T.c (C.lit (Value.bool v27)), []) := w_lex_IsName _ _ h28'
                    simp -implicitDefEqProofs [h1, c2, c3, h7, h11, h15, h19, c20, c21, c22, c23, c24, c25, c26, h28]
                    obtain ⟨v29, h30', h⟩ := bind_some' h
                    have h30 : ev 15 [T.c (C.lit (Value.string with_.s))] = some (T.c (C.lit (Value.bool v29)), []) := w_ref01_IsName _ _ h30'
                    simp -implicitDefEqProofs [h1, c2, c3, h7, h11, h15, h19, c20, c21, c22, c23, c24, c25, c26, h28, h30]
                    rcases iteB_cases h with ⟨c31, h⟩ | ⟨c31, h⟩
                    · simp -implicitDefEqProofs [h1, c2, c3, h7, h11, h15, h19, c20, c21, c22, c23, c24, c25, c26, h28, h30, c31]
                      obtain ⟨v32, h33', h⟩ := bind_some' h
                      have h33 : ev 17 [T.c (C.lit (Value.int IntKind.i64 with_.n))] = some (T.c (C.ref 0 0 (lenN v32)), [rowO 5 1 byteF v32]) := w_lex_Put _ _ h33'
                      simp -implicitDefEqProofs [h1, c2, c3, h7, h11, h15, h19, c20, c21, c22, c23, c24, c25, c26, h28, h30, c31, h33]
                      obtain ⟨v34, h35', h⟩ := bind_some' h
                      have h35 : ev 18 [T.c (C.lit (Value.int IntKind.i64 with_.n))] = some (T.c (C.ref 0 0 (lenN v34)), [rowO 5 1 byteF v34]) := w_ref01_Put _ _ h35'
                      simp -implicitDefEqProofs [h1, c2, c3, h7, h11, h15, h19, c20, c21, c22, c23, c24, c25, c26, h28, h30, c31, h33, h35]
                      obtain ⟨v36, h37', h⟩ := bind_some' h
                      have h37 : ev 16 [T.c (sls 1 byteF v32), T.c (sls 1 byteF v34)] = some (T.c (C.lit (Value.bool v36)), []) := w_ref01_Row _ _ _ h37'
                      first | (cases h; done) | (simp -implicitDefEqProofs [h1, c2, c3, h7, h11, h15, h19, c20, c21, c22, c23, c24, c25, c26, h28, h30, c31, h33, h35, h37]; first | rfl | (injection h with h; rw [h]; rfl) | (injection h with h; rw [h]))
                    · first | (cases h; done) | (simp -implicitDefEqProofs [h1, c2, c3, h7, h11, h15, h19, c20, c21, c22, c23, c24, c25, c26, h28, h30, c31]; first | rfl | (injection h with h; rw [h]; rfl) | (injection h with h; rw [h]))
                  · first | (cases h; done) | (simp -implicitDefEqProofs [h1, c2, c3, h7, h11, h15, h19, c20, c21, c22, c23, c24, c25, c26]; first | rfl | (injection h with h; rw [h]; rfl) | (injection h with h; rw [h]))
                · first | (cases h; done) | (simp -implicitDefEqProofs [h1, c2, c3, h7, h11, h15, h19, c20, c21, c22, c23, c24, c25]; first | rfl | (injection h with h; rw [h]; rfl) | (injection h with h; rw [h]))
              · first | (cases h; done) | (simp -implicitDefEqProofs [h1, c2, c3, h7, h11, h15, h19, c20, c21, c22, c23, c24]; first | rfl | (injection h with h; rw [h]; rfl) | (injection h with h; rw [h]))
            · first | (cases h; done) | (simp -implicitDefEqProofs [h1, c2, c3, h7, h11, h15, h19, c20, c21, c22, c23]; first | rfl | (injection h with h; rw [h]; rfl) | (injection h with h; rw [h]))
          · first | (cases h; done) | (simp -implicitDefEqProofs [h1, c2, c3, h7, h11, h15, h19, c20, c21, c22]; first | rfl | (injection h with h; rw [h]; rfl) | (injection h with h; rw [h]))
        · first | (cases h; done) | (simp -implicitDefEqProofs [h1, c2, c3, h7, h11, h15, h19, c20, c21]; first | rfl | (injection h with h; rw [h]; rfl) | (injection h with h; rw [h]))
      · first | (cases h; done) | (simp -implicitDefEqProofs [h1, c2, c3, h7, h11, h15, h19, c20]; first | rfl | (injection h with h; rw [h]; rfl) | (injection h with h; rw [h]))
theorem w_law01_LexAhead (with_ : LexAheadIn_law01) (h : law01_LexAhead with_ = some true) : ev 4 [T.agg (LexAheadIn_law01.cells with_)] = some (T.c (C.lit (Value.bool true)), []) := by
  refine ev_run' (kp := k4) (us := [4]) fn4 rfl rfl rfl rfl rfl (by kernel_rfl) (by simp) ?_
  unfold law01_LexAhead at h
  simp -implicitDefEqProofs
  obtain ⟨v0, h1', h⟩ := bind_some' h
  have h1 : ev 9 [] = some (T.c (C.lit (Value.bool v0)), []) := w_law01_shown _ h1'
  simp -implicitDefEqProofs [h1]
  rcases iteB_cases h with ⟨c2, h⟩ | ⟨c2, h⟩
  · first | (cases h; done) | (simp -implicitDefEqProofs [h1, c2]; first | rfl | (injection h with h; rw [h]; rfl) | (injection h with h; rw [h]))
  · simp -implicitDefEqProofs [h1, c2]
    rcases iteB_cases h with ⟨c3, h⟩ | ⟨c3, h⟩
    · first | (cases h; done) | (simp -implicitDefEqProofs [h1, c2, c3]; first | rfl | (injection h with h; rw [h]; rfl) | (injection h with h; rw [h]))
    · simp -implicitDefEqProofs [h1, c2, c3]
      rcases iteB_cases h with ⟨c4, h⟩ | ⟨c4, h⟩
      · first | (cases h; done) | (simp -implicitDefEqProofs [h1, c2, c3, c4]; first | rfl | (injection h with h; rw [h]; rfl) | (injection h with h; rw [h]))
      · simp -implicitDefEqProofs [h1, c2, c3, c4]
        rcases iteB_cases h with ⟨c5, h⟩ | ⟨c5, h⟩
        · first | (cases h; done) | (simp -implicitDefEqProofs [h1, c2, c3, c4, c5]; first | rfl | (injection h with h; rw [h]; rfl) | (injection h with h; rw [h]))
        · simp -implicitDefEqProofs [h1, c2, c3, c4, c5]
          rcases iteB_cases h with ⟨c6, h⟩ | ⟨c6, h⟩
          · simp -implicitDefEqProofs [h1, c2, c3, c4, c5, c6]
            rcases iteB_cases h with ⟨c7, h⟩ | ⟨c7, h⟩
            · simp -implicitDefEqProofs [h1, c2, c3, c4, c5, c6, c7]
              obtain ⟨⟨v8, v9, v10⟩, h11', h⟩ := bind_some' h
              have h11 : ev 19 [T.c (sls 1 byteF with_.b), T.c (C.lit (Value.int IntKind.i64 with_.at')), T.c (C.lit (Value.int IntKind.i64 with_.most))] = some (T.tup [T.c (C.lit (Value.int IntKind.i64 v8)), T.c (C.lit (Value.int IntKind.i64 v9)), T.c (C.lit (Value.int IntKind.i64 v10))], []) := w_lex_Signed _ _ _ _ h11'
              simp -implicitDefEqProofs [h1, c2, c3, c4, c5, c6, c7, h11]
              obtain ⟨⟨v12, v13, v14⟩, h15', h⟩ := bind_some' h
              have h15 : ev 19 [T.c (sls 1 byteF (with_.a ++ with_.b)), T.c (C.lit (Value.int IntKind.i64 (iadd IntKind.i64 (lenI with_.a) with_.at'))), T.c (C.lit (Value.int IntKind.i64 with_.most))] = some (T.tup [T.c (C.lit (Value.int IntKind.i64 v12)), T.c (C.lit (Value.int IntKind.i64 v13)), T.c (C.lit (Value.int IntKind.i64 v14))], []) := w_lex_Signed _ _ _ _ h15'
              simp -implicitDefEqProofs [h1, c2, c3, c4, c5, c6, c7, h11, h15]
              obtain ⟨⟨v16, v17, v18⟩, h19', h⟩ := bind_some' h
              have h19 : ev 20 [T.c (sls 1 byteF with_.b), T.c (C.lit (Value.int IntKind.i64 with_.at')), T.c (C.lit (Value.int IntKind.i64 with_.most))] = some (T.tup [T.c (C.lit (Value.string v16)), T.c (C.lit (Value.int IntKind.i64 v17)), T.c (C.lit (Value.int IntKind.i64 v18))], []) := w_lex_Ones _ _ _ _ h19'
              simp -implicitDefEqProofs [h1, c2, c3, c4, c5, c6, c7, h11, h15, h19]
              obtain ⟨⟨v20, v21, v22⟩, h23', h⟩ := bind_some' h
              have h23 : ev 20 [T.c (sls 1 byteF (with_.a ++ with_.b)), T.c (C.lit (Value.int IntKind.i64 (iadd IntKind.i64 (lenI with_.a) with_.at'))), T.c (C.lit (Value.int IntKind.i64 with_.most))] = some (T.tup [T.c (C.lit (Value.string v20)), T.c (C.lit (Value.int IntKind.i64 v21)), T.c (C.lit (Value.int IntKind.i64 v22))], []) := w_lex_Ones _ _ _ _ h23'
              simp -implicitDefEqProofs [h1, c2, c3, c4, c5, c6, c7, h11, h15, h19, h23]
              obtain ⟨⟨v24, v25, v26⟩, h27', h⟩ := bind_some' h
              have h27 : ev 10 [T.c (sls 1 byteF with_.b), T.c (C.lit (Value.int IntKind.i64 with_.at'))] = some (T.tup [T.c (C.lit (Value.string v24)), T.c (C.lit (Value.int IntKind.i64 v25)), T.c (C.lit (Value.int IntKind.i64 v26))], []) := w_lex_Name _ _ _ h27'
              simp -implicitDefEqProofs [h1, c2, c3, c4, c5, c6, c7, h11, h15, h19, h23, h27]
              obtain ⟨⟨v28, v29, v30⟩, h31', h⟩ := bind_some' h
              have h31 : ev 10 [T.c (sls 1 byteF (with_.a ++ with_.b)), T.c (C.lit (Value.int IntKind.i64 (iadd IntKind.i64 (lenI with_.a) with_.at')))] = some (T.tup [T.c (C.lit (Value.string v28)), T.c (C.lit (Value.int IntKind.i64 v29)), T.c (C.lit (Value.int IntKind.i64 v30))], []) := w_lex_Name _ _ _ h31'
              simp -implicitDefEqProofs [h1, c2, c3, c4, c5, c6, c7, h11, h15, h19, h23, h27, h31]
              obtain ⟨⟨v32, v33, v34⟩, h35', h⟩ := bind_some' h
              have h35 : ev 12 [T.c (sls 1 byteF with_.b), T.c (C.lit (Value.int IntKind.i64 with_.at'))] = some (T.tup [T.c (C.lit (Value.int IntKind.i64 v32)), T.c (C.lit (Value.int IntKind.i64 v33)), T.c (C.lit (Value.int IntKind.i64 v34))], []) := w_lex_Take _ _ _ h35'
              simp -implicitDefEqProofs [h1, c2, c3, c4, c5, c6, c7, h11, h15, h19, h23, h27, h31, h35]
              obtain ⟨⟨v36, v37, v38⟩, h39', h⟩ := bind_some' h
              have h39 : ev 12 [T.c (sls 1 byteF (with_.a ++ with_.b)), T.c (C.lit (Value.int IntKind.i64 (iadd IntKind.i64 (lenI with_.a) with_.at')))] = some (T.tup [T.c (C.lit (Value.int IntKind.i64 v36)), T.c (C.lit (Value.int IntKind.i64 v37)), T.c (C.lit (Value.int IntKind.i64 v38))], []) := w_lex_Take _ _ _ h39'
              simp -implicitDefEqProofs [h1, c2, c3, c4, c5, c6, c7, h11, h15, h19, h23, h27, h31, h35, h39]
              rcases iteB_cases h with ⟨c40, h⟩ | ⟨c40, h⟩
              · simp -implicitDefEqProofs [h1, c2, c3, c4, c5, c6, c7, h11, h15, h19, h23, h27, h31, h35, h39, c40]
                rcases iteB_cases h with ⟨c41, h⟩ | ⟨c41, h⟩
                · simp -implicitDefEqProofs [h1, c2, c3, c4, c5, c6, c7, h11, h15, h19, h23, h27, h31, h35, h39, c40, c41]
                  rcases iteB_cases h with ⟨c42, h⟩ | ⟨c42, h⟩
                  · simp -implicitDefEqProofs [h1, c2, c3, c4, c5, c6, c7, h11, h15, h19, h23, h27, h31, h35, h39, c40, c41, c42]
                    rcases iteB_cases h with ⟨c43, h⟩ | ⟨c43, h⟩
                    · simp -implicitDefEqProofs [h1, c2, c3, c4, c5, c6, c7, h11, h15, h19, h23, h27, h31, h35, h39, c40, c41, c42, c43]
                      rcases iteB_cases h with ⟨c44, h⟩ | ⟨c44, h⟩
                      · simp -implicitDefEqProofs [h1, c2, c3, c4, c5, c6, c7, h11, h15, h19, h23, h27, h31, h35, h39, c40, c41, c42, c43, c44]
                        rcases iteB_cases h with ⟨c45, h⟩ | ⟨c45, h⟩
                        · simp -implicitDefEqProofs [h1, c2, c3, c4, c5, c6, c7, h11, h15, h19, h23, h27, h31, h35, h39, c40, c41, c42, c43, c44, c45]
                          rcases iteB_cases h with ⟨c46, h⟩ | ⟨c46, h⟩
                          · simp -implicitDefEqProofs [h1, c2, c3, c4, c5, c6, c7, h11, h15, h19, h23, h27, h31, h35, h39, c40, c41, c42, c43, c44, c45, c46]
                            rcases iteB_cases h with ⟨c47, h⟩ | ⟨c47, h⟩
                            · simp -implicitDefEqProofs [h1, c2, c3, c4, c5, c6, c7, h11, h15, h19, h23, h27, h31, h35, h39, c40, c41, c42, c43, c44, c45, c46, c47]
                              rcases iteB_cases h with ⟨c48, h⟩ | ⟨c48, h⟩
                              · simp -implicitDefEqProofs [h1, c2, c3, c4, c5, c6, c7, h11, h15, h19, h23, h27, h31, h35, h39, c40, c41, c42, c43, c44, c45, c46, c47, c48]
                                rcases iteB_cases h with ⟨c49, h⟩ | ⟨c49, h⟩
                                · simp -implicitDefEqProofs [h1, c2, c3, c4, c5, c6, c7, h11, h15, h19, h23, h27, h31, h35, h39, c40, c41, c42, c43, c44, c45, c46, c47, c48, c49]
                                  rcases iteB_cases h with ⟨c50, h⟩ | ⟨c50, h⟩
                                  · simp -implicitDefEqProofs [h1, c2, c3, c4, c5, c6, c7, h11, h15, h19, h23, h27, h31, h35, h39, c40, c41, c42, c43, c44, c45, c46, c47, c48, c49, c50]
                                    rcases iteB_cases h with ⟨c51, h⟩ | ⟨c51, h⟩
                                    · simp -implicitDefEqProofs [h1, c2, c3, c4, c5, c6, c7, h11, h15, h19, h23, h27, h31, h35, h39, c40, c41, c42, c43, c44, c45, c46, c47, c48, c49, c50, c51]
                                      rcases iteB_cases h with ⟨c52, h⟩ | ⟨c52, h⟩
                                      · simp -implicitDefEqProofs [h1, c2, c3, c4, c5, c6, c7, h11, h15, h19, h23, h27, h31, h35, h39, c40, c41, c42, c43, c44, c45, c46, c47, c48, c49, c50, c51, c52]
                                        rcases iteB_cases h with ⟨c53, h⟩ | ⟨c53, h⟩
                                        · simp -implicitDefEqProofs [h1, c2, c3, c4, c5, c6, c7, h11, h15, h19, h23, h27, h31, h35, h39, c40, c41, c42, c43, c44, c45, c46, c47, c48, c49, c50, c51, c52, c53]
                                          rcases iteB_cases h with ⟨c54, h⟩ | ⟨c54, h⟩
                                          · simp -implicitDefEqProofs [h1, c2, c3, c4, c5, c6, c7, h11, h15, h19, h23, h27, h31, h35, h39, c40, c41, c42, c43, c44, c45, c46, c47, c48, c49, c50, c51, c52, c53, c54]
                                            rcases iteB_cases h with ⟨c55, h⟩ | ⟨c55, h⟩
                                            · simp -implicitDefEqProofs [h1, c2, c3, c4, c5, c6, c7, h11, h15, h19, h23, h27, h31, h35, h39, c40, c41, c42, c43, c44, c45, c46, c47, c48, c49, c50, c51, c52, c53, c54, c55]
                                              rcases iteB_cases h with ⟨c56, h⟩ | ⟨c56, h⟩
                                              · simp -implicitDefEqProofs [h1, c2, c3, c4, c5, c6, c7, h11, h15, h19, h23, h27, h31, h35, h39, c40, c41, c42, c43, c44, c45, c46, c47, c48, c49, c50, c51, c52, c53, c54, c55, c56]
                                                rcases iteB_cases h with ⟨c57, h⟩ | ⟨c57, h⟩
                                                · simp -implicitDefEqProofs [h1, c2, c3, c4, c5, c6, c7, h11, h15, h19, h23, h27, h31, h35, h39, c40, c41, c42, c43, c44, c45, c46, c47, c48, c49, c50, c51, c52, c53, c54, c55, c56, c57]
                                                  rcases iteB_cases h with ⟨c58, h⟩ | ⟨c58, h⟩
                                                  · simp -implicitDefEqProofs [h1, c2, c3, c4, c5, c6, c7, h11, h15, h19, h23, h27, h31, h35, h39, c40, c41, c42, c43, c44, c45, c46, c47, c48, c49, c50, c51, c52, c53, c54, c55, c56, c57, c58]
                                                    rcases iteB_cases h with ⟨c59, h⟩ | ⟨c59, h⟩
                                                    · first | (cases h; done) | (simp -implicitDefEqProofs [h1, c2, c3, c4, c5, c6, c7, h11, h15, h19, h23, h27, h31, h35, h39, c40, c41, c42, c43, c44, c45, c46, c47, c48, c49, c50, c51, c52, c53, c54, c55, c56, c57, c58, c59]; first | rfl | (injection h with h; rw [h]; rfl) | (injection h with h; rw [h]))
                                                    · first | (cases h; done) | (simp -implicitDefEqProofs [h1, c2, c3, c4, c5, c6, c7, h11, h15, h19, h23, h27, h31, h35, h39, c40, c41, c42, c43, c44, c45, c46, c47, c48, c49, c50, c51, c52, c53, c54, c55, c56, c57, c58, c59]; first | rfl | (injection h with h; rw [h]; rfl) | (injection h with h; rw [h]))
                                                  · first | (cases h; done) | (simp -implicitDefEqProofs [h1, c2, c3, c4, c5, c6, c7, h11, h15, h19, h23, h27, h31, h35, h39, c40, c41, c42, c43, c44, c45, c46, c47, c48, c49, c50, c51, c52, c53, c54, c55, c56, c57, c58]; first | rfl | (injection h with h; rw [h]; rfl) | (injection h with h; rw [h]))
                                                · first | (cases h; done) | (simp -implicitDefEqProofs [h1, c2, c3, c4, c5, c6, c7, h11, h15, h19, h23, h27, h31, h35, h39, c40, c41, c42, c43, c44, c45, c46, c47, c48, c49, c50, c51, c52, c53, c54, c55, c56, c57]; first | rfl | (injection h with h; rw [h]; rfl) | (injection h with h; rw [h]))
                                              · first | (cases h; done) | (simp -implicitDefEqProofs [h1, c2, c3, c4, c5, c6, c7, h11, h15, h19, h23, h27, h31, h35, h39, c40, c41, c42, c43, c44, c45, c46, c47, c48, c49, c50, c51, c52, c53, c54, c55, c56]; first | rfl | (injection h with h; rw [h]; rfl) | (injection h with h; rw [h]))
                                            · first | (cases h; done) | (simp -implicitDefEqProofs [h1, c2, c3, c4, c5, c6, c7, h11, h15, h19, h23, h27, h31, h35, h39, c40, c41, c42, c43, c44, c45, c46, c47, c48, c49, c50, c51, c52, c53, c54, c55]; first | rfl | (injection h with h; rw [h]; rfl) | (injection h with h; rw [h]))
                                          · first | (cases h; done) | (simp -implicitDefEqProofs [h1, c2, c3, c4, c5, c6, c7, h11, h15, h19, h23, h27, h31, h35, h39, c40, c41, c42, c43, c44, c45, c46, c47, c48, c49, c50, c51, c52, c53, c54]; first | rfl | (injection h with h; rw [h]; rfl) | (injection h with h; rw [h]))
                                        · first | (cases h; done) | (simp -implicitDefEqProofs [h1, c2, c3, c4, c5, c6, c7, h11, h15, h19, h23, h27, h31, h35, h39, c40, c41, c42, c43, c44, c45, c46, c47, c48, c49, c50, c51, c52, c53]; first | rfl | (injection h with h; rw [h]; rfl) | (injection h with h; rw [h]))
                                      · first | (cases h; done) | (simp -implicitDefEqProofs [h1, c2, c3, c4, c5, c6, c7, h11, h15, h19, h23, h27, h31, h35, h39, c40, c41, c42, c43, c44, c45, c46, c47, c48, c49, c50, c51, c52]; first | rfl | (injection h with h; rw [h]; rfl) | (injection h with h; rw [h]))
                                    · first | (cases h; done) | (simp -implicitDefEqProofs [h1, c2, c3, c4, c5, c6, c7, h11, h15, h19, h23, h27, h31, h35, h39, c40, c41, c42, c43, c44, c45, c46, c47, c48, c49, c50, c51]; first | rfl | (injection h with h; rw [h]; rfl) | (injection h with h; rw [h]))
                                  · simp -implicitDefEqProofs [h1, c2, c3, c4, c5, c6, c7, h11, h15, h19, h23, h27, h31, h35, h39, c40, c41, c42, c43, c44, c45, c46, c47, c48, c49, c50]
                                    rcases iteB_cases h with ⟨c60, h⟩ | ⟨c60, h⟩
                                    · first | (cases h; done) | (simp -implicitDefEqProofs [h1, c2, c3, c4, c5, c6, c7, h11, h15, h19, h23, h27, h31, h35, h39, c40, c41, c42, c43, c44, c45, c46, c47, c48, c49, c50, c60]; first | rfl | (injection h with h; rw [h]; rfl) | (injection h with h; rw [h]))
                                    · first | (cases h; done) | (simp -implicitDefEqProofs [h1, c2, c3, c4, c5, c6, c7, h11, h15, h19, h23, h27, h31, h35, h39, c40, c41, c42, c43, c44, c45, c46, c47, c48, c49, c50, c60]; first | rfl | (injection h with h; rw [h]; rfl) | (injection h with h; rw [h]))
                                · simp -implicitDefEqProofs [h1, c2, c3, c4, c5, c6, c7, h11, h15, h19, h23, h27, h31, h35, h39, c40, c41, c42, c43, c44, c45, c46, c47, c48, c49]
                                  rcases iteB_cases h with ⟨c61, h⟩ | ⟨c61, h⟩
                                  · first | (cases h; done) | (simp -implicitDefEqProofs [h1, c2, c3, c4, c5, c6, c7, h11, h15, h19, h23, h27, h31, h35, h39, c40, c41, c42, c43, c44, c45, c46, c47, c48, c49, c61]; first | rfl | (injection h with h; rw [h]; rfl) | (injection h with h; rw [h]))
                                  · first | (cases h; done) | (simp -implicitDefEqProofs [h1, c2, c3, c4, c5, c6, c7, h11, h15, h19, h23, h27, h31, h35, h39, c40, c41, c42, c43, c44, c45, c46, c47, c48, c49, c61]; first | rfl | (injection h with h; rw [h]; rfl) | (injection h with h; rw [h]))
                              · simp -implicitDefEqProofs [h1, c2, c3, c4, c5, c6, c7, h11, h15, h19, h23, h27, h31, h35, h39, c40, c41, c42, c43, c44, c45, c46, c47, c48]
                                rcases iteB_cases h with ⟨c62, h⟩ | ⟨c62, h⟩
                                · first | (cases h; done) | (simp -implicitDefEqProofs [h1, c2, c3, c4, c5, c6, c7, h11, h15, h19, h23, h27, h31, h35, h39, c40, c41, c42, c43, c44, c45, c46, c47, c48, c62]; first | rfl | (injection h with h; rw [h]; rfl) | (injection h with h; rw [h]))
                                · first | (cases h; done) | (simp -implicitDefEqProofs [h1, c2, c3, c4, c5, c6, c7, h11, h15, h19, h23, h27, h31, h35, h39, c40, c41, c42, c43, c44, c45, c46, c47, c48, c62]; first | rfl | (injection h with h; rw [h]; rfl) | (injection h with h; rw [h]))
                            · simp -implicitDefEqProofs [h1, c2, c3, c4, c5, c6, c7, h11, h15, h19, h23, h27, h31, h35, h39, c40, c41, c42, c43, c44, c45, c46, c47]
                              rcases iteB_cases h with ⟨c63, h⟩ | ⟨c63, h⟩
                              · first | (cases h; done) | (simp -implicitDefEqProofs [h1, c2, c3, c4, c5, c6, c7, h11, h15, h19, h23, h27, h31, h35, h39, c40, c41, c42, c43, c44, c45, c46, c47, c63]; first | rfl | (injection h with h; rw [h]; rfl) | (injection h with h; rw [h]))
                              · first | (cases h; done) | (simp -implicitDefEqProofs [h1, c2, c3, c4, c5, c6, c7, h11, h15, h19, h23, h27, h31, h35, h39, c40, c41, c42, c43, c44, c45, c46, c47, c63]; first | rfl | (injection h with h; rw [h]; rfl) | (injection h with h; rw [h]))
                          · simp -implicitDefEqProofs [h1, c2, c3, c4, c5, c6, c7, h11, h15, h19, h23, h27, h31, h35, h39, c40, c41, c42, c43, c44, c45, c46]
                            rcases iteB_cases h with ⟨c64, h⟩ | ⟨c64, h⟩
                            · first | (cases h; done) | (simp -implicitDefEqProofs [h1, c2, c3, c4, c5, c6, c7, h11, h15, h19, h23, h27, h31, h35, h39, c40, c41, c42, c43, c44, c45, c46, c64]; first | rfl | (injection h with h; rw [h]; rfl) | (injection h with h; rw [h]))
                            · first | (cases h; done) | (simp -implicitDefEqProofs [h1, c2, c3, c4, c5, c6, c7, h11, h15, h19, h23, h27, h31, h35, h39, c40, c41, c42, c43, c44, c45, c46, c64]; first | rfl | (injection h with h; rw [h]; rfl) | (injection h with h; rw [h]))
                        · simp -implicitDefEqProofs [h1, c2, c3, c4, c5, c6, c7, h11, h15, h19, h23, h27, h31, h35, h39, c40, c41, c42, c43, c44, c45]
                          rcases iteB_cases h with ⟨c65, h⟩ | ⟨c65, h⟩
                          · first | (cases h; done) | (simp -implicitDefEqProofs [h1, c2, c3, c4, c5, c6, c7, h11, h15, h19, h23, h27, h31, h35, h39, c40, c41, c42, c43, c44, c45, c65]; first | rfl | (injection h with h; rw [h]; rfl) | (injection h with h; rw [h]))
                          · first | (cases h; done) | (simp -implicitDefEqProofs [h1, c2, c3, c4, c5, c6, c7, h11, h15, h19, h23, h27, h31, h35, h39, c40, c41, c42, c43, c44, c45, c65]; first | rfl | (injection h with h; rw [h]; rfl) | (injection h with h; rw [h]))
                      · simp -implicitDefEqProofs [h1, c2, c3, c4, c5, c6, c7, h11, h15, h19, h23, h27, h31, h35, h39, c40, c41, c42, c43, c44]
                        rcases iteB_cases h with ⟨c66, h⟩ | ⟨c66, h⟩
                        · first | (cases h; done) | (simp -implicitDefEqProofs [h1, c2, c3, c4, c5, c6, c7, h11, h15, h19, h23, h27, h31, h35, h39, c40, c41, c42, c43, c44, c66]; first | rfl | (injection h with h; rw [h]; rfl) | (injection h with h; rw [h]))
                        · first | (cases h; done) | (simp -implicitDefEqProofs [h1, c2, c3, c4, c5, c6, c7, h11, h15, h19, h23, h27, h31, h35, h39, c40, c41, c42, c43, c44, c66]; first | rfl | (injection h with h; rw [h]; rfl) | (injection h with h; rw [h]))
                    · simp -implicitDefEqProofs [h1, c2, c3, c4, c5, c6, c7, h11, h15, h19, h23, h27, h31, h35, h39, c40, c41, c42, c43]
                      rcases iteB_cases h with ⟨c67, h⟩ | ⟨c67, h⟩
                      · first | (cases h; done) | (simp -implicitDefEqProofs [h1, c2, c3, c4, c5, c6, c7, h11, h15, h19, h23, h27, h31, h35, h39, c40, c41, c42, c43, c67]; first | rfl | (injection h with h; rw [h]; rfl) | (injection h with h; rw [h]))
                      · first | (cases h; done) | (simp -implicitDefEqProofs [h1, c2, c3, c4, c5, c6, c7, h11, h15, h19, h23, h27, h31, h35, h39, c40, c41, c42, c43, c67]; first | rfl | (injection h with h; rw [h]; rfl) | (injection h with h; rw [h]))
                  · simp -implicitDefEqProofs [h1, c2, c3, c4, c5, c6, c7, h11, h15, h19, h23, h27, h31, h35, h39, c40, c41, c42]
                    rcases iteB_cases h with ⟨c68, h⟩ | ⟨c68, h⟩
                    · first | (cases h; done) | (simp -implicitDefEqProofs [h1, c2, c3, c4, c5, c6, c7, h11, h15, h19, h23, h27, h31, h35, h39, c40, c41, c42, c68]; first | rfl | (injection h with h; rw [h]; rfl) | (injection h with h; rw [h]))
                    · first | (cases h; done) | (simp -implicitDefEqProofs [h1, c2, c3, c4, c5, c6, c7, h11, h15, h19, h23, h27, h31, h35, h39, c40, c41, c42, c68]; first | rfl | (injection h with h; rw [h]; rfl) | (injection h with h; rw [h]))
                · simp -implicitDefEqProofs [h1, c2, c3, c4, c5, c6, c7, h11, h15, h19, h23, h27, h31, h35, h39, c40, c41]
                  rcases iteB_cases h with ⟨c69, h⟩ | ⟨c69, h⟩
                  · first | (cases h; done) | (simp -implicitDefEqProofs [h1, c2, c3, c4, c5, c6, c7, h11, h15, h19, h23, h27, h31, h35, h39, c40, c41, c69]; first | rfl | (injection h with h; rw [h]; rfl) | (injection h with h; rw [h]))
                  · first | (cases h; done) | (simp -implicitDefEqProofs [h1, c2, c3, c4, c5, c6, c7, h11, h15, h19, h23, h27, h31, h35, h39, c40, c41, c69]; first | rfl | (injection h with h; rw [h]; rfl) | (injection h with h; rw [h]))
              · simp -implicitDefEqProofs [h1, c2, c3, c4, c5, c6, c7, h11, h15, h19, h23, h27, h31, h35, h39, c40]
                rcases iteB_cases h with ⟨c70, h⟩ | ⟨c70, h⟩
                · first | (cases h; done) | (simp -implicitDefEqProofs [h1, c2, c3, c4, c5, c6, c7, h11, h15, h19, h23, h27, h31, h35, h39, c40, c70]; first | rfl | (injection h with h; rw [h]; rfl) | (injection h with h; rw [h]))
                · first | (cases h; done) | (simp -implicitDefEqProofs [h1, c2, c3, c4, c5, c6, c7, h11, h15, h19, h23, h27, h31, h35, h39, c40, c70]; first | rfl | (injection h with h; rw [h]; rfl) | (injection h with h; rw [h]))
            · simp -implicitDefEqProofs [h1, c2, c3, c4, c5, c6, c7]
              cases h
          · simp -implicitDefEqProofs [h1, c2, c3, c4, c5, c6]
            cases h
end Go.Proofs.YtgamgcmjiancmaaDoor

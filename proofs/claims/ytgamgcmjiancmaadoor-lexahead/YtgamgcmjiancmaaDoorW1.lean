/- What the interpreter comes to is what the plain functions come to. No condition. -/
import Derived.Test.YtgamgcmjiancmaaDoorW0
set_option linter.unusedSimpArgs false
set_option linter.unusedVariables false
set_option maxRecDepth 20000
set_option maxHeartbeats 4000000
namespace Go.Proofs.YtgamgcmjiancmaaDoor
open Go.Vabs Go.Vid
theorem w_lex_Signed (b : List Int) (at_ : Int) (most : Int) (r : Int × Int × Int) (h : lex_Signed b at_ most = some r) : ev 19 [T.c (sls 1 byteF b), T.c (C.lit (Value.int IntKind.i64 at_)), T.c (C.lit (Value.int IntKind.i64 most))] = some (T.tup [T.c (C.lit (Value.int IntKind.i64 r.1)), T.c (C.lit (Value.int IntKind.i64 r.2.1)), T.c (C.lit (Value.int IntKind.i64 r.2.2))], []) := by
  refine ev_run' (kp := k19) (us := [3, 3, 26]) fn19 rfl rfl rfl rfl rfl (by kernel_rfl) (by simp) ?_
  unfold lex_Signed at h
  simp
  obtain ⟨v0, h1', h⟩ := bind_some' h
  have h1 : ev 24 [T.c (sls 1 byteF b), T.c (C.lit (Value.int IntKind.i64 at_))] = some (T.c (C.lit (Value.bool v0)), []) := w_lex_isPlace _ _ _ h1'
  simp [h1]
  rcases iteB_cases h with ⟨c2, h⟩ | ⟨c2, h⟩
  · simp [h1, c2]
    obtain ⟨⟨v3, v4⟩, h5', h⟩ := bind_some' h
    have h5 : ev 23 [T.c (sls 1 byteF b), T.c (C.lit (Value.int IntKind.i64 at_)), T.c (C.lit (Value.string { data := #[45] }))] = some (T.tup [T.c (C.lit (Value.int IntKind.i64 v3)), T.c (C.lit (Value.bool v4))], []) := w_lex_Is _ _ _ _ h5'
    simp [h1, c2, h5]
    obtain ⟨⟨v6, v7, v8⟩, h9', h⟩ := bind_some' h
    have h9 : ev 22 [T.c (sls 1 byteF b), T.c (C.lit (Value.int IntKind.i64 v3)), T.c (C.lit (Value.int IntKind.i64 most))] = some (T.tup [T.c (C.lit (Value.int IntKind.i64 v6)), T.c (C.lit (Value.int IntKind.i64 v7)), T.c (C.lit (Value.int IntKind.i64 v8))], []) := w_lex_Number _ _ _ _ h9'
    simp [h1, c2, h5, h9]
    rcases iteB_cases h with ⟨c10, h⟩ | ⟨c10, h⟩
    · simp [h1, c2, h5, h9, c10]
      rcases iteB_cases h with ⟨c11, h⟩ | ⟨c11, h⟩
      · simp [h1, c2, h5, h9, c10, c11]
        rcases iteB_cases h with ⟨c12, h⟩ | ⟨c12, h⟩
        · simp [h1, c2, h5, h9, c10, c11, c12]
          cases h
          rfl
        · simp [h1, c2, h5, h9, c10, c11, c12]
          cases h
          rfl
      · simp [h1, c2, h5, h9, c10, c11]
        cases h
        rfl
    · simp [h1, c2, h5, h9, c10]
      cases h
      rfl
  · simp [h1, c2]
    cases h
    rfl
theorem w_lex_Take (b : List Int) (at_ : Int) (r : Int × Int × Int) (h : lex_Take b at_ = some r) : ev 12 [T.c (sls 1 byteF b), T.c (C.lit (Value.int IntKind.i64 at_))] = some (T.tup [T.c (C.lit (Value.int IntKind.i64 r.1)), T.c (C.lit (Value.int IntKind.i64 r.2.1)), T.c (C.lit (Value.int IntKind.i64 r.2.2))], []) := by
  refine ev_run' (kp := k12) (us := [3, 3, 26]) fn12 rfl rfl rfl rfl rfl (by kernel_rfl) (by simp) ?_
  unfold lex_Take at h
  simp
  obtain ⟨v0, h1', h⟩ := bind_some' h
  have h1 : ev 24 [T.c (sls 1 byteF b), T.c (C.lit (Value.int IntKind.i64 at_))] = some (T.c (C.lit (Value.bool v0)), []) := w_lex_isPlace _ _ _ h1'
  simp [h1]
  rcases iteB_cases h with ⟨c2, h⟩ | ⟨c2, h⟩
  · simp [h1, c2]
    rcases iteB_cases h with ⟨c3, h⟩ | ⟨c3, h⟩
    · simp [h1, c2, c3]
      obtain ⟨w62, h61, h⟩ := bind_some' h
      rw [evLoop_loopF (ι := Int × Int) (ρ := (Int × Int × Int) ⊕ Unit) (fun p => match p with | (x41, x42) => mk 57 [(1, T.c (C.lit (Value.int IntKind.i64 at_))), (7, T.c (C.lit (Value.int IntKind.i64 x41))), (16, T.c (sls 1 byteF (cut b at_ (lenI b)))), (17, T.c (C.lit (Value.int IntKind.i64 (lenI (cut b at_ (lenI b)))))), (18, T.c (C.lit (Value.int IntKind.i64 x42)))] [] []) (fun r => match r with | .inl (y58, y59, y60) => (Ex.ret, mk 57 [(4, T.c (C.lit (Value.int IntKind.i64 y58))), (5, T.c (C.lit (Value.int IntKind.i64 y59))), (6, T.c (C.lit (Value.int IntKind.i64 y60)))] [] []) | .inr () => (Ex.exit 0, mk 57 [(1, T.c (C.lit (Value.int IntKind.i64 at_)))] [] [])) (lex_Take_B0 b at_) h61 ?_ _ ?_]
      · rcases w62 with ⟨y58, y59, y60⟩ | ⟨⟩
        · simp [h1, c2, c3]
          cases h
          rfl
        · simp [h1, c2, c3]
          cases h
          rfl
      · clear h61 h
        rintro ⟨x41, x42⟩ y L res h hL hR
        unfold lex_Take_B0 at h
        simp
        rcases iteB_cases h with ⟨c43, h⟩ | ⟨c43, h⟩
        · simp [c43]
          obtain ⟨v44, h45, h⟩ := bind_some' h
          simp [c43, h45]
          rcases iteB_cases h with ⟨c46, h⟩ | ⟨c46, h⟩
          · simp [c43, h45, c46]
            cases h
          · simp [c43, h45, c46]
            rcases iteB_cases h with ⟨c47, h⟩ | ⟨c47, h⟩
            · simp [c43, h45, c46, c47]
              cases h
              exact hR _ rfl
            · simp [c43, h45, c46, c47]
              rcases iteB_cases h with ⟨c48, h⟩ | ⟨c48, h⟩
              · simp [c43, h45, c46, c47, c48]
                rcases iteB_cases h with ⟨c49, h⟩ | ⟨c49, h⟩
                · simp [c43, h45, c46, c47, c48, c49]
                  cases h
                  exact hR _ rfl
                · simp [c43, h45, c46, c47, c48, c49]
                  rcases iteB_cases h with ⟨c50, h⟩ | ⟨c50, h⟩
                  · simp [c43, h45, c46, c47, c48, c49, c50]
                    rcases iteB_cases h with ⟨c51, h⟩ | ⟨c51, h⟩
                    · simp [c43, h45, c46, c47, c48, c49, c50, c51]
                      cases h
                      exact hR _ rfl
                    · simp [c43, h45, c46, c47, c48, c49, c50, c51]
                      rcases iteB_cases h with ⟨c52, h⟩ | ⟨c52, h⟩
                      · simp [c43, h45, c46, c47, c48, c49, c50, c51, c52]
                        cases h
                        exact hR _ rfl
                      · simp [c43, h45, c46, c47, c48, c49, c50, c51, c52]
                        cases h
                        exact hL _ _ rfl (by simp [headOf])
                  · simp [c43, h45, c46, c47, c48, c49, c50]
                    rcases iteB_cases h with ⟨c53, h⟩ | ⟨c53, h⟩
                    · simp [c43, h45, c46, c47, c48, c49, c50, c53]
                      cases h
                      exact hR _ rfl
                    · simp [c43, h45, c46, c47, c48, c49, c50, c53]
                      cases h
                      exact hL _ _ rfl (by simp [headOf])
              · simp [c43, h45, c46, c47, c48]
                rcases iteB_cases h with ⟨c54, h⟩ | ⟨c54, h⟩
                · simp [c43, h45, c46, c47, c48, c54]
                  rcases iteB_cases h with ⟨c55, h⟩ | ⟨c55, h⟩
                  · simp [c43, h45, c46, c47, c48, c54, c55]
                    cases h
                    exact hR _ rfl
                  · simp [c43, h45, c46, c47, c48, c54, c55]
                    rcases iteB_cases h with ⟨c56, h⟩ | ⟨c56, h⟩
                    · simp [c43, h45, c46, c47, c48, c54, c55, c56]
                      cases h
                      exact hR _ rfl
                    · simp [c43, h45, c46, c47, c48, c54, c55, c56]
                      cases h
                      exact hL _ _ rfl (by simp [headOf])
                · simp [c43, h45, c46, c47, c48, c54]
                  rcases iteB_cases h with ⟨c57, h⟩ | ⟨c57, h⟩
                  · simp [c43, h45, c46, c47, c48, c54, c57]
                    cases h
                    exact hR _ rfl
                  · simp [c43, h45, c46, c47, c48, c54, c57]
                    cases h
                    exact hL _ _ rfl (by simp [headOf])
        · simp [c43]
          cases h
          exact hR _ rfl
      · simp [headOf]
    · simp [h1, c2, c3]
      cases h
  · simp [h1, c2]
    cases h
    rfl
theorem w_ref01_Take (b : List Int) (at_ : Int) (r : Int × Int × Int) (h : ref01_Take b at_ = some r) : ev 13 [T.c (sls 1 byteF b), T.c (C.lit (Value.int IntKind.i64 at_))] = some (T.tup [T.c (C.lit (Value.int IntKind.i64 r.1)), T.c (C.lit (Value.int IntKind.i64 r.2.1)), T.c (C.lit (Value.int IntKind.i64 r.2.2))], []) := by
  refine ev_run' (kp := k13) (us := [3, 3, 3]) fn13 rfl rfl rfl rfl rfl (by kernel_rfl) (by simp) ?_
  unfold ref01_Take at h
  simp
  rcases iteB_cases h with ⟨c0, h⟩ | ⟨c0, h⟩
  · simp [c0]
    cases h
    rfl
  · simp [c0]
    rcases iteB_cases h with ⟨c1, h⟩ | ⟨c1, h⟩
    · simp [c0, c1]
      cases h
      rfl
    · simp [c0, c1]
      obtain ⟨w41, h40, h⟩ := bind_some' h
      rw [evLoop_loopF (ι := Int × Int × Int) (ρ := (Int × Int × Int) ⊕ Unit) (fun p => match p with | (x26, x27, x28) => mk 65 [(0, T.c (sls 1 byteF b)), (1, T.c (C.lit (Value.int IntKind.i64 at_))), (7, T.c (C.lit (Value.int IntKind.i64 x26))), (8, T.c (C.lit (Value.int IntKind.i64 x27))), (9, T.c (C.lit (Value.int IntKind.i64 x28)))] [] []) (fun r => match r with | .inl (y37, y38, y39) => (Ex.ret, mk 65 [(4, T.c (C.lit (Value.int IntKind.i64 y37))), (5, T.c (C.lit (Value.int IntKind.i64 y38))), (6, T.c (C.lit (Value.int IntKind.i64 y39)))] [] []) | .inr () => (Ex.exit 0, mk 65 [(1, T.c (C.lit (Value.int IntKind.i64 at_)))] [] [])) (ref01_Take_B0 b at_) h40 ?_ _ ?_]
      · rcases w41 with ⟨y37, y38, y39⟩ | ⟨⟩
        · simp [c0, c1]
          cases h
          rfl
        · simp [c0, c1]
          cases h
          rfl
      · clear h40 h
        rintro ⟨x26, x27, x28⟩ y L res h hL hR
        unfold ref01_Take_B0 at h
        simp
        rcases iteB_cases h with ⟨c29, h⟩ | ⟨c29, h⟩
        · simp [c29]
          rcases iteB_cases h with ⟨c30, h⟩ | ⟨c30, h⟩
          · simp [c29, c30]
            obtain ⟨v31, h32, h⟩ := bind_some' h
            simp [c29, c30, h32]
            rcases iteB_cases h with ⟨c33, h⟩ | ⟨c33, h⟩
            · simp [c29, c30, h32, c33]
              rcases iteB_cases h with ⟨c34, h⟩ | ⟨c34, h⟩
              · simp [c29, c30, h32, c33, c34]
                cases h
                exact hR _ rfl
              · simp [c29, c30, h32, c33, c34]
                rcases iteB_cases h with ⟨c35, h⟩ | ⟨c35, h⟩
                · simp [c29, c30, h32, c33, c34, c35]
                  rcases iteB_cases h with ⟨c36, h⟩ | ⟨c36, h⟩
                  · simp [c29, c30, h32, c33, c34, c35, c36]
                    cases h
                    exact hR _ rfl
                  · simp [c29, c30, h32, c33, c34, c35, c36]
                    cases h
                    exact hR _ rfl
                · simp [c29, c30, h32, c33, c34, c35]
                  cases h
                  exact hR _ rfl
            · simp [c29, c30, h32, c33]
              cases h
              exact hL _ _ rfl (by simp [headOf])
          · simp [c29, c30]
            cases h
            exact hR _ rfl
        · simp [c29]
          cases h
          exact hR _ rfl
      · simp [headOf]
theorem w_lex_Put (n : Int) (r : List Int) (h : lex_Put n = some r) : ev 17 [T.c (C.lit (Value.int IntKind.i64 n))] = some (T.c (C.ref 0 0 (lenN r)), [rowO 5 1 byteF r]) := by
  refine ev_run' (kp := k17) (us := [22]) fn17 rfl rfl rfl rfl rfl (by kernel_rfl) (by simp) ?_
  unfold lex_Put at h
  simp
  rcases iteB_cases h with ⟨c0, h⟩ | ⟨c0, h⟩
  · simp [c0]
    cases h
    rfl
  · simp [c0]
    rcases iteB_cases h with ⟨c1, h⟩ | ⟨c1, h⟩
    · simp [c0, c1]
      cases h
      rfl
    · simp [c0, c1]
      obtain ⟨w21, h20, h⟩ := bind_some' h
      rw [evLoop_loopF (ι := (List Int) × Int) (ρ := (List Int) × Int) (fun p => match p with | (x12, x13) => mk 25 [(0, T.c (C.lit (Value.int IntKind.i64 x13))), (3, T.c (C.ref 3 0 (lenN x12)))] [(3, rowO 5 1 byteF x12)] []) (fun r => match r with | (y17, y18) => (Ex.exit 0, mk 25 [(0, T.c (C.lit (Value.int IntKind.i64 y18))), (3, T.c (C.ref 3 0 (lenN y17)))] [(3, rowO 5 1 byteF y17)] [])) (lex_Put_B0) h20 ?_ _ ?_]
      · obtain ⟨y17, y18⟩ := w21
        simp [c0, c1]
        rcases iteB_cases h with ⟨c19, h⟩ | ⟨c19, h⟩
        · simp [c0, c1, c19]
          cases h
          rfl
        · simp [c0, c1, c19]
          cases h
      · clear h20 h
        rintro ⟨x12, x13⟩ y L res h hL hR
        unfold lex_Put_B0 at h
        simp
        rcases iteB_cases h with ⟨c14, h⟩ | ⟨c14, h⟩
        · simp [c14]
          rcases iteB_cases h with ⟨c15, h⟩ | ⟨c15, h⟩
          · simp [c14, c15]
            rcases iteB_cases h with ⟨c16, h⟩ | ⟨c16, h⟩
            · simp [c14, c15, c16]
              cases h
            · simp [c14, c15, c16]
              cases h
              exact hL _ _ rfl (by simp [headOf])
          · simp [c14, c15]
            cases h
        · simp [c14]
          cases h
          exact hR _ rfl
      · simp [headOf]
theorem w_ref01_Put (n : Int) (r : List Int) (h : ref01_Put n = some r) : ev 18 [T.c (C.lit (Value.int IntKind.i64 n))] = some (T.c (C.ref 0 0 (lenN r)), [rowO 5 1 byteF r]) := by
  refine ev_run' (kp := k18) (us := [22]) fn18 rfl rfl rfl rfl rfl (by kernel_rfl) (by simp) ?_
  unfold ref01_Put at h
  simp
  rcases iteB_cases h with ⟨c0, h⟩ | ⟨c0, h⟩
  · simp [c0]
    cases h
    rfl
  · simp [c0]
    rcases iteB_cases h with ⟨c1, h⟩ | ⟨c1, h⟩
    · simp [c0, c1]
      cases h
      rfl
    · simp [c0, c1]
      obtain ⟨w18, h17, h⟩ := bind_some' h
      rw [evLoop_loopF (ι := (List Int) × Int) (ρ := (List Int) × Int) (fun p => match p with | (x10, x11) => mk 26 [(0, T.c (C.lit (Value.int IntKind.i64 x11))), (3, T.c (C.ref 3 0 (lenN x10)))] [(3, rowO 5 1 byteF x10)] []) (fun r => match r with | (y14, y15) => (Ex.exit 0, mk 26 [(0, T.c (C.lit (Value.int IntKind.i64 y15))), (3, T.c (C.ref 3 0 (lenN y14)))] [(3, rowO 5 1 byteF y14)] [])) (ref01_Put_B0) h17 ?_ _ ?_]
      · obtain ⟨y14, y15⟩ := w18
        simp [c0, c1]
        rcases iteB_cases h with ⟨c16, h⟩ | ⟨c16, h⟩
        · simp [c0, c1, c16]
          cases h
          rfl
        · simp [c0, c1, c16]
          cases h
      · clear h17 h
        rintro ⟨x10, x11⟩ y L res h hL hR
        unfold ref01_Put_B0 at h
        simp
        rcases iteB_cases h with ⟨c12, h⟩ | ⟨c12, h⟩
        · simp [c12]
          rcases iteB_cases h with ⟨c13, h⟩ | ⟨c13, h⟩
          · simp [c12, c13]
            cases h
            exact hL _ _ rfl (by simp [headOf])
          · simp [c12, c13]
            cases h
        · simp [c12]
          cases h
          exact hR _ rfl
      · simp [headOf]
theorem w_ref01_Row (a : List Int) (b : List Int) (r : Bool) (h : ref01_Row a b = some r) : ev 16 [T.c (sls 1 byteF a), T.c (sls 1 byteF b)] = some (T.c (C.lit (Value.bool r)), []) := by
  refine ev_run' (kp := k16) (us := [4]) fn16 rfl rfl rfl rfl rfl (by kernel_rfl) (by simp) ?_
  unfold ref01_Row at h
  simp
  rcases iteB_cases h with ⟨c0, h⟩ | ⟨c0, h⟩
  · simp [c0]
    obtain ⟨w25, h24, h⟩ := bind_some' h
    rw [evLoop_loopF (ι := Int) (ρ := Unit ⊕ Unit) (fun p => match p with | x17 => mk 26 [(0, T.c (sls 1 byteF a)), (1, T.c (sls 1 byteF b)), (5, T.c (C.lit (Value.int IntKind.i64 x17)))] [] []) (fun r => match r with | .inl () => (Ex.ret, mk 26 [(4, T.c (C.lit (Value.bool false)))] [] []) | .inr () => (Ex.exit 0, mk 26 [] [] [])) (ref01_Row_B0 a b) h24 ?_ _ ?_]
    · rcases w25 with ⟨⟩ | ⟨⟩
      · simp [c0]
        cases h
        rfl
      · simp [c0]
        cases h
        rfl
    · clear h24 h
      rintro x17 y L res h hL hR
      unfold ref01_Row_B0 at h
      simp
      rcases iteB_cases h with ⟨c18, h⟩ | ⟨c18, h⟩
      · simp [c18]
        obtain ⟨v19, h20, h⟩ := bind_some' h
        simp [c18, h20]
        obtain ⟨v21, h22, h⟩ := bind_some' h
        simp [c18, h20, h22]
        rcases iteB_cases h with ⟨c23, h⟩ | ⟨c23, h⟩
        · simp [c18, h20, h22, c23]
          cases h
          exact hL _ _ rfl (by simp [headOf])
        · simp [c18, h20, h22, c23]
          cases h
          exact hR _ rfl
      · simp [c18]
        cases h
        exact hR _ rfl
    · simp [headOf]
  · simp [c0]
    cases h
    rfl
end Go.Proofs.YtgamgcmjiancmaaDoor

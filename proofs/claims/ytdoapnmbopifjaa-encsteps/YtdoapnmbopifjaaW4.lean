/- What the interpreter comes to is what the plain functions come to. No condition. -/
import Derived.Test.YtdoapnmbopifjaaW3
set_option linter.unusedSimpArgs false
set_option linter.unusedVariables false
set_option maxRecDepth 20000
set_option maxHeartbeats 4000000
namespace Go.Proofs.Ytdoapnmbopifjaa
open Go.Vabs Go.Vid
theorem w_law19_EncSteps (with_ : EncStepsIn_law19) (h : law19_EncSteps with_ = some true) : ev 8 [T.agg (EncStepsIn_law19.cells with_)] = some (T.c (C.lit (Value.bool true)), []) := by
  refine ev_run' (kp := k8) (us := [4]) fn8 rfl rfl rfl rfl rfl (by kernel_rfl) (by simp) ?_
  unfold law19_EncSteps at h
  simp -implicitDefEqProofs
  obtain ⟨v0, h1', h⟩ := bind_some' h
  have h1 : ev 11 [] = some (T.c (C.lit (Value.bool v0)), []) := w_law19_shown _ h1'
  simp -implicitDefEqProofs [h1]
  obtain ⟨v2, h3', h⟩ := bind_some' h
  have h3 : ev 21 [T.agg [C.lit (Value.int IntKind.i64 with_.a.I), sls 2 Latch.cells with_.a.L, sls 2 And.cells with_.a.G, sls 1 intF with_.a.outs, sls 1 intF with_.a.bad, sls 1 intF with_.a.con, sls 3 Name.cells with_.a.names]] = some (T.c (C.lit (Value.bool v2)), []) := w_ref08_May _ _ h3'
  simp -implicitDefEqProofs [h1, h3]
  rcases iteB_cases h with ⟨c4, h⟩ | ⟨c4, h⟩
  · simp -implicitDefEqProofs [h1, h3, c4]
    rcases iteB_cases h with ⟨c5, h⟩ | ⟨c5, h⟩
    · first | (cases h; done) | (simp -implicitDefEqProofs [h1, h3, c4, c5]; first | rfl | (injection h with h; rw [h]; rfl) | (injection h with h; rw [h]))
    · simp -implicitDefEqProofs [h1, h3, c4, c5]
      rcases iteB_cases h with ⟨c6, h⟩ | ⟨c6, h⟩
      · first | (cases h; done) | (simp -implicitDefEqProofs [h1, h3, c4, c5, c6]; first | rfl | (injection h with h; rw [h]; rfl) | (injection h with h; rw [h]))
      · simp -implicitDefEqProofs [h1, h3, c4, c5, c6]
        rcases iteB_cases h with ⟨c7, h⟩ | ⟨c7, h⟩
        · simp -implicitDefEqProofs [h1, h3, c4, c5, c6, c7]
          obtain ⟨⟨v8, v9⟩, h10', h⟩ := bind_some' h
          have h10 : ev 14 [T.agg [C.lit (Value.int IntKind.i64 with_.a.I), sls 2 Latch.cells with_.a.L, sls 2 And.cells with_.a.G, sls 1 intF with_.a.outs, sls 1 intF with_.a.bad, sls 1 intF with_.a.con, sls 3 Name.cells with_.a.names], T.c (sls 1 boolF with_.state), T.c (sls 1 boolF with_.in'.fst)] = some (T.tup [T.c (C.ref 0 0 (lenN v8)), T.c (C.lit (Value.int IntKind.i64 v9))], [rowO 4 1 boolF v8]) := w_ref08_Values _ _ _ _ h10'
          simp -implicitDefEqProofs [h1, h3, c4, c5, c6, c7, h10]
          obtain ⟨⟨v11, v12, v13⟩, h14', h⟩ := bind_some' h
          have h14 : ev 33 [T.agg [C.lit (Value.int IntKind.i64 with_.a.I), sls 2 Latch.cells with_.a.L, sls 2 And.cells with_.a.G, sls 1 intF with_.a.outs, sls 1 intF with_.a.bad, sls 1 intF with_.a.con, sls 3 Name.cells with_.a.names], T.c (sls 1 boolF with_.state), T.c (sls 1 boolF with_.in'.fst)] = some (T.tup [T.c (C.ref 0 0 (lenN v11)), T.agg [C.ref 1 0 (lenN v12.1), C.ref 2 0 (lenN v12.2.1), C.ref 3 0 (lenN v12.2.2)], T.c (C.lit (Value.int IntKind.i64 v13))], [rowO 4 1 boolF v11, rowO 4 1 boolF v12.1, rowO 4 1 boolF v12.2.1, rowO 4 1 boolF v12.2.2]) := w_ref08_Step _ _ _ _ h14'
          simp -implicitDefEqProofs [h1, h3, c4, c5, c6, c7, h10, h14]
          rcases iteB_cases h with ⟨c15, h⟩ | ⟨c15, h⟩
          · simp -implicitDefEqProofs [h1, h3, c4, c5, c6, c7, h10, h14, c15]
            obtain ⟨⟨v16, v17⟩, h18', h⟩ := bind_some' h
            have h18 : ev 14 [T.agg [C.lit (Value.int IntKind.i64 with_.a.I), sls 2 Latch.cells with_.a.L, sls 2 And.cells with_.a.G, sls 1 intF with_.a.outs, sls 1 intF with_.a.bad, sls 1 intF with_.a.con, sls 3 Name.cells with_.a.names], T.c (sls 1 boolF v11), T.c (sls 1 boolF with_.in'.snd)] = some (T.tup [T.c (C.ref 0 0 (lenN v16)), T.c (C.lit (Value.int IntKind.i64 v17))], [rowO 4 1 boolF v16]) := w_ref08_Values _ _ _ _ h18'
            simp -implicitDefEqProofs [h1, h3, c4, c5, c6, c7, h10, h14, c15, h18]
            obtain ⟨⟨v19, v20⟩, h21', h⟩ := bind_some' h
            have h21 : ev 14 [T.agg [C.lit (Value.int IntKind.i64 with_.a.I), sls 2 Latch.cells with_.a.L, sls 2 And.cells with_.a.G, sls 1 intF with_.a.outs, sls 1 intF with_.a.bad, sls 1 intF with_.a.con, sls 3 Name.cells with_.a.names], T.c (sls 1 boolF with_.other), T.c (sls 1 boolF with_.in'.snd)] = some (T.tup [T.c (C.ref 0 0 (lenN v19)), T.c (C.lit (Value.int IntKind.i64 v20))], [rowO 4 1 boolF v19]) := w_ref08_Values _ _ _ _ h21'
            simp -implicitDefEqProofs [h1, h3, c4, c5, c6, c7, h10, h14, c15, h18, h21]
            rcases iteB_cases h with ⟨c22, h⟩ | ⟨c22, h⟩
            · simp -implicitDefEqProofs [h1, h3, c4, c5, c6, c7, h10, h14, c15, h18, h21, c22]
              rcases iteB_cases h with ⟨c23, h⟩ | ⟨c23, h⟩
              · simp -implicitDefEqProofs [h1, h3, c4, c5, c6, c7, h10, h14, c15, h18, h21, c22, c23]
                rcases iteB_cases h with ⟨c24, h⟩ | ⟨c24, h⟩
                · simp -implicitDefEqProofs [h1, h3, c4, c5, c6, c7, h10, h14, c15, h18, h21, c22, c23, c24]
                  obtain ⟨v25, h26', h⟩ := bind_some' h
                  have h26 : ev 17 [T.agg [C.lit (Value.int IntKind.i64 with_.a.I), sls 2 Latch.cells with_.a.L, sls 2 And.cells with_.a.G, sls 1 intF with_.a.outs, sls 1 intF with_.a.bad, sls 1 intF with_.a.con, sls 3 Name.cells with_.a.names], T.c (C.lit (Value.int IntKind.i64 0))] = some (T.c (C.ref 0 0 (lenN v25)), [rowO 24 1 rowF v25]) := w_enc_Frame _ _ _ h26'
                  simp -implicitDefEqProofs [h1, h3, c4, c5, c6, c7, h10, h14, c15, h18, h21, c22, c23, c24, h26]
                  rcases iteB_cases h with ⟨c27, h⟩ | ⟨c27, h⟩
                  · simp -implicitDefEqProofs [h1, h3, c4, c5, c6, c7, h10, h14, c15, h18, h21, c22, c23, c24, h26, c27]
                    obtain ⟨v28, h29', h⟩ := bind_some' h
                    have h29 : ev 17 [T.agg [C.lit (Value.int IntKind.i64 with_.a.I), sls 2 Latch.cells with_.a.L, sls 2 And.cells with_.a.G, sls 1 intF with_.a.outs, sls 1 intF with_.a.bad, sls 1 intF with_.a.con, sls 3 Name.cells with_.a.names], T.c (C.lit (Value.int IntKind.i64 1))] = some (T.c (C.ref 0 0 (lenN v28)), [rowO 24 1 rowF v28]) := w_enc_Frame _ _ _ h29'
                    simp -implicitDefEqProofs [h1, h3, c4, c5, c6, c7, h10, h14, c15, h18, h21, c22, c23, c24, h26, c27, h29]
                    rcases iteB_cases h with ⟨c30, h⟩ | ⟨c30, h⟩
                    · simp -implicitDefEqProofs [h1, h3, c4, c5, c6, c7, h10, h14, c15, h18, h21, c22, c23, c24, h26, c27, h29, c30]
                      obtain ⟨v31, h32', h⟩ := bind_some' h
                      have h32 : ev 30 [T.agg [C.lit (Value.int IntKind.i64 with_.a.I), sls 2 Latch.cells with_.a.L, sls 2 And.cells with_.a.G, sls 1 intF with_.a.outs, sls 1 intF with_.a.bad, sls 1 intF with_.a.con, sls 3 Name.cells with_.a.names]] = some (T.c (C.ref 0 0 (lenN v31)), [rowO 24 1 rowF v31]) := w_enc_Link _ _ h32'
                      simp -implicitDefEqProofs [h1, h3, c4, c5, c6, c7, h10, h14, c15, h18, h21, c22, c23, c24, h26, c27, h29, c30, h32]
                      rcases iteB_cases h with ⟨c33, h⟩ | ⟨c33, h⟩
                      · simp -implicitDefEqProofs [h1, h3, c4, c5, c6, c7, h10, h14, c15, h18, h21, c22, c23, c24, h26, c27, h29, c30, h32, c33]
                        rcases iteB_cases h with ⟨c34, h⟩ | ⟨c34, h⟩
                        · simp -implicitDefEqProofs [h1, h3, c4, c5, c6, c7, h10, h14, c15, h18, h21, c22, c23, c24, h26, c27, h29, c30, h32, c33, c34]
                          rcases iteB_cases h with ⟨c35, h⟩ | ⟨c35, h⟩
                          · simp -implicitDefEqProofs [h1, h3, c4, c5, c6, c7, h10, h14, c15, h18, h21, c22, c23, c24, h26, c27, h29, c30, h32, c33, c34, c35]
                            rcases iteB_cases h with ⟨c36, h⟩ | ⟨c36, h⟩
                            · simp -implicitDefEqProofs [h1, h3, c4, c5, c6, c7, h10, h14, c15, h18, h21, c22, c23, c24, h26, c27, h29, c30, h32, c33, c34, c35, c36]
                              rcases iteB_cases h with ⟨c37, h⟩ | ⟨c37, h⟩
                              · simp -implicitDefEqProofs [h1, h3, c4, c5, c6, c7, h10, h14, c15, h18, h21, c22, c23, c24, h26, c27, h29, c30, h32, c33, c34, c35, c36, c37]
                                obtain ⟨v38, h39', h⟩ := bind_some' h
                                have h39 : ev 16 [T.agg [C.lit (Value.int IntKind.i64 (imul IntKind.i64 2 (lenI v8))), sls 1 rowF (v25 ++ (v28 ++ v31))], T.c (sls 1 boolF (v8 ++ v16))] = some (T.c (C.lit (Value.bool v38)), []) := w_ref03_Holds _ _ _ h39'
                                simp -implicitDefEqProofs [h1, h3, c4, c5, c6, c7, h10, h14, c15, h18, h21, c22, c23, c24, h26, c27, h29, c30, h32, c33, c34, c35, c36, c37, h39]
                                rcases iteB_cases h with ⟨c40, h⟩ | ⟨c40, h⟩
                                · simp -implicitDefEqProofs [h1, h3, c4, c5, c6, c7, h10, h14, c15, h18, h21, c22, c23, c24, h26, c27, h29, c30, h32, c33, c34, c35, c36, c37, h39, c40]
                                  obtain ⟨v41, h42', h⟩ := bind_some' h
                                  have h42 : ev 16 [T.agg [C.lit (Value.int IntKind.i64 (imul IntKind.i64 2 (lenI v8))), sls 1 rowF (v25 ++ (v28 ++ v31))], T.c (sls 1 boolF (v8 ++ v19))] = some (T.c (C.lit (Value.bool v41)), []) := w_ref03_Holds _ _ _ h42'
                                  simp -implicitDefEqProofs [h1, h3, c4, c5, c6, c7, h10, h14, c15, h18, h21, c22, c23, c24, h26, c27, h29, c30, h32, c33, c34, c35, c36, c37, h39, c40, h42]
                                  obtain ⟨v43, h44', h⟩ := bind_some' h
                                  have h44 : ev 15 [T.c (sls 1 boolF v11), T.c (sls 1 boolF with_.other)] = some (T.c (C.lit (Value.bool v43)), []) := w_ref03_Flags _ _ _ h44'
                                  first | (cases h; done) | (simp -implicitDefEqProofs [h1, h3, c4, c5, c6, c7, h10, h14, c15, h18, h21, c22, c23, c24, h26, c27, h29, c30, h32, c33, c34, c35, c36, c37, h39, c40, h42, h44]; first | rfl | (injection h with h; rw [h]; rfl) | (injection h with h; rw [h]))
                                · first | (cases h; done) | (simp -implicitDefEqProofs [h1, h3, c4, c5, c6, c7, h10, h14, c15, h18, h21, c22, c23, c24, h26, c27, h29, c30, h32, c33, c34, c35, c36, c37, h39, c40]; first | rfl | (injection h with h; rw [h]; rfl) | (injection h with h; rw [h]))
                              · first | (cases h; done) | (simp -implicitDefEqProofs [h1, h3, c4, c5, c6, c7, h10, h14, c15, h18, h21, c22, c23, c24, h26, c27, h29, c30, h32, c33, c34, c35, c36, c37]; first | rfl | (injection h with h; rw [h]; rfl) | (injection h with h; rw [h]))
                            · simp -implicitDefEqProofs [h1, h3, c4, c5, c6, c7, h10, h14, c15, h18, h21, c22, c23, c24, h26, c27, h29, c30, h32, c33, c34, c35, c36]
                              cases h
                          · simp -implicitDefEqProofs [h1, h3, c4, c5, c6, c7, h10, h14, c15, h18, h21, c22, c23, c24, h26, c27, h29, c30, h32, c33, c34, c35]
                            cases h
                        · simp -implicitDefEqProofs [h1, h3, c4, c5, c6, c7, h10, h14, c15, h18, h21, c22, c23, c24, h26, c27, h29, c30, h32, c33, c34]
                          cases h
                      · simp -implicitDefEqProofs [h1, h3, c4, c5, c6, c7, h10, h14, c15, h18, h21, c22, c23, c24, h26, c27, h29, c30, h32, c33]
                        cases h
                    · simp -implicitDefEqProofs [h1, h3, c4, c5, c6, c7, h10, h14, c15, h18, h21, c22, c23, c24, h26, c27, h29, c30]
                      cases h
                  · simp -implicitDefEqProofs [h1, h3, c4, c5, c6, c7, h10, h14, c15, h18, h21, c22, c23, c24, h26, c27]
                    cases h
                · first | (cases h; done) | (simp -implicitDefEqProofs [h1, h3, c4, c5, c6, c7, h10, h14, c15, h18, h21, c22, c23, c24]; first | rfl | (injection h with h; rw [h]; rfl) | (injection h with h; rw [h]))
              · first | (cases h; done) | (simp -implicitDefEqProofs [h1, h3, c4, c5, c6, c7, h10, h14, c15, h18, h21, c22, c23]; first | rfl | (injection h with h; rw [h]; rfl) | (injection h with h; rw [h]))
            · first | (cases h; done) | (simp -implicitDefEqProofs [h1, h3, c4, c5, c6, c7, h10, h14, c15, h18, h21, c22]; first | rfl | (injection h with h; rw [h]; rfl) | (injection h with h; rw [h]))
          · simp -implicitDefEqProofs [h1, h3, c4, c5, c6, c7, h10, h14, c15]
            cases h
        · simp -implicitDefEqProofs [h1, h3, c4, c5, c6, c7]
          cases h
  · first | (cases h; done) | (simp -implicitDefEqProofs [h1, h3, c4]; first | rfl | (injection h with h; rw [h]; rfl) | (injection h with h; rw [h]))
theorem w_enc_Stays (a : Aig) (inv : Int) (r : Cnf) (h : enc_Stays a inv = some r) : ev 34 [T.agg (Aig.cells a), T.c (C.lit (Value.int IntKind.i64 inv))] = some (T.agg [C.lit (Value.int IntKind.i64 r.N), C.ref 0 0 (lenN r.cs)], [rowO 24 1 rowF r.cs]) := by
  refine ev_run' (kp := k34) (us := [39]) fn34 rfl rfl rfl rfl rfl (by kernel_rfl) (by simp) ?_
  unfold enc_Stays at h
  simp
  obtain ⟨v0, h1', h⟩ := bind_some' h
  have h1 : ev 41 [T.agg a.cells, T.c (C.lit (Value.int IntKind.i64 1)), T.c (sls 1 intF [bxor IntKind.i64 inv 1])] = some (T.c (C.ref 0 0 (lenN v0)), [rowO 3 1 intF v0]) := w_enc_clause _ _ _ _ h1'
  simp [h1]
  obtain ⟨v2, h3', h⟩ := bind_some' h
  have h3 : ev 25 [T.agg a.cells, T.c (C.lit (Value.int IntKind.i64 2))] = some (T.c (C.lit (Value.int IntKind.i64 v2)), []) := w_enc_Vars _ _ _ h3'
  simp [h1, h3]
  obtain ⟨v4, h5', h⟩ := bind_some' h
  have h5 : ev 17 [T.agg a.cells, T.c (C.lit (Value.int IntKind.i64 0))] = some (T.c (C.ref 0 0 (lenN v4)), [rowO 24 1 rowF v4]) := w_enc_Frame _ _ _ h5'
  simp [h1, h3, h5]
  obtain ⟨v6, h7', h⟩ := bind_some' h
  have h7 : ev 17 [T.agg a.cells, T.c (C.lit (Value.int IntKind.i64 1))] = some (T.c (C.ref 0 0 (lenN v6)), [rowO 24 1 rowF v6]) := w_enc_Frame _ _ _ h7'
  simp [h1, h3, h5, h7]
  obtain ⟨v8, h9', h⟩ := bind_some' h
  have h9 : ev 30 [T.agg a.cells] = some (T.c (C.ref 0 0 (lenN v8)), [rowO 24 1 rowF v8]) := w_enc_Link _ _ h9'
  simp [h1, h3, h5, h7, h9]
  obtain ⟨v10, h11', h⟩ := bind_some' h
  have h11 : ev 47 [T.agg a.cells, T.c (sls 1 intF [inv])] = some (T.c (C.ref 0 0 (lenN v10)), [rowO 24 1 rowF v10]) := w_enc_holds _ _ _ h11'
  simp [h1, h3, h5, h7, h9, h11]
  obtain ⟨v12, h13', h⟩ := bind_some' h
  have h13 : ev 44 [T.c (sls 1 rrowF [v4, v6, v8, v10, [v0]])] = some (T.c (C.ref 0 0 (lenN v12)), [rowO 24 1 rowF v12]) := w_slices_Concat _ _ h13'
  simp [h1, h3, h5, h7, h9, h11, h13]
  cases h
  rfl
theorem w_law19_EncStays (with_ : EncStaysIn_law19) (h : law19_EncStays with_ = some true) : ev 10 [T.agg (EncStaysIn_law19.cells with_)] = some (T.c (C.lit (Value.bool true)), []) := by
  refine ev_run' (kp := k10) (us := [4]) fn10 rfl rfl rfl rfl rfl (by kernel_rfl) (by simp) ?_
  unfold law19_EncStays at h
  simp
  obtain ⟨v0, h1', h⟩ := bind_some' h
  have h1 : ev 11 [] = some (T.c (C.lit (Value.bool v0)), []) := w_law19_shown _ h1'
  simp [h1]
  obtain ⟨v2, h3', h⟩ := bind_some' h
  have h3 : ev 12 [T.agg [C.lit (Value.int IntKind.i64 with_.a.I), sls 2 Latch.cells with_.a.L, sls 2 And.cells with_.a.G, sls 1 intF with_.a.outs, sls 1 intF with_.a.bad, sls 1 intF with_.a.con, sls 3 Name.cells with_.a.names], T.c (C.lit (Value.int IntKind.i64 with_.inv))] = some (T.c (C.lit (Value.bool v2)), []) := w_law19_may _ _ _ h3'
  simp [h1, h3]
  rcases iteB_cases h with ⟨c4, h⟩ | ⟨c4, h⟩
  · simp [h1, h3, c4]
    rcases iteB_cases h with ⟨c5, h⟩ | ⟨c5, h⟩
    · first | (cases h; done) | (simp [h1, h3, c4, c5]; first | rfl | (injection h with h; rw [h]; rfl) | (injection h with h; rw [h]))
    · simp [h1, h3, c4, c5]
      rcases iteB_cases h with ⟨c6, h⟩ | ⟨c6, h⟩
      · simp [h1, h3, c4, c5, c6]
        rcases iteB_cases h with ⟨c7, h⟩ | ⟨c7, h⟩
        · first | (cases h; done) | (simp [h1, h3, c4, c5, c6, c7]; first | rfl | (injection h with h; rw [h]; rfl) | (injection h with h; rw [h]))
        · simp [h1, h3, c4, c5, c6, c7]
          rcases iteB_cases h with ⟨c8, h⟩ | ⟨c8, h⟩
          · simp [h1, h3, c4, c5, c6, c7, c8]
            rcases iteB_cases h with ⟨c9, h⟩ | ⟨c9, h⟩
            · first | (cases h; done) | (simp [h1, h3, c4, c5, c6, c7, c8, c9]; first | rfl | (injection h with h; rw [h]; rfl) | (injection h with h; rw [h]))
            · simp [h1, h3, c4, c5, c6, c7, c8, c9]
              obtain ⟨⟨v10, v11⟩, h12', h⟩ := bind_some' h
              have h12 : ev 14 [T.agg [C.lit (Value.int IntKind.i64 with_.a.I), sls 2 Latch.cells with_.a.L, sls 2 And.cells with_.a.G, sls 1 intF with_.a.outs, sls 1 intF with_.a.bad, sls 1 intF with_.a.con, sls 3 Name.cells with_.a.names], T.c (sls 1 boolF with_.state), T.c (sls 1 boolF with_.in'.fst)] = some (T.tup [T.c (C.ref 0 0 (lenN v10)), T.c (C.lit (Value.int IntKind.i64 v11))], [rowO 4 1 boolF v10]) := w_ref08_Values _ _ _ _ h12'
              simp [h1, h3, c4, c5, c6, c7, c8, c9, h12]
              obtain ⟨⟨v13, v14, v15⟩, h16', h⟩ := bind_some' h
              have h16 : ev 33 [T.agg [C.lit (Value.int IntKind.i64 with_.a.I), sls 2 Latch.cells with_.a.L, sls 2 And.cells with_.a.G, sls 1 intF with_.a.outs, sls 1 intF with_.a.bad, sls 1 intF with_.a.con, sls 3 Name.cells with_.a.names], T.c (sls 1 boolF with_.state), T.c (sls 1 boolF with_.in'.fst)] = some (T.tup [T.c (C.ref 0 0 (lenN v13)), T.agg [C.ref 1 0 (lenN v14.1), C.ref 2 0 (lenN v14.2.1), C.ref 3 0 (lenN v14.2.2)], T.c (C.lit (Value.int IntKind.i64 v15))], [rowO 4 1 boolF v13, rowO 4 1 boolF v14.1, rowO 4 1 boolF v14.2.1, rowO 4 1 boolF v14.2.2]) := w_ref08_Step _ _ _ _ h16'
              simp [h1, h3, c4, c5, c6, c7, c8, c9, h12, h16]
              obtain ⟨⟨v17, v18⟩, h19', h⟩ := bind_some' h
              have h19 : ev 14 [T.agg [C.lit (Value.int IntKind.i64 with_.a.I), sls 2 Latch.cells with_.a.L, sls 2 And.cells with_.a.G, sls 1 intF with_.a.outs, sls 1 intF with_.a.bad, sls 1 intF with_.a.con, sls 3 Name.cells with_.a.names], T.c (sls 1 boolF v13), T.c (sls 1 boolF with_.in'.snd)] = some (T.tup [T.c (C.ref 0 0 (lenN v17)), T.c (C.lit (Value.int IntKind.i64 v18))], [rowO 4 1 boolF v17]) := w_ref08_Values _ _ _ _ h19'
              simp [h1, h3, c4, c5, c6, c7, c8, c9, h12, h16, h19]
              rcases iteB_cases h with ⟨c20, h⟩ | ⟨c20, h⟩
              · simp [h1, h3, c4, c5, c6, c7, c8, c9, h12, h16, h19, c20]
                rcases iteB_cases h with ⟨c21, h⟩ | ⟨c21, h⟩
                · simp [h1, h3, c4, c5, c6, c7, c8, c9, h12, h16, h19, c20, c21]
                  obtain ⟨y60, h90, h⟩ := bind_some' h
                  rw [evLoop_loopF (ι := Bool × Int) (ρ := Bool) (fun p => match p with | (x52, x53) => mk 145 [(3, T.c (C.ptr 3 0 0)), (6, T.c (C.lit (Value.int IntKind.i64 with_.inv))), (7, T.c (C.lit (Value.bool v0))), (8, T.c (C.ref 57 0 (lenN v10))), (11, T.c (C.ptr 11 0 0)), (13, T.c (C.ref 74 0 (lenN v17))), (15, T.c (C.lit (Value.bool x52))), (16, T.c (C.lit (Value.int IntKind.i64 x53)))] [(3, { box := true, free := true, elem := 27, sz := 7, es := [[C.lit (Value.int IntKind.i64 with_.a.I), sls 2 Latch.cells with_.a.L, sls 2 And.cells with_.a.G, sls 1 intF with_.a.outs, sls 1 intF with_.a.bad, sls 1 intF with_.a.con, sls 3 Name.cells with_.a.names]] }), (11, { box := true, free := false, elem := 58, sz := 3, es := [[C.ref 10065 0 (lenN v14.fst), C.ref 20065 0 (lenN v14.snd.fst), C.ref 30065 0 (lenN v14.snd.snd)]] }), (57, rowO 4 1 boolF v10), (74, rowO 4 1 boolF v17), (10065, rowO 4 1 boolF v14.fst), (20065, rowO 4 1 boolF v14.snd.fst), (30065, rowO 4 1 boolF v14.snd.snd)] []) (fun r => match r with | y60 => (Ex.exit 0, mk 145 [(3, T.c (C.ptr 3 0 0)), (6, T.c (C.lit (Value.int IntKind.i64 with_.inv))), (7, T.c (C.lit (Value.bool v0))), (8, T.c (C.ref 57 0 (lenN v10))), (13, T.c (C.ref 74 0 (lenN v17))), (15, T.c (C.lit (Value.bool y60)))] [(3, { box := true, free := true, elem := 27, sz := 7, es := [[C.lit (Value.int IntKind.i64 with_.a.I), sls 2 Latch.cells with_.a.L, sls 2 And.cells with_.a.G, sls 1 intF with_.a.outs, sls 1 intF with_.a.bad, sls 1 intF with_.a.con, sls 3 Name.cells with_.a.names]] }), (57, rowO 4 1 boolF v10), (74, rowO 4 1 boolF v17)] [])) (law19_EncStays_B0 v14) h90 ?_ _ ?_]
                  · simp [h1, h3, c4, c5, c6, c7, c8, c9, h12, h16, h19, c20, c21]
                    obtain ⟨v61, h62', h⟩ := bind_some' h
                    have h62 : ev 34 [T.agg [C.lit (Value.int IntKind.i64 with_.a.I), sls 2 Latch.cells with_.a.L, sls 2 And.cells with_.a.G, sls 1 intF with_.a.outs, sls 1 intF with_.a.bad, sls 1 intF with_.a.con, sls 3 Name.cells with_.a.names], T.c (C.lit (Value.int IntKind.i64 with_.inv))] = some (T.agg [C.lit (Value.int IntKind.i64 v61.N), C.ref 0 0 (lenN v61.cs)], [rowO 24 1 rowF v61.cs]) := w_enc_Stays _ _ _ h62'
                    simp [h1, h3, c4, c5, c6, c7, c8, c9, h12, h16, h19, c20, c21, h62]
                    obtain ⟨v63, h64', h⟩ := bind_some' h
                    have h64 : ev 35 [T.agg [C.lit (Value.int IntKind.i64 with_.a.I), sls 2 Latch.cells with_.a.L, sls 2 And.cells with_.a.G, sls 1 intF with_.a.outs, sls 1 intF with_.a.bad, sls 1 intF with_.a.con, sls 3 Name.cells with_.a.names], T.c (C.lit (Value.int IntKind.i64 with_.inv)), T.c (C.lit (Value.int IntKind.i64 with_.inv))] = some (T.agg [C.lit (Value.int IntKind.i64 v63.N), C.ref 0 0 (lenN v63.cs)], [rowO 24 1 rowF v63.cs]) := w_enc_Safe _ _ _ _ h64'
                    simp [h1, h3, c4, c5, c6, c7, c8, c9, h12, h16, h19, c20, c21, h62, h64]
                    rcases iteB_cases h with ⟨c65, h⟩ | ⟨c65, h⟩
                    · simp [h1, h3, c4, c5, c6, c7, c8, c9, h12, h16, h19, c20, c21, h62, h64, c65]
                      rcases iteB_cases h with ⟨c66, h⟩ | ⟨c66, h⟩
                      · simp [h1, h3, c4, c5, c6, c7, c8, c9, h12, h16, h19, c20, c21, h62, h64, c65, c66]
                        rcases iteB_cases h with ⟨c67, h⟩ | ⟨c67, h⟩
                        · simp [h1, h3, c4, c5, c6, c7, c8, c9, h12, h16, h19, c20, c21, h62, h64, c65, c66, c67]
                          obtain ⟨v68, h69', h⟩ := bind_some' h
                          have h69 : ev 20 [T.c (sls 1 boolF v10), T.c (C.lit (Value.int IntKind.i64 with_.inv))] = some (T.c (C.lit (Value.bool v68)), []) := w_ref08_Lit _ _ _ h69'
                          simp [h1, h3, c4, c5, c6, c7, c8, c9, h12, h16, h19, c20, c21, h62, h64, c65, c66, c67, h69]
                          rcases iteB_cases h with ⟨c70, h⟩ | ⟨c70, h⟩
                          · simp [h1, h3, c4, c5, c6, c7, c8, c9, h12, h16, h19, c20, c21, h62, h64, c65, c66, c67, h69, c70]
                            rcases iteB_cases h with ⟨c71, h⟩ | ⟨c71, h⟩
                            · simp [h1, h3, c4, c5, c6, c7, c8, c9, h12, h16, h19, c20, c21, h62, h64, c65, c66, c67, h69, c70, c71]
                              obtain ⟨v72, h73', h⟩ := bind_some' h
                              have h73 : ev 16 [T.agg [C.lit (Value.int IntKind.i64 v61.N), sls 1 rowF v61.cs], T.c (sls 1 boolF (v10 ++ v17))] = some (T.c (C.lit (Value.bool v72)), []) := w_ref03_Holds _ _ _ h73'
                              simp [h1, h3, c4, c5, c6, c7, c8, c9, h12, h16, h19, c20, c21, h62, h64, c65, c66, c67, h69, c70, c71, h73]
                              rcases iteB_cases h with ⟨c74, h⟩ | ⟨c74, h⟩
                              · simp [h1, h3, c4, c5, c6, c7, c8, c9, h12, h16, h19, c20, c21, h62, h64, c65, c66, c67, h69, c70, c71, h73, c74]
                                obtain ⟨v75, h76', h⟩ := bind_some' h
                                have h76 : ev 20 [T.c (sls 1 boolF v17), T.c (C.lit (Value.int IntKind.i64 with_.inv))] = some (T.c (C.lit (Value.bool v75)), []) := w_ref08_Lit _ _ _ h76'
                                simp [h1, h3, c4, c5, c6, c7, c8, c9, h12, h16, h19, c20, c21, h62, h64, c65, c66, c67, h69, c70, c71, h73, c74, h76]
                                rcases iteB_cases h with ⟨c77, h⟩ | ⟨c77, h⟩
                                · simp [h1, h3, c4, c5, c6, c7, c8, c9, h12, h16, h19, c20, c21, h62, h64, c65, c66, c67, h69, c70, c71, h73, c74, h76, c77]
                                  obtain ⟨v78, h79', h⟩ := bind_some' h
                                  have h79 : ev 16 [T.agg [C.lit (Value.int IntKind.i64 v63.N), sls 1 rowF v63.cs], T.c (sls 1 boolF v10)] = some (T.c (C.lit (Value.bool v78)), []) := w_ref03_Holds _ _ _ h79'
                                  first | (cases h; done) | (simp [h1, h3, c4, c5, c6, c7, c8, c9, h12, h16, h19, c20, c21, h62, h64, c65, c66, c67, h69, c70, c71, h73, c74, h76, c77, h79]; first | rfl | (injection h with h; rw [h]; rfl) | (injection h with h; rw [h]))
                                · first | (cases h; done) | (simp [h1, h3, c4, c5, c6, c7, c8, c9, h12, h16, h19, c20, c21, h62, h64, c65, c66, c67, h69, c70, c71, h73, c74, h76, c77]; first | rfl | (injection h with h; rw [h]; rfl) | (injection h with h; rw [h]))
                              · simp [h1, h3, c4, c5, c6, c7, c8, c9, h12, h16, h19, c20, c21, h62, h64, c65, c66, c67, h69, c70, c71, h73, c74]
                                rcases iteB_cases h with ⟨c80, h⟩ | ⟨c80, h⟩
                                · simp [h1, h3, c4, c5, c6, c7, c8, c9, h12, h16, h19, c20, c21, h62, h64, c65, c66, c67, h69, c70, c71, h73, c74, c80]
                                  obtain ⟨v81, h82', h⟩ := bind_some' h
                                  have h82 : ev 16 [T.agg [C.lit (Value.int IntKind.i64 v63.N), sls 1 rowF v63.cs], T.c (sls 1 boolF v10)] = some (T.c (C.lit (Value.bool v81)), []) := w_ref03_Holds _ _ _ h82'
                                  first | (cases h; done) | (simp [h1, h3, c4, c5, c6, c7, c8, c9, h12, h16, h19, c20, c21, h62, h64, c65, c66, c67, h69, c70, c71, h73, c74, c80, h82]; first | rfl | (injection h with h; rw [h]; rfl) | (injection h with h; rw [h]))
                                · first | (cases h; done) | (simp [h1, h3, c4, c5, c6, c7, c8, c9, h12, h16, h19, c20, c21, h62, h64, c65, c66, c67, h69, c70, c71, h73, c74, c80]; first | rfl | (injection h with h; rw [h]; rfl) | (injection h with h; rw [h]))
                            · first | (cases h; done) | (simp [h1, h3, c4, c5, c6, c7, c8, c9, h12, h16, h19, c20, c21, h62, h64, c65, c66, c67, h69, c70, c71]; first | rfl | (injection h with h; rw [h]; rfl) | (injection h with h; rw [h]))
                          · first | (cases h; done) | (simp [h1, h3, c4, c5, c6, c7, c8, c9, h12, h16, h19, c20, c21, h62, h64, c65, c66, c67, h69, c70]; first | rfl | (injection h with h; rw [h]; rfl) | (injection h with h; rw [h]))
                        · simp [h1, h3, c4, c5, c6, c7, c8, c9, h12, h16, h19, c20, c21, h62, h64, c65, c66, c67]
                          rcases iteB_cases h with ⟨c83, h⟩ | ⟨c83, h⟩
                          · simp [h1, h3, c4, c5, c6, c7, c8, c9, h12, h16, h19, c20, c21, h62, h64, c65, c66, c67, c83]
                            rcases iteB_cases h with ⟨c84, h⟩ | ⟨c84, h⟩
                            · simp [h1, h3, c4, c5, c6, c7, c8, c9, h12, h16, h19, c20, c21, h62, h64, c65, c66, c67, c83, c84]
                              obtain ⟨v85, h86', h⟩ := bind_some' h
                              have h86 : ev 16 [T.agg [C.lit (Value.int IntKind.i64 v61.N), sls 1 rowF v61.cs], T.c (sls 1 boolF (v10 ++ v17))] = some (T.c (C.lit (Value.bool v85)), []) := w_ref03_Holds _ _ _ h86'
                              simp [h1, h3, c4, c5, c6, c7, c8, c9, h12, h16, h19, c20, c21, h62, h64, c65, c66, c67, c83, c84, h86]
                              rcases iteB_cases h with ⟨c87, h⟩ | ⟨c87, h⟩
                              · simp [h1, h3, c4, c5, c6, c7, c8, c9, h12, h16, h19, c20, c21, h62, h64, c65, c66, c67, c83, c84, h86, c87]
                                obtain ⟨v88, h89', h⟩ := bind_some' h
                                have h89 : ev 16 [T.agg [C.lit (Value.int IntKind.i64 v63.N), sls 1 rowF v63.cs], T.c (sls 1 boolF v10)] = some (T.c (C.lit (Value.bool v88)), []) := w_ref03_Holds _ _ _ h89'
                                first | (cases h; done) | (simp [h1, h3, c4, c5, c6, c7, c8, c9, h12, h16, h19, c20, c21, h62, h64, c65, c66, c67, c83, c84, h86, c87, h89]; first | rfl | (injection h with h; rw [h]; rfl) | (injection h with h; rw [h]))
                              · first | (cases h; done) | (simp [h1, h3, c4, c5, c6, c7, c8, c9, h12, h16, h19, c20, c21, h62, h64, c65, c66, c67, c83, c84, h86, c87]; first | rfl | (injection h with h; rw [h]; rfl) | (injection h with h; rw [h]))
                            · first | (cases h; done) | (simp [h1, h3, c4, c5, c6, c7, c8, c9, h12, h16, h19, c20, c21, h62, h64, c65, c66, c67, c83, c84]; first | rfl | (injection h with h; rw [h]; rfl) | (injection h with h; rw [h]))
                          · first | (cases h; done) | (simp [h1, h3, c4, c5, c6, c7, c8, c9, h12, h16, h19, c20, c21, h62, h64, c65, c66, c67, c83]; first | rfl | (injection h with h; rw [h]; rfl) | (injection h with h; rw [h]))
                      · simp [h1, h3, c4, c5, c6, c7, c8, c9, h12, h16, h19, c20, c21, h62, h64, c65, c66]
                        cases h
                    · simp [h1, h3, c4, c5, c6, c7, c8, c9, h12, h16, h19, c20, c21, h62, h64, c65]
                      cases h
                  · clear h90 h
                    rintro ⟨x52, x53⟩ y L res h hL hR
                    unfold law19_EncStays_B0 at h
                    simp
                    rcases iteB_cases h with ⟨c54, h⟩ | ⟨c54, h⟩
                    · simp [c54]
                      rcases iteB_cases h with ⟨c55, h⟩ | ⟨c55, h⟩
                      · simp [c54, c55]
                        rcases iteB_cases h with ⟨c56, h⟩ | ⟨c56, h⟩
                        · simp [c54, c55, c56]
                          rcases iteB_cases h with ⟨c57, h⟩ | ⟨c57, h⟩
                          · simp [c54, c55, c56, c57]
                            obtain ⟨v58, h59, h⟩ := bind_some' h
                            simp [c54, c55, c56, c57, h59]
                            cases h
                            exact hL _ _ rfl (by simp [headOf])
                          · simp [c54, c55, c56, c57]
                            cases h
                        · simp [c54, c55, c56]
                          cases h
                          exact hL _ _ rfl (by simp [headOf])
                      · simp [c54, c55]
                        cases h
                        exact hR _ rfl
                    · simp [c54]
                      cases h
                  · simp [headOf]
                · first | (cases h; done) | (simp [h1, h3, c4, c5, c6, c7, c8, c9, h12, h16, h19, c20, c21]; first | rfl | (injection h with h; rw [h]; rfl) | (injection h with h; rw [h]))
              · first | (cases h; done) | (simp [h1, h3, c4, c5, c6, c7, c8, c9, h12, h16, h19, c20]; first | rfl | (injection h with h; rw [h]; rfl) | (injection h with h; rw [h]))
          · simp [h1, h3, c4, c5, c6, c7, c8]
            cases h
      · simp [h1, h3, c4, c5, c6]
        cases h
  · first | (cases h; done) | (simp [h1, h3, c4]; first | rfl | (injection h with h; rw [h]; rfl) | (injection h with h; rw [h]))
end Go.Proofs.Ytdoapnmbopifjaa

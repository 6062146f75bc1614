/- What the interpreter comes to is what the plain functions come to. No condition. -/
import Derived.Test.YtdoapnmbopifjaaW2
set_option linter.unusedSimpArgs false
set_option linter.unusedVariables false
set_option maxRecDepth 20000
set_option maxHeartbeats 4000000
namespace Go.Proofs.Ytdoapnmbopifjaa
open Go.Vabs Go.Vid
theorem w_law19_EncStarts (with_ : EncStartsIn_law19) (h : law19_EncStarts with_ = some true) : ev 5 [T.agg (EncStartsIn_law19.cells with_)] = some (T.c (C.lit (Value.bool true)), []) := by
  refine ev_run' (kp := k5) (us := [4]) fn5 rfl rfl rfl rfl rfl (by kernel_rfl) (by simp) ?_
  unfold law19_EncStarts at h
  simp
  obtain ⟨v0, h1', h⟩ := bind_some' h
  have h1 : ev 11 [] = some (T.c (C.lit (Value.bool v0)), []) := w_law19_shown _ h1'
  simp [h1]
  obtain ⟨v2, h3', h⟩ := bind_some' h
  have h3 : ev 12 [T.agg [C.lit (Value.int IntKind.i64 with_.a.I), sls 2 Latch.cells with_.a.L, sls 2 And.cells with_.a.G, sls 1 intF with_.a.outs, sls 1 intF with_.a.bad, sls 1 intF with_.a.con, sls 3 Name.cells with_.a.names], T.c (C.lit (Value.int IntKind.i64 with_.inv))] = some (T.c (C.lit (Value.bool v2)), []) := w_law19_may _ _ _ h3'
  simp [h1, h3]
  rcases iteB_cases h with ⟨c4, h⟩ | ⟨c4, h⟩
  · simp [h1, h3, c4]
    rcases iteB_cases h with ⟨c5, h⟩ | ⟨c5, h⟩
    · first | (cases h; done) | (simp [h1, h3, c4, c5]; first | rfl | (injection h with h; rw [h]; rfl) | (injection h with h; rw [h]))
    · simp [h1, h3, c4, c5]
      rcases iteB_cases h with ⟨c6, h⟩ | ⟨c6, h⟩
      · first | (cases h; done) | (simp [h1, h3, c4, c5, c6]; first | rfl | (injection h with h; rw [h]; rfl) | (injection h with h; rw [h]))
      · simp [h1, h3, c4, c5, c6]
        obtain ⟨⟨v7, v8⟩, h9', h⟩ := bind_some' h
        have h9 : ev 22 [T.agg [C.lit (Value.int IntKind.i64 with_.a.I), sls 2 Latch.cells with_.a.L, sls 2 And.cells with_.a.G, sls 1 intF with_.a.outs, sls 1 intF with_.a.bad, sls 1 intF with_.a.con, sls 3 Name.cells with_.a.names], T.c (sls 1 boolF with_.free)] = some (T.tup [T.c (C.ref 0 0 (lenN v7)), T.c (C.lit (Value.int IntKind.i64 v8))], [rowO 4 1 boolF v7]) := w_ref08_Start _ _ _ h9'
        simp [h1, h3, c4, c5, c6, h9]
        obtain ⟨⟨v10, v11⟩, h12', h⟩ := bind_some' h
        have h12 : ev 14 [T.agg [C.lit (Value.int IntKind.i64 with_.a.I), sls 2 Latch.cells with_.a.L, sls 2 And.cells with_.a.G, sls 1 intF with_.a.outs, sls 1 intF with_.a.bad, sls 1 intF with_.a.con, sls 3 Name.cells with_.a.names], T.c (sls 1 boolF v7), T.c (sls 1 boolF with_.in')] = some (T.tup [T.c (C.ref 0 0 (lenN v10)), T.c (C.lit (Value.int IntKind.i64 v11))], [rowO 4 1 boolF v10]) := w_ref08_Values _ _ _ _ h12'
        simp [h1, h3, c4, c5, c6, h9, h12]
        rcases iteB_cases h with ⟨c13, h⟩ | ⟨c13, h⟩
        · simp [h1, h3, c4, c5, c6, h9, h12, c13]
          rcases iteB_cases h with ⟨c14, h⟩ | ⟨c14, h⟩
          · simp [h1, h3, c4, c5, c6, h9, h12, c13, c14]
            obtain ⟨v15, h16', h⟩ := bind_some' h
            have h16 : ev 24 [T.agg [C.lit (Value.int IntKind.i64 with_.a.I), sls 2 Latch.cells with_.a.L, sls 2 And.cells with_.a.G, sls 1 intF with_.a.outs, sls 1 intF with_.a.bad, sls 1 intF with_.a.con, sls 3 Name.cells with_.a.names], T.c (C.lit (Value.int IntKind.i64 with_.inv))] = some (T.agg [C.lit (Value.int IntKind.i64 v15.N), C.ref 0 0 (lenN v15.cs)], [rowO 24 1 rowF v15.cs]) := w_enc_Starts _ _ _ h16'
            simp [h1, h3, c4, c5, c6, h9, h12, c13, c14, h16]
            rcases iteB_cases h with ⟨c17, h⟩ | ⟨c17, h⟩
            · simp [h1, h3, c4, c5, c6, h9, h12, c13, c14, h16, c17]
              rcases iteB_cases h with ⟨c18, h⟩ | ⟨c18, h⟩
              · simp [h1, h3, c4, c5, c6, h9, h12, c13, c14, h16, c17, c18]
                obtain ⟨v19, h20', h⟩ := bind_some' h
                have h20 : ev 16 [T.agg [C.lit (Value.int IntKind.i64 v15.N), sls 1 rowF v15.cs], T.c (sls 1 boolF v10)] = some (T.c (C.lit (Value.bool v19)), []) := w_ref03_Holds _ _ _ h20'
                simp [h1, h3, c4, c5, c6, h9, h12, c13, c14, h16, c17, c18, h20]
                obtain ⟨v21, h22', h⟩ := bind_some' h
                have h22 : ev 20 [T.c (sls 1 boolF v10), T.c (C.lit (Value.int IntKind.i64 with_.inv))] = some (T.c (C.lit (Value.bool v21)), []) := w_ref08_Lit _ _ _ h22'
                first | (cases h; done) | (simp [h1, h3, c4, c5, c6, h9, h12, c13, c14, h16, c17, c18, h20, h22]; first | rfl | (injection h with h; rw [h]; rfl) | (injection h with h; rw [h]))
              · first | (cases h; done) | (simp [h1, h3, c4, c5, c6, h9, h12, c13, c14, h16, c17, c18]; first | rfl | (injection h with h; rw [h]; rfl) | (injection h with h; rw [h]))
            · first | (cases h; done) | (simp [h1, h3, c4, c5, c6, h9, h12, c13, c14, h16, c17]; first | rfl | (injection h with h; rw [h]; rfl) | (injection h with h; rw [h]))
          · first | (cases h; done) | (simp [h1, h3, c4, c5, c6, h9, h12, c13, c14]; first | rfl | (injection h with h; rw [h]; rfl) | (injection h with h; rw [h]))
        · first | (cases h; done) | (simp [h1, h3, c4, c5, c6, h9, h12, c13]; first | rfl | (injection h with h; rw [h]; rfl) | (injection h with h; rw [h]))
  · first | (cases h; done) | (simp [h1, h3, c4]; first | rfl | (injection h with h; rw [h]; rfl) | (injection h with h; rw [h]))
theorem w_ref19_Vars (a : Aig) (frames : Int) (r : Int) (h : ref19_Vars a frames = some r) : ev 26 [T.agg (Aig.cells a), T.c (C.lit (Value.int IntKind.i64 frames))] = some (T.c (C.lit (Value.int IntKind.i64 r)), []) := by
  refine ev_run' (kp := k26) (us := [3]) fn26 rfl rfl rfl rfl rfl (by kernel_rfl) (by simp) ?_
  unfold ref19_Vars at h
  simp
  obtain ⟨v0, h1', h⟩ := bind_some' h
  have h1 : ev 13 [T.agg a.cells] = some (T.c (C.lit (Value.int IntKind.i64 v0)), []) := w_ref06_Vars _ _ h1'
  simp [h1]
  cases h
  rfl
theorem w_law19_EncLits (a : Aig) (l : Int) (m : Int) (h : law19_EncLits a l m = some true) : ev 6 [T.agg (Aig.cells a), T.c (C.lit (Value.int IntKind.i64 l)), T.c (C.lit (Value.int IntKind.i64 m))] = some (T.c (C.lit (Value.bool true)), []) := by
  refine ev_run' (kp := k6) (us := [4]) fn6 rfl rfl rfl rfl rfl (by kernel_rfl) (by simp) ?_
  unfold law19_EncLits at h
  simp
  obtain ⟨v0, h1', h⟩ := bind_some' h
  have h1 : ev 11 [] = some (T.c (C.lit (Value.bool v0)), []) := w_law19_shown _ h1'
  simp [h1]
  obtain ⟨v2, h3', h⟩ := bind_some' h
  have h3 : ev 12 [T.agg a.cells, T.c (C.lit (Value.int IntKind.i64 l))] = some (T.c (C.lit (Value.bool v2)), []) := w_law19_may _ _ _ h3'
  simp [h1, h3]
  rcases iteB_cases h with ⟨c4, h⟩ | ⟨c4, h⟩
  · simp [h1, h3, c4]
    obtain ⟨v5, h6', h⟩ := bind_some' h
    have h6 : ev 12 [T.agg a.cells, T.c (C.lit (Value.int IntKind.i64 m))] = some (T.c (C.lit (Value.bool v5)), []) := w_law19_may _ _ _ h6'
    simp [h1, h3, c4, h6]
    rcases iteB_cases h with ⟨c7, h⟩ | ⟨c7, h⟩
    · simp [h1, h3, c4, h6, c7]
      obtain ⟨v8, h9', h⟩ := bind_some' h
      have h9 : ev 19 [T.agg a.cells, T.c (C.lit (Value.int IntKind.i64 0)), T.c (C.lit (Value.int IntKind.i64 l))] = some (T.c (C.lit (Value.int IntKind.i64 v8)), []) := w_enc_Lit _ _ _ _ h9'
      simp [h1, h3, c4, h6, c7, h9]
      obtain ⟨v10, h11', h⟩ := bind_some' h
      have h11 : ev 19 [T.agg a.cells, T.c (C.lit (Value.int IntKind.i64 1)), T.c (C.lit (Value.int IntKind.i64 m))] = some (T.c (C.lit (Value.int IntKind.i64 v10)), []) := w_enc_Lit _ _ _ _ h11'
      simp [h1, h3, c4, h6, c7, h9, h11]
      obtain ⟨v12, h13', h⟩ := bind_some' h
      have h13 : ev 25 [T.agg a.cells, T.c (C.lit (Value.int IntKind.i64 1))] = some (T.c (C.lit (Value.int IntKind.i64 v12)), []) := w_enc_Vars _ _ _ h13'
      simp [h1, h3, c4, h6, c7, h9, h11, h13]
      rcases iteB_cases h with ⟨c14, h⟩ | ⟨c14, h⟩
      · simp [h1, h3, c4, h6, c7, h9, h11, h13, c14]
        rcases iteB_cases h with ⟨c15, h⟩ | ⟨c15, h⟩
        · first | (cases h; done) | (simp [h1, h3, c4, h6, c7, h9, h11, h13, c14, c15]; first | rfl | (injection h with h; rw [h]; rfl) | (injection h with h; rw [h]))
        · simp [h1, h3, c4, h6, c7, h9, h11, h13, c14, c15]
          rcases iteB_cases h with ⟨c16, h⟩ | ⟨c16, h⟩
          · first | (cases h; done) | (simp [h1, h3, c4, h6, c7, h9, h11, h13, c14, c15, c16]; first | rfl | (injection h with h; rw [h]; rfl) | (injection h with h; rw [h]))
          · simp [h1, h3, c4, h6, c7, h9, h11, h13, c14, c15, c16]
            obtain ⟨v17, h18', h⟩ := bind_some' h
            have h18 : ev 19 [T.agg a.cells, T.c (C.lit (Value.int IntKind.i64 0)), T.c (C.lit (Value.int IntKind.i64 (bxor IntKind.i64 l 1)))] = some (T.c (C.lit (Value.int IntKind.i64 v17)), []) := w_enc_Lit _ _ _ _ h18'
            simp [h1, h3, c4, h6, c7, h9, h11, h13, c14, c15, c16, h18]
            rcases iteB_cases h with ⟨c19, h⟩ | ⟨c19, h⟩
            · simp [h1, h3, c4, h6, c7, h9, h11, h13, c14, c15, c16, h18, c19]
              rcases iteB_cases h with ⟨c20, h⟩ | ⟨c20, h⟩
              · simp [h1, h3, c4, h6, c7, h9, h11, h13, c14, c15, c16, h18, c19, c20]
                rcases iteB_cases h with ⟨c21, h⟩ | ⟨c21, h⟩
                · simp [h1, h3, c4, h6, c7, h9, h11, h13, c14, c15, c16, h18, c19, c20, c21]
                  rcases iteB_cases h with ⟨c22, h⟩ | ⟨c22, h⟩
                  · simp [h1, h3, c4, h6, c7, h9, h11, h13, c14, c15, c16, h18, c19, c20, c21, c22]
                    obtain ⟨v23, h24', h⟩ := bind_some' h
                    have h24 : ev 25 [T.agg a.cells, T.c (C.lit (Value.int IntKind.i64 2))] = some (T.c (C.lit (Value.int IntKind.i64 v23)), []) := w_enc_Vars _ _ _ h24'
                    simp [h1, h3, c4, h6, c7, h9, h11, h13, c14, c15, c16, h18, c19, c20, c21, c22, h24]
                    rcases iteB_cases h with ⟨c25, h⟩ | ⟨c25, h⟩
                    · simp [h1, h3, c4, h6, c7, h9, h11, h13, c14, c15, c16, h18, c19, c20, c21, c22, h24, c25]
                      obtain ⟨v26, h27', h⟩ := bind_some' h
                      have h27 : ev 19 [T.agg a.cells, T.c (C.lit (Value.int IntKind.i64 0)), T.c (C.lit (Value.int IntKind.i64 m))] = some (T.c (C.lit (Value.int IntKind.i64 v26)), []) := w_enc_Lit _ _ _ _ h27'
                      simp [h1, h3, c4, h6, c7, h9, h11, h13, c14, c15, c16, h18, c19, c20, c21, c22, h24, c25, h27]
                      rcases iteB_cases h with ⟨c28, h⟩ | ⟨c28, h⟩
                      · simp [h1, h3, c4, h6, c7, h9, h11, h13, c14, c15, c16, h18, c19, c20, c21, c22, h24, c25, h27, c28]
                        obtain ⟨v29, h30', h⟩ := bind_some' h
                        have h30 : ev 13 [T.agg a.cells] = some (T.c (C.lit (Value.int IntKind.i64 v29)), []) := w_ref06_Vars _ _ h30'
                        simp [h1, h3, c4, h6, c7, h9, h11, h13, c14, c15, c16, h18, c19, c20, c21, c22, h24, c25, h27, c28, h30]
                        rcases iteB_cases h with ⟨c31, h⟩ | ⟨c31, h⟩
                        · simp [h1, h3, c4, h6, c7, h9, h11, h13, c14, c15, c16, h18, c19, c20, c21, c22, h24, c25, h27, c28, h30, c31]
                          obtain ⟨v32, h33', h⟩ := bind_some' h
                          have h33 : ev 26 [T.agg a.cells, T.c (C.lit (Value.int IntKind.i64 1))] = some (T.c (C.lit (Value.int IntKind.i64 v32)), []) := w_ref19_Vars _ _ _ h33'
                          first | (cases h; done) | (simp [h1, h3, c4, h6, c7, h9, h11, h13, c14, c15, c16, h18, c19, c20, c21, c22, h24, c25, h27, c28, h30, c31, h33]; first | rfl | (injection h with h; rw [h]; rfl) | (injection h with h; rw [h]))
                        · first | (cases h; done) | (simp [h1, h3, c4, h6, c7, h9, h11, h13, c14, c15, c16, h18, c19, c20, c21, c22, h24, c25, h27, c28, h30, c31]; first | rfl | (injection h with h; rw [h]; rfl) | (injection h with h; rw [h]))
                      · first | (cases h; done) | (simp [h1, h3, c4, h6, c7, h9, h11, h13, c14, c15, c16, h18, c19, c20, c21, c22, h24, c25, h27, c28]; first | rfl | (injection h with h; rw [h]; rfl) | (injection h with h; rw [h]))
                    · first | (cases h; done) | (simp [h1, h3, c4, h6, c7, h9, h11, h13, c14, c15, c16, h18, c19, c20, c21, c22, h24, c25]; first | rfl | (injection h with h; rw [h]; rfl) | (injection h with h; rw [h]))
                  · first | (cases h; done) | (simp [h1, h3, c4, h6, c7, h9, h11, h13, c14, c15, c16, h18, c19, c20, c21, c22]; first | rfl | (injection h with h; rw [h]; rfl) | (injection h with h; rw [h]))
                · first | (cases h; done) | (simp [h1, h3, c4, h6, c7, h9, h11, h13, c14, c15, c16, h18, c19, c20, c21]; first | rfl | (injection h with h; rw [h]; rfl) | (injection h with h; rw [h]))
              · first | (cases h; done) | (simp [h1, h3, c4, h6, c7, h9, h11, h13, c14, c15, c16, h18, c19, c20]; first | rfl | (injection h with h; rw [h]; rfl) | (injection h with h; rw [h]))
            · first | (cases h; done) | (simp [h1, h3, c4, h6, c7, h9, h11, h13, c14, c15, c16, h18, c19]; first | rfl | (injection h with h; rw [h]; rfl) | (injection h with h; rw [h]))
      · first | (cases h; done) | (simp [h1, h3, c4, h6, c7, h9, h11, h13, c14]; first | rfl | (injection h with h; rw [h]; rfl) | (injection h with h; rw [h]))
    · first | (cases h; done) | (simp [h1, h3, c4, h6, c7]; first | rfl | (injection h with h; rw [h]; rfl) | (injection h with h; rw [h]))
  · first | (cases h; done) | (simp [h1, h3, c4]; first | rfl | (injection h with h; rw [h]; rfl) | (injection h with h; rw [h]))
theorem w_ref19_Lit (a : Aig) (k : Int) (l : Int) (r : Int) (h : ref19_Lit a k l = some r) : ev 27 [T.agg (Aig.cells a), T.c (C.lit (Value.int IntKind.i64 k)), T.c (C.lit (Value.int IntKind.i64 l))] = some (T.c (C.lit (Value.int IntKind.i64 r)), []) := by
  refine ev_run' (kp := k27) (us := [3]) fn27 rfl rfl rfl rfl rfl (by kernel_rfl) (by simp) ?_
  unfold ref19_Lit at h
  simp
  obtain ⟨v0, h1', h⟩ := bind_some' h
  have h1 : ev 13 [T.agg a.cells] = some (T.c (C.lit (Value.int IntKind.i64 v0)), []) := w_ref06_Vars _ _ h1'
  simp [h1]
  rcases iteB_cases h with ⟨c2, h⟩ | ⟨c2, h⟩
  · simp [h1, c2]
    cases h
    rfl
  · simp [h1, c2]
    cases h
    rfl
theorem w_ref19_Frame (a : Aig) (k : Int) (r : List (List Int)) (h : ref19_Frame a k = some r) : ev 29 [T.agg (Aig.cells a), T.c (C.lit (Value.int IntKind.i64 k))] = some (T.c (C.ref 0 0 (lenN r)), [rowO 24 1 rowF r]) := by
  refine ev_run' (kp := k29) (us := [36]) fn29 rfl rfl rfl rfl rfl (by kernel_rfl) (by simp) ?_
  unfold ref19_Frame at h
  simp
  obtain ⟨v0, h1', h⟩ := bind_some' h
  have h1 : ev 27 [T.agg a.cells, T.c (C.lit (Value.int IntKind.i64 k)), T.c (C.lit (Value.int IntKind.i64 0))] = some (T.c (C.lit (Value.int IntKind.i64 v0)), []) := w_ref19_Lit _ _ _ _ h1'
  simp [h1]
  obtain ⟨y40, h41, h⟩ := bind_some' h
  rw [evLoop_loopF (ι := ((List (List Int))) × Int) (ρ := ((List (List Int)))) (fun p => match p with | (x28, x29) => mk 72 [(1, T.c (C.lit (Value.int IntKind.i64 k))), (2, T.c (C.ptr 2 0 0)), (5, T.c (C.ref 15 0 (lenN x28))), (6, T.c (C.lit (Value.int IntKind.i64 x29)))] [(2, { box := true, free := true, elem := 27, sz := 7, es := [a.cells] }), (15, rowO 24 1 rowF x28)] []) (fun r => match r with | y40 => (Ex.exit 0, mk 72 [(5, T.c (C.ref 15 0 (lenN y40)))] [(15, rowO 24 1 rowF y40)] [])) (ref19_Frame_B0 a k) h41 ?_ _ ?_]
  · simp [h1]
    cases h
    rfl
  · clear h41 h
    rintro ⟨x28, x29⟩ y L res h hL hR
    unfold ref19_Frame_B0 at h
    simp
    rcases iteB_cases h with ⟨c30, h⟩ | ⟨c30, h⟩
    · simp [c30]
      obtain ⟨v31, h32', h⟩ := bind_some' h
      have h32 : ev 27 [T.agg a.cells, T.c (C.lit (Value.int IntKind.i64 k)), T.c (C.lit (Value.int IntKind.i64 (imul IntKind.i64 2 (iadd IntKind.i64 (iadd IntKind.i64 (iadd IntKind.i64 a.I (lenI a.L)) 1) x29))))] = some (T.c (C.lit (Value.int IntKind.i64 v31)), []) := w_ref19_Lit _ _ _ _ h32'
      simp [c30, h32]
      obtain ⟨v33, h34, h⟩ := bind_some' h
      simp [c30, h32, h34]
      obtain ⟨v35, h36', h⟩ := bind_some' h
      have h36 : ev 27 [T.agg a.cells, T.c (C.lit (Value.int IntKind.i64 k)), T.c (C.lit (Value.int IntKind.i64 v33.a))] = some (T.c (C.lit (Value.int IntKind.i64 v35)), []) := w_ref19_Lit _ _ _ _ h36'
      simp [c30, h32, h34, h36]
      obtain ⟨v37, h38', h⟩ := bind_some' h
      have h38 : ev 27 [T.agg a.cells, T.c (C.lit (Value.int IntKind.i64 k)), T.c (C.lit (Value.int IntKind.i64 v33.b))] = some (T.c (C.lit (Value.int IntKind.i64 v37)), []) := w_ref19_Lit _ _ _ _ h38'
      simp [c30, h32, h34, h36, h38]
      rcases iteB_cases h with ⟨c39, h⟩ | ⟨c39, h⟩
      · simp [c30, h32, h34, h36, h38, c39]
        cases h
        exact hL _ _ rfl (by simp [headOf])
      · simp [c30, h32, h34, h36, h38, c39]
        cases h
    · simp [c30]
      cases h
      exact hR _ rfl
  · simp [headOf]
theorem w_enc_Link (a : Aig) (r : List (List Int)) (h : enc_Link a = some r) : ev 30 [T.agg (Aig.cells a)] = some (T.c (C.ref 0 0 (lenN r)), [rowO 24 1 rowF r]) := by
  refine ev_run' (kp := k30) (us := [36]) fn30 rfl rfl rfl rfl rfl (by kernel_rfl) (by simp) ?_
  unfold enc_Link at h
  simp
  obtain ⟨y33, h34, h⟩ := bind_some' h
  rw [evLoop_loopF (ι := ((List (List Int))) × Int) (ρ := ((List (List Int)))) (fun p => match p with | (x23, x24) => mk 41 [(1, T.c (C.ptr 1 0 0)), (3, T.c (C.ref 3 0 (lenN x23))), (9, T.c (sls 2 Latch.cells a.L)), (10, T.c (C.lit (Value.int IntKind.i64 (lenI a.L)))), (11, T.c (C.lit (Value.int IntKind.i64 x24)))] [(1, { box := true, free := true, elem := 27, sz := 7, es := [a.cells] }), (3, rowO 24 1 rowF x23)] []) (fun r => match r with | y33 => (Ex.exit 0, mk 41 [(3, T.c (C.ref 3 0 (lenN y33)))] [(3, rowO 24 1 rowF y33)] [])) (enc_Link_B0 a) h34 ?_ _ ?_]
  · simp
    cases h
    rfl
  · clear h34 h
    rintro ⟨x23, x24⟩ y L res h hL hR
    unfold enc_Link_B0 at h
    simp
    rcases iteB_cases h with ⟨c25, h⟩ | ⟨c25, h⟩
    · simp [c25]
      obtain ⟨v26, h27, h⟩ := bind_some' h
      simp [c25, h27]
      obtain ⟨v28, h29', h⟩ := bind_some' h
      have h29 : ev 19 [T.agg a.cells, T.c (C.lit (Value.int IntKind.i64 1)), T.c (C.lit (Value.int IntKind.i64 (imul IntKind.i64 2 (iadd IntKind.i64 (iadd IntKind.i64 a.I 1) x24))))] = some (T.c (C.lit (Value.int IntKind.i64 v28)), []) := w_enc_Lit _ _ _ _ h29'
      simp [c25, h27, h29]
      obtain ⟨v30, h31', h⟩ := bind_some' h
      have h31 : ev 19 [T.agg a.cells, T.c (C.lit (Value.int IntKind.i64 0)), T.c (C.lit (Value.int IntKind.i64 v26.next))] = some (T.c (C.lit (Value.int IntKind.i64 v30)), []) := w_enc_Lit _ _ _ _ h31'
      simp [c25, h27, h29, h31]
      rcases iteB_cases h with ⟨c32, h⟩ | ⟨c32, h⟩
      · simp [c25, h27, h29, h31, c32]
        cases h
        exact hL _ _ rfl (by simp [headOf])
      · simp [c25, h27, h29, h31, c32]
        cases h
    · simp [c25]
      cases h
      exact hR _ rfl
  · simp [headOf]
theorem w_ref19_Link (a : Aig) (r : List (List Int)) (h : ref19_Link a = some r) : ev 31 [T.agg (Aig.cells a)] = some (T.c (C.ref 0 0 (lenN r)), [rowO 24 1 rowF r]) := by
  refine ev_run' (kp := k31) (us := [36]) fn31 rfl rfl rfl rfl rfl (by kernel_rfl) (by simp) ?_
  unfold ref19_Link at h
  simp
  obtain ⟨y31, h32, h⟩ := bind_some' h
  rw [evLoop_loopF (ι := ((List (List Int))) × Int) (ρ := ((List (List Int)))) (fun p => match p with | (x21, x22) => mk 42 [(1, T.c (C.ptr 1 0 0)), (3, T.c (C.ref 3 0 (lenN x21))), (4, T.c (C.lit (Value.int IntKind.i64 x22)))] [(1, { box := true, free := true, elem := 27, sz := 7, es := [a.cells] }), (3, rowO 24 1 rowF x21)] []) (fun r => match r with | y31 => (Ex.exit 0, mk 42 [(3, T.c (C.ref 3 0 (lenN y31)))] [(3, rowO 24 1 rowF y31)] [])) (ref19_Link_B0 a) h32 ?_ _ ?_]
  · simp
    cases h
    rfl
  · clear h32 h
    rintro ⟨x21, x22⟩ y L res h hL hR
    unfold ref19_Link_B0 at h
    simp
    rcases iteB_cases h with ⟨c23, h⟩ | ⟨c23, h⟩
    · simp [c23]
      obtain ⟨v24, h25', h⟩ := bind_some' h
      have h25 : ev 27 [T.agg a.cells, T.c (C.lit (Value.int IntKind.i64 1)), T.c (C.lit (Value.int IntKind.i64 (imul IntKind.i64 2 (iadd IntKind.i64 (iadd IntKind.i64 a.I 1) x22))))] = some (T.c (C.lit (Value.int IntKind.i64 v24)), []) := w_ref19_Lit _ _ _ _ h25'
      simp [c23, h25]
      obtain ⟨v26, h27, h⟩ := bind_some' h
      simp [c23, h25, h27]
      obtain ⟨v28, h29', h⟩ := bind_some' h
      have h29 : ev 27 [T.agg a.cells, T.c (C.lit (Value.int IntKind.i64 0)), T.c (C.lit (Value.int IntKind.i64 v26.next))] = some (T.c (C.lit (Value.int IntKind.i64 v28)), []) := w_ref19_Lit _ _ _ _ h29'
      simp [c23, h25, h27, h29]
      rcases iteB_cases h with ⟨c30, h⟩ | ⟨c30, h⟩
      · simp [c23, h25, h27, h29, c30]
        cases h
        exact hL _ _ rfl (by simp [headOf])
      · simp [c23, h25, h27, h29, c30]
        cases h
    · simp [c23]
      cases h
      exact hR _ rfl
  · simp [headOf]
theorem w_ref19_First (a : Aig) (r : List (List Int)) (h : ref19_First a = some r) : ev 32 [T.agg (Aig.cells a)] = some (T.c (C.ref 0 0 (lenN r)), [rowO 24 1 rowF r]) := by
  refine ev_run' (kp := k32) (us := [36]) fn32 rfl rfl rfl rfl rfl (by kernel_rfl) (by simp) ?_
  unfold ref19_First at h
  simp
  obtain ⟨y34, h35, h⟩ := bind_some' h
  rw [evLoop_loopF (ι := ((List (List Int))) × Int) (ρ := ((List (List Int)))) (fun p => match p with | (x23, x24) => mk 47 [(1, T.c (C.ptr 1 0 0)), (3, T.c (C.ref 3 0 (lenN x23))), (4, T.c (C.lit (Value.int IntKind.i64 x24)))] [(1, { box := true, free := true, elem := 27, sz := 7, es := [a.cells] }), (3, rowO 24 1 rowF x23)] []) (fun r => match r with | y34 => (Ex.exit 0, mk 47 [(3, T.c (C.ref 3 0 (lenN y34)))] [(3, rowO 24 1 rowF y34)] [])) (ref19_First_B0 a) h35 ?_ _ ?_]
  · simp
    cases h
    rfl
  · clear h35 h
    rintro ⟨x23, x24⟩ y L res h hL hR
    unfold ref19_First_B0 at h
    simp
    rcases iteB_cases h with ⟨c25, h⟩ | ⟨c25, h⟩
    · simp [c25]
      obtain ⟨v26, h27', h⟩ := bind_some' h
      have h27 : ev 27 [T.agg a.cells, T.c (C.lit (Value.int IntKind.i64 0)), T.c (C.lit (Value.int IntKind.i64 (imul IntKind.i64 2 (iadd IntKind.i64 (iadd IntKind.i64 a.I 1) x24))))] = some (T.c (C.lit (Value.int IntKind.i64 v26)), []) := w_ref19_Lit _ _ _ _ h27'
      simp [c25, h27]
      obtain ⟨v28, h29, h⟩ := bind_some' h
      simp [c25, h27, h29]
      rcases iteB_cases h with ⟨c30, h⟩ | ⟨c30, h⟩
      · simp [c25, h27, h29, c30]
        rcases iteB_cases h with ⟨c31, h⟩ | ⟨c31, h⟩
        · simp [c25, h27, h29, c30, c31]
          cases h
          exact hL _ _ rfl (by simp [headOf])
        · simp [c25, h27, h29, c30, c31]
          cases h
      · simp [c25, h27, h29, c30]
        rcases iteB_cases h with ⟨c32, h⟩ | ⟨c32, h⟩
        · simp [c25, h27, h29, c30, c32]
          rcases iteB_cases h with ⟨c33, h⟩ | ⟨c33, h⟩
          · simp [c25, h27, h29, c30, c32, c33]
            cases h
            exact hL _ _ rfl (by simp [headOf])
          · simp [c25, h27, h29, c30, c32, c33]
            cases h
        · simp [c25, h27, h29, c30, c32]
          cases h
          exact hL _ _ rfl (by simp [headOf])
    · simp [c25]
      cases h
      exact hR _ rfl
  · simp [headOf]
theorem w_law19_EncTells (a : Aig) (l : Int) (h : law19_EncTells a l = some true) : ev 7 [T.agg (Aig.cells a), T.c (C.lit (Value.int IntKind.i64 l))] = some (T.c (C.lit (Value.bool true)), []) := by
  refine ev_run' (kp := k7) (us := [4]) fn7 rfl rfl rfl rfl rfl (by kernel_rfl) (by simp) ?_
  unfold law19_EncTells at h
  simp
  obtain ⟨v0, h1', h⟩ := bind_some' h
  have h1 : ev 11 [] = some (T.c (C.lit (Value.bool v0)), []) := w_law19_shown _ h1'
  simp [h1]
  obtain ⟨v2, h3', h⟩ := bind_some' h
  have h3 : ev 12 [T.agg a.cells, T.c (C.lit (Value.int IntKind.i64 l))] = some (T.c (C.lit (Value.bool v2)), []) := w_law19_may _ _ _ h3'
  simp [h1, h3]
  rcases iteB_cases h with ⟨c4, h⟩ | ⟨c4, h⟩
  · simp [h1, h3, c4]
    obtain ⟨w80, h79, h⟩ := bind_some' h
    rw [evLoop_loopF (ι := Int) (ρ := Unit ⊕ Unit) (fun p => match p with | x46 => mk 60 [(1, T.c (C.lit (Value.int IntKind.i64 l))), (2, T.c (C.ptr 2 0 0)), (5, T.c (C.lit (Value.bool v0))), (6, T.c (C.lit (Value.int IntKind.i64 x46)))] [(2, { box := true, free := true, elem := 27, sz := 7, es := [a.cells] })] []) (fun r => match r with | .inl () => (Ex.ret, mk 60 [(4, T.c (C.lit (Value.bool false)))] [] []) | .inr () => (Ex.exit 0, mk 60 [(2, T.c (C.ptr 2 0 0)), (5, T.c (C.lit (Value.bool v0)))] [(2, { box := true, free := true, elem := 27, sz := 7, es := [a.cells] })] [])) (law19_EncTells_B0 a l) h79 ?_ _ ?_]
    · rcases w80 with ⟨⟩ | ⟨⟩
      · first | (cases h; done) | (simp [h1, h3, c4]; first | rfl | (injection h with h; rw [h]; rfl) | (injection h with h; rw [h]))
      · simp [h1, h3, c4]
        rcases iteB_cases h with ⟨c65, h⟩ | ⟨c65, h⟩
        · simp [h1, h3, c4, c65]
          obtain ⟨v66, h67', h⟩ := bind_some' h
          have h67 : ev 30 [T.agg a.cells] = some (T.c (C.ref 0 0 (lenN v66)), [rowO 24 1 rowF v66]) := w_enc_Link _ _ h67'
          simp [h1, h3, c4, c65, h67]
          obtain ⟨v68, h69', h⟩ := bind_some' h
          have h69 : ev 31 [T.agg a.cells] = some (T.c (C.ref 0 0 (lenN v68)), [rowO 24 1 rowF v68]) := w_ref19_Link _ _ h69'
          simp [h1, h3, c4, c65, h67, h69]
          obtain ⟨v70, h71', h⟩ := bind_some' h
          have h71 : ev 28 [T.c (sls 1 rowF v66), T.c (sls 1 rowF v68)] = some (T.c (C.lit (Value.bool v70)), []) := w_ref19_Clauses _ _ _ h71'
          simp [h1, h3, c4, c65, h67, h69, h71]
          rcases iteB_cases h with ⟨c72, h⟩ | ⟨c72, h⟩
          · simp [h1, h3, c4, c65, h67, h69, h71, c72]
            obtain ⟨v73, h74', h⟩ := bind_some' h
            have h74 : ev 23 [T.agg a.cells] = some (T.c (C.ref 0 0 (lenN v73)), [rowO 24 1 rowF v73]) := w_enc_First _ _ h74'
            simp [h1, h3, c4, c65, h67, h69, h71, c72, h74]
            obtain ⟨v75, h76', h⟩ := bind_some' h
            have h76 : ev 32 [T.agg a.cells] = some (T.c (C.ref 0 0 (lenN v75)), [rowO 24 1 rowF v75]) := w_ref19_First _ _ h76'
            simp [h1, h3, c4, c65, h67, h69, h71, c72, h74, h76]
            obtain ⟨v77, h78', h⟩ := bind_some' h
            have h78 : ev 28 [T.c (sls 1 rowF v73), T.c (sls 1 rowF v75)] = some (T.c (C.lit (Value.bool v77)), []) := w_ref19_Clauses _ _ _ h78'
            first | (cases h; done) | (simp [h1, h3, c4, c65, h67, h69, h71, c72, h74, h76, h78]; first | rfl | (injection h with h; rw [h]; rfl) | (injection h with h; rw [h]))
          · first | (cases h; done) | (simp [h1, h3, c4, c65, h67, h69, h71, c72]; first | rfl | (injection h with h; rw [h]; rfl) | (injection h with h; rw [h]))
        · first | (cases h; done) | (simp [h1, h3, c4, c65]; first | rfl | (injection h with h; rw [h]; rfl) | (injection h with h; rw [h]))
    · clear h79 h
      rintro x46 y L res h hL hR
      unfold law19_EncTells_B0 at h
      simp
      rcases iteB_cases h with ⟨c47, h⟩ | ⟨c47, h⟩
      · simp [c47]
        obtain ⟨v48, h49', h⟩ := bind_some' h
        have h49 : ev 19 [T.agg a.cells, T.c (C.lit (Value.int IntKind.i64 x46)), T.c (C.lit (Value.int IntKind.i64 l))] = some (T.c (C.lit (Value.int IntKind.i64 v48)), []) := w_enc_Lit _ _ _ _ h49'
        simp [c47, h49]
        obtain ⟨v50, h51', h⟩ := bind_some' h
        have h51 : ev 27 [T.agg a.cells, T.c (C.lit (Value.int IntKind.i64 x46)), T.c (C.lit (Value.int IntKind.i64 l))] = some (T.c (C.lit (Value.int IntKind.i64 v50)), []) := w_ref19_Lit _ _ _ _ h51'
        simp [c47, h49, h51]
        rcases iteB_cases h with ⟨c52, h⟩ | ⟨c52, h⟩
        · simp [c47, h49, h51, c52]
          obtain ⟨v53, h54', h⟩ := bind_some' h
          have h54 : ev 25 [T.agg a.cells, T.c (C.lit (Value.int IntKind.i64 x46))] = some (T.c (C.lit (Value.int IntKind.i64 v53)), []) := w_enc_Vars _ _ _ h54'
          simp [c47, h49, h51, c52, h54]
          obtain ⟨v55, h56', h⟩ := bind_some' h
          have h56 : ev 26 [T.agg a.cells, T.c (C.lit (Value.int IntKind.i64 x46))] = some (T.c (C.lit (Value.int IntKind.i64 v55)), []) := w_ref19_Vars _ _ _ h56'
          simp [c47, h49, h51, c52, h54, h56]
          rcases iteB_cases h with ⟨c57, h⟩ | ⟨c57, h⟩
          · simp [c47, h49, h51, c52, h54, h56, c57]
            obtain ⟨v58, h59', h⟩ := bind_some' h
            have h59 : ev 17 [T.agg a.cells, T.c (C.lit (Value.int IntKind.i64 x46))] = some (T.c (C.ref 0 0 (lenN v58)), [rowO 24 1 rowF v58]) := w_enc_Frame _ _ _ h59'
            simp [c47, h49, h51, c52, h54, h56, c57, h59]
            obtain ⟨v60, h61', h⟩ := bind_some' h
            have h61 : ev 29 [T.agg a.cells, T.c (C.lit (Value.int IntKind.i64 x46))] = some (T.c (C.ref 0 0 (lenN v60)), [rowO 24 1 rowF v60]) := w_ref19_Frame _ _ _ h61'
            simp [c47, h49, h51, c52, h54, h56, c57, h59, h61]
            obtain ⟨v62, h63', h⟩ := bind_some' h
            have h63 : ev 28 [T.c (sls 1 rowF v58), T.c (sls 1 rowF v60)] = some (T.c (C.lit (Value.bool v62)), []) := w_ref19_Clauses _ _ _ h63'
            simp [c47, h49, h51, c52, h54, h56, c57, h59, h61, h63]
            rcases iteB_cases h with ⟨c64, h⟩ | ⟨c64, h⟩
            · simp [c47, h49, h51, c52, h54, h56, c57, h59, h61, h63, c64]
              cases h
              exact hL _ _ rfl (by simp [headOf])
            · simp [c47, h49, h51, c52, h54, h56, c57, h59, h61, h63, c64]
              cases h
              exact hR _ rfl
          · simp [c47, h49, h51, c52, h54, h56, c57]
            cases h
            exact hR _ rfl
        · simp [c47, h49, h51, c52]
          cases h
          exact hR _ rfl
      · simp [c47]
        cases h
        exact hR _ rfl
    · simp [headOf]
  · first | (cases h; done) | (simp [h1, h3, c4]; first | rfl | (injection h with h; rw [h]; rfl) | (injection h with h; rw [h]))
theorem w_ref08_lits (v : List Bool) (l : List Int) (r : List Bool) (h : ref08_lits v l = some r) : ev 46 [T.c (sls 1 boolF v), T.c (sls 1 intF l)] = some (T.c (C.ref 0 0 (lenN r)), [rowO 4 1 boolF r]) := by
  refine ev_run' (kp := k46) (us := [28]) fn46 rfl rfl rfl rfl rfl (by kernel_rfl) (by simp) ?_
  unfold ref08_lits at h
  simp
  obtain ⟨y26, h27, h⟩ := bind_some' h
  rw [evLoop_loopF (ι := (List Bool) × Int) (ρ := (List Bool)) (fun p => match p with | (x18, x19) => mk 23 [(0, T.c (sls 1 boolF v)), (1, T.c (sls 1 intF l)), (5, T.c (C.ref 5 0 (lenN x18))), (6, T.c (C.lit (Value.int IntKind.i64 x19)))] [(5, rowO 4 1 boolF x18)] []) (fun r => match r with | y26 => (Ex.exit 0, mk 23 [(5, T.c (C.ref 5 0 (lenN y26)))] [(5, rowO 4 1 boolF y26)] [])) (ref08_lits_B0 v l) h27 ?_ _ ?_]
  · simp
    cases h
    rfl
  · clear h27 h
    rintro ⟨x18, x19⟩ y L res h hL hR
    unfold ref08_lits_B0 at h
    simp
    rcases iteB_cases h with ⟨c20, h⟩ | ⟨c20, h⟩
    · simp [c20]
      obtain ⟨v21, h22, h⟩ := bind_some' h
      simp [c20, h22]
      obtain ⟨v23, h24', h⟩ := bind_some' h
      have h24 : ev 20 [T.c (sls 1 boolF v), T.c (C.lit (Value.int IntKind.i64 v21))] = some (T.c (C.lit (Value.bool v23)), []) := w_ref08_Lit _ _ _ h24'
      simp [c20, h22, h24]
      rcases iteB_cases h with ⟨c25, h⟩ | ⟨c25, h⟩
      · simp [c20, h22, h24, c25]
        cases h
        exact hL _ _ rfl (by simp [headOf])
      · simp [c20, h22, h24, c25]
        cases h
    · simp [c20]
      cases h
      exact hR _ rfl
  · simp [headOf]
theorem w_ref08_Step (a : Aig) (state : List Bool) (in_ : List Bool) (r : (List Bool) × (((List Bool) × (List Bool) × (List Bool))) × Int) (h : ref08_Step a state in_ = some r) : ev 33 [T.agg (Aig.cells a), T.c (sls 1 boolF state), T.c (sls 1 boolF in_)] = some (T.tup [T.c (C.ref 0 0 (lenN r.1)), T.agg [C.ref 1 0 (lenN r.2.1.1), C.ref 2 0 (lenN r.2.1.2.1), C.ref 3 0 (lenN r.2.1.2.2)], T.c (C.lit (Value.int IntKind.i64 r.2.2))], [rowO 4 1 boolF r.1, rowO 4 1 boolF r.2.1.1, rowO 4 1 boolF r.2.1.2.1, rowO 4 1 boolF r.2.1.2.2]) := by
  refine ev_run' (kp := k33) (us := [28, 58, 3]) fn33 rfl rfl rfl rfl rfl (by kernel_rfl) (by simp) ?_
  unfold ref08_Step at h
  simp
  obtain ⟨⟨v0, v1⟩, h2', h⟩ := bind_some' h
  have h2 : ev 14 [T.agg a.cells, T.c (sls 1 boolF state), T.c (sls 1 boolF in_)] = some (T.tup [T.c (C.ref 0 0 (lenN v0)), T.c (C.lit (Value.int IntKind.i64 v1))], [rowO 4 1 boolF v0]) := w_ref08_Values _ _ _ _ h2'
  simp [h2]
  rcases iteB_cases h with ⟨c3, h⟩ | ⟨c3, h⟩
  · simp [h2, c3]
    obtain ⟨y30, h37, h⟩ := bind_some' h
    rw [evLoop_loopF (ι := (List Bool) × Int) (ρ := (List Bool)) (fun p => match p with | (x22, x23) => mk 56 [(3, T.c (C.ptr 3 0 0)), (7, T.c (C.ptr 7 0 0)), (9, T.c (C.ref 17 0 (lenN v0))), (11, T.c (C.ref 11 0 (lenN x22))), (12, T.c (C.lit (Value.int IntKind.i64 x23)))] [(3, { box := true, free := true, elem := 27, sz := 7, es := [a.cells] }), (7, { box := true, free := true, elem := 58, sz := 3, es := [[C.lit (Value.slice none 0 0), C.lit (Value.slice none 0 0), C.lit (Value.slice none 0 0)]] }), (11, rowO 4 1 boolF x22), (17, rowO 4 1 boolF v0)] []) (fun r => match r with | y30 => (Ex.exit 0, mk 56 [(3, T.c (C.ptr 3 0 0)), (7, T.c (C.ptr 7 0 0)), (9, T.c (C.ref 17 0 (lenN v0))), (11, T.c (C.ref 11 0 (lenN y30)))] [(3, { box := true, free := true, elem := 27, sz := 7, es := [a.cells] }), (7, { box := true, free := true, elem := 58, sz := 3, es := [[C.lit (Value.slice none 0 0), C.lit (Value.slice none 0 0), C.lit (Value.slice none 0 0)]] }), (11, rowO 4 1 boolF y30), (17, rowO 4 1 boolF v0)] [])) (ref08_Step_B0 a v0) h37 ?_ _ ?_]
    · simp [h2, c3]
      obtain ⟨v31, h32', h⟩ := bind_some' h
      have h32 : ev 46 [T.c (sls 1 boolF v0), T.c (sls 1 intF a.outs)] = some (T.c (C.ref 0 0 (lenN v31)), [rowO 4 1 boolF v31]) := w_ref08_lits _ _ _ h32'
      simp [h2, c3, h32]
      obtain ⟨v33, h34', h⟩ := bind_some' h
      have h34 : ev 46 [T.c (sls 1 boolF v0), T.c (sls 1 intF a.bad)] = some (T.c (C.ref 0 0 (lenN v33)), [rowO 4 1 boolF v33]) := w_ref08_lits _ _ _ h34'
      simp [h2, c3, h32, h34]
      obtain ⟨v35, h36', h⟩ := bind_some' h
      have h36 : ev 46 [T.c (sls 1 boolF v0), T.c (sls 1 intF a.con)] = some (T.c (C.ref 0 0 (lenN v35)), [rowO 4 1 boolF v35]) := w_ref08_lits _ _ _ h36'
      simp [h2, c3, h32, h34, h36]
      cases h
      rfl
    · clear h37 h
      rintro ⟨x22, x23⟩ y L res h hL hR
      unfold ref08_Step_B0 at h
      simp
      rcases iteB_cases h with ⟨c24, h⟩ | ⟨c24, h⟩
      · simp [c24]
        obtain ⟨v25, h26, h⟩ := bind_some' h
        simp [c24, h26]
        obtain ⟨v27, h28', h⟩ := bind_some' h
        have h28 : ev 20 [T.c (sls 1 boolF v0), T.c (C.lit (Value.int IntKind.i64 v25.next))] = some (T.c (C.lit (Value.bool v27)), []) := w_ref08_Lit _ _ _ h28'
        simp [c24, h26, h28]
        rcases iteB_cases h with ⟨c29, h⟩ | ⟨c29, h⟩
        · simp [c24, h26, h28, c29]
          cases h
          exact hL _ _ rfl (by simp [headOf])
        · simp [c24, h26, h28, c29]
          cases h
      · simp [c24]
        cases h
        exact hR _ rfl
    · simp [headOf]
  · simp [h2, c3]
    cases h
    rfl
end Go.Proofs.Ytdoapnmbopifjaa

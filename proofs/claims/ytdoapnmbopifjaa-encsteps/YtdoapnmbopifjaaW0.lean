/- What the interpreter comes to is what the plain functions come to. No condition. -/
import Derived.Test.YtdoapnmbopifjaaK
import Derived.Test.YtdoapnmbopifjaaG
set_option linter.unusedSimpArgs false
set_option linter.unusedVariables false
set_option maxRecDepth 20000
set_option maxHeartbeats 4000000
namespace Go.Proofs.Ytdoapnmbopifjaa
open Go.Vabs Go.Vid
theorem w_aig_Vars (a : Aig) (r : Int) (h : aig_Vars a = some r) : ev 45 [T.agg (Aig.cells a)] = some (T.c (C.lit (Value.int IntKind.i64 r)), []) := by
  refine ev_run' (kp := k45) (us := [3]) fn45 rfl rfl rfl rfl rfl (by kernel_rfl) (by simp) ?_
  unfold aig_Vars at h
  simp
  cases h
  rfl
theorem w_enc_Vars (a : Aig) (frames : Int) (r : Int) (h : enc_Vars a frames = some r) : ev 25 [T.agg (Aig.cells a), T.c (C.lit (Value.int IntKind.i64 frames))] = some (T.c (C.lit (Value.int IntKind.i64 r)), []) := by
  refine ev_run' (kp := k25) (us := [3]) fn25 rfl rfl rfl rfl rfl (by kernel_rfl) (by simp) ?_
  unfold enc_Vars at h
  simp
  obtain ⟨v0, h1', h⟩ := bind_some' h
  have h1 : ev 45 [T.agg a.cells] = some (T.c (C.lit (Value.int IntKind.i64 v0)), []) := w_aig_Vars _ _ h1'
  simp [h1]
  cases h
  rfl
theorem w_enc_Lit (a : Aig) (k : Int) (l : Int) (r : Int) (h : enc_Lit a k l = some r) : ev 19 [T.agg (Aig.cells a), T.c (C.lit (Value.int IntKind.i64 k)), T.c (C.lit (Value.int IntKind.i64 l))] = some (T.c (C.lit (Value.int IntKind.i64 r)), []) := by
  refine ev_run' (kp := k19) (us := [3]) fn19 rfl rfl rfl rfl rfl (by kernel_rfl) (by simp) ?_
  unfold enc_Lit at h
  simp
  obtain ⟨v0, h1', h⟩ := bind_some' h
  have h1 : ev 25 [T.agg a.cells, T.c (C.lit (Value.int IntKind.i64 k))] = some (T.c (C.lit (Value.int IntKind.i64 v0)), []) := w_enc_Vars _ _ _ h1'
  simp [h1]
  rcases iteB_cases h with ⟨c2, h⟩ | ⟨c2, h⟩
  · simp [h1, c2]
    cases h
    rfl
  · simp [h1, c2]
    cases h
    rfl
theorem w_enc_clause (a : Aig) (k : Int) (l : List Int) (r : List Int) (h : enc_clause a k l = some r) : ev 41 [T.agg (Aig.cells a), T.c (C.lit (Value.int IntKind.i64 k)), T.c (sls 1 intF l)] = some (T.c (C.ref 0 0 (lenN r)), [rowO 3 1 intF r]) := by
  refine ev_run' (kp := k41) (us := [24]) fn41 rfl rfl rfl rfl rfl (by kernel_rfl) (by simp) ?_
  unfold enc_clause at h
  simp
  rcases iteB_cases h with ⟨c0, h⟩ | ⟨c0, h⟩
  · simp [c0]
    obtain ⟨y35, h36, h⟩ := bind_some' h
    rw [evLoop_loopF (ι := (List Int) × Int) (ρ := (List Int)) (fun p => match p with | (x25, x26) => mk 29 [(1, T.c (C.lit (Value.int IntKind.i64 k))), (3, T.c (C.ptr 3 0 0)), (7, T.c (C.ref 12 0 (lenN x25))), (13, T.c (sls 1 intF l)), (14, T.c (C.lit (Value.int IntKind.i64 (lenI l)))), (15, T.c (C.lit (Value.int IntKind.i64 x26)))] [(3, { box := true, free := true, elem := 27, sz := 7, es := [a.cells] }), (12, rowO 3 1 intF x25)] []) (fun r => match r with | y35 => (Ex.exit 0, mk 29 [(7, T.c (C.ref 12 0 (lenN y35)))] [(12, rowO 3 1 intF y35)] [])) (enc_clause_B0 a k l) h36 ?_ _ ?_]
    · simp [c0]
      cases h
      rfl
    · clear h36 h
      rintro ⟨x25, x26⟩ y L res h hL hR
      unfold enc_clause_B0 at h
      simp
      rcases iteB_cases h with ⟨c27, h⟩ | ⟨c27, h⟩
      · simp [c27]
        obtain ⟨v28, h29, h⟩ := bind_some' h
        simp [c27, h29]
        obtain ⟨v30, h31', h⟩ := bind_some' h
        have h31 : ev 19 [T.agg a.cells, T.c (C.lit (Value.int IntKind.i64 k)), T.c (C.lit (Value.int IntKind.i64 v28))] = some (T.c (C.lit (Value.int IntKind.i64 v30)), []) := w_enc_Lit _ _ _ _ h31'
        simp [c27, h29, h31]
        rcases iteB_cases h with ⟨c32, h⟩ | ⟨c32, h⟩
        · simp [c27, h29, h31, c32]
          obtain ⟨v33, h34, h⟩ := bind_some' h
          simp [c27, h29, h31, c32, h34]
          cases h
          exact hL _ _ rfl (by simp [headOf])
        · simp [c27, h29, h31, c32]
          cases h
      · simp [c27]
        cases h
        exact hR _ rfl
    · simp [headOf]
  · simp [c0]
    cases h
theorem w_enc_Frame (a : Aig) (k : Int) (r : List (List Int)) (h : enc_Frame a k = some r) : ev 17 [T.agg (Aig.cells a), T.c (C.lit (Value.int IntKind.i64 k))] = some (T.c (C.ref 0 0 (lenN r)), [rowO 24 1 rowF r]) := by
  refine ev_run' (kp := k17) (us := [36]) fn17 rfl rfl rfl rfl rfl (by kernel_rfl) (by simp) ?_
  unfold enc_Frame at h
  simp
  obtain ⟨v0, h1', h⟩ := bind_some' h
  have h1 : ev 41 [T.agg a.cells, T.c (C.lit (Value.int IntKind.i64 k)), T.c (sls 1 intF [1])] = some (T.c (C.ref 0 0 (lenN v0)), [rowO 3 1 intF v0]) := w_enc_clause _ _ _ _ h1'
  simp [h1]
  obtain ⟨y41, h42, h⟩ := bind_some' h
  rw [evLoop_loopF (ι := ((List (List Int))) × Int) (ρ := ((List (List Int)))) (fun p => match p with | (x29, x30) => mk 71 [(1, T.c (C.lit (Value.int IntKind.i64 k))), (2, T.c (C.ptr 2 0 0)), (5, T.c (C.ref 14 0 (lenN x29))), (17, T.c (C.lit (Value.int IntKind.i64 (lenI a.G)))), (18, T.c (C.lit (Value.int IntKind.i64 x30)))] [(2, { box := true, free := true, elem := 27, sz := 7, es := [a.cells] }), (14, rowO 24 1 rowF x29)] []) (fun r => match r with | y41 => (Ex.exit 0, mk 71 [(5, T.c (C.ref 14 0 (lenN y41)))] [(14, rowO 24 1 rowF y41)] [])) (enc_Frame_B0 a k) h42 ?_ _ ?_]
  · simp [h1]
    cases h
    rfl
  · clear h42 h
    rintro ⟨x29, x30⟩ y L res h hL hR
    unfold enc_Frame_B0 at h
    simp
    rcases iteB_cases h with ⟨c31, h⟩ | ⟨c31, h⟩
    · simp [c31]
      obtain ⟨v32, h33, h⟩ := bind_some' h
      simp [c31, h33]
      obtain ⟨v34, h35', h⟩ := bind_some' h
      have h35 : ev 41 [T.agg a.cells, T.c (C.lit (Value.int IntKind.i64 k)), T.c (sls 1 intF [bxor IntKind.i64 (imul IntKind.i64 2 (iadd IntKind.i64 (iadd IntKind.i64 (iadd IntKind.i64 a.I (lenI a.L)) 1) x30)) 1, v32.a])] = some (T.c (C.ref 0 0 (lenN v34)), [rowO 3 1 intF v34]) := w_enc_clause _ _ _ _ h35'
      simp [c31, h33, h35]
      obtain ⟨v36, h37', h⟩ := bind_some' h
      have h37 : ev 41 [T.agg a.cells, T.c (C.lit (Value.int IntKind.i64 k)), T.c (sls 1 intF [bxor IntKind.i64 (imul IntKind.i64 2 (iadd IntKind.i64 (iadd IntKind.i64 (iadd IntKind.i64 a.I (lenI a.L)) 1) x30)) 1, v32.b])] = some (T.c (C.ref 0 0 (lenN v36)), [rowO 3 1 intF v36]) := w_enc_clause _ _ _ _ h37'
      simp [c31, h33, h35, h37]
      obtain ⟨v38, h39', h⟩ := bind_some' h
      have h39 : ev 41 [T.agg a.cells, T.c (C.lit (Value.int IntKind.i64 k)), T.c (sls 1 intF [imul IntKind.i64 2 (iadd IntKind.i64 (iadd IntKind.i64 (iadd IntKind.i64 a.I (lenI a.L)) 1) x30), bxor IntKind.i64 v32.a 1, bxor IntKind.i64 v32.b 1])] = some (T.c (C.ref 0 0 (lenN v38)), [rowO 3 1 intF v38]) := w_enc_clause _ _ _ _ h39'
      simp [c31, h33, h35, h37, h39]
      rcases iteB_cases h with ⟨c40, h⟩ | ⟨c40, h⟩
      · simp [c31, h33, h35, h37, h39, c40]
        cases h
        exact hL _ _ rfl (by simp [headOf])
      · simp [c31, h33, h35, h37, h39, c40]
        cases h
    · simp [c31]
      cases h
      exact hR _ rfl
  · simp [headOf]
theorem w_enc_First (a : Aig) (r : List (List Int)) (h : enc_First a = some r) : ev 23 [T.agg (Aig.cells a)] = some (T.c (C.ref 0 0 (lenN r)), [rowO 24 1 rowF r]) := by
  refine ev_run' (kp := k23) (us := [36]) fn23 rfl rfl rfl rfl rfl (by kernel_rfl) (by simp) ?_
  unfold enc_First at h
  simp
  obtain ⟨y30, h31, h⟩ := bind_some' h
  rw [evLoop_loopF (ι := ((List (List Int))) × Int) (ρ := ((List (List Int)))) (fun p => match p with | (x21, x22) => mk 35 [(1, T.c (C.ptr 1 0 0)), (3, T.c (C.ref 3 0 (lenN x21))), (7, T.c (sls 2 Latch.cells a.L)), (8, T.c (C.lit (Value.int IntKind.i64 (lenI a.L)))), (9, T.c (C.lit (Value.int IntKind.i64 x22)))] [(1, { box := true, free := true, elem := 27, sz := 7, es := [a.cells] }), (3, rowO 24 1 rowF x21)] []) (fun r => match r with | y30 => (Ex.exit 0, mk 35 [(3, T.c (C.ref 3 0 (lenN y30)))] [(3, rowO 24 1 rowF y30)] [])) (enc_First_B0 a) h31 ?_ _ ?_]
  · simp
    cases h
    rfl
  · clear h31 h
    rintro ⟨x21, x22⟩ y L res h hL hR
    unfold enc_First_B0 at h
    simp
    rcases iteB_cases h with ⟨c23, h⟩ | ⟨c23, h⟩
    · simp [c23]
      obtain ⟨v24, h25, h⟩ := bind_some' h
      simp [c23, h25]
      rcases iteB_cases h with ⟨c26, h⟩ | ⟨c26, h⟩
      · simp [c23, h25, c26]
        obtain ⟨v27, h28', h⟩ := bind_some' h
        have h28 : ev 41 [T.agg a.cells, T.c (C.lit (Value.int IntKind.i64 0)), T.c (sls 1 intF [isub IntKind.i64 (iadd IntKind.i64 (imul IntKind.i64 2 (iadd IntKind.i64 (iadd IntKind.i64 a.I 1) x22)) 1) v24.reset])] = some (T.c (C.ref 0 0 (lenN v27)), [rowO 3 1 intF v27]) := w_enc_clause _ _ _ _ h28'
        simp [c23, h25, c26, h28]
        rcases iteB_cases h with ⟨c29, h⟩ | ⟨c29, h⟩
        · simp [c23, h25, c26, h28, c29]
          cases h
          exact hL _ _ rfl (by simp [headOf])
        · simp [c23, h25, c26, h28, c29]
          cases h
      · simp [c23, h25, c26]
        cases h
        exact hL _ _ rfl (by simp [headOf])
    · simp [c23]
      cases h
      exact hR _ rfl
  · simp [headOf]
theorem w_slices_Grow_nil0 (n : Int) (r : List (List Int)) (h : slices_Grow_nil0 n = some r) : ev 55 [T.c (C.lit (Value.slice none 0 0)), T.c (C.lit (Value.int IntKind.i64 n))] = some (T.c (C.ref 0 0 (lenN r)), [rowO 24 1 rowF r]) := by
  refine ev_run' (kp := k55) (us := [36]) fn55 rfl rfl rfl rfl rfl (by kernel_rfl) (by simp) ?_
  unfold slices_Grow_nil0 at h
  simp
  rcases iteB_cases h with ⟨c0, h⟩ | ⟨c0, h⟩
  · simp [c0]
    cases h
  · simp [c0]
    rcases iteB_cases h with ⟨c1, h⟩ | ⟨c1, h⟩
    · simp [c0, c1]
      rcases iteB_cases h with ⟨c2, h⟩ | ⟨c2, h⟩
      · simp [c0, c1, c2]
        rcases iteB_cases h with ⟨c3, h⟩ | ⟨c3, h⟩
        · simp [c0, c1, c2, c3]
          rcases iteB_cases h with ⟨c4, h⟩ | ⟨c4, h⟩
          · simp [c0, c1, c2, c3, c4]
            cases h
            rfl
          · simp [c0, c1, c2, c3, c4]
            cases h
        · simp [c0, c1, c2, c3]
          cases h
      · simp [c0, c1, c2]
        cases h
    · simp [c0, c1]
      cases h
      rfl
theorem w_slices_Concat (slices : List (List (List Int))) (r : List (List Int)) (h : slices_Concat slices = some r) : ev 44 [T.c (sls 1 rrowF slices)] = some (T.c (C.ref 0 0 (lenN r)), [rowO 24 1 rowF r]) := by
  refine ev_run' (kp := k44) (us := [36]) fn44 rfl rfl rfl rfl rfl (by kernel_rfl) (by simp) ?_
  unfold slices_Concat at h
  simp
  obtain ⟨y21, h47, h⟩ := bind_some' h
  rw [evLoop_loopF (ι := Int × Int) (ρ := Int) (fun p => match p with | (x15, x16) => mk 36 [(0, T.c (sls 1 rrowF slices)), (3, T.c (C.lit (Value.int IntKind.i64 x15))), (9, T.c (sls 1 rrowF slices)), (10, T.c (C.lit (Value.int IntKind.i64 (lenI slices)))), (11, T.c (C.lit (Value.int IntKind.i64 x16)))] [] []) (fun r => match r with | y21 => (Ex.exit 0, mk 36 [(0, T.c (sls 1 rrowF slices)), (3, T.c (C.lit (Value.int IntKind.i64 y21)))] [] [])) (slices_Concat_B0 slices) h47 ?_ _ ?_]
  · simp
    obtain ⟨v22, h23', h⟩ := bind_some' h
    have h23 : ev 55 [T.c (C.lit (Value.slice none 0 0)), T.c (C.lit (Value.int IntKind.i64 y21))] = some (T.c (C.ref 0 0 (lenN v22)), [rowO 24 1 rowF v22]) := w_slices_Grow_nil0 _ _ h23'
    simp [h23]
    obtain ⟨y44, h45, h⟩ := bind_some' h
    rw [evLoop_loopF (ι := ((List (List Int))) × Int) (ρ := ((List (List Int)))) (fun p => match p with | (x38, x39) => mk 36 [(6, T.c (C.ref 24 0 (lenN x38))), (25, T.c (sls 1 rrowF slices)), (26, T.c (C.lit (Value.int IntKind.i64 (lenI slices)))), (27, T.c (C.lit (Value.int IntKind.i64 x39)))] [(24, rowO 24 1 rowF x38)] []) (fun r => match r with | y44 => (Ex.exit 2, mk 36 [(6, T.c (C.ref 24 0 (lenN y44)))] [(24, rowO 24 1 rowF y44)] [])) (slices_Concat_B1 slices) h45 ?_ _ ?_]
    · simp [h23]
      cases h
      rfl
    · clear h45 h
      rintro ⟨x38, x39⟩ y L res h hL hR
      unfold slices_Concat_B1 at h
      simp
      rcases iteB_cases h with ⟨c40, h⟩ | ⟨c40, h⟩
      · simp [c40]
        obtain ⟨v41, h42, h⟩ := bind_some' h
        simp [c40, h42]
        rcases iteB_cases h with ⟨c43, h⟩ | ⟨c43, h⟩
        · simp [c40, h42, c43]
          cases h
          exact hL _ _ rfl (by simp [headOf])
        · simp [c40, h42, c43]
          cases h
      · simp [c40]
        cases h
        exact hR _ rfl
    · simp [headOf]
  · clear h47 h
    rintro ⟨x15, x16⟩ y L res h hL hR
    unfold slices_Concat_B0 at h
    simp
    rcases iteB_cases h with ⟨c17, h⟩ | ⟨c17, h⟩
    · simp [c17]
      obtain ⟨v18, h19, h⟩ := bind_some' h
      simp [c17, h19]
      rcases iteB_cases h with ⟨c20, h⟩ | ⟨c20, h⟩
      · simp [c17, h19, c20]
        cases h
      · simp [c17, h19, c20]
        cases h
        exact hL _ _ rfl (by simp [headOf])
    · simp [c17]
      cases h
      exact hR _ rfl
  · simp [headOf]
theorem w_enc_Starts (a : Aig) (inv : Int) (r : Cnf) (h : enc_Starts a inv = some r) : ev 24 [T.agg (Aig.cells a), T.c (C.lit (Value.int IntKind.i64 inv))] = some (T.agg [C.lit (Value.int IntKind.i64 r.N), C.ref 0 0 (lenN r.cs)], [rowO 24 1 rowF r.cs]) := by
  refine ev_run' (kp := k24) (us := [39]) fn24 rfl rfl rfl rfl rfl (by kernel_rfl) (by simp) ?_
  unfold enc_Starts at h
  simp
  obtain ⟨v0, h1', h⟩ := bind_some' h
  have h1 : ev 25 [T.agg a.cells, T.c (C.lit (Value.int IntKind.i64 1))] = some (T.c (C.lit (Value.int IntKind.i64 v0)), []) := w_enc_Vars _ _ _ h1'
  simp [h1]
  obtain ⟨v2, h3', h⟩ := bind_some' h
  have h3 : ev 17 [T.agg a.cells, T.c (C.lit (Value.int IntKind.i64 0))] = some (T.c (C.ref 0 0 (lenN v2)), [rowO 24 1 rowF v2]) := w_enc_Frame _ _ _ h3'
  simp [h1, h3]
  obtain ⟨v4, h5', h⟩ := bind_some' h
  have h5 : ev 23 [T.agg a.cells] = some (T.c (C.ref 0 0 (lenN v4)), [rowO 24 1 rowF v4]) := w_enc_First _ _ h5'
  simp [h1, h3, h5]
  obtain ⟨v6, h7', h⟩ := bind_some' h
  have h7 : ev 41 [T.agg a.cells, T.c (C.lit (Value.int IntKind.i64 0)), T.c (sls 1 intF [bxor IntKind.i64 inv 1])] = some (T.c (C.ref 0 0 (lenN v6)), [rowO 3 1 intF v6]) := w_enc_clause _ _ _ _ h7'
  simp [h1, h3, h5, h7]
  obtain ⟨v8, h9', h⟩ := bind_some' h
  have h9 : ev 44 [T.c (sls 1 rrowF [v2, v4, [v6]])] = some (T.c (C.ref 0 0 (lenN v8)), [rowO 24 1 rowF v8]) := w_slices_Concat _ _ h9'
  simp [h1, h3, h5, h7, h9]
  cases h
  rfl
theorem w_ref19_Clauses (a : List (List Int)) (b : List (List Int)) (r : Bool) (h : ref19_Clauses a b = some r) : ev 28 [T.c (sls 1 rowF a), T.c (sls 1 rowF b)] = some (T.c (C.lit (Value.bool r)), []) := by
  refine ev_run' (kp := k28) (us := [4]) fn28 rfl rfl rfl rfl rfl (by kernel_rfl) (by simp) ?_
  unfold ref19_Clauses at h
  simp
  rcases iteB_cases h with ⟨c0, h⟩ | ⟨c0, h⟩
  · simp [c0]
    obtain ⟨w139, h138, h⟩ := bind_some' h
    rw [evLoop_loopF (ι := Int) (ρ := Unit ⊕ Unit) (fun p => match p with | x93 => mk 53 [(0, T.c (sls 1 rowF a)), (1, T.c (sls 1 rowF b)), (5, T.c (C.lit (Value.int IntKind.i64 x93)))] [] []) (fun r => match r with | .inl () => (Ex.ret, mk 53 [(4, T.c (C.lit (Value.bool false)))] [] []) | .inr () => (Ex.exit 0, mk 53 [] [] [])) (ref19_Clauses_B1 a b) h138 ?_ _ ?_]
    · rcases w139 with ⟨⟩ | ⟨⟩
      · simp [c0]
        cases h
        rfl
      · simp [c0]
        cases h
        rfl
    · clear h138 h
      rintro x93 y L res h hL hR
      unfold ref19_Clauses_B1 at h
      simp
      rcases iteB_cases h with ⟨c94, h⟩ | ⟨c94, h⟩
      · simp [c94]
        obtain ⟨v95, h96, h⟩ := bind_some' h
        simp [c94, h96]
        obtain ⟨v97, h98, h⟩ := bind_some' h
        simp [c94, h96, h98]
        rcases iteB_cases h with ⟨c99, h⟩ | ⟨c99, h⟩
        · simp [c94, h96, h98, c99]
          obtain ⟨w137, h136, h⟩ := bind_some' h
          rw [evLoop_loopF (ι := Int) (ρ := Unit ⊕ Unit) (fun p => match p with | x125 => mk 53 [(0, T.c (sls 1 rowF a)), (1, T.c (sls 1 rowF b)), (5, T.c (C.lit (Value.int IntKind.i64 x93))), (6, T.c (C.lit (Value.int IntKind.i64 x125)))] [] []) (fun r => match r with | .inl () => (Ex.ret, mk 53 [(4, T.c (C.lit (Value.bool false)))] [] []) | .inr () => (Ex.exit 2, mk 53 [(0, T.c (sls 1 rowF a)), (1, T.c (sls 1 rowF b)), (5, T.c (C.lit (Value.int IntKind.i64 x93)))] [] [])) (ref19_Clauses_B0 a b x93) h136 ?_ _ ?_]
          · rcases w137 with ⟨⟩ | ⟨⟩
            · simp [c94, h96, h98, c99]
              cases h
              exact hR _ rfl
            · simp [c94, h96, h98, c99]
              cases h
              exact hL _ _ rfl (by simp [headOf])
          · clear h136 h
            rintro x125 y L res h hL hR
            unfold ref19_Clauses_B0 at h
            simp
            obtain ⟨v126, h127, h⟩ := bind_some' h
            simp [h127]
            rcases iteB_cases h with ⟨c128, h⟩ | ⟨c128, h⟩
            · simp [h127, c128]
              obtain ⟨v129, h130, h⟩ := bind_some' h
              simp [h127, c128, h130]
              obtain ⟨v131, h132, h⟩ := bind_some' h
              simp [h127, c128, h130, h132]
              obtain ⟨v133, h134, h⟩ := bind_some' h
              simp [h127, c128, h130, h132, h134]
              rcases iteB_cases h with ⟨c135, h⟩ | ⟨c135, h⟩
              · simp [h127, c128, h130, h132, h134, c135]
                cases h
                exact hL _ _ rfl (by simp [headOf])
              · simp [h127, c128, h130, h132, h134, c135]
                cases h
                exact hR _ rfl
            · simp [h127, c128]
              cases h
              exact hR _ rfl
          · simp [headOf]
        · simp [c94, h96, h98, c99]
          cases h
          exact hR _ rfl
      · simp [c94]
        cases h
        exact hR _ rfl
    · simp [headOf]
  · simp [c0]
    cases h
    rfl
theorem w_slices_Grow'_nil0 (n : Int) (r : List Int) (h : slices_Grow'_nil0 n = some r) : ev 58 [T.c (C.lit (Value.slice none 0 0)), T.c (C.lit (Value.int IntKind.i64 n))] = some (T.c (C.ref 0 0 (lenN r)), [rowO 3 1 intF r]) := by
  refine ev_run' (kp := k58) (us := [24]) fn58 rfl rfl rfl rfl rfl (by kernel_rfl) (by simp) ?_
  unfold slices_Grow'_nil0 at h
  simp
  rcases iteB_cases h with ⟨c0, h⟩ | ⟨c0, h⟩
  · simp [c0]
    cases h
  · simp [c0]
    rcases iteB_cases h with ⟨c1, h⟩ | ⟨c1, h⟩
    · simp [c0, c1]
      rcases iteB_cases h with ⟨c2, h⟩ | ⟨c2, h⟩
      · simp [c0, c1, c2]
        rcases iteB_cases h with ⟨c3, h⟩ | ⟨c3, h⟩
        · simp [c0, c1, c2, c3]
          rcases iteB_cases h with ⟨c4, h⟩ | ⟨c4, h⟩
          · simp [c0, c1, c2, c3, c4]
            cases h
            rfl
          · simp [c0, c1, c2, c3, c4]
            cases h
        · simp [c0, c1, c2, c3]
          cases h
      · simp [c0, c1, c2]
        cases h
    · simp [c0, c1]
      cases h
      rfl
theorem w_slices_Concat' (slices : List (List Int)) (r : List Int) (h : slices_Concat' slices = some r) : ev 56 [T.c (sls 1 rowF slices)] = some (T.c (C.ref 0 0 (lenN r)), [rowO 3 1 intF r]) := by
  refine ev_run' (kp := k56) (us := [24]) fn56 rfl rfl rfl rfl rfl (by kernel_rfl) (by simp) ?_
  unfold slices_Concat' at h
  simp
  obtain ⟨y21, h47, h⟩ := bind_some' h
  rw [evLoop_loopF (ι := Int × Int) (ρ := Int) (fun p => match p with | (x15, x16) => mk 36 [(0, T.c (sls 1 rowF slices)), (3, T.c (C.lit (Value.int IntKind.i64 x15))), (9, T.c (sls 1 rowF slices)), (10, T.c (C.lit (Value.int IntKind.i64 (lenI slices)))), (11, T.c (C.lit (Value.int IntKind.i64 x16)))] [] []) (fun r => match r with | y21 => (Ex.exit 0, mk 36 [(0, T.c (sls 1 rowF slices)), (3, T.c (C.lit (Value.int IntKind.i64 y21)))] [] [])) (slices_Concat'_B0 slices) h47 ?_ _ ?_]
  · simp
    obtain ⟨v22, h23', h⟩ := bind_some' h
    have h23 : ev 58 [T.c (C.lit (Value.slice none 0 0)), T.c (C.lit (Value.int IntKind.i64 y21))] = some (T.c (C.ref 0 0 (lenN v22)), [rowO 3 1 intF v22]) := w_slices_Grow'_nil0 _ _ h23'
    simp [h23]
    obtain ⟨y44, h45, h⟩ := bind_some' h
    rw [evLoop_loopF (ι := (List Int) × Int) (ρ := (List Int)) (fun p => match p with | (x38, x39) => mk 36 [(6, T.c (C.ref 24 0 (lenN x38))), (25, T.c (sls 1 rowF slices)), (26, T.c (C.lit (Value.int IntKind.i64 (lenI slices)))), (27, T.c (C.lit (Value.int IntKind.i64 x39)))] [(24, rowO 3 1 intF x38)] []) (fun r => match r with | y44 => (Ex.exit 2, mk 36 [(6, T.c (C.ref 24 0 (lenN y44)))] [(24, rowO 3 1 intF y44)] [])) (slices_Concat'_B1 slices) h45 ?_ _ ?_]
    · simp [h23]
      cases h
      rfl
    · clear h45 h
      rintro ⟨x38, x39⟩ y L res h hL hR
      unfold slices_Concat'_B1 at h
      simp
      rcases iteB_cases h with ⟨c40, h⟩ | ⟨c40, h⟩
      · simp [c40]
        obtain ⟨v41, h42, h⟩ := bind_some' h
        simp [c40, h42]
        rcases iteB_cases h with ⟨c43, h⟩ | ⟨c43, h⟩
        · simp [c40, h42, c43]
          cases h
          exact hL _ _ rfl (by simp [headOf])
        · simp [c40, h42, c43]
          cases h
      · simp [c40]
        cases h
        exact hR _ rfl
    · simp [headOf]
  · clear h47 h
    rintro ⟨x15, x16⟩ y L res h hL hR
    unfold slices_Concat'_B0 at h
    simp
    rcases iteB_cases h with ⟨c17, h⟩ | ⟨c17, h⟩
    · simp [c17]
      obtain ⟨v18, h19, h⟩ := bind_some' h
      simp [c17, h19]
      rcases iteB_cases h with ⟨c20, h⟩ | ⟨c20, h⟩
      · simp [c17, h19, c20]
        cases h
      · simp [c17, h19, c20]
        cases h
        exact hL _ _ rfl (by simp [headOf])
    · simp [c17]
      cases h
      exact hR _ rfl
  · simp [headOf]
theorem w_enc_holds (a : Aig) (more : List Int) (r : List (List Int)) (h : enc_holds a more = some r) : ev 47 [T.agg (Aig.cells a), T.c (sls 1 intF more)] = some (T.c (C.ref 0 0 (lenN r)), [rowO 24 1 rowF r]) := by
  refine ev_run' (kp := k47) (us := [36]) fn47 rfl rfl rfl rfl rfl (by kernel_rfl) (by simp) ?_
  unfold enc_holds at h
  simp
  obtain ⟨v0, h1', h⟩ := bind_some' h
  have h1 : ev 56 [T.c (sls 1 rowF [a.con, more])] = some (T.c (C.ref 0 0 (lenN v0)), [rowO 3 1 intF v0]) := w_slices_Concat' _ _ h1'
  simp [h1]
  obtain ⟨y32, h33, h⟩ := bind_some' h
  rw [evLoop_loopF (ι := ((List (List Int))) × Int) (ρ := ((List (List Int)))) (fun p => match p with | (x23, x24) => mk 27 [(2, T.c (C.ptr 2 0 0)), (5, T.c (C.ref 5 0 (lenN x23))), (12, T.c (C.ref 12 0 (lenN v0))), (13, T.c (C.lit (Value.int IntKind.i64 (lenI v0)))), (14, T.c (C.lit (Value.int IntKind.i64 x24)))] [(2, { box := true, free := true, elem := 27, sz := 7, es := [a.cells] }), (5, rowO 24 1 rowF x23), (12, rowO 3 1 intF v0)] []) (fun r => match r with | y32 => (Ex.exit 0, mk 27 [(5, T.c (C.ref 5 0 (lenN y32)))] [(5, rowO 24 1 rowF y32)] [])) (enc_holds_B0 a v0) h33 ?_ _ ?_]
  · simp [h1]
    cases h
    rfl
  · clear h33 h
    rintro ⟨x23, x24⟩ y L res h hL hR
    unfold enc_holds_B0 at h
    simp
    rcases iteB_cases h with ⟨c25, h⟩ | ⟨c25, h⟩
    · simp [c25]
      rcases iteB_cases h with ⟨c26, h⟩ | ⟨c26, h⟩
      · simp [c25, c26]
        obtain ⟨v27, h28, h⟩ := bind_some' h
        simp [c25, c26, h28]
        obtain ⟨v29, h30', h⟩ := bind_some' h
        have h30 : ev 41 [T.agg a.cells, T.c (C.lit (Value.int IntKind.i64 0)), T.c (sls 1 intF [v27])] = some (T.c (C.ref 0 0 (lenN v29)), [rowO 3 1 intF v29]) := w_enc_clause _ _ _ _ h30'
        simp [c25, c26, h28, h30]
        rcases iteB_cases h with ⟨c31, h⟩ | ⟨c31, h⟩
        · simp [c25, c26, h28, h30, c31]
          cases h
          exact hL _ _ rfl (by simp [headOf])
        · simp [c25, c26, h28, h30, c31]
          cases h
      · simp [c25, c26]
        cases h
    · simp [c25]
      cases h
      exact hR _ rfl
  · simp [headOf]
theorem w_enc_Safe (a : Aig) (inv : Int) (bad : Int) (r : Cnf) (h : enc_Safe a inv bad = some r) : ev 35 [T.agg (Aig.cells a), T.c (C.lit (Value.int IntKind.i64 inv)), T.c (C.lit (Value.int IntKind.i64 bad))] = some (T.agg [C.lit (Value.int IntKind.i64 r.N), C.ref 0 0 (lenN r.cs)], [rowO 24 1 rowF r.cs]) := by
  refine ev_run' (kp := k35) (us := [39]) fn35 rfl rfl rfl rfl rfl (by kernel_rfl) (by simp) ?_
  unfold enc_Safe at h
  simp
  obtain ⟨v0, h1', h⟩ := bind_some' h
  have h1 : ev 25 [T.agg a.cells, T.c (C.lit (Value.int IntKind.i64 1))] = some (T.c (C.lit (Value.int IntKind.i64 v0)), []) := w_enc_Vars _ _ _ h1'
  simp [h1]
  obtain ⟨v2, h3', h⟩ := bind_some' h
  have h3 : ev 17 [T.agg a.cells, T.c (C.lit (Value.int IntKind.i64 0))] = some (T.c (C.ref 0 0 (lenN v2)), [rowO 24 1 rowF v2]) := w_enc_Frame _ _ _ h3'
  simp [h1, h3]
  obtain ⟨v4, h5', h⟩ := bind_some' h
  have h5 : ev 47 [T.agg a.cells, T.c (sls 1 intF [inv, bad])] = some (T.c (C.ref 0 0 (lenN v4)), [rowO 24 1 rowF v4]) := w_enc_holds _ _ _ h5'
  simp [h1, h3, h5]
  obtain ⟨v6, h7', h⟩ := bind_some' h
  have h7 : ev 44 [T.c (sls 1 rrowF [v2, v4])] = some (T.c (C.ref 0 0 (lenN v6)), [rowO 24 1 rowF v6]) := w_slices_Concat _ _ h7'
  simp [h1, h3, h5, h7]
  cases h
  rfl
theorem w_law19_shown (r : Bool) (h : law19_shown = some r) : ev 11 [] = some (T.c (C.lit (Value.bool r)), []) := by
  refine ev_run' (kp := k11) (us := [4]) fn11 rfl rfl rfl rfl rfl (by kernel_rfl) (by simp) ?_
  unfold law19_shown at h
  simp
  obtain ⟨v0, h1', h⟩ := bind_some' h
  have h1 : ev 24 [T.agg [C.lit (Value.int IntKind.i64 2), C.sl 2 [], sls 2 And.cells [{ a := 4, b := 2 }], C.sl 1 [], C.sl 1 [], C.sl 1 [], C.sl 3 []], T.c (C.lit (Value.int IntKind.i64 6))] = some (T.agg [C.lit (Value.int IntKind.i64 v0.N), C.ref 0 0 (lenN v0.cs)], [rowO 24 1 rowF v0.cs]) := w_enc_Starts _ _ _ h1'
  simp [h1]
  obtain ⟨v2, h3', h⟩ := bind_some' h
  have h3 : ev 35 [T.agg [C.lit (Value.int IntKind.i64 2), C.sl 2 [], sls 2 And.cells [{ a := 4, b := 2 }], C.sl 1 [], C.sl 1 [], C.sl 1 [], C.sl 3 []], T.c (C.lit (Value.int IntKind.i64 6)), T.c (C.lit (Value.int IntKind.i64 7))] = some (T.agg [C.lit (Value.int IntKind.i64 v2.N), C.ref 0 0 (lenN v2.cs)], [rowO 24 1 rowF v2.cs]) := w_enc_Safe _ _ _ _ h3'
  simp [h1, h3]
  obtain ⟨v4, h5', h⟩ := bind_some' h
  have h5 : ev 17 [T.agg [C.lit (Value.int IntKind.i64 2), C.sl 2 [], sls 2 And.cells [{ a := 4, b := 2 }], C.sl 1 [], C.sl 1 [], C.sl 1 [], C.sl 3 []], T.c (C.lit (Value.int IntKind.i64 0))] = some (T.c (C.ref 0 0 (lenN v4)), [rowO 24 1 rowF v4]) := w_enc_Frame _ _ _ h5'
  simp [h1, h3, h5]
  obtain ⟨v6, h7', h⟩ := bind_some' h
  have h7 : ev 28 [T.c (sls 1 rowF v4), T.c (sls 1 rowF [[-1], [-4, 3], [-4, 2], [4, -3, -2]])] = some (T.c (C.lit (Value.bool v6)), []) := w_ref19_Clauses _ _ _ h7'
  simp [h1, h3, h5, h7]
  rcases iteB_cases h with ⟨c8, h⟩ | ⟨c8, h⟩
  · simp [h1, h3, h5, h7, c8]
    obtain ⟨v9, h10', h⟩ := bind_some' h
    have h10 : ev 25 [T.agg [C.lit (Value.int IntKind.i64 2), C.sl 2 [], sls 2 And.cells [{ a := 4, b := 2 }], C.sl 1 [], C.sl 1 [], C.sl 1 [], C.sl 3 []], T.c (C.lit (Value.int IntKind.i64 2))] = some (T.c (C.lit (Value.int IntKind.i64 v9)), []) := w_enc_Vars _ _ _ h10'
    simp [h1, h3, h5, h7, c8, h10]
    rcases iteB_cases h with ⟨c11, h⟩ | ⟨c11, h⟩
    · simp [h1, h3, h5, h7, c8, h10, c11]
      obtain ⟨v12, h13', h⟩ := bind_some' h
      have h13 : ev 19 [T.agg [C.lit (Value.int IntKind.i64 2), C.sl 2 [], sls 2 And.cells [{ a := 4, b := 2 }], C.sl 1 [], C.sl 1 [], C.sl 1 [], C.sl 3 []], T.c (C.lit (Value.int IntKind.i64 1)), T.c (C.lit (Value.int IntKind.i64 7))] = some (T.c (C.lit (Value.int IntKind.i64 v12)), []) := w_enc_Lit _ _ _ _ h13'
      simp [h1, h3, h5, h7, c8, h10, c11, h13]
      rcases iteB_cases h with ⟨c14, h⟩ | ⟨c14, h⟩
      · simp [h1, h3, h5, h7, c8, h10, c11, h13, c14]
        rcases iteB_cases h with ⟨c15, h⟩ | ⟨c15, h⟩
        · simp [h1, h3, h5, h7, c8, h10, c11, h13, c14, c15]
          rcases iteB_cases h with ⟨c16, h⟩ | ⟨c16, h⟩
          · simp [h1, h3, h5, h7, c8, h10, c11, h13, c14, c15, c16]
            cases h
            rfl
          · simp [h1, h3, h5, h7, c8, h10, c11, h13, c14, c15, c16]
            cases h
            rfl
        · simp [h1, h3, h5, h7, c8, h10, c11, h13, c14, c15]
          cases h
          rfl
      · simp [h1, h3, h5, h7, c8, h10, c11, h13, c14]
        cases h
        rfl
    · simp [h1, h3, h5, h7, c8, h10, c11]
      cases h
      rfl
  · simp [h1, h3, h5, h7, c8]
    cases h
    rfl
theorem w_ref06_Vars (a : Aig) (r : Int) (h : ref06_Vars a = some r) : ev 13 [T.agg (Aig.cells a)] = some (T.c (C.lit (Value.int IntKind.i64 r)), []) := by
  refine ev_run' (kp := k13) (us := [3]) fn13 rfl rfl rfl rfl rfl (by kernel_rfl) (by simp) ?_
  unfold ref06_Vars at h
  simp
  cases h
  rfl
theorem w_ref06_Small (a : Aig) (most : Int) (r : Bool) (h : ref06_Small a most = some r) : ev 42 [T.agg (Aig.cells a), T.c (C.lit (Value.int IntKind.i64 most))] = some (T.c (C.lit (Value.bool r)), []) := by
  refine ev_run' (kp := k42) (us := [4]) fn42 rfl rfl rfl rfl rfl (by kernel_rfl) (by simp) ?_
  unfold ref06_Small at h
  simp
  rcases iteB_cases h with ⟨c0, h⟩ | ⟨c0, h⟩
  · simp [c0]
    cases h
    rfl
  · simp [c0]
    rcases iteB_cases h with ⟨c1, h⟩ | ⟨c1, h⟩
    · simp [c0, c1]
      cases h
      rfl
    · simp [c0, c1]
      rcases iteB_cases h with ⟨c2, h⟩ | ⟨c2, h⟩
      · simp [c0, c1, c2]
        cases h
        rfl
      · simp [c0, c1, c2]
        rcases iteB_cases h with ⟨c3, h⟩ | ⟨c3, h⟩
        · simp [c0, c1, c2, c3]
          cases h
          rfl
        · simp [c0, c1, c2, c3]
          rcases iteB_cases h with ⟨c4, h⟩ | ⟨c4, h⟩
          · simp [c0, c1, c2, c3, c4]
            cases h
            rfl
          · simp [c0, c1, c2, c3, c4]
            rcases iteB_cases h with ⟨c5, h⟩ | ⟨c5, h⟩
            · simp [c0, c1, c2, c3, c4, c5]
              cases h
              rfl
            · simp [c0, c1, c2, c3, c4, c5]
              rcases iteB_cases h with ⟨c6, h⟩ | ⟨c6, h⟩
              · simp [c0, c1, c2, c3, c4, c5, c6]
                cases h
                rfl
              · simp [c0, c1, c2, c3, c4, c5, c6]
                obtain ⟨w24, h23, h⟩ := bind_some' h
                rw [evLoop_loopF (ι := Int) (ρ := Unit ⊕ Unit) (fun p => match p with | x18 => mk 67 [(2, T.c (C.ptr 2 0 0)), (5, T.c (C.lit (Value.int IntKind.i64 x18)))] [(2, { box := true, free := true, elem := 27, sz := 7, es := [a.cells] })] []) (fun r => match r with | .inl () => (Ex.ret, mk 67 [(4, T.c (C.lit (Value.bool false)))] [] []) | .inr () => (Ex.exit 0, mk 67 [] [] [])) (ref06_Small_B0 a) h23 ?_ _ ?_]
                · rcases w24 with ⟨⟩ | ⟨⟩
                  · simp [c0, c1, c2, c3, c4, c5, c6]
                    cases h
                    rfl
                  · simp [c0, c1, c2, c3, c4, c5, c6]
                    cases h
                    rfl
                · clear h23 h
                  rintro x18 y L res h hL hR
                  unfold ref06_Small_B0 at h
                  simp
                  rcases iteB_cases h with ⟨c19, h⟩ | ⟨c19, h⟩
                  · simp [c19]
                    obtain ⟨v20, h21, h⟩ := bind_some' h
                    simp [c19, h21]
                    rcases iteB_cases h with ⟨c22, h⟩ | ⟨c22, h⟩
                    · simp [c19, h21, c22]
                      cases h
                      exact hR _ rfl
                    · simp [c19, h21, c22]
                      cases h
                      exact hL _ _ rfl (by simp [headOf])
                  · simp [c19]
                    cases h
                    exact hR _ rfl
                · simp [headOf]
theorem w_ref06_lits (l : List Int) (v : Int) (r : Bool) (h : ref06_lits l v = some r) : ev 50 [T.c (sls 1 intF l), T.c (C.lit (Value.int IntKind.i64 v))] = some (T.c (C.lit (Value.bool r)), []) := by
  refine ev_run' (kp := k50) (us := [4]) fn50 rfl rfl rfl rfl rfl (by kernel_rfl) (by simp) ?_
  unfold ref06_lits at h
  simp
  obtain ⟨w21, h20, h⟩ := bind_some' h
  rw [evLoop_loopF (ι := Int) (ρ := Unit ⊕ Unit) (fun p => match p with | x14 => mk 30 [(0, T.c (sls 1 intF l)), (1, T.c (C.lit (Value.int IntKind.i64 v))), (5, T.c (C.lit (Value.int IntKind.i64 x14)))] [] []) (fun r => match r with | .inl () => (Ex.ret, mk 30 [(4, T.c (C.lit (Value.bool false)))] [] []) | .inr () => (Ex.exit 0, mk 30 [(0, T.c (sls 1 intF l))] [] [])) (ref06_lits_B0 l v) h20 ?_ _ ?_]
  · rcases w21 with ⟨⟩ | ⟨⟩
    · simp
      cases h
      rfl
    · simp
      cases h
      rfl
  · clear h20 h
    rintro x14 y L res h hL hR
    unfold ref06_lits_B0 at h
    simp
    rcases iteB_cases h with ⟨c15, h⟩ | ⟨c15, h⟩
    · simp [c15]
      obtain ⟨v16, h17, h⟩ := bind_some' h
      simp [c15, h17]
      rcases iteB_cases h with ⟨c18, h⟩ | ⟨c18, h⟩
      · simp [c15, h17, c18]
        cases h
        exact hR _ rfl
      · simp [c15, h17, c18]
        rcases iteB_cases h with ⟨c19, h⟩ | ⟨c19, h⟩
        · simp [c15, h17, c18, c19]
          cases h
          exact hR _ rfl
        · simp [c15, h17, c18, c19]
          cases h
          exact hL _ _ rfl (by simp [headOf])
    · simp [c15]
      cases h
      exact hR _ rfl
  · simp [headOf]
end Go.Proofs.Ytdoapnmbopifjaa

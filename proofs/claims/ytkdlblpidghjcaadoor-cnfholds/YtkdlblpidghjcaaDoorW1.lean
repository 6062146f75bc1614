/- What the interpreter comes to is what the plain functions come to. No condition. -/
import Derived.Test.YtkdlblpidghjcaaDoorW0
set_option linter.unusedSimpArgs false
set_option linter.unusedVariables false
set_option maxRecDepth 20000
set_option maxHeartbeats 4000000
namespace Go.Proofs.YtkdlblpidghjcaaDoor
open Go.Vabs Go.Vid
theorem w_cnf_Print (f_ : Cnf) (r : ByteArray × Int) (h : cnf_Print f_ = some r) : ev 12 [T.agg (Cnf.cells f_)] = some (T.tup [T.c (C.lit (Value.string r.1)), T.c (C.lit (Value.int IntKind.i64 r.2))], []) := by
 refine ev_run' (kp := k12) (us := [9, 28]) fn12 rfl rfl rfl rfl rfl (by kernel_rfl) rfl (by simp) ?_
 unfold cnf_Print at h
 simp
 obtain ⟨v0, h1', h⟩ := bind_some' h
 have h1 : ev 16 [T.agg f_.cells] = some (T.c (C.lit (Value.bool v0)), []) := w_cnf_Right _ _ h1'
 simp [h1]
 rcases iteB_cases h with ⟨c2, h⟩ | ⟨c2, h⟩
 ·simp [h1, c2]
  obtain ⟨v3, h4', h⟩ := bind_some' h
  have h4 : ev 29 [T.c (C.lit (Value.string { data := #[112, 32, 99, 110, 102, 32] })), T.c (sls 1 intF [f_.N, lenI f_.cs])] = some (T.c (C.lit (Value.string v3)), []) := w_cnf_line _ _ _ h4'
  simp [h1, c2, h4]
  rw [evL_peel (s0 := mk 36 [(4, T.c (C.ref 17 0 (lenN [v3]))), (19, T.c (rows f_.cs)), (20, T.c (C.lit (Value.int IntKind.i64 (lenI f_.cs)))), (21, T.c (C.lit (Value.int IntKind.i64 0)))] [(17, rowO 9 1 strF [v3])] []) ?_]
  ·simp [h1, c2, h4]
   rcases iteB_cases h with ⟨c17, h⟩ | ⟨c17, h⟩
   ·simp [h1, c2, h4, c17]
    obtain ⟨v18, h19, h⟩ := bind_some' h
    simp [h1, c2, h4, c17, h19]
    obtain ⟨v20, h21', h⟩ := bind_some' h
    have h21 : ev 30 [T.c (sls 1 intF v18)] = some (T.c (C.ref 0 0 (lenN v20)), [rowO 3 1 intF v20]) := w_slices_Clone _ _ h21'
    simp [h1, c2, h4, c17, h19, h21]
    rcases iteB_cases h with ⟨c22, h⟩ | ⟨c22, h⟩
    ·simp [h1, c2, h4, c17, h19, h21, c22]
     obtain ⟨v23, h24', h⟩ := bind_some' h
     have h24 : ev 29 [T.c (C.lit (Value.string { data := #[] })), T.c (sls 1 intF (v20 ++ [0]))] = some (T.c (C.lit (Value.string v23)), []) := w_cnf_line _ _ _ h24'
     simp [h1, c2, h4, c17, h19, h21, c22, h24]
     rcases iteB_cases h with ⟨c25, h⟩ | ⟨c25, h⟩
     ·simp [h1, c2, h4, c17, h19, h21, c22, h24, c25]
      obtain ⟨y61, h64, h⟩ := bind_some' h
      rw [evLoop_loopF (ι := (List ByteArray) × Int) (ρ := (List ByteArray)) (fun p => match p with | (x50, x51) => mk 36 [(4, T.c (C.ref 17 0 (lenN x50))), (19, T.c (sls 1 rowF f_.cs)), (20, T.c (C.lit (Value.int IntKind.i64 (lenI f_.cs)))), (21, T.c (C.lit (Value.int IntKind.i64 x51)))] [(17, rowO 9 1 strF x50)] []) (fun r => match r with | y61 => (Ex.exit 0, mk 36 [(4, T.c (C.ref 17 0 (lenN y61)))] [(17, rowO 9 1 strF y61)] [])) (cnf_Print_B0 f_) h64 ?_ _ ?_]
      ·simp [h1, c2, h4, c17, h19, h21, c22, h24, c25]
       obtain ⟨v62, h63', h⟩ := bind_some' h
       have h63 : ev 31 [T.c (sls 1 strF y61), T.c (C.lit (Value.string { data := #[] }))] = some (T.c (C.lit (Value.string v62)), []) := w_strings_Join _ _ _ h63'
       simp [h1, c2, h4, c17, h19, h21, c22, h24, c25, h63]
       cases h
       rfl
      ·clear h64 h
       rintro ⟨x50, x51⟩ y L res h hL hR
       unfold cnf_Print_B0 at h
       simp
       rcases iteB_cases h with ⟨c52, h⟩ | ⟨c52, h⟩
       ·simp [c52]
        obtain ⟨v53, h54, h⟩ := bind_some' h
        simp [c52, h54]
        obtain ⟨v55, h56', h⟩ := bind_some' h
        have h56 : ev 30 [T.c (sls 1 intF v53)] = some (T.c (C.ref 0 0 (lenN v55)), [rowO 3 1 intF v55]) := w_slices_Clone _ _ h56'
        simp [c52, h54, h56]
        rcases iteB_cases h with ⟨c57, h⟩ | ⟨c57, h⟩
        ·simp [c52, h54, h56, c57]
         obtain ⟨v58, h59', h⟩ := bind_some' h
         have h59 : ev 29 [T.c (C.lit (Value.string { data := #[] })), T.c (sls 1 intF (v55 ++ [0]))] = some (T.c (C.lit (Value.string v58)), []) := w_cnf_line _ _ _ h59'
         simp [c52, h54, h56, c57, h59]
         rcases iteB_cases h with ⟨c60, h⟩ | ⟨c60, h⟩
         ·simp [c52, h54, h56, c57, h59, c60]
          cases h
          exact hL _ _ rfl (by simp [headOf])
         ·simp [c52, h54, h56, c57, h59, c60]
          cases h
        ·simp [c52, h54, h56, c57]
         cases h
       ·simp [c52]
        cases h
        exact hR _ rfl
      ·simp [headOf]
     ·simp [h1, c2, h4, c17, h19, h21, c22, h24, c25]
      cases h
    ·simp [h1, c2, h4, c17, h19, h21, c22]
     cases h
   ·simp [h1, c2, h4, c17]
    obtain ⟨v66, h67', h⟩ := bind_some' h
    have h67 : ev 31 [T.c (sls 1 strF [v3]), T.c (C.lit (Value.string { data := #[] }))] = some (T.c (C.lit (Value.string v66)), []) := w_strings_Join _ _ _ h67'
    simp [h1, c2, h4, c17, h67]
    cases h
    rfl
  ·simp [headOf]
 ·simp [h1, c2]
  cases h
  rfl
theorem w_cnf_Clause_1_cl (l : Int) (k1 : List Bool) (r : Bool) (h : cnf_Clause_1_cl l k1 = some r) : ev 52 [T.c (C.lit (Value.int IntKind.i64 l)), T.c (C.fptr [sls 1 boolF k1] 0)] = some (T.c (C.lit (Value.bool r)), []) := by
 refine ev_run' (kp := k52) (us := [4]) fn52 rfl rfl rfl rfl rfl (by kernel_rfl) rfl (by simp) ?_
 unfold cnf_Clause_1_cl at h
 simp
 rcases iteB_cases h with ⟨c0, h⟩ | ⟨c0, h⟩
 ·simp [c0]
  rcases iteB_cases h with ⟨c1, h⟩ | ⟨c1, h⟩
  ·simp [c0, c1]
   obtain ⟨v2, h3, h⟩ := bind_some' h
   simp [c0, c1, h3]
   cases h
   rfl
  ·simp [c0, c1]
   cases h
   rfl
 ·simp [c0]
  cases h
  rfl
theorem w_slices_IndexFunc_cl (s : List Int) (f_ : List Bool) (r : Int) (h : slices_IndexFunc_cl s f_ = some r) : ev 64 [T.c (sls 1 intF s), T.c (C.fn 52 [C.fptr [sls 1 boolF f_] 0])] = some (T.c (C.lit (Value.int IntKind.i64 r)), []) := by
 refine ev_run' (kp := k64) (us := [3]) fn64 rfl rfl rfl rfl rfl (by kernel_rfl) rfl (by simp) ?_
 unfold slices_IndexFunc_cl at h
 simp
 obtain ⟨w25, h24, h⟩ := bind_some' h
 rw [evLoop_loopF (ι := Int) (ρ := Int ⊕ Unit) (fun p => match p with | x16 => mk 19 [(0, T.c (sls 1 intF s)), (1, T.c (C.fn 52 [C.fptr [sls 1 boolF f_] 0])), (7, T.c (C.lit (Value.int IntKind.i64 (lenI s)))), (8, T.c (C.lit (Value.int IntKind.i64 x16)))] [] []) (fun r => match r with | .inl y23 => (Ex.ret, mk 19 [(4, T.c (C.lit (Value.int IntKind.i64 y23)))] [] []) | .inr () => (Ex.exit 0, mk 19 [] [] [])) (slices_IndexFunc_cl_B0 s f_) h24 ?_ _ ?_]
 ·rcases w25 with y23 | ⟨⟩
  ·simp
   cases h
   rfl
  ·simp
   cases h
   rfl
 ·clear h24 h
  rintro x16 y L res h hL hR
  unfold slices_IndexFunc_cl_B0 at h
  simp
  rcases iteB_cases h with ⟨c17, h⟩ | ⟨c17, h⟩
  ·simp [c17]
   obtain ⟨v18, h19, h⟩ := bind_some' h
   simp [c17, h19]
   obtain ⟨v20, h21', h⟩ := bind_some' h
   have h21 : ev 52 [T.c (C.lit (Value.int IntKind.i64 v18)), T.c (C.fptr [sls 1 boolF f_] 0)] = some (T.c (C.lit (Value.bool v20)), []) := w_cnf_Clause_1_cl _ _ _ h21'
   simp [c17, h19, h21]
   rcases iteB_cases h with ⟨c22, h⟩ | ⟨c22, h⟩
   ·simp [c17, h19, h21, c22]
    cases h
    exact hR _ rfl
   ·simp [c17, h19, h21, c22]
    cases h
    exact hL _ _ rfl (by simp [headOf])
  ·simp [c17]
   cases h
   exact hR _ rfl
 ·simp [headOf]
theorem w_slices_ContainsFunc_cl (s : List Int) (f_ : List Bool) (r : Bool) (h : slices_ContainsFunc_cl s f_ = some r) : ev 44 [T.c (sls 1 intF s), T.c (C.fn 52 [C.fptr [sls 1 boolF f_] 0])] = some (T.c (C.lit (Value.bool r)), []) := by
 refine ev_run' (kp := k44) (us := [4]) fn44 rfl rfl rfl rfl rfl (by kernel_rfl) rfl (by simp) ?_
 unfold slices_ContainsFunc_cl at h
 simp
 obtain ⟨v0, h1', h⟩ := bind_some' h
 have h1 : ev 64 [T.c (sls 1 intF s), T.c (C.fn 52 [C.fptr [sls 1 boolF f_] 0])] = some (T.c (C.lit (Value.int IntKind.i64 v0)), []) := w_slices_IndexFunc_cl _ _ _ h1'
 simp [h1]
 cases h
 rfl
theorem w_cnf_Clause (c : List Int) (m : List Bool) (r : Bool) (h : cnf_Clause c m = some r) : ev 25 [T.c (sls 1 intF c), T.c (sls 1 boolF m)] = some (T.c (C.lit (Value.bool r)), []) := by
 refine ev_run' (kp := k25) (us := [4]) fn25 rfl rfl rfl rfl rfl (by kernel_rfl) rfl (by simp) ?_
 unfold cnf_Clause at h
 simp
 obtain ⟨v0, h1', h⟩ := bind_some' h
 have h1 : ev 44 [T.c (sls 1 intF c), T.c (C.fn 52 [C.fptr (browF m) 0])] = some (T.c (C.lit (Value.bool v0)), []) := w_slices_ContainsFunc_cl _ _ _ h1'
 simp [h1]
 cases h
 rfl
theorem w_slices_IndexFunc_cln (f_ : List Bool) (r : Int) (h : slices_IndexFunc_cln f_ = some r) : ev 64 [T.c (C.lit (Value.slice none 0 0)), T.c (C.fn 52 [C.fptr [sls 1 boolF f_] 0])] = some (T.c (C.lit (Value.int IntKind.i64 r)), []) := by
 refine ev_run' (kp := k64) (us := [3]) fn64 rfl rfl rfl rfl rfl (by kernel_rfl) rfl (by simp) ?_
 unfold slices_IndexFunc_cln at h
 simp
 obtain ⟨w6, h5, h⟩ := bind_some' h
 rw [evLoop_loopF (ι := Unit) (ρ := Unit) (fun p => match p with | () => mk 19 [(0, T.c (C.lit (Value.slice none 0 0))), (1, T.c (C.fn 52 [C.fptr [sls 1 boolF f_] 0])), (7, T.c (C.lit (Value.int IntKind.i64 0))), (8, T.c (C.lit (Value.int IntKind.i64 0)))] [] []) (fun r => match r with | () => (Ex.exit 0, mk 19 [] [] [])) (slices_IndexFunc_cln_B0) h5 ?_ _ ?_]
 ·obtain ⟨⟩ := w6
  simp
  cases h
  rfl
 ·clear h5 h
  rintro ⟨⟩ y L res h hL hR
  unfold slices_IndexFunc_cln_B0 at h
  simp
  rcases iteB_cases h with ⟨c4, h⟩ | ⟨c4, h⟩
  ·simp [c4]
   cases h
  ·simp [c4]
   cases h
   exact hR _ rfl
 ·simp [headOf]
theorem w_slices_ContainsFunc_cln (f_ : List Bool) (r : Bool) (h : slices_ContainsFunc_cln f_ = some r) : ev 44 [T.c (C.lit (Value.slice none 0 0)), T.c (C.fn 52 [C.fptr [sls 1 boolF f_] 0])] = some (T.c (C.lit (Value.bool r)), []) := by
 refine ev_run' (kp := k44) (us := [4]) fn44 rfl rfl rfl rfl rfl (by kernel_rfl) rfl (by simp) ?_
 unfold slices_ContainsFunc_cln at h
 simp
 obtain ⟨v0, h1', h⟩ := bind_some' h
 have h1 : ev 64 [T.c (C.lit (Value.slice none 0 0)), T.c (C.fn 52 [C.fptr [sls 1 boolF f_] 0])] = some (T.c (C.lit (Value.int IntKind.i64 v0)), []) := w_slices_IndexFunc_cln _ _ h1'
 simp [h1]
 cases h
 rfl
theorem w_cnf_Clause_nil (m : List Bool) (r : Bool) (h : cnf_Clause_nil m = some r) : ev 25 [T.c (C.lit (Value.slice none 0 0)), T.c (sls 1 boolF m)] = some (T.c (C.lit (Value.bool r)), []) := by
 refine ev_run' (kp := k25) (us := [4]) fn25 rfl rfl rfl rfl rfl (by kernel_rfl) rfl (by simp) ?_
 unfold cnf_Clause_nil at h
 simp
 obtain ⟨v0, h1', h⟩ := bind_some' h
 have h1 : ev 44 [T.c (C.lit (Value.slice none 0 0)), T.c (C.fn 52 [C.fptr (browF m) 0])] = some (T.c (C.lit (Value.bool v0)), []) := w_slices_ContainsFunc_cln _ _ h1'
 simp [h1]
 cases h
 rfl
theorem w_cnf_Holds_1_ho (c : List Int) (k1 : List Bool) (r : Bool) (h : cnf_Holds_1_ho c k1 = some r) : ev 53 [T.c (sls 1 intF c), T.c (C.fptr [sls 1 boolF k1] 0)] = some (T.c (C.lit (Value.bool r)), []) := by
 refine ev_run' (kp := k53) (us := [4]) fn53 rfl rfl rfl rfl rfl (by kernel_rfl) rfl (by simp) ?_
 unfold cnf_Holds_1_ho at h
 simp
 obtain ⟨v0, h1', h⟩ := bind_some' h
 have h1 : ev 25 [T.c (sls 1 intF c), T.c (sls 1 boolF k1)] = some (T.c (C.lit (Value.bool v0)), []) := w_cnf_Clause _ _ _ h1'
 simp [h1]
 cases h
 rfl
theorem w_slices_IndexFunc'_ho (s : List (List Int)) (f_ : List Bool) (r : Int) (h : slices_IndexFunc'_ho s f_ = some r) : ev 65 [T.c (sls 1 rowF s), T.c (C.fn 53 [C.fptr [sls 1 boolF f_] 0])] = some (T.c (C.lit (Value.int IntKind.i64 r)), []) := by
 refine ev_run' (kp := k65) (us := [3]) fn65 rfl rfl rfl rfl rfl (by kernel_rfl) rfl (by simp) ?_
 unfold slices_IndexFunc'_ho at h
 simp
 obtain ⟨w25, h24, h⟩ := bind_some' h
 rw [evLoop_loopF (ι := Int) (ρ := Int ⊕ Unit) (fun p => match p with | x16 => mk 19 [(0, T.c (sls 1 rowF s)), (1, T.c (C.fn 53 [C.fptr [sls 1 boolF f_] 0])), (7, T.c (C.lit (Value.int IntKind.i64 (lenI s)))), (8, T.c (C.lit (Value.int IntKind.i64 x16)))] [] []) (fun r => match r with | .inl y23 => (Ex.ret, mk 19 [(4, T.c (C.lit (Value.int IntKind.i64 y23)))] [] []) | .inr () => (Ex.exit 0, mk 19 [] [] [])) (slices_IndexFunc'_ho_B0 s f_) h24 ?_ _ ?_]
 ·rcases w25 with y23 | ⟨⟩
  ·simp
   cases h
   rfl
  ·simp
   cases h
   rfl
 ·clear h24 h
  rintro x16 y L res h hL hR
  unfold slices_IndexFunc'_ho_B0 at h
  simp
  rcases iteB_cases h with ⟨c17, h⟩ | ⟨c17, h⟩
  ·simp [c17]
   obtain ⟨v18, h19, h⟩ := bind_some' h
   simp [c17, h19]
   obtain ⟨v20, h21', h⟩ := bind_some' h
   have h21 : ev 53 [T.c (sls 1 intF v18), T.c (C.fptr [sls 1 boolF f_] 0)] = some (T.c (C.lit (Value.bool v20)), []) := w_cnf_Holds_1_ho _ _ _ h21'
   simp [c17, h19, h21]
   rcases iteB_cases h with ⟨c22, h⟩ | ⟨c22, h⟩
   ·simp [c17, h19, h21, c22]
    cases h
    exact hR _ rfl
   ·simp [c17, h19, h21, c22]
    cases h
    exact hL _ _ rfl (by simp [headOf])
  ·simp [c17]
   cases h
   exact hR _ rfl
 ·simp [headOf]
theorem w_slices_ContainsFunc'_ho (s : List (List Int)) (f_ : List Bool) (r : Bool) (h : slices_ContainsFunc'_ho s f_ = some r) : ev 45 [T.c (sls 1 rowF s), T.c (C.fn 53 [C.fptr [sls 1 boolF f_] 0])] = some (T.c (C.lit (Value.bool r)), []) := by
 refine ev_run' (kp := k45) (us := [4]) fn45 rfl rfl rfl rfl rfl (by kernel_rfl) rfl (by simp) ?_
 unfold slices_ContainsFunc'_ho at h
 simp
 obtain ⟨v0, h1', h⟩ := bind_some' h
 have h1 : ev 65 [T.c (sls 1 rowF s), T.c (C.fn 53 [C.fptr [sls 1 boolF f_] 0])] = some (T.c (C.lit (Value.int IntKind.i64 v0)), []) := w_slices_IndexFunc'_ho _ _ _ h1'
 simp [h1]
 cases h
 rfl
theorem w_cnf_Holds (f_ : Cnf) (m : List Bool) (r : Bool) (h : cnf_Holds f_ m = some r) : ev 27 [T.agg (Cnf.cells f_), T.c (sls 1 boolF m)] = some (T.c (C.lit (Value.bool r)), []) := by
 refine ev_run' (kp := k27) (us := [4]) fn27 rfl rfl rfl rfl rfl (by kernel_rfl) rfl (by simp) ?_
 unfold cnf_Holds at h
 simp
 obtain ⟨v0, h1', h⟩ := bind_some' h
 have h1 : ev 45 [T.c (sls 1 rowF f_.cs), T.c (C.fn 53 [C.fptr (browF m) 0])] = some (T.c (C.lit (Value.bool v0)), []) := w_slices_ContainsFunc'_ho _ _ _ h1'
 simp [h1]
 cases h
 rfl
theorem w_slices_Equal (s1 : List Int) (s2 : List Int) (r : Bool) (h : slices_Equal s1 s2 = some r) : ev 48 [T.c (sls 1 intF s1), T.c (sls 1 intF s2)] = some (T.c (C.lit (Value.bool r)), []) := by
 refine ev_run' (kp := k48) (us := [4]) fn48 rfl rfl rfl rfl rfl (by kernel_rfl) rfl (by simp) ?_
 unfold slices_Equal at h
 simp
 rcases iteB_cases h with ⟨c0, h⟩ | ⟨c0, h⟩
 ·simp [c0]
  obtain ⟨w26, h25, h⟩ := bind_some' h
  rw [evLoop_loopF (ι := Int) (ρ := Unit ⊕ Unit) (fun p => match p with | x18 => mk 26 [(0, T.c (sls 1 intF s1)), (1, T.c (sls 1 intF s2)), (12, T.c (C.lit (Value.int IntKind.i64 (lenI s1)))), (13, T.c (C.lit (Value.int IntKind.i64 x18)))] [] []) (fun r => match r with | .inl () => (Ex.ret, mk 26 [(4, T.c (C.lit (Value.bool false)))] [] []) | .inr () => (Ex.exit 0, mk 26 [] [] [])) (slices_Equal_B0 s1 s2) h25 ?_ _ ?_]
  ·rcases w26 with ⟨⟩ | ⟨⟩
   ·simp [c0]
    cases h
    rfl
   ·simp [c0]
    cases h
    rfl
  ·clear h25 h
   rintro x18 y L res h hL hR
   unfold slices_Equal_B0 at h
   simp
   rcases iteB_cases h with ⟨c19, h⟩ | ⟨c19, h⟩
   ·simp [c19]
    obtain ⟨v20, h21, h⟩ := bind_some' h
    simp [c19, h21]
    obtain ⟨v22, h23, h⟩ := bind_some' h
    simp [c19, h21, h23]
    rcases iteB_cases h with ⟨c24, h⟩ | ⟨c24, h⟩
    ·simp [c19, h21, h23, c24]
     cases h
     exact hL _ _ rfl (by simp [headOf])
    ·simp [c19, h21, h23, c24]
     cases h
     exact hR _ rfl
   ·simp [c19]
    cases h
    exact hR _ rfl
  ·simp [headOf]
 ·simp [c0]
  cases h
  rfl
theorem w_cnf_Same_1 (x : List Int) (y_ : List Int) (r : Bool) (h : cnf_Same_1 x y_ = some r) : ev 47 [T.c (sls 1 intF x), T.c (sls 1 intF y_)] = some (T.c (C.lit (Value.bool r)), []) := by
 refine ev_run' (kp := k47) (us := [4]) fn47 rfl rfl rfl rfl rfl (by kernel_rfl) rfl (by simp) ?_
 unfold cnf_Same_1 at h
 simp
 obtain ⟨v0, h1', h⟩ := bind_some' h
 have h1 : ev 48 [T.c (sls 1 intF x), T.c (sls 1 intF y_)] = some (T.c (C.lit (Value.bool v0)), []) := w_slices_Equal _ _ _ h1'
 simp [h1]
 cases h
 rfl
theorem w_slices_EqualFunc_same (s1 : List (List Int)) (s2 : List (List Int)) (r : Bool) (h : slices_EqualFunc_same s1 s2 = some r) : ev 46 [T.c (sls 1 rowF s1), T.c (sls 1 rowF s2), T.c (C.lit (Go.Value.func (Go.Fn.func 47) #[] #[]))] = some (T.c (C.lit (Value.bool r)), []) := by
 refine ev_run' (kp := k46) (us := [4]) fn46 rfl rfl rfl rfl rfl (by kernel_rfl) rfl (by simp) ?_
 unfold slices_EqualFunc_same at h
 simp
 rcases iteB_cases h with ⟨c0, h⟩ | ⟨c0, h⟩
 ·simp [c0]
  obtain ⟨w32, h31, h⟩ := bind_some' h
  rw [evLoop_loopF (ι := Int) (ρ := Unit ⊕ Unit) (fun p => match p with | x22 => mk 32 [(1, T.c (sls 1 rowF s2)), (2, T.c (C.lit (Value.func (Fn.func 47) #[] #[]))), (15, T.c (sls 1 rowF s1)), (16, T.c (C.lit (Value.int IntKind.i64 (lenI s1)))), (17, T.c (C.lit (Value.int IntKind.i64 x22)))] [] []) (fun r => match r with | .inl () => (Ex.ret, mk 32 [(6, T.c (C.lit (Value.bool false)))] [] []) | .inr () => (Ex.exit 0, mk 32 [] [] [])) (slices_EqualFunc_same_B0 s1 s2) h31 ?_ _ ?_]
  ·rcases w32 with ⟨⟩ | ⟨⟩
   ·simp [c0]
    cases h
    rfl
   ·simp [c0]
    cases h
    rfl
  ·clear h31 h
   rintro x22 y L res h hL hR
   unfold slices_EqualFunc_same_B0 at h
   simp
   rcases iteB_cases h with ⟨c23, h⟩ | ⟨c23, h⟩
   ·simp [c23]
    obtain ⟨v24, h25, h⟩ := bind_some' h
    simp [c23, h25]
    obtain ⟨v26, h27, h⟩ := bind_some' h
    simp [c23, h25, h27]
    obtain ⟨v28, h29', h⟩ := bind_some' h
    have h29 : ev 47 [T.c (sls 1 intF v24), T.c (sls 1 intF v26)] = some (T.c (C.lit (Value.bool v28)), []) := w_cnf_Same_1 _ _ _ h29'
    simp [c23, h25, h27, h29]
    rcases iteB_cases h with ⟨c30, h⟩ | ⟨c30, h⟩
    ·simp [c23, h25, h27, h29, c30]
     cases h
     exact hL _ _ rfl (by simp [headOf])
    ·simp [c23, h25, h27, h29, c30]
     cases h
     exact hR _ rfl
   ·simp [c23]
    cases h
    exact hR _ rfl
  ·simp [headOf]
 ·simp [c0]
  cases h
  rfl
theorem w_cnf_Same (a : Cnf) (b : Cnf) (r : Bool) (h : cnf_Same a b = some r) : ev 18 [T.agg (Cnf.cells a), T.agg (Cnf.cells b)] = some (T.c (C.lit (Value.bool r)), []) := by
 refine ev_run' (kp := k18) (us := [4]) fn18 rfl rfl rfl rfl rfl (by kernel_rfl) rfl (by simp) ?_
 unfold cnf_Same at h
 simp
 rcases iteB_cases h with ⟨c0, h⟩ | ⟨c0, h⟩
 ·simp [c0]
  obtain ⟨v1, h2', h⟩ := bind_some' h
  have h2 : ev 46 [T.c (sls 1 rowF a.cs), T.c (sls 1 rowF b.cs), T.c (C.lit (Value.func (Fn.func 47) #[] #[]))] = some (T.c (C.lit (Value.bool v1)), []) := w_slices_EqualFunc_same _ _ _ h2'
  simp [c0, h2]
  cases h
  rfl
 ·simp [c0]
  cases h
  rfl
theorem w_cnf_PrintModel (m : List Bool) (r : ByteArray) (h : cnf_PrintModel m = some r) : ev 22 [T.c (sls 1 boolF m)] = some (T.c (C.lit (Value.string r)), []) := by
 refine ev_run' (kp := k22) (us := [9]) fn22 rfl rfl rfl rfl rfl (by kernel_rfl) rfl (by simp) ?_
 unfold cnf_PrintModel at h
 simp
 obtain ⟨y26, h30, h⟩ := bind_some' h
 rw [evLoop_loopF (ι := (List Int) × Int) (ρ := (List Int)) (fun p => match p with | (x18, x19) => mk 29 [(3, T.c (C.ref 3 0 (lenN x18))), (7, T.c (sls 1 boolF m)), (8, T.c (C.lit (Value.int IntKind.i64 (lenI m)))), (9, T.c (C.lit (Value.int IntKind.i64 x19)))] [(3, rowO 3 1 intF x18)] []) (fun r => match r with | y26 => (Ex.exit 0, mk 29 [(3, T.c (C.ref 3 0 (lenN y26)))] [(3, rowO 3 1 intF y26)] [])) (cnf_PrintModel_B0 m) h30 ?_ _ ?_]
 ·simp
  rcases iteB_cases h with ⟨c27, h⟩ | ⟨c27, h⟩
  ·simp [c27]
   obtain ⟨v28, h29', h⟩ := bind_some' h
   have h29 : ev 29 [T.c (C.lit (Value.string { data := #[118, 32] })), T.c (sls 1 intF (y26 ++ [0]))] = some (T.c (C.lit (Value.string v28)), []) := w_cnf_line _ _ _ h29'
   simp [c27, h29]
   cases h
   rfl
  ·simp [c27]
   cases h
 ·clear h30 h
  rintro ⟨x18, x19⟩ y L res h hL hR
  unfold cnf_PrintModel_B0 at h
  simp
  rcases iteB_cases h with ⟨c20, h⟩ | ⟨c20, h⟩
  ·simp [c20]
   obtain ⟨v21, h22, h⟩ := bind_some' h
   simp [c20, h22]
   rcases iteB_cases h with ⟨c23, h⟩ | ⟨c23, h⟩
   ·simp [c20, h22, c23]
    rcases iteB_cases h with ⟨c24, h⟩ | ⟨c24, h⟩
    ·simp [c20, h22, c23, c24]
     cases h
     exact hL _ _ rfl (by simp [headOf])
    ·simp [c20, h22, c23, c24]
     cases h
   ·simp [c20, h22, c23]
    rcases iteB_cases h with ⟨c25, h⟩ | ⟨c25, h⟩
    ·simp [c20, h22, c23, c25]
     cases h
     exact hL _ _ rfl (by simp [headOf])
    ·simp [c20, h22, c23, c25]
     cases h
  ·simp [c20]
   cases h
   exact hR _ rfl
 ·simp [headOf]
theorem w_cnf_Parse (b : List Int) (r : Cnf × Int × Int) (h : cnf_Parse b = some r) : ev 14 [T.c (sls 1 byteF b)] = some (T.tup [T.agg [C.lit (Value.int IntKind.i64 r.1.N), C.ref 0 0 (lenN r.1.cs)], T.c (C.lit (Value.int IntKind.i64 r.2.1)), T.c (C.lit (Value.int IntKind.i64 r.2.2))], [rowO 50 1 rowF r.1.cs]) := by
 refine ev_run' (kp := k14) (us := [24, 3, 28]) fn14 rfl rfl rfl rfl rfl (by kernel_rfl) rfl (by simp) ?_
 unfold cnf_Parse at h
 simp
 rcases iteB_cases h with ⟨c0, h⟩ | ⟨c0, h⟩
 ·simp [c0]
  cases h
  rfl
 ·simp [c0]
  obtain ⟨v1, h2', h⟩ := bind_some' h
  have h2 : ev 33 [T.c (C.ptr 9000 0 0), T.c (C.lit (Value.string { data := #[112, 32, 99, 110, 102, 32] })), obT { box := true, free := true, elem := 69, sz := 3, es := [[sls 1 byteF b, C.lit (Value.int IntKind.i64 0), C.lit (Value.int IntKind.i64 0)]] }] = some (T.tup [], [Ob.mk true true 69 3 [Reader_cnf.cells v1]]) := w_cnf_reader_word _ _ _ h2'
  simp [c0, h2]
  obtain ⟨⟨v3, v4⟩, h5', h⟩ := bind_some' h
  have h5 : ev 34 [T.c (C.ptr 9000 0 0), T.c (C.lit (Value.func (Fn.func 35) #[] #[])), T.c (C.lit (Value.int IntKind.i64 100000)), obT { box := true, free := true, elem := 69, sz := 3, es := [[sls 1 byteF v1.b, C.lit (Value.int IntKind.i64 v1.at'), C.lit (Value.int IntKind.i64 v1.e)]] }] = some (T.c (C.lit (Value.int IntKind.i64 v3)), [Ob.mk true true 69 3 [Reader_cnf.cells v4]]) := w_cnf_reader_number _ _ _ h5'
  simp [c0, h2, h5]
  obtain ⟨v6, h7', h⟩ := bind_some' h
  have h7 : ev 33 [T.c (C.ptr 9000 0 0), T.c (C.lit (Value.string { data := #[32] })), obT { box := true, free := true, elem := 69, sz := 3, es := [[sls 1 byteF v4.b, C.lit (Value.int IntKind.i64 v4.at'), C.lit (Value.int IntKind.i64 v4.e)]] }] = some (T.tup [], [Ob.mk true true 69 3 [Reader_cnf.cells v6]]) := w_cnf_reader_word _ _ _ h7'
  simp [c0, h2, h5, h7]
  obtain ⟨⟨v8, v9⟩, h10', h⟩ := bind_some' h
  have h10 : ev 34 [T.c (C.ptr 9000 0 0), T.c (C.lit (Value.func (Fn.func 35) #[] #[])), T.c (C.lit (Value.int IntKind.i64 20000)), obT { box := true, free := true, elem := 69, sz := 3, es := [[sls 1 byteF v6.b, C.lit (Value.int IntKind.i64 v6.at'), C.lit (Value.int IntKind.i64 v6.e)]] }] = some (T.c (C.lit (Value.int IntKind.i64 v8)), [Ob.mk true true 69 3 [Reader_cnf.cells v9]]) := w_cnf_reader_number _ _ _ h10'
  simp [c0, h2, h5, h7, h10]
  obtain ⟨v11, h12', h⟩ := bind_some' h
  have h12 : ev 33 [T.c (C.ptr 9000 0 0), T.c (C.lit (Value.string { data := #[10] })), obT { box := true, free := true, elem := 69, sz := 3, es := [[sls 1 byteF v9.b, C.lit (Value.int IntKind.i64 v9.at'), C.lit (Value.int IntKind.i64 v9.e)]] }] = some (T.tup [], [Ob.mk true true 69 3 [Reader_cnf.cells v11]]) := w_cnf_reader_word _ _ _ h12'
  simp [c0, h2, h5, h7, h10, h12]
  rw [evL_peel (s0 := mk 67 [(2, T.c (C.ptr 2 0 0)), (5, T.c (C.ptr 15 0 0)), (6, T.c (C.ptr 6 0 0)), (27, T.c (C.lit (Value.int IntKind.i64 v8))), (28, T.c (C.lit (Value.int IntKind.i64 0)))] [(2, { box := true, free := true, elem := 24, sz := 2, es := [[C.lit (Value.int IntKind.i64 0), C.lit (Value.slice none 0 0)]] }), (6, { box := true, free := true, elem := 24, sz := 2, es := [[C.lit (Value.int IntKind.i64 v3), C.lit (Value.slice none 0 0)]] }), (15, { box := true, free := true, elem := 69, sz := 3, es := [[sls 1 byteF v11.b, C.lit (Value.int IntKind.i64 v11.at'), C.lit (Value.int IntKind.i64 v11.e)]] })] []) ?_]
  ·simp [c0, h2, h5, h7, h10, h12]
   rcases iteB_cases h with ⟨c26, h⟩ | ⟨c26, h⟩
   ·simp [c0, h2, h5, h7, h10, h12, c26]
    obtain ⟨⟨v27, v28⟩, h29', h⟩ := bind_some' h
    have h29 : ev 36 [T.c (C.ptr 9000 0 0), T.c (C.lit (Value.int IntKind.i64 v3)), obT { box := true, free := true, elem := 69, sz := 3, es := [[sls 1 byteF v11.b, C.lit (Value.int IntKind.i64 v11.at'), C.lit (Value.int IntKind.i64 v11.e)]] }] = some (T.c (C.ref 1 0 (lenN v27)), [Ob.mk true true 69 3 [Reader_cnf.cells v28], rowO 3 1 intF v27]) := w_cnf_reader_clause _ _ _ h29'
    simp [c0, h2, h5, h7, h10, h12, c26, h29]
    rcases iteB_cases h with ⟨c30, h⟩ | ⟨c30, h⟩
    ·simp [c0, h2, h5, h7, h10, h12, c26, h29, c30]
     rcases iteB_cases h with ⟨c31, h⟩ | ⟨c31, h⟩
     ·simp [c0, h2, h5, h7, h10, h12, c26, h29, c30, c31]
      obtain ⟨w76, h75, h⟩ := bind_some' h
      rw [evLoop_loopF (ι := ((List (List Int))) × (List Int) × Int × Int × Int) (ρ := ((List (List Int))) × (List Int) × Int × Int) (fun p => match p with | (x57, x58, x59, x60, x61) => mk 67 [(2, T.c (C.ptr 2 0 0)), (5, T.c (C.ptr 15 0 0)), (6, T.c (C.ptr 6 0 0)), (27, T.c (C.lit (Value.int IntKind.i64 v8))), (28, T.c (C.lit (Value.int IntKind.i64 x61)))] [(2, { box := true, free := true, elem := 24, sz := 2, es := [[C.lit (Value.int IntKind.i64 0), C.lit (Value.slice none 0 0)]] }), (6, { box := true, free := false, elem := 24, sz := 2, es := [[C.lit (Value.int IntKind.i64 v3), C.ref 43 0 (lenN x57)]] }), (15, { box := true, free := true, elem := 69, sz := 3, es := [[sls 1 byteF x58, C.lit (Value.int IntKind.i64 x59), C.lit (Value.int IntKind.i64 x60)]] }), (43, rowO 50 1 rowF x57)] []) (fun r => match r with | (y68, y69, y70, y71) => (Ex.exit 0, mk 67 [(2, T.c (C.ptr 2 0 0)), (5, T.c (C.ptr 15 0 0)), (6, T.c (C.ptr 6 0 0))] [(2, { box := true, free := true, elem := 24, sz := 2, es := [[C.lit (Value.int IntKind.i64 0), C.lit (Value.slice none 0 0)]] }), (6, { box := true, free := false, elem := 24, sz := 2, es := [[C.lit (Value.int IntKind.i64 v3), C.ref 43 0 (lenN y68)]] }), (15, { box := true, free := true, elem := 69, sz := 3, es := [[sls 1 byteF y69, C.lit (Value.int IntKind.i64 y70), C.lit (Value.int IntKind.i64 y71)]] }), (43, rowO 50 1 rowF y68)] [])) (cnf_Parse_B0 b v3 v8) h75 ?_ _ ?_]
      ·obtain ⟨y68, y69, y70, y71⟩ := w76
       simp [c0, h2, h5, h7, h10, h12, c26, h29, c30, c31]
       obtain ⟨v72, h73', h⟩ := bind_some' h
       have h73 : ev 37 [T.c (C.ptr 9000 0 0), obT { box := true, free := true, elem := 69, sz := 3, es := [[sls 1 byteF y69, C.lit (Value.int IntKind.i64 y70), C.lit (Value.int IntKind.i64 y71)]] }] = some (T.tup [], [Ob.mk true true 69 3 [Reader_cnf.cells v72]]) := w_cnf_reader_end _ _ h73'
       simp [c0, h2, h5, h7, h10, h12, c26, h29, c30, c31, h73]
       rcases iteB_cases h with ⟨c74, h⟩ | ⟨c74, h⟩
       ·simp [c0, h2, h5, h7, h10, h12, c26, h29, c30, c31, h73, c74]
        cases h
        rfl
       ·simp [c0, h2, h5, h7, h10, h12, c26, h29, c30, c31, h73, c74]
        cases h
        rfl
      ·clear h75 h
       rintro ⟨x57, x58, x59, x60, x61⟩ y L res h hL hR
       unfold cnf_Parse_B0 at h
       simp
       rcases iteB_cases h with ⟨c62, h⟩ | ⟨c62, h⟩
       ·simp [c62]
        obtain ⟨⟨v63, v64⟩, h65', h⟩ := bind_some' h
        have h65 : ev 36 [T.c (C.ptr 9000 0 0), T.c (C.lit (Value.int IntKind.i64 v3)), obT { box := true, free := true, elem := 69, sz := 3, es := [[sls 1 byteF x58, C.lit (Value.int IntKind.i64 x59), C.lit (Value.int IntKind.i64 x60)]] }] = some (T.c (C.ref 1 0 (lenN v63)), [Ob.mk true true 69 3 [Reader_cnf.cells v64], rowO 3 1 intF v63]) := w_cnf_reader_clause _ _ _ h65'
        simp [c62, h65]
        rcases iteB_cases h with ⟨c66, h⟩ | ⟨c66, h⟩
        ·simp [c62, h65, c66]
         rcases iteB_cases h with ⟨c67, h⟩ | ⟨c67, h⟩
         ·simp [c62, h65, c66, c67]
          cases h
          exact hL _ _ rfl (by simp [headOf])
         ·simp [c62, h65, c66, c67]
          cases h
        ·simp [c62, h65, c66]
         cases h
         exact hR _ rfl
       ·simp [c62]
        cases h
        exact hR _ rfl
      ·simp [headOf]
     ·simp [c0, h2, h5, h7, h10, h12, c26, h29, c30, c31]
      cases h
    ·simp [c0, h2, h5, h7, h10, h12, c26, h29, c30]
     obtain ⟨v77, h78', h⟩ := bind_some' h
     have h78 : ev 37 [T.c (C.ptr 9000 0 0), obT { box := true, free := true, elem := 69, sz := 3, es := [[sls 1 byteF v28.b, C.lit (Value.int IntKind.i64 v28.at'), C.lit (Value.int IntKind.i64 v28.e)]] }] = some (T.tup [], [Ob.mk true true 69 3 [Reader_cnf.cells v77]]) := w_cnf_reader_end _ _ h78'
     simp [c0, h2, h5, h7, h10, h12, c26, h29, c30, h78]
     rcases iteB_cases h with ⟨c79, h⟩ | ⟨c79, h⟩
     ·simp [c0, h2, h5, h7, h10, h12, c26, h29, c30, h78, c79]
      cases h
      rfl
     ·simp [c0, h2, h5, h7, h10, h12, c26, h29, c30, h78, c79]
      cases h
      rfl
   ·simp [c0, h2, h5, h7, h10, h12, c26]
    obtain ⟨v80, h81', h⟩ := bind_some' h
    have h81 : ev 37 [T.c (C.ptr 9000 0 0), obT { box := true, free := true, elem := 69, sz := 3, es := [[sls 1 byteF v11.b, C.lit (Value.int IntKind.i64 v11.at'), C.lit (Value.int IntKind.i64 v11.e)]] }] = some (T.tup [], [Ob.mk true true 69 3 [Reader_cnf.cells v80]]) := w_cnf_reader_end _ _ h81'
    simp [c0, h2, h5, h7, h10, h12, c26, h81]
    rcases iteB_cases h with ⟨c82, h⟩ | ⟨c82, h⟩
    ·simp [c0, h2, h5, h7, h10, h12, c26, h81, c82]
     cases h
     rfl
    ·simp [c0, h2, h5, h7, h10, h12, c26, h81, c82]
     cases h
     rfl
  ·simp [headOf]
theorem w_cnf_ParseModel (b : List Int) (n : Int) (r : (List Bool) × Int × Int) (h : cnf_ParseModel b n = some r) : ev 20 [T.c (sls 1 byteF b), T.c (C.lit (Value.int IntKind.i64 n))] = some (T.tup [T.c (C.ref 0 0 (lenN r.1)), T.c (C.lit (Value.int IntKind.i64 r.2.1)), T.c (C.lit (Value.int IntKind.i64 r.2.2))], [rowO 4 1 boolF r.1]) := by
 refine ev_run' (kp := k20) (us := [40, 3, 28]) fn20 rfl rfl rfl rfl rfl (by kernel_rfl) rfl (by simp) ?_
 unfold cnf_ParseModel at h
 simp
 obtain ⟨v0, h1', h⟩ := bind_some' h
 have h1 : ev 33 [T.c (C.ptr 9000 0 0), T.c (C.lit (Value.string { data := #[118, 32] })), obT { box := true, free := true, elem := 69, sz := 3, es := [[sls 1 byteF b, C.lit (Value.int IntKind.i64 0), C.lit (Value.int IntKind.i64 0)]] }] = some (T.tup [], [Ob.mk true true 69 3 [Reader_cnf.cells v0]]) := w_cnf_reader_word _ _ _ h1'
 simp [h1]
 obtain ⟨w98, h97, h⟩ := bind_some' h
 rw [evLoop_loopF (ι := (List Bool) × (List Int) × Int × Int × Int) (ρ := (List Bool) × (List Int) × Int × Int) (fun p => match p with | (x60, x61, x62, x63, x64) => mk 83 [(0, T.c (sls 1 byteF b)), (7, T.c (C.ptr 15 0 0)), (8, T.c (C.ref 8 0 (lenN x60))), (18, T.c (C.lit (Value.int IntKind.i64 n))), (19, T.c (C.lit (Value.int IntKind.i64 x64)))] [(8, rowO 4 1 boolF x60), (15, { box := true, free := true, elem := 69, sz := 3, es := [[sls 1 byteF x61, C.lit (Value.int IntKind.i64 x62), C.lit (Value.int IntKind.i64 x63)]] })] []) (fun r => match r with | (y88, y89, y90, y91) => (Ex.exit 0, mk 83 [(7, T.c (C.ptr 15 0 0)), (8, T.c (C.ref 8 0 (lenN y88)))] [(8, rowO 4 1 boolF y88), (15, { box := true, free := true, elem := 69, sz := 3, es := [[sls 1 byteF y89, C.lit (Value.int IntKind.i64 y90), C.lit (Value.int IntKind.i64 y91)]] })] [])) (cnf_ParseModel_B0 b n) h97 ?_ _ ?_]
 ·obtain ⟨y88, y89, y90, y91⟩ := w98
  simp [h1]
  obtain ⟨v92, h93', h⟩ := bind_some' h
  have h93 : ev 33 [T.c (C.ptr 9000 0 0), T.c (C.lit (Value.string { data := #[48, 10] })), obT { box := true, free := true, elem := 69, sz := 3, es := [[sls 1 byteF y89, C.lit (Value.int IntKind.i64 y90), C.lit (Value.int IntKind.i64 y91)]] }] = some (T.tup [], [Ob.mk true true 69 3 [Reader_cnf.cells v92]]) := w_cnf_reader_word _ _ _ h93'
  simp [h1, h93]
  obtain ⟨v94, h95', h⟩ := bind_some' h
  have h95 : ev 37 [T.c (C.ptr 9000 0 0), obT { box := true, free := true, elem := 69, sz := 3, es := [[sls 1 byteF v92.b, C.lit (Value.int IntKind.i64 v92.at'), C.lit (Value.int IntKind.i64 v92.e)]] }] = some (T.tup [], [Ob.mk true true 69 3 [Reader_cnf.cells v94]]) := w_cnf_reader_end _ _ h95'
  simp [h1, h93, h95]
  rcases iteB_cases h with ⟨c96, h⟩ | ⟨c96, h⟩
  ·simp [h1, h93, h95, c96]
   cases h
   rfl
  ·simp [h1, h93, h95, c96]
   cases h
   rfl
 ·clear h97 h
  rintro ⟨x60, x61, x62, x63, x64⟩ y L res h hL hR
  unfold cnf_ParseModel_B0 at h
  simp
  rcases iteB_cases h with ⟨c65, h⟩ | ⟨c65, h⟩
  ·simp [c65]
   obtain ⟨v66, h67', h⟩ := bind_some' h
   have h67 : ev 50 [T.c (C.lit (Value.int IntKind.i64 (iadd IntKind.i64 x64 1)))] = some (T.c (C.lit (Value.string v66)), []) := w_strconv_Itoa _ _ h67'
   simp [c65, h67]
   obtain ⟨⟨v68, v69⟩, h70', h⟩ := bind_some' h
   have h70 : ev 51 [T.c (sls 1 byteF b), T.c (C.lit (Value.int IntKind.i64 x62)), T.c (C.lit (Value.string { data := #[45] }))] = some (T.tup [T.c (C.lit (Value.int IntKind.i64 v68)), T.c (C.lit (Value.bool v69))], []) := w_lex_Is _ _ _ _ h70'
   simp [c65, h67, h70]
   rcases iteB_cases h with ⟨c71, h⟩ | ⟨c71, h⟩
   ·simp [c65, h67, h70, c71]
    rcases iteB_cases h with ⟨c72, h⟩ | ⟨c72, h⟩
    ·simp [c65, h67, h70, c71, c72]
     rcases iteB_cases h with ⟨c73, h⟩ | ⟨c73, h⟩
     ·simp [c65, h67, h70, c71, c72, c73]
      obtain ⟨v74, h75', h⟩ := bind_some' h
      have h75 : ev 33 [T.c (C.ptr 9000 0 0), T.c (C.lit (Value.string (v66 ++ { data := #[32] }))), obT { box := true, free := true, elem := 69, sz := 3, es := [[sls 1 byteF x61, C.lit (Value.int IntKind.i64 v68), C.lit (Value.int IntKind.i64 x63)]] }] = some (T.tup [], [Ob.mk true true 69 3 [Reader_cnf.cells v74]]) := w_cnf_reader_word _ _ _ h75'
      simp [c65, h67, h70, c71, c72, c73, h75]
      rcases iteB_cases h with ⟨c76, h⟩ | ⟨c76, h⟩
      ·simp [c65, h67, h70, c71, c72, c73, h75, c76]
       rcases iteB_cases h with ⟨c77, h⟩ | ⟨c77, h⟩
       ·simp [c65, h67, h70, c71, c72, c73, h75, c76, c77]
        cases h
        exact hL _ _ rfl (by simp [headOf])
       ·simp [c65, h67, h70, c71, c72, c73, h75, c76, c77]
        cases h
        exact hR _ rfl
      ·simp [c65, h67, h70, c71, c72, c73, h75, c76]
       cases h
     ·simp [c65, h67, h70, c71, c72, c73]
      cases h
    ·simp [c65, h67, h70, c71, c72]
     rcases iteB_cases h with ⟨c78, h⟩ | ⟨c78, h⟩
     ·simp [c65, h67, h70, c71, c72, c78]
      obtain ⟨v79, h80', h⟩ := bind_some' h
      have h80 : ev 33 [T.c (C.ptr 9000 0 0), T.c (C.lit (Value.string (v66 ++ { data := #[32] }))), obT { box := true, free := true, elem := 69, sz := 3, es := [[sls 1 byteF x61, C.lit (Value.int IntKind.i64 x62), C.lit (Value.int IntKind.i64 x63)]] }] = some (T.tup [], [Ob.mk true true 69 3 [Reader_cnf.cells v79]]) := w_cnf_reader_word _ _ _ h80'
      simp [c65, h67, h70, c71, c72, c78, h80]
      rcases iteB_cases h with ⟨c81, h⟩ | ⟨c81, h⟩
      ·simp [c65, h67, h70, c71, c72, c78, h80, c81]
       rcases iteB_cases h with ⟨c82, h⟩ | ⟨c82, h⟩
       ·simp [c65, h67, h70, c71, c72, c78, h80, c81, c82]
        cases h
        exact hL _ _ rfl (by simp [headOf])
       ·simp [c65, h67, h70, c71, c72, c78, h80, c81, c82]
        cases h
        exact hR _ rfl
      ·simp [c65, h67, h70, c71, c72, c78, h80, c81]
       cases h
     ·simp [c65, h67, h70, c71, c72, c78]
      cases h
   ·simp [c65, h67, h70, c71]
    rcases iteB_cases h with ⟨c83, h⟩ | ⟨c83, h⟩
    ·simp [c65, h67, h70, c71, c83]
     obtain ⟨v84, h85', h⟩ := bind_some' h
     have h85 : ev 33 [T.c (C.ptr 9000 0 0), T.c (C.lit (Value.string (v66 ++ { data := #[32] }))), obT { box := true, free := true, elem := 69, sz := 3, es := [[sls 1 byteF x61, C.lit (Value.int IntKind.i64 x62), C.lit (Value.int IntKind.i64 x63)]] }] = some (T.tup [], [Ob.mk true true 69 3 [Reader_cnf.cells v84]]) := w_cnf_reader_word _ _ _ h85'
     simp [c65, h67, h70, c71, c83, h85]
     rcases iteB_cases h with ⟨c86, h⟩ | ⟨c86, h⟩
     ·simp [c65, h67, h70, c71, c83, h85, c86]
      rcases iteB_cases h with ⟨c87, h⟩ | ⟨c87, h⟩
      ·simp [c65, h67, h70, c71, c83, h85, c86, c87]
       cases h
       exact hL _ _ rfl (by simp [headOf])
      ·simp [c65, h67, h70, c71, c83, h85, c86, c87]
       cases h
       exact hR _ rfl
     ·simp [c65, h67, h70, c71, c83, h85, c86]
      cases h
    ·simp [c65, h67, h70, c71, c83]
     cases h
  ·simp [c65]
   cases h
   exact hR _ rfl
 ·simp [headOf]
theorem w_ref03_Word (p_ : At_ref03) (s : ByteArray) (r : At_ref03) (h : ref03_Word p_ s = some r) : ev 39 [T.agg (At_ref03.cells p_), T.c (C.lit (Value.string s))] = some (T.agg (At_ref03.cells r), []) := by
 refine ev_run' (kp := k39) (us := [75]) fn39 rfl rfl rfl rfl rfl (by kernel_rfl) rfl (by simp) ?_
 unfold ref03_Word at h
 simp
 rcases iteB_cases h with ⟨c0, h⟩ | ⟨c0, h⟩
 ·simp [c0]
  obtain ⟨⟨v1, v2⟩, h3', h⟩ := bind_some' h
  have h3 : ev 62 [T.c (sls 1 byteF p_.b), T.c (C.lit (Value.int IntKind.i64 p_.n)), T.c (C.lit (Value.string s))] = some (T.tup [T.c (C.lit (Value.int IntKind.i64 v1)), T.c (C.lit (Value.bool v2))], []) := w_ref01_Is _ _ _ _ h3'
  simp [c0, h3]
  rcases iteB_cases h with ⟨c4, h⟩ | ⟨c4, h⟩
  ·simp [c0, h3, c4]
   cases h
   rfl
  ·simp [c0, h3, c4]
   cases h
   rfl
 ·simp [c0]
  cases h
  rfl
theorem w_ref03_Number (p_ : At_ref03) (most : Int) (r : Int × At_ref03) (h : ref03_Number p_ most = some r) : ev 38 [T.agg (At_ref03.cells p_), T.c (C.lit (Value.int IntKind.i64 most))] = some (T.tup [T.c (C.lit (Value.int IntKind.i64 r.1)), T.agg (At_ref03.cells r.2)], []) := by
 refine ev_run' (kp := k38) (us := [3, 75]) fn38 rfl rfl rfl rfl rfl (by kernel_rfl) rfl (by simp) ?_
 unfold ref03_Number at h
 simp
 rcases iteB_cases h with ⟨c0, h⟩ | ⟨c0, h⟩
 ·simp [c0]
  obtain ⟨⟨v1, v2, v3⟩, h4', h⟩ := bind_some' h
  have h4 : ev 61 [T.c (sls 1 byteF p_.b), T.c (C.lit (Value.int IntKind.i64 p_.n)), T.c (C.lit (Value.int IntKind.i64 most))] = some (T.tup [T.c (C.lit (Value.int IntKind.i64 v1)), T.c (C.lit (Value.int IntKind.i64 v2)), T.c (C.lit (Value.int IntKind.i64 v3))], []) := w_ref01_Number _ _ _ _ h4'
  simp [c0, h4]
  cases h
  rfl
 ·simp [c0]
  cases h
  rfl
theorem w_ref03_Signed (p_ : At_ref03) (most : Int) (r : Int × At_ref03) (h : ref03_Signed p_ most = some r) : ev 63 [T.agg (At_ref03.cells p_), T.c (C.lit (Value.int IntKind.i64 most))] = some (T.tup [T.c (C.lit (Value.int IntKind.i64 r.1)), T.agg (At_ref03.cells r.2)], []) := by
 refine ev_run' (kp := k63) (us := [3, 75]) fn63 rfl rfl rfl rfl rfl (by kernel_rfl) rfl (by simp) ?_
 unfold ref03_Signed at h
 simp
 rcases iteB_cases h with ⟨c0, h⟩ | ⟨c0, h⟩
 ·simp [c0]
  obtain ⟨⟨v1, v2, v3⟩, h4', h⟩ := bind_some' h
  have h4 : ev 73 [T.c (sls 1 byteF p_.b), T.c (C.lit (Value.int IntKind.i64 p_.n)), T.c (C.lit (Value.int IntKind.i64 most))] = some (T.tup [T.c (C.lit (Value.int IntKind.i64 v1)), T.c (C.lit (Value.int IntKind.i64 v2)), T.c (C.lit (Value.int IntKind.i64 v3))], []) := w_ref01_Signed _ _ _ _ h4'
  simp [c0, h4]
  cases h
  rfl
 ·simp [c0]
  cases h
  rfl
theorem w_ref03_Lits (p_ : At_ref03) (most : Int) (r : (List Int) × At_ref03) (h : ref03_Lits p_ most = some r) : ev 40 [T.agg (At_ref03.cells p_), T.c (C.lit (Value.int IntKind.i64 most))] = some (T.tup [T.c (C.ref 0 0 (lenN r.1)), T.agg (At_ref03.cells r.2)], [rowO 3 1 intF r.1]) := by
 refine ev_run' (kp := k40) (us := [50, 75]) fn40 rfl rfl rfl rfl rfl (by kernel_rfl) rfl (by simp) ?_
 unfold ref03_Lits at h
 simp
 obtain ⟨w62, h61, h⟩ := bind_some' h
 rw [evLoop_loopF (ι := (List Int) × (List Int) × Int × Int) (ρ := ((List Int) × (List Int) × Int × Int) ⊕ ((List Int) × Int × Int) ⊕ ((List Int) × Int × Int)) (fun p => match p with | (x35, x36, x37, x38) => mk 39 [(1, T.c (C.lit (Value.int IntKind.i64 most))), (2, T.c (C.ptr 2 0 0)), (5, T.c (C.ptr 5 0 0)), (6, T.c (C.ref 6 0 (lenN x35)))] [(2, { box := true, free := true, elem := 75, sz := 3, es := [[sls 1 byteF x36, C.lit (Value.int IntKind.i64 x37), C.lit (Value.int IntKind.i64 x38)]] }), (5, { box := true, free := true, elem := 75, sz := 3, es := [[C.lit (Value.slice none 0 0), C.lit (Value.int IntKind.i64 0), C.lit (Value.int IntKind.i64 0)]] }), (6, rowO 3 1 intF x35)] []) (fun r => match r with | .inl (y51, y52, y53, y54) => (Ex.ret, mk 39 [(4, T.c (C.ref 6 0 (lenN y51))), (5, T.c (C.ptr 5 0 0))] [(5, { box := true, free := true, elem := 75, sz := 3, es := [[sls 1 byteF y52, C.lit (Value.int IntKind.i64 y53), C.lit (Value.int IntKind.i64 y54)]] }), (6, rowO 3 1 intF y51)] []) | .inr (.inl (y55, y56, y57)) => (Ex.ret, mk 39 [(4, T.c (C.ref 4 0 (0))), (5, T.c (C.ptr 5 0 0))] [(4, rowO 3 1 intF []), (5, { box := true, free := true, elem := 75, sz := 3, es := [[sls 1 byteF y55, C.lit (Value.int IntKind.i64 y56), C.lit (Value.int IntKind.i64 y57)]] })] []) | .inr (.inr ((y58, y59, y60))) => (Ex.exit 0, mk 39 [(2, T.c (C.ptr 2 0 0)), (5, T.c (C.ptr 5 0 0))] [(2, { box := true, free := true, elem := 75, sz := 3, es := [[sls 1 byteF y58, C.lit (Value.int IntKind.i64 y59), C.lit (Value.int IntKind.i64 y60)]] }), (5, { box := true, free := true, elem := 75, sz := 3, es := [[C.lit (Value.slice none 0 0), C.lit (Value.int IntKind.i64 0), C.lit (Value.int IntKind.i64 0)]] })] [])) (ref03_Lits_B0 most) h61 ?_ _ ?_]
 ·rcases w62 with ⟨y51, y52, y53, y54⟩ | ⟨y55, y56, y57⟩ | ⟨y58, y59, y60⟩
  ·simp
   cases h
   rfl
  ·simp
   cases h
   rfl
  ·simp
   cases h
   rfl
 ·clear h61 h
  rintro ⟨x35, x36, x37, x38⟩ y L res h hL hR
  unfold ref03_Lits_B0 at h
  simp
  rcases iteB_cases h with ⟨c39, h⟩ | ⟨c39, h⟩
  ·simp [c39]
   obtain ⟨⟨v40, v41⟩, h42', h⟩ := bind_some' h
   have h42 : ev 63 [T.agg [sls 1 byteF x36, C.lit (Value.int IntKind.i64 x37), C.lit (Value.int IntKind.i64 x38)], T.c (C.lit (Value.int IntKind.i64 most))] = some (T.tup [T.c (C.lit (Value.int IntKind.i64 v40)), T.agg (At_ref03.cells v41)], []) := w_ref03_Signed _ _ _ h42'
   simp [c39, h42]
   rcases iteB_cases h with ⟨c43, h⟩ | ⟨c43, h⟩
   ·simp [c39, h42, c43]
    rcases iteB_cases h with ⟨c44, h⟩ | ⟨c44, h⟩
    ·simp [c39, h42, c43, c44]
     obtain ⟨v45, h46', h⟩ := bind_some' h
     have h46 : ev 39 [T.agg [sls 1 byteF v41.b, C.lit (Value.int IntKind.i64 v41.n), C.lit (Value.int IntKind.i64 v41.bad)], T.c (C.lit (Value.string { data := #[10] }))] = some (T.agg (At_ref03.cells v45), []) := w_ref03_Word _ _ _ h46'
     simp [c39, h42, c43, c44, h46]
     cases h
     exact hR _ rfl
    ·simp [c39, h42, c43, c44]
     rcases iteB_cases h with ⟨c47, h⟩ | ⟨c47, h⟩
     ·simp [c39, h42, c43, c44, c47]
      cases h
      exact hR _ rfl
     ·simp [c39, h42, c43, c44, c47]
      rcases iteB_cases h with ⟨c48, h⟩ | ⟨c48, h⟩
      ·simp [c39, h42, c43, c44, c47, c48]
       obtain ⟨v49, h50', h⟩ := bind_some' h
       have h50 : ev 39 [T.agg [sls 1 byteF v41.b, C.lit (Value.int IntKind.i64 v41.n), C.lit (Value.int IntKind.i64 v41.bad)], T.c (C.lit (Value.string { data := #[32] }))] = some (T.agg (At_ref03.cells v49), []) := w_ref03_Word _ _ _ h50'
       simp [c39, h42, c43, c44, c47, c48, h50]
       cases h
       exact hL _ _ rfl (by simp [headOf])
      ·simp [c39, h42, c43, c44, c47, c48]
       cases h
   ·simp [c39, h42, c43]
    cases h
    exact hR _ rfl
  ·simp [c39]
   cases h
   exact hR _ rfl
 ·simp [headOf]
theorem w_ref03_End (p_ : At_ref03) (r : At_ref03) (h : ref03_End p_ = some r) : ev 41 [T.agg (At_ref03.cells p_)] = some (T.agg (At_ref03.cells r), []) := by
 refine ev_run' (kp := k41) (us := [75]) fn41 rfl rfl rfl rfl rfl (by kernel_rfl) rfl (by simp) ?_
 unfold ref03_End at h
 simp
 rcases iteB_cases h with ⟨c0, h⟩ | ⟨c0, h⟩
 ·simp [c0]
  rcases iteB_cases h with ⟨c1, h⟩ | ⟨c1, h⟩
  ·simp [c0, c1]
   cases h
   rfl
  ·simp [c0, c1]
   cases h
   rfl
 ·simp [c0]
  cases h
  rfl
theorem w_ref03_Right (f_ : Cnf) (r : Bool) (h : ref03_Right f_ = some r) : ev 17 [T.agg (Cnf.cells f_)] = some (T.c (C.lit (Value.bool r)), []) := by
 refine ev_run' (kp := k17) (us := [4]) fn17 rfl rfl rfl rfl rfl (by kernel_rfl) rfl (by simp) ?_
 unfold ref03_Right at h
 simp
 rcases iteB_cases h with ⟨c0, h⟩ | ⟨c0, h⟩
 ·simp [c0]
  cases h
  rfl
 ·simp [c0]
  rcases iteB_cases h with ⟨c1, h⟩ | ⟨c1, h⟩
  ·simp [c0, c1]
   cases h
   rfl
  ·simp [c0, c1]
   rcases iteB_cases h with ⟨c2, h⟩ | ⟨c2, h⟩
   ·simp [c0, c1, c2]
    cases h
    rfl
   ·simp [c0, c1, c2]
    obtain ⟨w113, h112, h⟩ := bind_some' h
    rw [evLoop_loopF (ι := Int) (ρ := Unit ⊕ Unit) (fun p => match p with | x76 => mk 67 [(1, T.c (C.ptr 1 0 0)), (3, T.c (C.lit (Value.int IntKind.i64 x76)))] [(1, { box := true, free := true, elem := 24, sz := 2, es := [f_.cells] })] []) (fun r => match r with | .inl () => (Ex.ret, mk 67 [(2, T.c (C.lit (Value.bool false)))] [] []) | .inr () => (Ex.exit 0, mk 67 [] [] [])) (ref03_Right_B1 f_) h112 ?_ _ ?_]
    ·rcases w113 with ⟨⟩ | ⟨⟩
     ·simp [c0, c1, c2]
      cases h
      rfl
     ·simp [c0, c1, c2]
      cases h
      rfl
    ·clear h112 h
     rintro x76 y L res h hL hR
     unfold ref03_Right_B1 at h
     simp
     rcases iteB_cases h with ⟨c77, h⟩ | ⟨c77, h⟩
     ·simp [c77]
      obtain ⟨v78, h79, h⟩ := bind_some' h
      simp [c77, h79]
      rcases iteB_cases h with ⟨c80, h⟩ | ⟨c80, h⟩
      ·simp [c77, h79, c80]
       cases h
       exact hR _ rfl
      ·simp [c77, h79, c80]
       obtain ⟨w111, h110, h⟩ := bind_some' h
       rw [evLoop_loopF (ι := Int) (ρ := Unit ⊕ Unit) (fun p => match p with | x101 => mk 67 [(1, T.c (C.ptr 1 0 0)), (3, T.c (C.lit (Value.int IntKind.i64 x76))), (4, T.c (C.lit (Value.int IntKind.i64 x101)))] [(1, { box := true, free := true, elem := 24, sz := 2, es := [f_.cells] })] []) (fun r => match r with | .inl () => (Ex.ret, mk 67 [(2, T.c (C.lit (Value.bool false)))] [] []) | .inr () => (Ex.exit 2, mk 67 [(1, T.c (C.ptr 1 0 0)), (3, T.c (C.lit (Value.int IntKind.i64 x76)))] [(1, { box := true, free := true, elem := 24, sz := 2, es := [f_.cells] })] [])) (ref03_Right_B0 f_ x76) h110 ?_ _ ?_]
       ·rcases w111 with ⟨⟩ | ⟨⟩
        ·simp [c77, h79, c80]
         cases h
         exact hR _ rfl
        ·simp [c77, h79, c80]
         cases h
         exact hL _ _ rfl (by simp [headOf])
       ·clear h110 h
        rintro x101 y L res h hL hR
        unfold ref03_Right_B0 at h
        simp
        obtain ⟨v102, h103, h⟩ := bind_some' h
        simp [h103]
        rcases iteB_cases h with ⟨c104, h⟩ | ⟨c104, h⟩
        ·simp [h103, c104]
         obtain ⟨v105, h106, h⟩ := bind_some' h
         simp [h103, c104, h106]
         rcases iteB_cases h with ⟨c107, h⟩ | ⟨c107, h⟩
         ·simp [h103, c104, h106, c107]
          cases h
          exact hR _ rfl
         ·simp [h103, c104, h106, c107]
          rcases iteB_cases h with ⟨c108, h⟩ | ⟨c108, h⟩
          ·simp [h103, c104, h106, c107, c108]
           cases h
           exact hR _ rfl
          ·simp [h103, c104, h106, c107, c108]
           rcases iteB_cases h with ⟨c109, h⟩ | ⟨c109, h⟩
           ·simp [h103, c104, h106, c107, c108, c109]
            cases h
            exact hR _ rfl
           ·simp [h103, c104, h106, c107, c108, c109]
            cases h
            exact hL _ _ rfl (by simp [headOf])
        ·simp [h103, c104]
         cases h
         exact hR _ rfl
       ·simp [headOf]
     ·simp [c77]
      cases h
      exact hR _ rfl
    ·simp [headOf]
theorem w_ref03_Ints (a : List Int) (b : List Int) (r : Bool) (h : ref03_Ints a b = some r) : ev 49 [T.c (sls 1 intF a), T.c (sls 1 intF b)] = some (T.c (C.lit (Value.bool r)), []) := by
 refine ev_run' (kp := k49) (us := [4]) fn49 rfl rfl rfl rfl rfl (by kernel_rfl) rfl (by simp) ?_
 unfold ref03_Ints at h
 simp
 rcases iteB_cases h with ⟨c0, h⟩ | ⟨c0, h⟩
 ·simp [c0]
  obtain ⟨w25, h24, h⟩ := bind_some' h
  rw [evLoop_loopF (ι := Int) (ρ := Unit ⊕ Unit) (fun p => match p with | x17 => mk 26 [(0, T.c (sls 1 intF a)), (1, T.c (sls 1 intF b)), (5, T.c (C.lit (Value.int IntKind.i64 x17)))] [] []) (fun r => match r with | .inl () => (Ex.ret, mk 26 [(4, T.c (C.lit (Value.bool false)))] [] []) | .inr () => (Ex.exit 0, mk 26 [] [] [])) (ref03_Ints_B0 a b) h24 ?_ _ ?_]
  ·rcases w25 with ⟨⟩ | ⟨⟩
   ·simp [c0]
    cases h
    rfl
   ·simp [c0]
    cases h
    rfl
  ·clear h24 h
   rintro x17 y L res h hL hR
   unfold ref03_Ints_B0 at h
   simp
   rcases iteB_cases h with ⟨c18, h⟩ | ⟨c18, h⟩
   ·simp [c18]
    obtain ⟨v19, h20, h⟩ := bind_some' h
    simp [c18, h20]
    obtain ⟨v21, h22, h⟩ := bind_some' h
    simp [c18, h20, h22]
    rcases iteB_cases h with ⟨c23, h⟩ | ⟨c23, h⟩
    ·simp [c18, h20, h22, c23]
     cases h
     exact hL _ _ rfl (by simp [headOf])
    ·simp [c18, h20, h22, c23]
     cases h
     exact hR _ rfl
   ·simp [c18]
    cases h
    exact hR _ rfl
  ·simp [headOf]
 ·simp [c0]
  cases h
  rfl
theorem w_ref03_Same (a : Cnf) (b : Cnf) (r : Bool) (h : ref03_Same a b = some r) : ev 19 [T.agg (Cnf.cells a), T.agg (Cnf.cells b)] = some (T.c (C.lit (Value.bool r)), []) := by
 refine ev_run' (kp := k19) (us := [4]) fn19 rfl rfl rfl rfl rfl (by kernel_rfl) rfl (by simp) ?_
 unfold ref03_Same at h
 simp
 rcases iteB_cases h with ⟨c0, h⟩ | ⟨c0, h⟩
 ·simp [c0]
  rcases iteB_cases h with ⟨c1, h⟩ | ⟨c1, h⟩
  ·simp [c0, c1]
   obtain ⟨w32, h31, h⟩ := bind_some' h
   rw [evLoop_loopF (ι := Int) (ρ := Unit ⊕ Unit) (fun p => match p with | x22 => mk 41 [(2, T.c (C.ptr 2 0 0)), (3, T.c (C.ptr 3 0 0)), (5, T.c (C.lit (Value.int IntKind.i64 x22)))] [(2, { box := true, free := true, elem := 24, sz := 2, es := [a.cells] }), (3, { box := true, free := true, elem := 24, sz := 2, es := [b.cells] })] []) (fun r => match r with | .inl () => (Ex.ret, mk 41 [(4, T.c (C.lit (Value.bool false)))] [] []) | .inr () => (Ex.exit 0, mk 41 [] [] [])) (ref03_Same_B0 a b) h31 ?_ _ ?_]
   ·rcases w32 with ⟨⟩ | ⟨⟩
    ·simp [c0, c1]
     cases h
     rfl
    ·simp [c0, c1]
     cases h
     rfl
   ·clear h31 h
    rintro x22 y L res h hL hR
    unfold ref03_Same_B0 at h
    simp
    rcases iteB_cases h with ⟨c23, h⟩ | ⟨c23, h⟩
    ·simp [c23]
     obtain ⟨v24, h25, h⟩ := bind_some' h
     simp [c23, h25]
     obtain ⟨v26, h27, h⟩ := bind_some' h
     simp [c23, h25, h27]
     obtain ⟨v28, h29', h⟩ := bind_some' h
     have h29 : ev 49 [T.c (sls 1 intF v24), T.c (sls 1 intF v26)] = some (T.c (C.lit (Value.bool v28)), []) := w_ref03_Ints _ _ _ h29'
     simp [c23, h25, h27, h29]
     rcases iteB_cases h with ⟨c30, h⟩ | ⟨c30, h⟩
     ·simp [c23, h25, h27, h29, c30]
      cases h
      exact hL _ _ rfl (by simp [headOf])
     ·simp [c23, h25, h27, h29, c30]
      cases h
      exact hR _ rfl
    ·simp [c23]
     cases h
     exact hR _ rfl
   ·simp [headOf]
  ·simp [c0, c1]
   cases h
   rfl
 ·simp [c0]
  cases h
  rfl
theorem w_ref03_Flags (a : List Bool) (b : List Bool) (r : Bool) (h : ref03_Flags a b = some r) : ev 24 [T.c (sls 1 boolF a), T.c (sls 1 boolF b)] = some (T.c (C.lit (Value.bool r)), []) := by
 refine ev_run' (kp := k24) (us := [4]) fn24 rfl rfl rfl rfl rfl (by kernel_rfl) rfl (by simp) ?_
 unfold ref03_Flags at h
 simp
 rcases iteB_cases h with ⟨c0, h⟩ | ⟨c0, h⟩
 ·simp [c0]
  obtain ⟨w25, h24, h⟩ := bind_some' h
  rw [evLoop_loopF (ι := Int) (ρ := Unit ⊕ Unit) (fun p => match p with | x17 => mk 26 [(0, T.c (sls 1 boolF a)), (1, T.c (sls 1 boolF b)), (5, T.c (C.lit (Value.int IntKind.i64 x17)))] [] []) (fun r => match r with | .inl () => (Ex.ret, mk 26 [(4, T.c (C.lit (Value.bool false)))] [] []) | .inr () => (Ex.exit 0, mk 26 [] [] [])) (ref03_Flags_B0 a b) h24 ?_ _ ?_]
  ·rcases w25 with ⟨⟩ | ⟨⟩
   ·simp [c0]
    cases h
    rfl
   ·simp [c0]
    cases h
    rfl
  ·clear h24 h
   rintro x17 y L res h hL hR
   unfold ref03_Flags_B0 at h
   simp
   rcases iteB_cases h with ⟨c18, h⟩ | ⟨c18, h⟩
   ·simp [c18]
    obtain ⟨v19, h20, h⟩ := bind_some' h
    simp [c18, h20]
    obtain ⟨v21, h22, h⟩ := bind_some' h
    simp [c18, h20, h22]
    rcases iteB_cases h with ⟨c23, h⟩ | ⟨c23, h⟩
    ·simp [c18, h20, h22, c23]
     cases h
     exact hL _ _ rfl (by simp [headOf])
    ·simp [c18, h20, h22, c23]
     cases h
     exact hR _ rfl
   ·simp [c18]
    cases h
    exact hR _ rfl
  ·simp [headOf]
 ·simp [c0]
  cases h
  rfl
theorem w_ref03_Clause (c : List Int) (m : List Bool) (r : Bool) (h : ref03_Clause c m = some r) : ev 26 [T.c (sls 1 intF c), T.c (sls 1 boolF m)] = some (T.c (C.lit (Value.bool r)), []) := by
 refine ev_run' (kp := k26) (us := [4]) fn26 rfl rfl rfl rfl rfl (by kernel_rfl) rfl (by simp) ?_
 unfold ref03_Clause at h
 simp
 obtain ⟨w123, h122, h⟩ := bind_some' h
 rw [evLoop_loopF (ι := Int) (ρ := Unit ⊕ Unit) (fun p => match p with | x82 => mk 49 [(0, T.c (sls 1 intF c)), (1, T.c (sls 1 boolF m)), (5, T.c (C.lit (Value.int IntKind.i64 x82)))] [] []) (fun r => match r with | .inl () => (Ex.ret, mk 49 [(4, T.c (C.lit (Value.bool true)))] [] []) | .inr () => (Ex.exit 0, mk 49 [] [] [])) (ref03_Clause_B1 c m) h122 ?_ _ ?_]
 ·rcases w123 with ⟨⟩ | ⟨⟩
  ·simp
   cases h
   rfl
  ·simp
   cases h
   rfl
 ·clear h122 h
  rintro x82 y L res h hL hR
  unfold ref03_Clause_B1 at h
  simp
  rcases iteB_cases h with ⟨c83, h⟩ | ⟨c83, h⟩
  ·simp [c83]
   obtain ⟨w121, h120, h⟩ := bind_some' h
   rw [evLoop_loopF (ι := Int) (ρ := Unit ⊕ Unit) (fun p => match p with | x109 => mk 49 [(0, T.c (sls 1 intF c)), (1, T.c (sls 1 boolF m)), (5, T.c (C.lit (Value.int IntKind.i64 x82))), (6, T.c (C.lit (Value.int IntKind.i64 x109)))] [] []) (fun r => match r with | .inl () => (Ex.ret, mk 49 [(4, T.c (C.lit (Value.bool true)))] [] []) | .inr () => (Ex.exit 2, mk 49 [(0, T.c (sls 1 intF c)), (1, T.c (sls 1 boolF m)), (5, T.c (C.lit (Value.int IntKind.i64 x82)))] [] [])) (ref03_Clause_B0 c m x82) h120 ?_ _ ?_]
   ·rcases w121 with ⟨⟩ | ⟨⟩
    ·simp [c83]
     cases h
     exact hR _ rfl
    ·simp [c83]
     cases h
     exact hL _ _ rfl (by simp [headOf])
   ·clear h120 h
    rintro x109 y L res h hL hR
    unfold ref03_Clause_B0 at h
    simp
    rcases iteB_cases h with ⟨c110, h⟩ | ⟨c110, h⟩
    ·simp [c110]
     obtain ⟨v111, h112, h⟩ := bind_some' h
     simp [c110, h112]
     rcases iteB_cases h with ⟨c113, h⟩ | ⟨c113, h⟩
     ·simp [c110, h112, c113]
      obtain ⟨v114, h115, h⟩ := bind_some' h
      simp [c110, h112, c113, h115]
      rcases iteB_cases h with ⟨c116, h⟩ | ⟨c116, h⟩
      ·simp [c110, h112, c113, h115, c116]
       cases h
       exact hR _ rfl
      ·simp [c110, h112, c113, h115, c116]
       cases h
       exact hL _ _ rfl (by simp [headOf])
     ·simp [c110, h112, c113]
      obtain ⟨v117, h118, h⟩ := bind_some' h
      simp [c110, h112, c113, h118]
      rcases iteB_cases h with ⟨c119, h⟩ | ⟨c119, h⟩
      ·simp [c110, h112, c113, h118, c119]
       cases h
       exact hR _ rfl
      ·simp [c110, h112, c113, h118, c119]
       cases h
       exact hL _ _ rfl (by simp [headOf])
    ·simp [c110]
     cases h
     exact hR _ rfl
   ·simp [headOf]
  ·simp [c83]
   cases h
   exact hR _ rfl
 ·simp [headOf]
theorem w_ref03_Holds (f_ : Cnf) (m : List Bool) (r : Bool) (h : ref03_Holds f_ m = some r) : ev 28 [T.agg (Cnf.cells f_), T.c (sls 1 boolF m)] = some (T.c (C.lit (Value.bool r)), []) := by
 refine ev_run' (kp := k28) (us := [4]) fn28 rfl rfl rfl rfl rfl (by kernel_rfl) rfl (by simp) ?_
 unfold ref03_Holds at h
 simp
 obtain ⟨w24, h23, h⟩ := bind_some' h
 rw [evLoop_loopF (ι := Int) (ρ := Unit ⊕ Unit) (fun p => match p with | x16 => mk 23 [(1, T.c (sls 1 boolF m)), (2, T.c (C.ptr 2 0 0)), (5, T.c (C.lit (Value.int IntKind.i64 x16)))] [(2, { box := true, free := true, elem := 24, sz := 2, es := [f_.cells] })] []) (fun r => match r with | .inl () => (Ex.ret, mk 23 [(4, T.c (C.lit (Value.bool false)))] [] []) | .inr () => (Ex.exit 0, mk 23 [] [] [])) (ref03_Holds_B0 f_ m) h23 ?_ _ ?_]
 ·rcases w24 with ⟨⟩ | ⟨⟩
  ·simp
   cases h
   rfl
  ·simp
   cases h
   rfl
 ·clear h23 h
  rintro x16 y L res h hL hR
  unfold ref03_Holds_B0 at h
  simp
  rcases iteB_cases h with ⟨c17, h⟩ | ⟨c17, h⟩
  ·simp [c17]
   obtain ⟨v18, h19, h⟩ := bind_some' h
   simp [c17, h19]
   obtain ⟨v20, h21', h⟩ := bind_some' h
   have h21 : ev 26 [T.c (sls 1 intF v18), T.c (sls 1 boolF m)] = some (T.c (C.lit (Value.bool v20)), []) := w_ref03_Clause _ _ _ h21'
   simp [c17, h19, h21]
   rcases iteB_cases h with ⟨c22, h⟩ | ⟨c22, h⟩
   ·simp [c17, h19, h21, c22]
    cases h
    exact hL _ _ rfl (by simp [headOf])
   ·simp [c17, h19, h21, c22]
    cases h
    exact hR _ rfl
  ·simp [c17]
   cases h
   exact hR _ rfl
 ·simp [headOf]
end Go.Proofs.YtkdlblpidghjcaaDoor

/- What the interpreter comes to is what the plain functions come to. No condition. -/
import Derived.Test.YthmnnieiibeiaaaW1
set_option linter.unusedSimpArgs false
set_option linter.unusedVariables false
set_option maxRecDepth 20000
set_option maxHeartbeats 4000000
namespace Go.Proofs.Ythmnnieiibeiaaa
open Go.Vabs Go.Vid
theorem w_ref19_Frame (a : Aig) (k : Int) (r : List (List Int)) (h : ref19_Frame a k = some r) : ev 26 [T.agg (Aig.cells a), T.c (C.lit (Value.int IntKind.i64 k))] = some (T.c (C.ref 0 0 (lenN r)), [rowO 24 1 rowF r]) := by
 refine ev_run' (kp := k26) (us := [30]) fn26 rfl rfl rfl rfl rfl (by kernel_rfl) rfl rfl (by simp) ?_
 unfold ref19_Frame at h
 simp
 obtain ⟨v0, h1', h⟩ := bind_some' h
 have h1 : ev 29 [T.agg a.cells, T.c (C.lit (Value.int IntKind.i64 k)), T.c (C.lit (Value.int IntKind.i64 0))] = some (T.c (C.lit (Value.int IntKind.i64 v0)), []) := w_ref19_Lit _ _ _ _ h1'
 simp [h1]
 obtain ⟨y40, h41, h⟩ := bind_some' h
 rw [evLoop_loopF (ι := ((List (List Int))) × Int) (ρ := ((List (List Int)))) (fun p => match p with | (x28, x29) => mk 72 [(1, T.c (C.lit (Value.int IntKind.i64 k))), (2, T.c (C.ptr 2 0 0)), (5, T.c (C.ref 15 0 (lenN x28))), (6, T.c (C.lit (Value.int IntKind.i64 x29)))] [(2, { box := true, free := true, elem := 27, sz := 7, es := [a.cells] }), (15, rowO 24 1 rowF x28)] []) (fun r => match r with | y40 => (Ex.exit 0, mk 72 [(5, T.c (C.ref 15 0 (lenN y40)))] [(15, rowO 24 1 rowF y40)] [])) (ref19_Frame_B0 a k) h41 ?_ _ ?_]
 ·simp [h1]
  cases h
  rfl
 ·clear h41 h
  rintro ⟨x28, x29⟩ y L res h hL hR
  unfold ref19_Frame_B0 at h
  simp
  rcases iteB_cases h with ⟨c30, h⟩ | ⟨c30, h⟩
  ·simp [c30]
   obtain ⟨v31, h32', h⟩ := bind_some' h
   have h32 : ev 29 [T.agg a.cells, T.c (C.lit (Value.int IntKind.i64 k)), T.c (C.lit (Value.int IntKind.i64 (imul IntKind.i64 2 (iadd IntKind.i64 (iadd IntKind.i64 (iadd IntKind.i64 a.I (lenI a.L)) 1) x29))))] = some (T.c (C.lit (Value.int IntKind.i64 v31)), []) := w_ref19_Lit _ _ _ _ h32'
   simp [c30, h32]
   obtain ⟨v33, h34, h⟩ := bind_some' h
   simp [c30, h32, h34]
   obtain ⟨v35, h36', h⟩ := bind_some' h
   have h36 : ev 29 [T.agg a.cells, T.c (C.lit (Value.int IntKind.i64 k)), T.c (C.lit (Value.int IntKind.i64 v33.a))] = some (T.c (C.lit (Value.int IntKind.i64 v35)), []) := w_ref19_Lit _ _ _ _ h36'
   simp [c30, h32, h34, h36]
   obtain ⟨v37, h38', h⟩ := bind_some' h
   have h38 : ev 29 [T.agg a.cells, T.c (C.lit (Value.int IntKind.i64 k)), T.c (C.lit (Value.int IntKind.i64 v33.b))] = some (T.c (C.lit (Value.int IntKind.i64 v37)), []) := w_ref19_Lit _ _ _ _ h38'
   simp [c30, h32, h34, h36, h38]
   rcases iteB_cases h with ⟨c39, h⟩ | ⟨c39, h⟩
   ·simp [c30, h32, h34, h36, h38, c39]
    cases h
    exact hL _ _ rfl (by simp [headOf])
   ·simp [c30, h32, h34, h36, h38, c39]
    cases h
  ·simp [c30]
   cases h
   exact hR _ rfl
 ·simp [headOf]
theorem w_ref19_First (a : Aig) (r : List (List Int)) (h : ref19_First a = some r) : ev 27 [T.agg (Aig.cells a)] = some (T.c (C.ref 0 0 (lenN r)), [rowO 24 1 rowF r]) := by
 refine ev_run' (kp := k27) (us := [30]) fn27 rfl rfl rfl rfl rfl (by kernel_rfl) rfl rfl (by simp) ?_
 unfold ref19_First at h
 simp
 obtain ⟨y34, h35, h⟩ := bind_some' h
 rw [evLoop_loopF (ι := ((List (List Int))) × Int) (ρ := ((List (List Int)))) (fun p => match p with | (x23, x24) => mk 47 [(1, T.c (C.ptr 1 0 0)), (3, T.c (C.ref 3 0 (lenN x23))), (4, T.c (C.lit (Value.int IntKind.i64 x24)))] [(1, { box := true, free := true, elem := 27, sz := 7, es := [a.cells] }), (3, rowO 24 1 rowF x23)] []) (fun r => match r with | y34 => (Ex.exit 0, mk 47 [(3, T.c (C.ref 3 0 (lenN y34)))] [(3, rowO 24 1 rowF y34)] [])) (ref19_First_B0 a) h35 ?_ _ ?_]
 ·simp
  cases h
  rfl
 ·clear h35 h
  rintro ⟨x23, x24⟩ y L res h hL hR
  unfold ref19_First_B0 at h
  simp
  rcases iteB_cases h with ⟨c25, h⟩ | ⟨c25, h⟩
  ·simp [c25]
   obtain ⟨v26, h27', h⟩ := bind_some' h
   have h27 : ev 29 [T.agg a.cells, T.c (C.lit (Value.int IntKind.i64 0)), T.c (C.lit (Value.int IntKind.i64 (imul IntKind.i64 2 (iadd IntKind.i64 (iadd IntKind.i64 a.I 1) x24))))] = some (T.c (C.lit (Value.int IntKind.i64 v26)), []) := w_ref19_Lit _ _ _ _ h27'
   simp [c25, h27]
   obtain ⟨v28, h29, h⟩ := bind_some' h
   simp [c25, h27, h29]
   rcases iteB_cases h with ⟨c30, h⟩ | ⟨c30, h⟩
   ·simp [c25, h27, h29, c30]
    rcases iteB_cases h with ⟨c31, h⟩ | ⟨c31, h⟩
    ·simp [c25, h27, h29, c30, c31]
     cases h
     exact hL _ _ rfl (by simp [headOf])
    ·simp [c25, h27, h29, c30, c31]
     cases h
   ·simp [c25, h27, h29, c30]
    rcases iteB_cases h with ⟨c32, h⟩ | ⟨c32, h⟩
    ·simp [c25, h27, h29, c30, c32]
     rcases iteB_cases h with ⟨c33, h⟩ | ⟨c33, h⟩
     ·simp [c25, h27, h29, c30, c32, c33]
      cases h
      exact hL _ _ rfl (by simp [headOf])
     ·simp [c25, h27, h29, c30, c32, c33]
      cases h
    ·simp [c25, h27, h29, c30, c32]
     cases h
     exact hL _ _ rfl (by simp [headOf])
  ·simp [c25]
   cases h
   exact hR _ rfl
 ·simp [headOf]
theorem w_ref19_Link (a : Aig) (r : List (List Int)) (h : ref19_Link a = some r) : ev 31 [T.agg (Aig.cells a)] = some (T.c (C.ref 0 0 (lenN r)), [rowO 24 1 rowF r]) := by
 refine ev_run' (kp := k31) (us := [30]) fn31 rfl rfl rfl rfl rfl (by kernel_rfl) rfl rfl (by simp) ?_
 unfold ref19_Link at h
 simp
 obtain ⟨y31, h32, h⟩ := bind_some' h
 rw [evLoop_loopF (ι := ((List (List Int))) × Int) (ρ := ((List (List Int)))) (fun p => match p with | (x21, x22) => mk 42 [(1, T.c (C.ptr 1 0 0)), (3, T.c (C.ref 3 0 (lenN x21))), (4, T.c (C.lit (Value.int IntKind.i64 x22)))] [(1, { box := true, free := true, elem := 27, sz := 7, es := [a.cells] }), (3, rowO 24 1 rowF x21)] []) (fun r => match r with | y31 => (Ex.exit 0, mk 42 [(3, T.c (C.ref 3 0 (lenN y31)))] [(3, rowO 24 1 rowF y31)] [])) (ref19_Link_B0 a) h32 ?_ _ ?_]
 ·simp
  cases h
  rfl
 ·clear h32 h
  rintro ⟨x21, x22⟩ y L res h hL hR
  unfold ref19_Link_B0 at h
  simp
  rcases iteB_cases h with ⟨c23, h⟩ | ⟨c23, h⟩
  ·simp [c23]
   obtain ⟨v24, h25', h⟩ := bind_some' h
   have h25 : ev 29 [T.agg a.cells, T.c (C.lit (Value.int IntKind.i64 1)), T.c (C.lit (Value.int IntKind.i64 (imul IntKind.i64 2 (iadd IntKind.i64 (iadd IntKind.i64 a.I 1) x22))))] = some (T.c (C.lit (Value.int IntKind.i64 v24)), []) := w_ref19_Lit _ _ _ _ h25'
   simp [c23, h25]
   obtain ⟨v26, h27, h⟩ := bind_some' h
   simp [c23, h25, h27]
   obtain ⟨v28, h29', h⟩ := bind_some' h
   have h29 : ev 29 [T.agg a.cells, T.c (C.lit (Value.int IntKind.i64 0)), T.c (C.lit (Value.int IntKind.i64 v26.next))] = some (T.c (C.lit (Value.int IntKind.i64 v28)), []) := w_ref19_Lit _ _ _ _ h29'
   simp [c23, h25, h27, h29]
   rcases iteB_cases h with ⟨c30, h⟩ | ⟨c30, h⟩
   ·simp [c23, h25, h27, h29, c30]
    cases h
    exact hL _ _ rfl (by simp [headOf])
   ·simp [c23, h25, h27, h29, c30]
    cases h
  ·simp [c23]
   cases h
   exact hR _ rfl
 ·simp [headOf]
theorem w_ref19_cons (a : Aig) (q0 : List (List Int)) (r : List (List Int)) (h : ref19_cons a q0 = some r) : ev 30 [T.c (C.ref 9001 0 (lenN q0)), T.agg (Aig.cells a), obT (rowO 24 1 rowF q0)] = some (T.c (C.ref 0 0 (lenN r)), [rowO 24 1 rowF r]) := by
 refine ev_runL (kp := k30) (us := [30]) (ts := [T.c (C.ref 9001 0 (lenN q0)), T.agg (Aig.cells a)]) (obs := [rowO 24 1 rowF q0]) fn30 rfl rfl rfl rfl rfl (by kernel_rfl) rfl rfl rfl rfl (by simp) ?_
 unfold ref19_cons at h
 simp
 obtain ⟨y25, h26, h⟩ := bind_some' h
 rw [evLoop_loopF (ι := ((List (List Int))) × Int) (ρ := ((List (List Int)))) (fun p => match p with | (x17, x18) => mk 25 [(0, T.c (C.ref 9001 0 (lenN x17))), (3, T.c (C.ptr 3 0 0)), (5, T.c (C.lit (Value.int IntKind.i64 x18)))] [(3, { box := true, free := true, elem := 27, sz := 7, es := [a.cells] }), (9001, rowO 24 1 rowF x17)] []) (fun r => match r with | y25 => (Ex.exit 0, mk 25 [(0, T.c (C.ref 9001 0 (lenN y25)))] [(9001, rowO 24 1 rowF y25)] [])) (ref19_cons_B0 a) h26 ?_ _ ?_]
 ·simp
  cases h
  rfl
 ·clear h26 h
  rintro ⟨x17, x18⟩ y L res h hL hR
  unfold ref19_cons_B0 at h
  simp
  rcases iteB_cases h with ⟨c19, h⟩ | ⟨c19, h⟩
  ·simp [c19]
   obtain ⟨v20, h21, h⟩ := bind_some' h
   simp [c19, h21]
   obtain ⟨v22, h23', h⟩ := bind_some' h
   have h23 : ev 29 [T.agg a.cells, T.c (C.lit (Value.int IntKind.i64 0)), T.c (C.lit (Value.int IntKind.i64 v20))] = some (T.c (C.lit (Value.int IntKind.i64 v22)), []) := w_ref19_Lit _ _ _ _ h23'
   simp [c19, h21, h23]
   rcases iteB_cases h with ⟨c24, h⟩ | ⟨c24, h⟩
   ·simp [c19, h21, h23, c24]
    cases h
    exact hL _ _ rfl (by simp [headOf])
   ·simp [c19, h21, h23, c24]
    cases h
  ·simp [c19]
   cases h
   exact hR _ rfl
 ·simp [headOf]
theorem w_ref19_Starts (a : Aig) (inv : Int) (r : Cnf) (h : ref19_Starts a inv = some r) : ev 11 [T.agg (Aig.cells a), T.c (C.lit (Value.int IntKind.i64 inv))] = some (T.agg [C.lit (Value.int IntKind.i64 r.N), C.ref 0 0 (lenN r.cs)], [rowO 24 1 rowF r.cs]) := by
 refine ev_run' (kp := k11) (us := [32]) fn11 rfl rfl rfl rfl rfl (by kernel_rfl) rfl rfl (by simp) ?_
 unfold ref19_Starts at h
 simp
 obtain ⟨v0, h1', h⟩ := bind_some' h
 have h1 : ev 26 [T.agg a.cells, T.c (C.lit (Value.int IntKind.i64 0))] = some (T.c (C.ref 0 0 (lenN v0)), [rowO 24 1 rowF v0]) := w_ref19_Frame _ _ _ h1'
 simp [h1]
 obtain ⟨v2, h3', h⟩ := bind_some' h
 have h3 : ev 27 [T.agg a.cells] = some (T.c (C.ref 0 0 (lenN v2)), [rowO 24 1 rowF v2]) := w_ref19_First _ _ h3'
 simp [h1, h3]
 rcases iteB_cases h with ⟨c4, h⟩ | ⟨c4, h⟩
 ·simp [h1, h3, c4]
  obtain ⟨v5, h6', h⟩ := bind_some' h
  have h6 : ev 28 [T.agg a.cells, T.c (C.lit (Value.int IntKind.i64 1))] = some (T.c (C.lit (Value.int IntKind.i64 v5)), []) := w_ref19_Vars _ _ _ h6'
  simp [h1, h3, c4, h6]
  obtain ⟨v7, h8', h⟩ := bind_some' h
  have h8 : ev 29 [T.agg a.cells, T.c (C.lit (Value.int IntKind.i64 0)), T.c (C.lit (Value.int IntKind.i64 inv))] = some (T.c (C.lit (Value.int IntKind.i64 v7)), []) := w_ref19_Lit _ _ _ _ h8'
  simp [h1, h3, c4, h6, h8]
  rcases iteB_cases h with ⟨c9, h⟩ | ⟨c9, h⟩
  ·simp [h1, h3, c4, h6, h8, c9]
   cases h
   rfl
  ·simp [h1, h3, c4, h6, h8, c9]
   cases h
 ·simp [h1, h3, c4]
  cases h
theorem w_ref19_Stays (a : Aig) (inv : Int) (r : Cnf) (h : ref19_Stays a inv = some r) : ev 12 [T.agg (Aig.cells a), T.c (C.lit (Value.int IntKind.i64 inv))] = some (T.agg [C.lit (Value.int IntKind.i64 r.N), C.ref 0 0 (lenN r.cs)], [rowO 24 1 rowF r.cs]) := by
 refine ev_run' (kp := k12) (us := [32]) fn12 rfl rfl rfl rfl rfl (by kernel_rfl) rfl rfl (by simp) ?_
 unfold ref19_Stays at h
 simp
 obtain ⟨v0, h1', h⟩ := bind_some' h
 have h1 : ev 26 [T.agg a.cells, T.c (C.lit (Value.int IntKind.i64 0))] = some (T.c (C.ref 0 0 (lenN v0)), [rowO 24 1 rowF v0]) := w_ref19_Frame _ _ _ h1'
 simp [h1]
 obtain ⟨v2, h3', h⟩ := bind_some' h
 have h3 : ev 26 [T.agg a.cells, T.c (C.lit (Value.int IntKind.i64 1))] = some (T.c (C.ref 0 0 (lenN v2)), [rowO 24 1 rowF v2]) := w_ref19_Frame _ _ _ h3'
 simp [h1, h3]
 rcases iteB_cases h with ⟨c4, h⟩ | ⟨c4, h⟩
 ·simp [h1, h3, c4]
  obtain ⟨v5, h6', h⟩ := bind_some' h
  have h6 : ev 31 [T.agg a.cells] = some (T.c (C.ref 0 0 (lenN v5)), [rowO 24 1 rowF v5]) := w_ref19_Link _ _ h6'
  simp [h1, h3, c4, h6]
  rcases iteB_cases h with ⟨c7, h⟩ | ⟨c7, h⟩
  ·simp [h1, h3, c4, h6, c7]
   obtain ⟨v8, h9', h⟩ := bind_some' h
   have h9 : ev 30 [T.c (C.ref 9001 0 (lenN (v0 ++ (v2 ++ v5)))), T.agg a.cells, obT (rowO 24 1 rowF (v0 ++ (v2 ++ v5)))] = some (T.c (C.ref 0 0 (lenN v8)), [rowO 24 1 rowF v8]) := w_ref19_cons _ _ _ h9'
   simp [h1, h3, c4, h6, c7, h9]
   obtain ⟨v10, h11', h⟩ := bind_some' h
   have h11 : ev 28 [T.agg a.cells, T.c (C.lit (Value.int IntKind.i64 2))] = some (T.c (C.lit (Value.int IntKind.i64 v10)), []) := w_ref19_Vars _ _ _ h11'
   simp [h1, h3, c4, h6, c7, h9, h11]
   obtain ⟨v12, h13', h⟩ := bind_some' h
   have h13 : ev 29 [T.agg a.cells, T.c (C.lit (Value.int IntKind.i64 0)), T.c (C.lit (Value.int IntKind.i64 inv))] = some (T.c (C.lit (Value.int IntKind.i64 v12)), []) := w_ref19_Lit _ _ _ _ h13'
   simp [h1, h3, c4, h6, c7, h9, h11, h13]
   obtain ⟨v14, h15', h⟩ := bind_some' h
   have h15 : ev 29 [T.agg a.cells, T.c (C.lit (Value.int IntKind.i64 1)), T.c (C.lit (Value.int IntKind.i64 inv))] = some (T.c (C.lit (Value.int IntKind.i64 v14)), []) := w_ref19_Lit _ _ _ _ h15'
   simp [h1, h3, c4, h6, c7, h9, h11, h13, h15]
   rcases iteB_cases h with ⟨c16, h⟩ | ⟨c16, h⟩
   ·simp [h1, h3, c4, h6, c7, h9, h11, h13, h15, c16]
    cases h
    rfl
   ·simp [h1, h3, c4, h6, c7, h9, h11, h13, h15, c16]
    cases h
  ·simp [h1, h3, c4, h6, c7]
   cases h
 ·simp [h1, h3, c4]
  cases h
theorem w_ref19_Safe (a : Aig) (inv : Int) (bad : Int) (r : Cnf) (h : ref19_Safe a inv bad = some r) : ev 13 [T.agg (Aig.cells a), T.c (C.lit (Value.int IntKind.i64 inv)), T.c (C.lit (Value.int IntKind.i64 bad))] = some (T.agg [C.lit (Value.int IntKind.i64 r.N), C.ref 0 0 (lenN r.cs)], [rowO 24 1 rowF r.cs]) := by
 refine ev_run' (kp := k13) (us := [32]) fn13 rfl rfl rfl rfl rfl (by kernel_rfl) rfl rfl (by simp) ?_
 unfold ref19_Safe at h
 simp
 obtain ⟨v0, h1', h⟩ := bind_some' h
 have h1 : ev 26 [T.agg a.cells, T.c (C.lit (Value.int IntKind.i64 0))] = some (T.c (C.ref 0 0 (lenN v0)), [rowO 24 1 rowF v0]) := w_ref19_Frame _ _ _ h1'
 simp [h1]
 obtain ⟨v2, h3', h⟩ := bind_some' h
 have h3 : ev 30 [T.c (C.ref 9001 0 (lenN v0)), T.agg a.cells, obT (rowO 24 1 rowF v0)] = some (T.c (C.ref 0 0 (lenN v2)), [rowO 24 1 rowF v2]) := w_ref19_cons _ _ _ h3'
 simp [h1, h3]
 obtain ⟨v4, h5', h⟩ := bind_some' h
 have h5 : ev 28 [T.agg a.cells, T.c (C.lit (Value.int IntKind.i64 1))] = some (T.c (C.lit (Value.int IntKind.i64 v4)), []) := w_ref19_Vars _ _ _ h5'
 simp [h1, h3, h5]
 obtain ⟨v6, h7', h⟩ := bind_some' h
 have h7 : ev 29 [T.agg a.cells, T.c (C.lit (Value.int IntKind.i64 0)), T.c (C.lit (Value.int IntKind.i64 inv))] = some (T.c (C.lit (Value.int IntKind.i64 v6)), []) := w_ref19_Lit _ _ _ _ h7'
 simp [h1, h3, h5, h7]
 obtain ⟨v8, h9', h⟩ := bind_some' h
 have h9 : ev 29 [T.agg a.cells, T.c (C.lit (Value.int IntKind.i64 0)), T.c (C.lit (Value.int IntKind.i64 bad))] = some (T.c (C.lit (Value.int IntKind.i64 v8)), []) := w_ref19_Lit _ _ _ _ h9'
 simp [h1, h3, h5, h7, h9]
 rcases iteB_cases h with ⟨c10, h⟩ | ⟨c10, h⟩
 ·simp [h1, h3, h5, h7, h9, c10]
  cases h
  rfl
 ·simp [h1, h3, h5, h7, h9, c10]
  cases h
theorem w_ref19_Clauses (a : List (List Int)) (b : List (List Int)) (r : Bool) (h : ref19_Clauses a b = some r) : ev 14 [T.c (sls 1 rowF a), T.c (sls 1 rowF b)] = some (T.c (C.lit (Value.bool r)), []) := by
 refine ev_run' (kp := k14) (us := [4]) fn14 rfl rfl rfl rfl rfl (by kernel_rfl) rfl rfl (by simp) ?_
 unfold ref19_Clauses at h
 simp
 rcases iteB_cases h with ⟨c0, h⟩ | ⟨c0, h⟩
 ·simp [c0]
  obtain ⟨w139, h138, h⟩ := bind_some' h
  rw [evLoop_loopF (ι := Int) (ρ := Unit ⊕ Unit) (fun p => match p with | x93 => mk 53 [(0, T.c (sls 1 rowF a)), (1, T.c (sls 1 rowF b)), (5, T.c (C.lit (Value.int IntKind.i64 x93)))] [] []) (fun r => match r with | .inl () => (Ex.ret, mk 53 [(4, T.c (C.lit (Value.bool false)))] [] []) | .inr () => (Ex.exit 0, mk 53 [] [] [])) (ref19_Clauses_B1 a b) h138 ?_ _ ?_]
  ·rcases w139 with ⟨⟩ | ⟨⟩
   ·simp [c0]
    cases h
    rfl
   ·simp [c0]
    cases h
    rfl
  ·clear h138 h
   rintro x93 y L res h hL hR
   unfold ref19_Clauses_B1 at h
   simp
   rcases iteB_cases h with ⟨c94, h⟩ | ⟨c94, h⟩
   ·simp [c94]
    obtain ⟨v95, h96, h⟩ := bind_some' h
    simp [c94, h96]
    obtain ⟨v97, h98, h⟩ := bind_some' h
    simp [c94, h96, h98]
    rcases iteB_cases h with ⟨c99, h⟩ | ⟨c99, h⟩
    ·simp [c94, h96, h98, c99]
     obtain ⟨w137, h136, h⟩ := bind_some' h
     rw [evLoop_loopF (ι := Int) (ρ := Unit ⊕ Unit) (fun p => match p with | x125 => mk 53 [(0, T.c (sls 1 rowF a)), (1, T.c (sls 1 rowF b)), (5, T.c (C.lit (Value.int IntKind.i64 x93))), (6, T.c (C.lit (Value.int IntKind.i64 x125)))] [] []) (fun r => match r with | .inl () => (Ex.ret, mk 53 [(4, T.c (C.lit (Value.bool false)))] [] []) | .inr () => (Ex.exit 2, mk 53 [(0, T.c (sls 1 rowF a)), (1, T.c (sls 1 rowF b)), (5, T.c (C.lit (Value.int IntKind.i64 x93)))] [] [])) (ref19_Clauses_B0 a b x93) h136 ?_ _ ?_]
     ·rcases w137 with ⟨⟩ | ⟨⟩
      ·simp [c94, h96, h98, c99]
       cases h
       exact hR _ rfl
      ·simp [c94, h96, h98, c99]
       cases h
       exact hL _ _ rfl (by simp [headOf])
     ·clear h136 h
      rintro x125 y L res h hL hR
      unfold ref19_Clauses_B0 at h
      simp
      obtain ⟨v126, h127, h⟩ := bind_some' h
      simp [h127]
      rcases iteB_cases h with ⟨c128, h⟩ | ⟨c128, h⟩
      ·simp [h127, c128]
       obtain ⟨v129, h130, h⟩ := bind_some' h
       simp [h127, c128, h130]
       obtain ⟨v131, h132, h⟩ := bind_some' h
       simp [h127, c128, h130, h132]
       obtain ⟨v133, h134, h⟩ := bind_some' h
       simp [h127, c128, h130, h132, h134]
       rcases iteB_cases h with ⟨c135, h⟩ | ⟨c135, h⟩
       ·simp [h127, c128, h130, h132, h134, c135]
        cases h
        exact hL _ _ rfl (by simp [headOf])
       ·simp [h127, c128, h130, h132, h134, c135]
        cases h
        exact hR _ rfl
      ·simp [h127, c128]
       cases h
       exact hR _ rfl
     ·simp [headOf]
    ·simp [c94, h96, h98, c99]
     cases h
     exact hR _ rfl
   ·simp [c94]
    cases h
    exact hR _ rfl
  ·simp [headOf]
 ·simp [c0]
  cases h
  rfl
theorem w_law19_shown (r : Bool) (h : law19_shown = some r) : ev 4 [] = some (T.c (C.lit (Value.bool r)), []) := by
 refine ev_run' (kp := k4) (us := [4]) fn4 rfl rfl rfl rfl rfl (by kernel_rfl) rfl rfl (by simp) ?_
 unfold law19_shown at h
 simp
 obtain ⟨v0, h1', h⟩ := bind_some' h
 have h1 : ev 6 [T.agg [C.lit (Value.int IntKind.i64 2), C.sl 2 [], sls 2 And.cells [{ a := 4, b := 2 }], C.sl 1 [], C.sl 1 [], C.sl 1 [], C.sl 3 []], T.c (C.lit (Value.int IntKind.i64 6))] = some (T.agg [C.lit (Value.int IntKind.i64 v0.N), C.ref 0 0 (lenN v0.cs)], [rowO 24 1 rowF v0.cs]) := w_enc_Starts _ _ _ h1'
 simp [h1]
 obtain ⟨v2, h3', h⟩ := bind_some' h
 have h3 : ev 8 [T.agg [C.lit (Value.int IntKind.i64 2), C.sl 2 [], sls 2 And.cells [{ a := 4, b := 2 }], C.sl 1 [], C.sl 1 [], C.sl 1 [], C.sl 3 []], T.c (C.lit (Value.int IntKind.i64 6)), T.c (C.lit (Value.int IntKind.i64 7))] = some (T.agg [C.lit (Value.int IntKind.i64 v2.N), C.ref 0 0 (lenN v2.cs)], [rowO 24 1 rowF v2.cs]) := w_enc_Safe _ _ _ _ h3'
 simp [h1, h3]
 obtain ⟨v4, h5', h⟩ := bind_some' h
 have h5 : ev 15 [T.agg [C.lit (Value.int IntKind.i64 2), C.sl 2 [], sls 2 And.cells [{ a := 4, b := 2 }], C.sl 1 [], C.sl 1 [], C.sl 1 [], C.sl 3 []], T.c (C.lit (Value.int IntKind.i64 0))] = some (T.c (C.ref 0 0 (lenN v4)), [rowO 24 1 rowF v4]) := w_enc_Frame _ _ _ h5'
 simp [h1, h3, h5]
 obtain ⟨v6, h7', h⟩ := bind_some' h
 have h7 : ev 14 [T.c (sls 1 rowF v4), T.c (sls 1 rowF [[-1], [-4, 3], [-4, 2], [4, -3, -2]])] = some (T.c (C.lit (Value.bool v6)), []) := w_ref19_Clauses _ _ _ h7'
 simp [h1, h3, h5, h7]
 rcases iteB_cases h with ⟨c8, h⟩ | ⟨c8, h⟩
 ·simp [h1, h3, h5, h7, c8]
  obtain ⟨v9, h10', h⟩ := bind_some' h
  have h10 : ev 16 [T.agg [C.lit (Value.int IntKind.i64 2), C.sl 2 [], sls 2 And.cells [{ a := 4, b := 2 }], C.sl 1 [], C.sl 1 [], C.sl 1 [], C.sl 3 []], T.c (C.lit (Value.int IntKind.i64 2))] = some (T.c (C.lit (Value.int IntKind.i64 v9)), []) := w_enc_Vars _ _ _ h10'
  simp [h1, h3, h5, h7, c8, h10]
  rcases iteB_cases h with ⟨c11, h⟩ | ⟨c11, h⟩
  ·simp [h1, h3, h5, h7, c8, h10, c11]
   obtain ⟨v12, h13', h⟩ := bind_some' h
   have h13 : ev 17 [T.agg [C.lit (Value.int IntKind.i64 2), C.sl 2 [], sls 2 And.cells [{ a := 4, b := 2 }], C.sl 1 [], C.sl 1 [], C.sl 1 [], C.sl 3 []], T.c (C.lit (Value.int IntKind.i64 1)), T.c (C.lit (Value.int IntKind.i64 7))] = some (T.c (C.lit (Value.int IntKind.i64 v12)), []) := w_enc_Lit _ _ _ _ h13'
   simp [h1, h3, h5, h7, c8, h10, c11, h13]
   rcases iteB_cases h with ⟨c14, h⟩ | ⟨c14, h⟩
   ·simp [h1, h3, h5, h7, c8, h10, c11, h13, c14]
    rcases iteB_cases h with ⟨c15, h⟩ | ⟨c15, h⟩
    ·simp [h1, h3, h5, h7, c8, h10, c11, h13, c14, c15]
     rcases iteB_cases h with ⟨c16, h⟩ | ⟨c16, h⟩
     ·simp [h1, h3, h5, h7, c8, h10, c11, h13, c14, c15, c16]
      cases h
      rfl
     ·simp [h1, h3, h5, h7, c8, h10, c11, h13, c14, c15, c16]
      cases h
      rfl
    ·simp [h1, h3, h5, h7, c8, h10, c11, h13, c14, c15]
     cases h
     rfl
   ·simp [h1, h3, h5, h7, c8, h10, c11, h13, c14]
    cases h
    rfl
  ·simp [h1, h3, h5, h7, c8, h10, c11]
   cases h
   rfl
 ·simp [h1, h3, h5, h7, c8]
  cases h
  rfl
theorem w_law19_EncAsks (a : Aig) (inv : Int) (bad : Int) (h : law19_EncAsks a inv bad = some true) : ev 3 [T.agg (Aig.cells a), T.c (C.lit (Value.int IntKind.i64 inv)), T.c (C.lit (Value.int IntKind.i64 bad))] = some (T.c (C.lit (Value.bool true)), []) := by
 refine ev_run' (kp := k3) (us := [4]) fn3 rfl rfl rfl rfl rfl (by kernel_rfl) rfl rfl (by simp) ?_
 unfold law19_EncAsks at h
 simp
 obtain ⟨v0, h1', h⟩ := bind_some' h
 have h1 : ev 4 [] = some (T.c (C.lit (Value.bool v0)), []) := w_law19_shown _ h1'
 simp [h1]
 obtain ⟨v2, h3', h⟩ := bind_some' h
 have h3 : ev 5 [T.agg a.cells, T.c (C.lit (Value.int IntKind.i64 inv))] = some (T.c (C.lit (Value.bool v2)), []) := w_law19_may _ _ _ h3'
 simp [h1, h3]
 rcases iteB_cases h with ⟨c4, h⟩ | ⟨c4, h⟩
 ·simp [h1, h3, c4]
  obtain ⟨v5, h6', h⟩ := bind_some' h
  have h6 : ev 5 [T.agg a.cells, T.c (C.lit (Value.int IntKind.i64 bad))] = some (T.c (C.lit (Value.bool v5)), []) := w_law19_may _ _ _ h6'
  simp [h1, h3, c4, h6]
  rcases iteB_cases h with ⟨c7, h⟩ | ⟨c7, h⟩
  ·simp [h1, h3, c4, h6, c7]
   obtain ⟨v8, h9', h⟩ := bind_some' h
   have h9 : ev 6 [T.agg a.cells, T.c (C.lit (Value.int IntKind.i64 inv))] = some (T.agg [C.lit (Value.int IntKind.i64 v8.N), C.ref 0 0 (lenN v8.cs)], [rowO 24 1 rowF v8.cs]) := w_enc_Starts _ _ _ h9'
   simp [h1, h3, c4, h6, c7, h9]
   obtain ⟨v10, h11', h⟩ := bind_some' h
   have h11 : ev 7 [T.agg a.cells, T.c (C.lit (Value.int IntKind.i64 inv))] = some (T.agg [C.lit (Value.int IntKind.i64 v10.N), C.ref 0 0 (lenN v10.cs)], [rowO 24 1 rowF v10.cs]) := w_enc_Stays _ _ _ h11'
   simp [h1, h3, c4, h6, c7, h9, h11]
   obtain ⟨v12, h13', h⟩ := bind_some' h
   have h13 : ev 8 [T.agg a.cells, T.c (C.lit (Value.int IntKind.i64 inv)), T.c (C.lit (Value.int IntKind.i64 bad))] = some (T.agg [C.lit (Value.int IntKind.i64 v12.N), C.ref 0 0 (lenN v12.cs)], [rowO 24 1 rowF v12.cs]) := w_enc_Safe _ _ _ _ h13'
   simp [h1, h3, c4, h6, c7, h9, h11, h13]
   obtain ⟨v14, h15', h⟩ := bind_some' h
   have h15 : ev 9 [T.agg [C.lit (Value.int IntKind.i64 v8.N), sls 1 rowF v8.cs]] = some (T.c (C.lit (Value.bool v14)), []) := w_ref03_Right _ _ h15'
   simp [h1, h3, c4, h6, c7, h9, h11, h13, h15]
   rcases iteB_cases h with ⟨c16, h⟩ | ⟨c16, h⟩
   ·simp [h1, h3, c4, h6, c7, h9, h11, h13, h15, c16]
    obtain ⟨v17, h18', h⟩ := bind_some' h
    have h18 : ev 9 [T.agg [C.lit (Value.int IntKind.i64 v10.N), sls 1 rowF v10.cs]] = some (T.c (C.lit (Value.bool v17)), []) := w_ref03_Right _ _ h18'
    simp [h1, h3, c4, h6, c7, h9, h11, h13, h15, c16, h18]
    rcases iteB_cases h with ⟨c19, h⟩ | ⟨c19, h⟩
    ·simp [h1, h3, c4, h6, c7, h9, h11, h13, h15, c16, h18, c19]
     obtain ⟨v20, h21', h⟩ := bind_some' h
     have h21 : ev 9 [T.agg [C.lit (Value.int IntKind.i64 v12.N), sls 1 rowF v12.cs]] = some (T.c (C.lit (Value.bool v20)), []) := w_ref03_Right _ _ h21'
     simp [h1, h3, c4, h6, c7, h9, h11, h13, h15, c16, h18, c19, h21]
     rcases iteB_cases h with ⟨c22, h⟩ | ⟨c22, h⟩
     ·simp [h1, h3, c4, h6, c7, h9, h11, h13, h15, c16, h18, c19, h21, c22]
      rcases iteB_cases h with ⟨c23, h⟩ | ⟨c23, h⟩
      ·simp [h1, h3, c4, h6, c7, h9, h11, h13, h15, c16, h18, c19, h21, c22, c23]
       obtain ⟨v24, h25', h⟩ := bind_some' h
       have h25 : ev 11 [T.agg a.cells, T.c (C.lit (Value.int IntKind.i64 inv))] = some (T.agg [C.lit (Value.int IntKind.i64 v24.N), C.ref 0 0 (lenN v24.cs)], [rowO 24 1 rowF v24.cs]) := w_ref19_Starts _ _ _ h25'
       simp [h1, h3, c4, h6, c7, h9, h11, h13, h15, c16, h18, c19, h21, c22, c23, h25]
       obtain ⟨v26, h27', h⟩ := bind_some' h
       have h27 : ev 10 [T.agg [C.lit (Value.int IntKind.i64 v8.N), sls 1 rowF v8.cs], T.agg [C.lit (Value.int IntKind.i64 v24.N), sls 1 rowF v24.cs]] = some (T.c (C.lit (Value.bool v26)), []) := w_ref03_Same _ _ _ h27'
       simp [h1, h3, c4, h6, c7, h9, h11, h13, h15, c16, h18, c19, h21, c22, c23, h25, h27]
       rcases iteB_cases h with ⟨c28, h⟩ | ⟨c28, h⟩
       ·simp [h1, h3, c4, h6, c7, h9, h11, h13, h15, c16, h18, c19, h21, c22, c23, h25, h27, c28]
        obtain ⟨v29, h30', h⟩ := bind_some' h
        have h30 : ev 12 [T.agg a.cells, T.c (C.lit (Value.int IntKind.i64 inv))] = some (T.agg [C.lit (Value.int IntKind.i64 v29.N), C.ref 0 0 (lenN v29.cs)], [rowO 24 1 rowF v29.cs]) := w_ref19_Stays _ _ _ h30'
        simp [h1, h3, c4, h6, c7, h9, h11, h13, h15, c16, h18, c19, h21, c22, c23, h25, h27, c28, h30]
        obtain ⟨v31, h32', h⟩ := bind_some' h
        have h32 : ev 10 [T.agg [C.lit (Value.int IntKind.i64 v10.N), sls 1 rowF v10.cs], T.agg [C.lit (Value.int IntKind.i64 v29.N), sls 1 rowF v29.cs]] = some (T.c (C.lit (Value.bool v31)), []) := w_ref03_Same _ _ _ h32'
        simp [h1, h3, c4, h6, c7, h9, h11, h13, h15, c16, h18, c19, h21, c22, c23, h25, h27, c28, h30, h32]
        rcases iteB_cases h with ⟨c33, h⟩ | ⟨c33, h⟩
        ·simp [h1, h3, c4, h6, c7, h9, h11, h13, h15, c16, h18, c19, h21, c22, c23, h25, h27, c28, h30, h32, c33]
         obtain ⟨v34, h35', h⟩ := bind_some' h
         have h35 : ev 13 [T.agg a.cells, T.c (C.lit (Value.int IntKind.i64 inv)), T.c (C.lit (Value.int IntKind.i64 bad))] = some (T.agg [C.lit (Value.int IntKind.i64 v34.N), C.ref 0 0 (lenN v34.cs)], [rowO 24 1 rowF v34.cs]) := w_ref19_Safe _ _ _ _ h35'
         simp [h1, h3, c4, h6, c7, h9, h11, h13, h15, c16, h18, c19, h21, c22, c23, h25, h27, c28, h30, h32, c33, h35]
         obtain ⟨v36, h37', h⟩ := bind_some' h
         have h37 : ev 10 [T.agg [C.lit (Value.int IntKind.i64 v12.N), sls 1 rowF v12.cs], T.agg [C.lit (Value.int IntKind.i64 v34.N), sls 1 rowF v34.cs]] = some (T.c (C.lit (Value.bool v36)), []) := w_ref03_Same _ _ _ h37'
         first | (cases h; done) | (simp [h1, h3, c4, h6, c7, h9, h11, h13, h15, c16, h18, c19, h21, c22, c23, h25, h27, c28, h30, h32, c33, h35, h37]; first | rfl | (injection h with h; rw [h]; rfl) | (injection h with h; rw [h]))
        ·first | (cases h; done) | (simp [h1, h3, c4, h6, c7, h9, h11, h13, h15, c16, h18, c19, h21, c22, c23, h25, h27, c28, h30, h32, c33]; first | rfl | (injection h with h; rw [h]; rfl) | (injection h with h; rw [h]))
       ·first | (cases h; done) | (simp [h1, h3, c4, h6, c7, h9, h11, h13, h15, c16, h18, c19, h21, c22, c23, h25, h27, c28]; first | rfl | (injection h with h; rw [h]; rfl) | (injection h with h; rw [h]))
      ·first | (cases h; done) | (simp [h1, h3, c4, h6, c7, h9, h11, h13, h15, c16, h18, c19, h21, c22, c23]; first | rfl | (injection h with h; rw [h]; rfl) | (injection h with h; rw [h]))
     ·first | (cases h; done) | (simp [h1, h3, c4, h6, c7, h9, h11, h13, h15, c16, h18, c19, h21, c22]; first | rfl | (injection h with h; rw [h]; rfl) | (injection h with h; rw [h]))
    ·simp [h1, h3, c4, h6, c7, h9, h11, h13, h15, c16, h18, c19]
     rcases iteB_cases h with ⟨c38, h⟩ | ⟨c38, h⟩
     ·first | (cases h; done) | (simp [h1, h3, c4, h6, c7, h9, h11, h13, h15, c16, h18, c19, c38]; first | rfl | (injection h with h; rw [h]; rfl) | (injection h with h; rw [h]))
     ·first | (cases h; done) | (simp [h1, h3, c4, h6, c7, h9, h11, h13, h15, c16, h18, c19, c38]; first | rfl | (injection h with h; rw [h]; rfl) | (injection h with h; rw [h]))
   ·simp [h1, h3, c4, h6, c7, h9, h11, h13, h15, c16]
    rcases iteB_cases h with ⟨c39, h⟩ | ⟨c39, h⟩
    ·first | (cases h; done) | (simp [h1, h3, c4, h6, c7, h9, h11, h13, h15, c16, c39]; first | rfl | (injection h with h; rw [h]; rfl) | (injection h with h; rw [h]))
    ·first | (cases h; done) | (simp [h1, h3, c4, h6, c7, h9, h11, h13, h15, c16, c39]; first | rfl | (injection h with h; rw [h]; rfl) | (injection h with h; rw [h]))
  ·first | (cases h; done) | (simp [h1, h3, c4, h6, c7]; first | rfl | (injection h with h; rw [h]; rfl) | (injection h with h; rw [h]))
 ·first | (cases h; done) | (simp [h1, h3, c4]; first | rfl | (injection h with h; rw [h]; rfl) | (injection h with h; rw [h]))
end Go.Proofs.Ythmnnieiibeiaaa

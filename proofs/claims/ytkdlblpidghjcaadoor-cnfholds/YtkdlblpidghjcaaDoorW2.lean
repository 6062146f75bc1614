/- What the interpreter comes to is what the plain functions come to. No condition. -/
import Derived.Test.YtkdlblpidghjcaaDoorW1
import Derived.Test.YtkdlblpidghjcaaDoorGw
set_option linter.unusedSimpArgs false
set_option linter.unusedVariables false
set_option maxRecDepth 20000
set_option maxHeartbeats 4000000
namespace Go.Proofs.YtkdlblpidghjcaaDoor
open Go.Vabs Go.Vid
theorem w_ref03_Small (f_ : Cnf) (most : Int) (r : Bool) (h : ref03_Small f_ most = some r) : ev 11 [T.agg (Cnf.cells f_), T.c (C.lit (Value.int IntKind.i64 most))] = some (T.c (C.lit (Value.bool r)), []) := by
 refine ev_run' (kp := k11) (us := [4]) fn11 rfl rfl rfl rfl rfl (by kernel_rfl) rfl (by simp) ?_
 unfold ref03_Small at h
 simp
 rcases iteB_cases h with ⟨c0, h⟩ | ⟨c0, h⟩
 ·simp [c0]
  cases h
  rfl
 ·simp [c0]
  obtain ⟨w19, h18, h⟩ := bind_some' h
  rw [evLoop_loopF (ι := Int) (ρ := Unit ⊕ Unit) (fun p => match p with | x13 => mk 26 [(1, T.c (C.lit (Value.int IntKind.i64 most))), (2, T.c (C.ptr 2 0 0)), (5, T.c (C.lit (Value.int IntKind.i64 x13)))] [(2, { box := true, free := true, elem := 24, sz := 2, es := [f_.cells] })] []) (fun r => match r with | .inl () => (Ex.ret, mk 26 [(4, T.c (C.lit (Value.bool false)))] [] []) | .inr () => (Ex.exit 0, mk 26 [] [] [])) (ref03_Small_B0 f_ most) h18 ?_ _ ?_]
  ·rcases w19 with ⟨⟩ | ⟨⟩
   ·simp [c0]
    cases h
    rfl
   ·simp [c0]
    cases h
    rfl
  ·clear h18 h
   rintro x13 y L res h hL hR
   unfold ref03_Small_B0 at h
   simp
   rcases iteB_cases h with ⟨c14, h⟩ | ⟨c14, h⟩
   ·simp [c14]
    obtain ⟨v15, h16, h⟩ := bind_some' h
    simp [c14, h16]
    rcases iteB_cases h with ⟨c17, h⟩ | ⟨c17, h⟩
    ·simp [c14, h16, c17]
     cases h
     exact hR _ rfl
    ·simp [c14, h16, c17]
     cases h
     exact hL _ _ rfl (by simp [headOf])
   ·simp [c14]
    cases h
    exact hR _ rfl
  ·simp [headOf]
theorem w_ref03_Print (f_ : Cnf) (r : ByteArray × Int) (h : ref03_Print f_ = some r) : ev 13 [T.agg (Cnf.cells f_)] = some (T.tup [T.c (C.lit (Value.string r.1)), T.c (C.lit (Value.int IntKind.i64 r.2))], []) := by
 refine ev_run' (kp := k13) (us := [9, 3]) fn13 rfl rfl rfl rfl rfl (by kernel_rfl) rfl (by simp) ?_
 unfold ref03_Print at h
 simp
 obtain ⟨v0, h1', h⟩ := bind_some' h
 have h1 : ev 17 [T.agg f_.cells] = some (T.c (C.lit (Value.bool v0)), []) := w_ref03_Right _ _ h1'
 simp [h1]
 rcases iteB_cases h with ⟨c2, h⟩ | ⟨c2, h⟩
 ·simp [h1, c2]
  obtain ⟨v3, h4', h⟩ := bind_some' h
  have h4 : ev 32 [T.c (C.lit (Value.int IntKind.i64 f_.N))] = some (T.c (C.lit (Value.string v3)), []) := w_ref03_Figures _ _ h4'
  simp [h1, c2, h4]
  rcases iteB_cases h with ⟨c5, h⟩ | ⟨c5, h⟩
  ·simp [h1, c2, h4, c5]
   rcases iteB_cases h with ⟨c6, h⟩ | ⟨c6, h⟩
   ·simp [h1, c2, h4, c5, c6]
    obtain ⟨v7, h8', h⟩ := bind_some' h
    have h8 : ev 32 [T.c (C.lit (Value.int IntKind.i64 (lenI f_.cs)))] = some (T.c (C.lit (Value.string v7)), []) := w_ref03_Figures _ _ h8'
    simp [h1, c2, h4, c5, c6, h8]
    rcases iteB_cases h with ⟨c9, h⟩ | ⟨c9, h⟩
    ·simp [h1, c2, h4, c5, c6, h8, c9]
     rcases iteB_cases h with ⟨c10, h⟩ | ⟨c10, h⟩
     ·simp [h1, c2, h4, c5, c6, h8, c9, c10]
      obtain ⟨y138, h139, h⟩ := bind_some' h
      rw [evLoop_loopF (ι := ByteArray × Int) (ρ := ByteArray) (fun p => match p with | (x96, x97) => mk 55 [(1, T.c (C.ptr 1 0 0)), (5, T.c (C.lit (Value.string x96))), (6, T.c (C.lit (Value.int IntKind.i64 x97)))] [(1, { box := true, free := true, elem := 24, sz := 2, es := [f_.cells] })] []) (fun r => match r with | y138 => (Ex.exit 0, mk 55 [(5, T.c (C.lit (Value.string y138)))] [] [])) (ref03_Print_B1 f_) h139 ?_ _ ?_]
      ·simp [h1, c2, h4, c5, c6, h8, c9, c10]
       cases h
       rfl
      ·clear h139 h
       rintro ⟨x96, x97⟩ y L res h hL hR
       unfold ref03_Print_B1 at h
       simp
       rcases iteB_cases h with ⟨c98, h⟩ | ⟨c98, h⟩
       ·simp [c98]
        obtain ⟨y134, h136, h⟩ := bind_some' h
        rw [evLoop_loopF (ι := ByteArray × Int) (ρ := ByteArray) (fun p => match p with | (x123, x124) => mk 55 [(1, T.c (C.ptr 1 0 0)), (5, T.c (C.lit (Value.string x123))), (6, T.c (C.lit (Value.int IntKind.i64 x97))), (7, T.c (C.lit (Value.int IntKind.i64 x124)))] [(1, { box := true, free := true, elem := 24, sz := 2, es := [f_.cells] })] []) (fun r => match r with | y134 => (Ex.exit 2, mk 55 [(1, T.c (C.ptr 1 0 0)), (5, T.c (C.lit (Value.string y134))), (6, T.c (C.lit (Value.int IntKind.i64 x97)))] [(1, { box := true, free := true, elem := 24, sz := 2, es := [f_.cells] })] [])) (ref03_Print_B0 f_ x97) h136 ?_ _ ?_]
        ·simp [c98]
         rcases iteB_cases h with ⟨c135, h⟩ | ⟨c135, h⟩
         ·simp [c98, c135]
          cases h
          exact hL _ _ rfl (by simp [headOf])
         ·simp [c98, c135]
          cases h
        ·clear h136 h
         rintro ⟨x123, x124⟩ y L res h hL hR
         unfold ref03_Print_B0 at h
         simp
         obtain ⟨v125, h126, h⟩ := bind_some' h
         simp [h126]
         rcases iteB_cases h with ⟨c127, h⟩ | ⟨c127, h⟩
         ·simp [h126, c127]
          obtain ⟨v128, h129, h⟩ := bind_some' h
          simp [h126, c127, h129]
          obtain ⟨v130, h131', h⟩ := bind_some' h
          have h131 : ev 32 [T.c (C.lit (Value.int IntKind.i64 v128))] = some (T.c (C.lit (Value.string v130)), []) := w_ref03_Figures _ _ h131'
          simp [h126, c127, h129, h131]
          rcases iteB_cases h with ⟨c132, h⟩ | ⟨c132, h⟩
          ·simp [h126, c127, h129, h131, c132]
           rcases iteB_cases h with ⟨c133, h⟩ | ⟨c133, h⟩
           ·simp [h126, c127, h129, h131, c132, c133]
            cases h
            exact hL _ _ rfl (by simp [headOf])
           ·simp [h126, c127, h129, h131, c132, c133]
            cases h
          ·simp [h126, c127, h129, h131, c132]
           cases h
         ·simp [h126, c127]
          cases h
          exact hR _ rfl
        ·simp [headOf]
       ·simp [c98]
        cases h
        exact hR _ rfl
      ·simp [headOf]
     ·simp [h1, c2, h4, c5, c6, h8, c9, c10]
      cases h
    ·simp [h1, c2, h4, c5, c6, h8, c9]
     cases h
   ·simp [h1, c2, h4, c5, c6]
    cases h
  ·simp [h1, c2, h4, c5]
   cases h
 ·simp [h1, c2]
  cases h
  rfl
theorem w_ref03_Parse (b : List Int) (r : Cnf × Int × Int) (h : ref03_Parse b = some r) : ev 15 [T.c (sls 1 byteF b)] = some (T.tup [T.agg [C.lit (Value.int IntKind.i64 r.1.N), C.ref 0 0 (lenN r.1.cs)], T.c (C.lit (Value.int IntKind.i64 r.2.1)), T.c (C.lit (Value.int IntKind.i64 r.2.2))], [rowO 50 1 rowF r.1.cs]) := by
 refine ev_run' (kp := k15) (us := [24, 3, 3]) fn15 rfl rfl rfl rfl rfl (by kernel_rfl) rfl (by simp) ?_
 unfold ref03_Parse at h
 simp
 rcases iteB_cases h with ⟨c0, h⟩ | ⟨c0, h⟩
 ·simp [c0]
  cases h
  rfl
 ·simp [c0]
  obtain ⟨v1, h2', h⟩ := bind_some' h
  have h2 : ev 39 [T.agg [sls 1 byteF b, C.lit (Value.int IntKind.i64 0), C.lit (Value.int IntKind.i64 0)], T.c (C.lit (Value.string { data := #[112, 32, 99, 110, 102, 32] }))] = some (T.agg (At_ref03.cells v1), []) := w_ref03_Word _ _ _ h2'
  simp [c0, h2]
  obtain ⟨⟨v3, v4⟩, h5', h⟩ := bind_some' h
  have h5 : ev 38 [T.agg [sls 1 byteF v1.b, C.lit (Value.int IntKind.i64 v1.n), C.lit (Value.int IntKind.i64 v1.bad)], T.c (C.lit (Value.int IntKind.i64 100000))] = some (T.tup [T.c (C.lit (Value.int IntKind.i64 v3)), T.agg (At_ref03.cells v4)], []) := w_ref03_Number _ _ _ h5'
  simp [c0, h2, h5]
  obtain ⟨v6, h7', h⟩ := bind_some' h
  have h7 : ev 39 [T.agg [sls 1 byteF v4.b, C.lit (Value.int IntKind.i64 v4.n), C.lit (Value.int IntKind.i64 v4.bad)], T.c (C.lit (Value.string { data := #[32] }))] = some (T.agg (At_ref03.cells v6), []) := w_ref03_Word _ _ _ h7'
  simp [c0, h2, h5, h7]
  obtain ⟨⟨v8, v9⟩, h10', h⟩ := bind_some' h
  have h10 : ev 38 [T.agg [sls 1 byteF v6.b, C.lit (Value.int IntKind.i64 v6.n), C.lit (Value.int IntKind.i64 v6.bad)], T.c (C.lit (Value.int IntKind.i64 20000))] = some (T.tup [T.c (C.lit (Value.int IntKind.i64 v8)), T.agg (At_ref03.cells v9)], []) := w_ref03_Number _ _ _ h10'
  simp [c0, h2, h5, h7, h10]
  obtain ⟨v11, h12', h⟩ := bind_some' h
  have h12 : ev 39 [T.agg [sls 1 byteF v9.b, C.lit (Value.int IntKind.i64 v9.n), C.lit (Value.int IntKind.i64 v9.bad)], T.c (C.lit (Value.string { data := #[10] }))] = some (T.agg (At_ref03.cells v11), []) := w_ref03_Word _ _ _ h12'
  simp [c0, h2, h5, h7, h10, h12]
  rw [evL_peel (s0 := mk 71 [(2, T.c (C.ptr 2 0 0)), (5, T.c (C.lit (Value.int IntKind.i64 v3))), (7, T.c (C.lit (Value.int IntKind.i64 v8))), (9, T.c (C.ptr 9 0 0)), (10, T.c (C.ptr 10 0 0)), (11, T.c (C.lit (Value.int IntKind.i64 0)))] [(2, { box := true, free := true, elem := 24, sz := 2, es := [[C.lit (Value.int IntKind.i64 0), C.lit (Value.slice none 0 0)]] }), (9, { box := true, free := true, elem := 75, sz := 3, es := [[sls 1 byteF v11.b, C.lit (Value.int IntKind.i64 v11.n), C.lit (Value.int IntKind.i64 v11.bad)]] }), (10, { box := true, free := true, elem := 24, sz := 2, es := [[C.lit (Value.int IntKind.i64 v3), C.lit (Value.slice none 0 0)]] })] []) ?_]
  ·simp [c0, h2, h5, h7, h10, h12]
   rcases iteB_cases h with ⟨c27, h⟩ | ⟨c27, h⟩
   ·simp [c0, h2, h5, h7, h10, h12, c27]
    rcases iteB_cases h with ⟨c28, h⟩ | ⟨c28, h⟩
    ·simp [c0, h2, h5, h7, h10, h12, c27, c28]
     obtain ⟨⟨v29, v30⟩, h31', h⟩ := bind_some' h
     have h31 : ev 40 [T.agg [sls 1 byteF v11.b, C.lit (Value.int IntKind.i64 v11.n), C.lit (Value.int IntKind.i64 v11.bad)], T.c (C.lit (Value.int IntKind.i64 v3))] = some (T.tup [T.c (C.ref 0 0 (lenN v29)), T.agg (At_ref03.cells v30)], [rowO 3 1 intF v29]) := w_ref03_Lits _ _ _ h31'
     simp [c0, h2, h5, h7, h10, h12, c27, c28, h31]
     rcases iteB_cases h with ⟨c32, h⟩ | ⟨c32, h⟩
     ·simp [c0, h2, h5, h7, h10, h12, c27, c28, h31, c32]
      obtain ⟨w78, h77, h⟩ := bind_some' h
      rw [evLoop_loopF (ι := ((List (List Int))) × (List Int) × Int × Int × Int) (ρ := ((List (List Int))) × (List Int) × Int × Int) (fun p => match p with | (x59, x60, x61, x62, x63) => mk 71 [(2, T.c (C.ptr 2 0 0)), (5, T.c (C.lit (Value.int IntKind.i64 v3))), (7, T.c (C.lit (Value.int IntKind.i64 v8))), (9, T.c (C.ptr 9 0 0)), (10, T.c (C.ptr 10 0 0)), (11, T.c (C.lit (Value.int IntKind.i64 x63)))] [(2, { box := true, free := true, elem := 24, sz := 2, es := [[C.lit (Value.int IntKind.i64 0), C.lit (Value.slice none 0 0)]] }), (9, { box := true, free := true, elem := 75, sz := 3, es := [[sls 1 byteF x60, C.lit (Value.int IntKind.i64 x61), C.lit (Value.int IntKind.i64 x62)]] }), (10, { box := true, free := false, elem := 24, sz := 2, es := [[C.lit (Value.int IntKind.i64 v3), C.ref 55 0 (lenN x59)]] }), (55, rowO 50 1 rowF x59)] []) (fun r => match r with | (y70, y71, y72, y73) => (Ex.exit 0, mk 71 [(2, T.c (C.ptr 2 0 0)), (9, T.c (C.ptr 9 0 0)), (10, T.c (C.ptr 10 0 0))] [(2, { box := true, free := true, elem := 24, sz := 2, es := [[C.lit (Value.int IntKind.i64 0), C.lit (Value.slice none 0 0)]] }), (9, { box := true, free := true, elem := 75, sz := 3, es := [[sls 1 byteF y71, C.lit (Value.int IntKind.i64 y72), C.lit (Value.int IntKind.i64 y73)]] }), (10, { box := true, free := false, elem := 24, sz := 2, es := [[C.lit (Value.int IntKind.i64 v3), C.ref 55 0 (lenN y70)]] }), (55, rowO 50 1 rowF y70)] [])) (ref03_Parse_B0 b v3 v8) h77 ?_ _ ?_]
      ·obtain ⟨y70, y71, y72, y73⟩ := w78
       simp [c0, h2, h5, h7, h10, h12, c27, c28, h31, c32]
       obtain ⟨v74, h75', h⟩ := bind_some' h
       have h75 : ev 41 [T.agg [sls 1 byteF y71, C.lit (Value.int IntKind.i64 y72), C.lit (Value.int IntKind.i64 y73)]] = some (T.agg (At_ref03.cells v74), []) := w_ref03_End _ _ h75'
       simp [c0, h2, h5, h7, h10, h12, c27, c28, h31, c32, h75]
       rcases iteB_cases h with ⟨c76, h⟩ | ⟨c76, h⟩
       ·simp [c0, h2, h5, h7, h10, h12, c27, c28, h31, c32, h75, c76]
        cases h
        rfl
       ·simp [c0, h2, h5, h7, h10, h12, c27, c28, h31, c32, h75, c76]
        cases h
        rfl
      ·clear h77 h
       rintro ⟨x59, x60, x61, x62, x63⟩ y L res h hL hR
       unfold ref03_Parse_B0 at h
       simp
       rcases iteB_cases h with ⟨c64, h⟩ | ⟨c64, h⟩
       ·simp [c64]
        rcases iteB_cases h with ⟨c65, h⟩ | ⟨c65, h⟩
        ·simp [c64, c65]
         obtain ⟨⟨v66, v67⟩, h68', h⟩ := bind_some' h
         have h68 : ev 40 [T.agg [sls 1 byteF x60, C.lit (Value.int IntKind.i64 x61), C.lit (Value.int IntKind.i64 x62)], T.c (C.lit (Value.int IntKind.i64 v3))] = some (T.tup [T.c (C.ref 0 0 (lenN v66)), T.agg (At_ref03.cells v67)], [rowO 3 1 intF v66]) := w_ref03_Lits _ _ _ h68'
         simp [c64, c65, h68]
         rcases iteB_cases h with ⟨c69, h⟩ | ⟨c69, h⟩
         ·simp [c64, c65, h68, c69]
          cases h
          exact hL _ _ rfl (by simp [headOf])
         ·simp [c64, c65, h68, c69]
          cases h
        ·simp [c64, c65]
         cases h
         exact hR _ rfl
       ·simp [c64]
        cases h
        exact hR _ rfl
      ·simp [headOf]
     ·simp [c0, h2, h5, h7, h10, h12, c27, c28, h31, c32]
      cases h
    ·simp [c0, h2, h5, h7, h10, h12, c27, c28]
     obtain ⟨v79, h80', h⟩ := bind_some' h
     have h80 : ev 41 [T.agg [sls 1 byteF v11.b, C.lit (Value.int IntKind.i64 v11.n), C.lit (Value.int IntKind.i64 v11.bad)]] = some (T.agg (At_ref03.cells v79), []) := w_ref03_End _ _ h80'
     simp [c0, h2, h5, h7, h10, h12, c27, c28, h80]
     rcases iteB_cases h with ⟨c81, h⟩ | ⟨c81, h⟩
     ·simp [c0, h2, h5, h7, h10, h12, c27, c28, h80, c81]
      cases h
      rfl
     ·simp [c0, h2, h5, h7, h10, h12, c27, c28, h80, c81]
      cases h
      rfl
   ·simp [c0, h2, h5, h7, h10, h12, c27]
    obtain ⟨v82, h83', h⟩ := bind_some' h
    have h83 : ev 41 [T.agg [sls 1 byteF v11.b, C.lit (Value.int IntKind.i64 v11.n), C.lit (Value.int IntKind.i64 v11.bad)]] = some (T.agg (At_ref03.cells v82), []) := w_ref03_End _ _ h83'
    simp [c0, h2, h5, h7, h10, h12, c27, h83]
    rcases iteB_cases h with ⟨c84, h⟩ | ⟨c84, h⟩
    ·simp [c0, h2, h5, h7, h10, h12, c27, h83, c84]
     cases h
     rfl
    ·simp [c0, h2, h5, h7, h10, h12, c27, h83, c84]
     cases h
     rfl
  ·simp [headOf]
theorem w_ref03_PrintModel (m : List Bool) (r : ByteArray) (h : ref03_PrintModel m = some r) : ev 23 [T.c (sls 1 boolF m)] = some (T.c (C.lit (Value.string r)), []) := by
 refine ev_run' (kp := k23) (us := [9]) fn23 rfl rfl rfl rfl rfl (by kernel_rfl) rfl (by simp) ?_
 unfold ref03_PrintModel at h
 simp
 obtain ⟨y43, h45, h⟩ := bind_some' h
 rw [evLoop_loopF (ι := ByteArray × Int) (ρ := ByteArray) (fun p => match p with | (x29, x30) => mk 30 [(0, T.c (sls 1 boolF m)), (3, T.c (C.lit (Value.string x29))), (4, T.c (C.lit (Value.int IntKind.i64 x30)))] [] []) (fun r => match r with | y43 => (Ex.exit 0, mk 30 [(3, T.c (C.lit (Value.string y43)))] [] [])) (ref03_PrintModel_B0 m) h45 ?_ _ ?_]
 ·simp
  rcases iteB_cases h with ⟨c44, h⟩ | ⟨c44, h⟩
  ·simp [c44]
   cases h
   rfl
  ·simp [c44]
   cases h
 ·clear h45 h
  rintro ⟨x29, x30⟩ y L res h hL hR
  unfold ref03_PrintModel_B0 at h
  simp
  rcases iteB_cases h with ⟨c31, h⟩ | ⟨c31, h⟩
  ·simp [c31]
   obtain ⟨v32, h33, h⟩ := bind_some' h
   simp [c31, h33]
   rcases iteB_cases h with ⟨c34, h⟩ | ⟨c34, h⟩
   ·simp [c31, h33, c34]
    obtain ⟨v35, h36', h⟩ := bind_some' h
    have h36 : ev 32 [T.c (C.lit (Value.int IntKind.i64 (iadd IntKind.i64 x30 1)))] = some (T.c (C.lit (Value.string v35)), []) := w_ref03_Figures _ _ h36'
    simp [c31, h33, c34, h36]
    rcases iteB_cases h with ⟨c37, h⟩ | ⟨c37, h⟩
    ·simp [c31, h33, c34, h36, c37]
     rcases iteB_cases h with ⟨c38, h⟩ | ⟨c38, h⟩
     ·simp [c31, h33, c34, h36, c37, c38]
      cases h
      exact hL _ _ rfl (by simp [headOf])
     ·simp [c31, h33, c34, h36, c37, c38]
      cases h
    ·simp [c31, h33, c34, h36, c37]
     cases h
   ·simp [c31, h33, c34]
    obtain ⟨v39, h40', h⟩ := bind_some' h
    have h40 : ev 32 [T.c (C.lit (Value.int IntKind.i64 (isub IntKind.i64 (ineg IntKind.i64 x30) 1)))] = some (T.c (C.lit (Value.string v39)), []) := w_ref03_Figures _ _ h40'
    simp [c31, h33, c34, h40]
    rcases iteB_cases h with ⟨c41, h⟩ | ⟨c41, h⟩
    ·simp [c31, h33, c34, h40, c41]
     rcases iteB_cases h with ⟨c42, h⟩ | ⟨c42, h⟩
     ·simp [c31, h33, c34, h40, c41, c42]
      cases h
      exact hL _ _ rfl (by simp [headOf])
     ·simp [c31, h33, c34, h40, c41, c42]
      cases h
    ·simp [c31, h33, c34, h40, c41]
     cases h
  ·simp [c31]
   cases h
   exact hR _ rfl
 ·simp [headOf]
theorem w_ref03_ParseModel (b : List Int) (n : Int) (r : (List Bool) × Int × Int) (h : ref03_ParseModel b n = some r) : ev 21 [T.c (sls 1 byteF b), T.c (C.lit (Value.int IntKind.i64 n))] = some (T.tup [T.c (C.ref 0 0 (lenN r.1)), T.c (C.lit (Value.int IntKind.i64 r.2.1)), T.c (C.lit (Value.int IntKind.i64 r.2.2))], [rowO 4 1 boolF r.1]) := by
 refine ev_run' (kp := k21) (us := [40, 3, 3]) fn21 rfl rfl rfl rfl rfl (by kernel_rfl) rfl (by simp) ?_
 unfold ref03_ParseModel at h
 simp
 obtain ⟨v0, h1', h⟩ := bind_some' h
 have h1 : ev 39 [T.agg [sls 1 byteF b, C.lit (Value.int IntKind.i64 0), C.lit (Value.int IntKind.i64 0)], T.c (C.lit (Value.string { data := #[118, 32] }))] = some (T.agg (At_ref03.cells v0), []) := w_ref03_Word _ _ _ h1'
 simp [h1]
 obtain ⟨w79, h78, h⟩ := bind_some' h
 rw [evLoop_loopF (ι := (List Bool) × (List Int) × Int × Int × Int) (ρ := (List Bool) × (List Int) × Int × Int) (fun p => match p with | (x47, x48, x49, x50, x51) => mk 55 [(1, T.c (C.lit (Value.int IntKind.i64 n))), (7, T.c (C.ptr 7 0 0)), (8, T.c (C.ref 8 0 (lenN x47))), (9, T.c (C.lit (Value.int IntKind.i64 x51)))] [(7, { box := true, free := true, elem := 75, sz := 3, es := [[sls 1 byteF x48, C.lit (Value.int IntKind.i64 x49), C.lit (Value.int IntKind.i64 x50)]] }), (8, rowO 4 1 boolF x47)] []) (fun r => match r with | (y69, y70, y71, y72) => (Ex.exit 0, mk 55 [(7, T.c (C.ptr 7 0 0)), (8, T.c (C.ref 8 0 (lenN y69)))] [(7, { box := true, free := true, elem := 75, sz := 3, es := [[sls 1 byteF y70, C.lit (Value.int IntKind.i64 y71), C.lit (Value.int IntKind.i64 y72)]] }), (8, rowO 4 1 boolF y69)] [])) (ref03_ParseModel_B0 b n) h78 ?_ _ ?_]
 ·obtain ⟨y69, y70, y71, y72⟩ := w79
  simp [h1]
  obtain ⟨v73, h74', h⟩ := bind_some' h
  have h74 : ev 39 [T.agg [sls 1 byteF y70, C.lit (Value.int IntKind.i64 y71), C.lit (Value.int IntKind.i64 y72)], T.c (C.lit (Value.string { data := #[48, 10] }))] = some (T.agg (At_ref03.cells v73), []) := w_ref03_Word _ _ _ h74'
  simp [h1, h74]
  obtain ⟨v75, h76', h⟩ := bind_some' h
  have h76 : ev 41 [T.agg [sls 1 byteF v73.b, C.lit (Value.int IntKind.i64 v73.n), C.lit (Value.int IntKind.i64 v73.bad)]] = some (T.agg (At_ref03.cells v75), []) := w_ref03_End _ _ h76'
  simp [h1, h74, h76]
  rcases iteB_cases h with ⟨c77, h⟩ | ⟨c77, h⟩
  ·simp [h1, h74, h76, c77]
   cases h
   rfl
  ·simp [h1, h74, h76, c77]
   cases h
   rfl
 ·clear h78 h
  rintro ⟨x47, x48, x49, x50, x51⟩ y L res h hL hR
  unfold ref03_ParseModel_B0 at h
  simp
  rcases iteB_cases h with ⟨c52, h⟩ | ⟨c52, h⟩
  ·simp [c52]
   rcases iteB_cases h with ⟨c53, h⟩ | ⟨c53, h⟩
   ·simp [c52, c53]
    obtain ⟨v54, h55', h⟩ := bind_some' h
    have h55 : ev 39 [T.agg [sls 1 byteF x48, C.lit (Value.int IntKind.i64 x49), C.lit (Value.int IntKind.i64 x50)], T.c (C.lit (Value.string { data := #[45] }))] = some (T.agg (At_ref03.cells v54), []) := w_ref03_Word _ _ _ h55'
    simp [c52, c53, h55]
    rcases iteB_cases h with ⟨c56, h⟩ | ⟨c56, h⟩
    ·simp [c52, c53, h55, c56]
     rcases iteB_cases h with ⟨c57, h⟩ | ⟨c57, h⟩
     ·simp [c52, c53, h55, c56, c57]
      obtain ⟨v58, h59', h⟩ := bind_some' h
      have h59 : ev 32 [T.c (C.lit (Value.int IntKind.i64 (iadd IntKind.i64 x51 1)))] = some (T.c (C.lit (Value.string v58)), []) := w_ref03_Figures _ _ h59'
      simp [c52, c53, h55, c56, c57, h59]
      rcases iteB_cases h with ⟨c60, h⟩ | ⟨c60, h⟩
      ·simp [c52, c53, h55, c56, c57, h59, c60]
       obtain ⟨v61, h62', h⟩ := bind_some' h
       have h62 : ev 39 [T.agg [sls 1 byteF v54.b, C.lit (Value.int IntKind.i64 v54.n), C.lit (Value.int IntKind.i64 v54.bad)], T.c (C.lit (Value.string (v58 ++ { data := #[32] })))] = some (T.agg (At_ref03.cells v61), []) := w_ref03_Word _ _ _ h62'
       simp [c52, c53, h55, c56, c57, h59, c60, h62]
       cases h
       exact hL _ _ rfl (by simp [headOf])
      ·simp [c52, c53, h55, c56, c57, h59, c60]
       cases h
     ·simp [c52, c53, h55, c56, c57]
      cases h
    ·simp [c52, c53, h55, c56]
     rcases iteB_cases h with ⟨c63, h⟩ | ⟨c63, h⟩
     ·simp [c52, c53, h55, c56, c63]
      obtain ⟨v64, h65', h⟩ := bind_some' h
      have h65 : ev 32 [T.c (C.lit (Value.int IntKind.i64 (iadd IntKind.i64 x51 1)))] = some (T.c (C.lit (Value.string v64)), []) := w_ref03_Figures _ _ h65'
      simp [c52, c53, h55, c56, c63, h65]
      rcases iteB_cases h with ⟨c66, h⟩ | ⟨c66, h⟩
      ·simp [c52, c53, h55, c56, c63, h65, c66]
       obtain ⟨v67, h68', h⟩ := bind_some' h
       have h68 : ev 39 [T.agg [sls 1 byteF x48, C.lit (Value.int IntKind.i64 x49), C.lit (Value.int IntKind.i64 x50)], T.c (C.lit (Value.string (v64 ++ { data := #[32] })))] = some (T.agg (At_ref03.cells v67), []) := w_ref03_Word _ _ _ h68'
       simp [c52, c53, h55, c56, c63, h65, c66, h68]
       cases h
       exact hL _ _ rfl (by simp [headOf])
      ·simp [c52, c53, h55, c56, c63, h65, c66]
       cases h
     ·simp [c52, c53, h55, c56, c63]
      cases h
   ·simp [c52, c53]
    cases h
    exact hR _ rfl
  ·simp [c52]
   cases h
   exact hR _ rfl
 ·simp [headOf]
theorem w_law03_shown (r : Bool) (h : law03_shown = some r) : ev 10 [] = some (T.c (C.lit (Value.bool r)), []) := by
 refine ev_run' (kp := k10) (us := [4]) fn10 rfl rfl rfl rfl rfl (by kernel_rfl) rfl (by simp) ?_
 unfold law03_shown at h
 simp -implicitDefEqProofs
 obtain ⟨⟨v0, v1⟩, h2', h⟩ := bind_some' h
 have h2 : ev 12 [T.agg [C.lit (Value.int IntKind.i64 2), sls 1 rowF [[1, -2]]]] = some (T.tup [T.c (C.lit (Value.string v0)), T.c (C.lit (Value.int IntKind.i64 v1))], []) := w_cnf_Print _ _ h2'
 simp -implicitDefEqProofs [h2]
 obtain ⟨⟨v3, v4, v5⟩, h6', h⟩ := bind_some' h
 have h6 : ev 14 [T.c (sls 1 byteF (bytesOf v0))] = some (T.tup [T.agg [C.lit (Value.int IntKind.i64 v3.N), C.ref 0 0 (lenN v3.cs)], T.c (C.lit (Value.int IntKind.i64 v4)), T.c (C.lit (Value.int IntKind.i64 v5))], [rowO 50 1 rowF v3.cs]) := w_cnf_Parse _ _ h6'
 simp -implicitDefEqProofs [h2, h6]
 obtain ⟨⟨v7, v8, v9⟩, h10', h⟩ := bind_some' h
 have h10 : ev 20 [T.c (sls 1 byteF [118, 32, 45, 49, 32, 45, 50, 32, 48, 10]), T.c (C.lit (Value.int IntKind.i64 2))] = some (T.tup [T.c (C.ref 0 0 (lenN v7)), T.c (C.lit (Value.int IntKind.i64 v8)), T.c (C.lit (Value.int IntKind.i64 v9))], [rowO 4 1 boolF v7]) := w_cnf_ParseModel _ _ _ h10'
 simp -implicitDefEqProofs [h2, h6, h10]
 rcases iteB_cases h with ⟨c11, h⟩ | ⟨c11, h⟩
 ·simp -implicitDefEqProofs [h2, h6, h10, c11]
  rcases iteB_cases h with ⟨c12, h⟩ | ⟨c12, h⟩
  ·simp -implicitDefEqProofs [h2, h6, h10, c11, c12]
   rcases iteB_cases h with ⟨c13, h⟩ | ⟨c13, h⟩
   ·simp -implicitDefEqProofs [h2, h6, h10, c11, c12, c13]
    rcases iteB_cases h with ⟨c14, h⟩ | ⟨c14, h⟩
    ·simp -implicitDefEqProofs [h2, h6, h10, c11, c12, c13, c14]
     obtain ⟨v15, h16', h⟩ := bind_some' h
     have h16 : ev 18 [T.agg [C.lit (Value.int IntKind.i64 2), sls 1 rowF [[1, -2]]], T.agg [C.lit (Value.int IntKind.i64 v3.N), sls 1 rowF v3.cs]] = some (T.c (C.lit (Value.bool v15)), []) := w_cnf_Same _ _ _ h16'
     simp -implicitDefEqProofs [h2, h6, h10, c11, c12, c13, c14, h16]
     rcases iteB_cases h with ⟨c17, h⟩ | ⟨c17, h⟩
     ·simp -implicitDefEqProofs [h2, h6, h10, c11, c12, c13, c14, h16, c17]
      rcases iteB_cases h with ⟨c18, h⟩ | ⟨c18, h⟩
      ·simp -implicitDefEqProofs [h2, h6, h10, c11, c12, c13, c14, h16, c17, c18]
       rcases iteB_cases h with ⟨c19, h⟩ | ⟨c19, h⟩
       ·simp -implicitDefEqProofs [h2, h6, h10, c11, c12, c13, c14, h16, c17, c18, c19]
        rcases iteB_cases h with ⟨c20, h⟩ | ⟨c20, h⟩
        ·simp -implicitDefEqProofs [h2, h6, h10, c11, c12, c13, c14, h16, c17, c18, c19, c20]
         obtain ⟨v21, h22', h⟩ := bind_some' h
         have h22 : ev 27 [T.agg [C.lit (Value.int IntKind.i64 2), sls 1 rowF [[1, -2]]], T.c (sls 1 boolF v7)] = some (T.c (C.lit (Value.bool v21)), []) := w_cnf_Holds _ _ _ h22'
         simp -implicitDefEqProofs [h2, h6, h10, c11, c12, c13, c14, h16, c17, c18, c19, c20, h22]
         rcases iteB_cases h with ⟨c23, h⟩ | ⟨c23, h⟩
         ·simp -implicitDefEqProofs [h2, h6, h10, c11, c12, c13, c14, h16, c17, c18, c19, c20, h22, c23]
          rcases iteB_cases h with ⟨c24, h⟩ | ⟨c24, h⟩
          ·simp -implicitDefEqProofs [h2, h6, h10, c11, c12, c13, c14, h16, c17, c18, c19, c20, h22, c23, c24]
           obtain ⟨v25, h26', h⟩ := bind_some' h
           have h26 : ev 25 [T.c (sls 1 intF [1, -2]), T.c (sls 1 boolF v7)] = some (T.c (C.lit (Value.bool v25)), []) := w_cnf_Clause _ _ _ h26'
           simp -implicitDefEqProofs [h2, h6, h10, c11, c12, c13, c14, h16, c17, c18, c19, c20, h22, c23, c24, h26]
           rcases iteB_cases h with ⟨c27, h⟩ | ⟨c27, h⟩
           ·simp -implicitDefEqProofs [h2, h6, h10, c11, c12, c13, c14, h16, c17, c18, c19, c20, h22, c23, c24, h26, c27]
            obtain ⟨v28, h29', h⟩ := bind_some' h
            have h29 : ev 22 [T.c (sls 1 boolF v7)] = some (T.c (C.lit (Value.string v28)), []) := w_cnf_PrintModel _ _ h29'
            simp -implicitDefEqProofs [h2, h6, h10, c11, c12, c13, c14, h16, c17, c18, c19, c20, h22, c23, c24, h26, c27, h29]
            rcases iteB_cases h with ⟨c30, h⟩ | ⟨c30, h⟩
            ·simp -implicitDefEqProofs [h2, h6, h10, c11, c12, c13, c14, h16, c17, c18, c19, c20, h22, c23, c24, h26, c27, h29, c30]
             obtain ⟨v31, h32', h⟩ := bind_some' h
             have h32 : ev 16 [T.agg [C.lit (Value.int IntKind.i64 2), sls 1 rowF [[1, -2]]]] = some (T.c (C.lit (Value.bool v31)), []) := w_cnf_Right _ _ h32'
             simp -implicitDefEqProofs [h2, h6, h10, c11, c12, c13, c14, h16, c17, c18, c19, c20, h22, c23, c24, h26, c27, h29, c30, h32]
             cases h
             rfl
            ·simp -implicitDefEqProofs [h2, h6, h10, c11, c12, c13, c14, h16, c17, c18, c19, c20, h22, c23, c24, h26, c27, h29, c30]
             cases h
             rfl
           ·simp -implicitDefEqProofs [h2, h6, h10, c11, c12, c13, c14, h16, c17, c18, c19, c20, h22, c23, c24, h26, c27]
            cases h
            rfl
          ·simp -implicitDefEqProofs [h2, h6, h10, c11, c12, c13, c14, h16, c17, c18, c19, c20, h22, c23, c24]
           cases h
         ·simp -implicitDefEqProofs [h2, h6, h10, c11, c12, c13, c14, h16, c17, c18, c19, c20, h22, c23]
          cases h
          rfl
        ·simp -implicitDefEqProofs [h2, h6, h10, c11, c12, c13, c14, h16, c17, c18, c19, c20]
         cases h
         rfl
       ·simp -implicitDefEqProofs [h2, h6, h10, c11, c12, c13, c14, h16, c17, c18, c19]
        cases h
        rfl
      ·simp -implicitDefEqProofs [h2, h6, h10, c11, c12, c13, c14, h16, c17, c18]
       cases h
       rfl
     ·simp -implicitDefEqProofs [h2, h6, h10, c11, c12, c13, c14, h16, c17]
      cases h
      rfl
    ·simp -implicitDefEqProofs [h2, h6, h10, c11, c12, c13, c14]
     cases h
     rfl
   ·simp -implicitDefEqProofs [h2, h6, h10, c11, c12, c13]
    cases h
    rfl
  ·simp -implicitDefEqProofs [h2, h6, h10, c11, c12]
   cases h
   rfl
 ·simp -implicitDefEqProofs [h2, h6, h10, c11]
  cases h
  rfl
end Go.Proofs.YtkdlblpidghjcaaDoor
set_option linter.unusedSimpArgs false
set_option linter.unusedVariables false
set_option maxRecDepth 20000
set_option maxHeartbeats 4000000
namespace Go.Proofs.YtkdlblpidghjcaaDoor
open Go.Vabs Go.Vid
end Go.Proofs.YtkdlblpidghjcaaDoor
set_option linter.unusedSimpArgs false
set_option linter.unusedVariables false
set_option maxRecDepth 20000
set_option maxHeartbeats 4000000
namespace Go.Proofs.YtkdlblpidghjcaaDoor
open Go.Vabs Go.Vid
theorem w_law03_CnfHolds (with_ : CnfHoldsIn_law03) (h : law03_CnfHolds with_ = some true) : ev 6 [T.agg (CnfHoldsIn_law03.cells with_)] = some (T.c (C.lit (Value.bool true)), []) := by
 refine ev_run' (kp := k6) (us := [4]) fn6 rfl rfl rfl rfl rfl (by kernel_rfl) rfl (by simp) ?_
 unfold law03_CnfHolds at h
 simp -implicitDefEqProofs
 obtain ⟨v0, h1', h⟩ := bind_some' h
 have h1 : ev 10 [] = some (T.c (C.lit (Value.bool v0)), []) := w_law03_shown _ h1'
 simp -implicitDefEqProofs [h1]
 obtain ⟨v2, h3', h⟩ := bind_some' h
 have h3 : ev 11 [T.agg [C.lit (Value.int IntKind.i64 with_.f.N), sls 1 rowF with_.f.cs], T.c (C.lit (Value.int IntKind.i64 40))] = some (T.c (C.lit (Value.bool v2)), []) := w_ref03_Small _ _ _ h3'
 simp -implicitDefEqProofs [h1, h3]
 rcases iteB_cases h with ⟨c4, h⟩ | ⟨c4, h⟩
 ·simp -implicitDefEqProofs [h1, h3, c4]
  rcases iteB_cases h with ⟨c5, h⟩ | ⟨c5, h⟩
  ·first | (cases h; done) | (simp -implicitDefEqProofs [h1, h3, c4, c5]; first | rfl | (injection h with h; rw [h]; rfl) | (injection h with h; rw [h]))
  ·simp -implicitDefEqProofs [h1, h3, c4, c5]
   rcases iteB_cases h with ⟨c6, h⟩ | ⟨c6, h⟩
   ·first | (cases h; done) | (simp -implicitDefEqProofs [h1, h3, c4, c5, c6]; first | rfl | (injection h with h; rw [h]; rfl) | (injection h with h; rw [h]))
   ·simp -implicitDefEqProofs [h1, h3, c4, c5, c6]
    rcases iteB_cases h with ⟨c7, h⟩ | ⟨c7, h⟩
    ·first | (cases h; done) | (simp -implicitDefEqProofs [h1, h3, c4, c5, c6, c7]; first | rfl | (injection h with h; rw [h]; rfl) | (injection h with h; rw [h]))
    ·simp -implicitDefEqProofs [h1, h3, c4, c5, c6, c7]
     rcases iteB_cases h with ⟨c8, h⟩ | ⟨c8, h⟩
     ·first | (cases h; done) | (simp -implicitDefEqProofs [h1, h3, c4, c5, c6, c7, c8]; first | rfl | (injection h with h; rw [h]; rfl) | (injection h with h; rw [h]))
     ·simp -implicitDefEqProofs [h1, h3, c4, c5, c6, c7, c8]
      rcases iteB_cases h with ⟨c9, h⟩ | ⟨c9, h⟩
      ·simp -implicitDefEqProofs [h1, h3, c4, c5, c6, c7, c8, c9]
       rcases iteB_cases h with ⟨c10, h⟩ | ⟨c10, h⟩
       ·simp -implicitDefEqProofs [h1, h3, c4, c5, c6, c7, c8, c9, c10]
        rcases iteB_cases h with ⟨c11, h⟩ | ⟨c11, h⟩
        ·simp -implicitDefEqProofs [h1, h3, c4, c5, c6, c7, c8, c9, c10, c11]
         rcases iteB_cases h with ⟨c12, h⟩ | ⟨c12, h⟩
         ·simp -implicitDefEqProofs [h1, h3, c4, c5, c6, c7, c8, c9, c10, c11, c12]
          obtain ⟨v13, h14', h⟩ := bind_some' h
          have h14 : ev 25 [T.c (sls 1 intF [with_.l]), T.c (sls 1 boolF with_.m)] = some (T.c (C.lit (Value.bool v13)), []) := w_cnf_Clause _ _ _ h14'
          simp -implicitDefEqProofs [h1, h3, c4, c5, c6, c7, c8, c9, c10, c11, c12, h14]
          obtain ⟨v15, h16', h⟩ := bind_some' h
          have h16 : ev 25 [T.c (sls 1 intF [ineg IntKind.i64 with_.l]), T.c (sls 1 boolF with_.m)] = some (T.c (C.lit (Value.bool v15)), []) := w_cnf_Clause _ _ _ h16'
          simp -implicitDefEqProofs [h1, h3, c4, c5, c6, c7, c8, c9, c10, c11, c12, h14, h16]
          rcases iteB_cases h with ⟨c17, h⟩ | ⟨c17, h⟩
          ·simp -implicitDefEqProofs [h1, h3, c4, c5, c6, c7, c8, c9, c10, c11, c12, h14, h16, c17]
           rcases iteB_cases h with ⟨c18, h⟩ | ⟨c18, h⟩
           ·simp -implicitDefEqProofs [h1, h3, c4, c5, c6, c7, c8, c9, c10, c11, c12, h14, h16, c17, c18]
            obtain ⟨v19, h20', h⟩ := bind_some' h
            have h20 : ev 27 [T.agg [C.lit (Value.int IntKind.i64 with_.f.N), sls 1 rowF (with_.f.cs ++ [with_.c])], T.c (sls 1 boolF with_.m)] = some (T.c (C.lit (Value.bool v19)), []) := w_cnf_Holds _ _ _ h20'
            simp -implicitDefEqProofs [h1, h3, c4, c5, c6, c7, c8, c9, c10, c11, c12, h14, h16, c17, c18, h20]
            obtain ⟨v21, h22', h⟩ := bind_some' h
            have h22 : ev 27 [T.agg [C.lit (Value.int IntKind.i64 with_.f.N), sls 1 rowF with_.f.cs], T.c (sls 1 boolF with_.m)] = some (T.c (C.lit (Value.bool v21)), []) := w_cnf_Holds _ _ _ h22'
            simp -implicitDefEqProofs [h1, h3, c4, c5, c6, c7, c8, c9, c10, c11, c12, h14, h16, c17, c18, h20, h22]
            rcases iteB_cases h with ⟨c23, h⟩ | ⟨c23, h⟩
            ·simp -implicitDefEqProofs [h1, h3, c4, c5, c6, c7, c8, c9, c10, c11, c12, h14, h16, c17, c18, h20, h22, c23]
             obtain ⟨v24, h25', h⟩ := bind_some' h
             have h25 : ev 25 [T.c (sls 1 intF with_.c), T.c (sls 1 boolF with_.m)] = some (T.c (C.lit (Value.bool v24)), []) := w_cnf_Clause _ _ _ h25'
             simp -implicitDefEqProofs [h1, h3, c4, c5, c6, c7, c8, c9, c10, c11, c12, h14, h16, c17, c18, h20, h22, c23, h25]
             rcases iteB_cases h with ⟨c26, h⟩ | ⟨c26, h⟩
             ·simp -implicitDefEqProofs [h1, h3, c4, c5, c6, c7, c8, c9, c10, c11, c12, h14, h16, c17, c18, h20, h22, c23, h25, c26]
              obtain ⟨v27, h28', h⟩ := bind_some' h
              have h28 : ev 25 [T.c (sls 1 intF (with_.c ++ [with_.l])), T.c (sls 1 boolF with_.m)] = some (T.c (C.lit (Value.bool v27)), []) := w_cnf_Clause _ _ _ h28'
              simp -implicitDefEqProofs [h1, h3, c4, c5, c6, c7, c8, c9, c10, c11, c12, h14, h16, c17, c18, h20, h22, c23, h25, c26, h28]
              rcases iteB_cases h with ⟨c29, h⟩ | ⟨c29, h⟩
              ·simp -implicitDefEqProofs [h1, h3, c4, c5, c6, c7, c8, c9, c10, c11, c12, h14, h16, c17, c18, h20, h22, c23, h25, c26, h28, c29]
               rcases iteB_cases h with ⟨c30, h⟩ | ⟨c30, h⟩
               ·simp -implicitDefEqProofs [h1, h3, c4, c5, c6, c7, c8, c9, c10, c11, c12, h14, h16, c17, c18, h20, h22, c23, h25, c26, h28, c29, c30]
                rcases iteB_cases h with ⟨c31, h⟩ | ⟨c31, h⟩
                ·simp -implicitDefEqProofs [h1, h3, c4, c5, c6, c7, c8, c9, c10, c11, c12, h14, h16, c17, c18, h20, h22, c23, h25, c26, h28, c29, c30, c31]
                 rcases iteB_cases h with ⟨c32, h⟩ | ⟨c32, h⟩
                 ·first | (cases h; done) | (simp -implicitDefEqProofs [h1, h3, c4, c5, c6, c7, c8, c9, c10, c11, c12, h14, h16, c17, c18, h20, h22, c23, h25, c26, h28, c29, c30, c31, c32]; first | rfl | (injection h with h; rw [h]; rfl) | (injection h with h; rw [h]))
                 ·simp -implicitDefEqProofs [h1, h3, c4, c5, c6, c7, c8, c9, c10, c11, c12, h14, h16, c17, c18, h20, h22, c23, h25, c26, h28, c29, c30, c31, c32]
                  rcases iteB_cases h with ⟨c33, h⟩ | ⟨c33, h⟩
                  ·simp -implicitDefEqProofs [h1, h3, c4, c5, c6, c7, c8, c9, c10, c11, c12, h14, h16, c17, c18, h20, h22, c23, h25, c26, h28, c29, c30, c31, c32, c33]
                   obtain ⟨v34, h35', h⟩ := bind_some' h
                   have h35 : ev 27 [T.agg [C.lit (Value.int IntKind.i64 0), C.sl 1 []], T.c (sls 1 boolF with_.m)] = some (T.c (C.lit (Value.bool v34)), []) := w_cnf_Holds _ _ _ h35'
                   simp -implicitDefEqProofs [h1, h3, c4, c5, c6, c7, c8, c9, c10, c11, c12, h14, h16, c17, c18, h20, h22, c23, h25, c26, h28, c29, c30, c31, c32, c33, h35]
                   rcases iteB_cases h with ⟨c36, h⟩ | ⟨c36, h⟩
                   ·simp -implicitDefEqProofs [h1, h3, c4, c5, c6, c7, c8, c9, c10, c11, c12, h14, h16, c17, c18, h20, h22, c23, h25, c26, h28, c29, c30, c31, c32, c33, h35, c36]
                    obtain ⟨v37, h38', h⟩ := bind_some' h
                    have h38 : ev 25 [T.c (C.lit (Value.slice none 0 0)), T.c (sls 1 boolF with_.m)] = some (T.c (C.lit (Value.bool v37)), []) := w_cnf_Clause_nil _ _ h38'
                    first | (cases h; done) | (simp -implicitDefEqProofs [h1, h3, c4, c5, c6, c7, c8, c9, c10, c11, c12, h14, h16, c17, c18, h20, h22, c23, h25, c26, h28, c29, c30, c31, c32, c33, h35, c36, h38]; first | rfl | (injection h with h; rw [h]; rfl) | (injection h with h; rw [h]))
                   ·first | (cases h; done) | (simp -implicitDefEqProofs [h1, h3, c4, c5, c6, c7, c8, c9, c10, c11, c12, h14, h16, c17, c18, h20, h22, c23, h25, c26, h28, c29, c30, c31, c32, c33, h35, c36]; first | rfl | (injection h with h; rw [h]; rfl) | (injection h with h; rw [h]))
                  ·first | (cases h; done) | (simp -implicitDefEqProofs [h1, h3, c4, c5, c6, c7, c8, c9, c10, c11, c12, h14, h16, c17, c18, h20, h22, c23, h25, c26, h28, c29, c30, c31, c32, c33]; first | rfl | (injection h with h; rw [h]; rfl) | (injection h with h; rw [h]))
                ·simp -implicitDefEqProofs [h1, h3, c4, c5, c6, c7, c8, c9, c10, c11, c12, h14, h16, c17, c18, h20, h22, c23, h25, c26, h28, c29, c30, c31]
                 rcases iteB_cases h with ⟨c39, h⟩ | ⟨c39, h⟩
                 ·simp -implicitDefEqProofs [h1, h3, c4, c5, c6, c7, c8, c9, c10, c11, c12, h14, h16, c17, c18, h20, h22, c23, h25, c26, h28, c29, c30, c31, c39]
                  obtain ⟨v40, h41', h⟩ := bind_some' h
                  have h41 : ev 27 [T.agg [C.lit (Value.int IntKind.i64 0), C.sl 1 []], T.c (sls 1 boolF with_.m)] = some (T.c (C.lit (Value.bool v40)), []) := w_cnf_Holds _ _ _ h41'
                  simp -implicitDefEqProofs [h1, h3, c4, c5, c6, c7, c8, c9, c10, c11, c12, h14, h16, c17, c18, h20, h22, c23, h25, c26, h28, c29, c30, c31, c39, h41]
                  rcases iteB_cases h with ⟨c42, h⟩ | ⟨c42, h⟩
                  ·simp -implicitDefEqProofs [h1, h3, c4, c5, c6, c7, c8, c9, c10, c11, c12, h14, h16, c17, c18, h20, h22, c23, h25, c26, h28, c29, c30, c31, c39, h41, c42]
                   obtain ⟨v43, h44', h⟩ := bind_some' h
                   have h44 : ev 25 [T.c (C.lit (Value.slice none 0 0)), T.c (sls 1 boolF with_.m)] = some (T.c (C.lit (Value.bool v43)), []) := w_cnf_Clause_nil _ _ h44'
                   first | (cases h; done) | (simp -implicitDefEqProofs [h1, h3, c4, c5, c6, c7, c8, c9, c10, c11, c12, h14, h16, c17, c18, h20, h22, c23, h25, c26, h28, c29, c30, c31, c39, h41, c42, h44]; first | rfl | (injection h with h; rw [h]; rfl) | (injection h with h; rw [h]))
                  ·first | (cases h; done) | (simp -implicitDefEqProofs [h1, h3, c4, c5, c6, c7, c8, c9, c10, c11, c12, h14, h16, c17, c18, h20, h22, c23, h25, c26, h28, c29, c30, c31, c39, h41, c42]; first | rfl | (injection h with h; rw [h]; rfl) | (injection h with h; rw [h]))
                 ·first | (cases h; done) | (simp -implicitDefEqProofs [h1, h3, c4, c5, c6, c7, c8, c9, c10, c11, c12, h14, h16, c17, c18, h20, h22, c23, h25, c26, h28, c29, c30, c31, c39]; first | rfl | (injection h with h; rw [h]; rfl) | (injection h with h; rw [h]))
               ·first | (cases h; done) | (simp -implicitDefEqProofs [h1, h3, c4, c5, c6, c7, c8, c9, c10, c11, c12, h14, h16, c17, c18, h20, h22, c23, h25, c26, h28, c29, c30]; first | rfl | (injection h with h; rw [h]; rfl) | (injection h with h; rw [h]))
              ·simp -implicitDefEqProofs [h1, h3, c4, c5, c6, c7, c8, c9, c10, c11, c12, h14, h16, c17, c18, h20, h22, c23, h25, c26, h28, c29]
               rcases iteB_cases h with ⟨c45, h⟩ | ⟨c45, h⟩
               ·simp -implicitDefEqProofs [h1, h3, c4, c5, c6, c7, c8, c9, c10, c11, c12, h14, h16, c17, c18, h20, h22, c23, h25, c26, h28, c29, c45]
                rcases iteB_cases h with ⟨c46, h⟩ | ⟨c46, h⟩
                ·simp -implicitDefEqProofs [h1, h3, c4, c5, c6, c7, c8, c9, c10, c11, c12, h14, h16, c17, c18, h20, h22, c23, h25, c26, h28, c29, c45, c46]
                 rcases iteB_cases h with ⟨c47, h⟩ | ⟨c47, h⟩
                 ·first | (cases h; done) | (simp -implicitDefEqProofs [h1, h3, c4, c5, c6, c7, c8, c9, c10, c11, c12, h14, h16, c17, c18, h20, h22, c23, h25, c26, h28, c29, c45, c46, c47]; first | rfl | (injection h with h; rw [h]; rfl) | (injection h with h; rw [h]))
                 ·simp -implicitDefEqProofs [h1, h3, c4, c5, c6, c7, c8, c9, c10, c11, c12, h14, h16, c17, c18, h20, h22, c23, h25, c26, h28, c29, c45, c46, c47]
                  rcases iteB_cases h with ⟨c48, h⟩ | ⟨c48, h⟩
                  ·simp -implicitDefEqProofs [h1, h3, c4, c5, c6, c7, c8, c9, c10, c11, c12, h14, h16, c17, c18, h20, h22, c23, h25, c26, h28, c29, c45, c46, c47, c48]
                   obtain ⟨v49, h50', h⟩ := bind_some' h
                   have h50 : ev 27 [T.agg [C.lit (Value.int IntKind.i64 0), C.sl 1 []], T.c (sls 1 boolF with_.m)] = some (T.c (C.lit (Value.bool v49)), []) := w_cnf_Holds _ _ _ h50'
                   simp -implicitDefEqProofs [h1, h3, c4, c5, c6, c7, c8, c9, c10, c11, c12, h14, h16, c17, c18, h20, h22, c23, h25, c26, h28, c29, c45, c46, c47, c48, h50]
                   rcases iteB_cases h with ⟨c51, h⟩ | ⟨c51, h⟩
                   ·simp -implicitDefEqProofs [h1, h3, c4, c5, c6, c7, c8, c9, c10, c11, c12, h14, h16, c17, c18, h20, h22, c23, h25, c26, h28, c29, c45, c46, c47, c48, h50, c51]
                    obtain ⟨v52, h53', h⟩ := bind_some' h
                    have h53 : ev 25 [T.c (C.lit (Value.slice none 0 0)), T.c (sls 1 boolF with_.m)] = some (T.c (C.lit (Value.bool v52)), []) := w_cnf_Clause_nil _ _ h53'
                    first | (cases h; done) | (simp -implicitDefEqProofs [h1, h3, c4, c5, c6, c7, c8, c9, c10, c11, c12, h14, h16, c17, c18, h20, h22, c23, h25, c26, h28, c29, c45, c46, c47, c48, h50, c51, h53]; first | rfl | (injection h with h; rw [h]; rfl) | (injection h with h; rw [h]))
                   ·first | (cases h; done) | (simp -implicitDefEqProofs [h1, h3, c4, c5, c6, c7, c8, c9, c10, c11, c12, h14, h16, c17, c18, h20, h22, c23, h25, c26, h28, c29, c45, c46, c47, c48, h50, c51]; first | rfl | (injection h with h; rw [h]; rfl) | (injection h with h; rw [h]))
                  ·first | (cases h; done) | (simp -implicitDefEqProofs [h1, h3, c4, c5, c6, c7, c8, c9, c10, c11, c12, h14, h16, c17, c18, h20, h22, c23, h25, c26, h28, c29, c45, c46, c47, c48]; first | rfl | (injection h with h; rw [h]; rfl) | (injection h with h; rw [h]))
                ·simp -implicitDefEqProofs [h1, h3, c4, c5, c6, c7, c8, c9, c10, c11, c12, h14, h16, c17, c18, h20, h22, c23, h25, c26, h28, c29, c45, c46]
                 rcases iteB_cases h with ⟨c54, h⟩ | ⟨c54, h⟩
                 ·simp -implicitDefEqProofs [h1, h3, c4, c5, c6, c7, c8, c9, c10, c11, c12, h14, h16, c17, c18, h20, h22, c23, h25, c26, h28, c29, c45, c46, c54]
                  obtain ⟨v55, h56', h⟩ := bind_some' h
                  have h56 : ev 27 [T.agg [C.lit (Value.int IntKind.i64 0), C.sl 1 []], T.c (sls 1 boolF with_.m)] = some (T.c (C.lit (Value.bool v55)), []) := w_cnf_Holds _ _ _ h56'
                  simp -implicitDefEqProofs [h1, h3, c4, c5, c6, c7, c8, c9, c10, c11, c12, h14, h16, c17, c18, h20, h22, c23, h25, c26, h28, c29, c45, c46, c54, h56]
                  rcases iteB_cases h with ⟨c57, h⟩ | ⟨c57, h⟩
                  ·simp -implicitDefEqProofs [h1, h3, c4, c5, c6, c7, c8, c9, c10, c11, c12, h14, h16, c17, c18, h20, h22, c23, h25, c26, h28, c29, c45, c46, c54, h56, c57]
                   obtain ⟨v58, h59', h⟩ := bind_some' h
                   have h59 : ev 25 [T.c (C.lit (Value.slice none 0 0)), T.c (sls 1 boolF with_.m)] = some (T.c (C.lit (Value.bool v58)), []) := w_cnf_Clause_nil _ _ h59'
                   first | (cases h; done) | (simp -implicitDefEqProofs [h1, h3, c4, c5, c6, c7, c8, c9, c10, c11, c12, h14, h16, c17, c18, h20, h22, c23, h25, c26, h28, c29, c45, c46, c54, h56, c57, h59]; first | rfl | (injection h with h; rw [h]; rfl) | (injection h with h; rw [h]))
                  ·first | (cases h; done) | (simp -implicitDefEqProofs [h1, h3, c4, c5, c6, c7, c8, c9, c10, c11, c12, h14, h16, c17, c18, h20, h22, c23, h25, c26, h28, c29, c45, c46, c54, h56, c57]; first | rfl | (injection h with h; rw [h]; rfl) | (injection h with h; rw [h]))
                 ·first | (cases h; done) | (simp -implicitDefEqProofs [h1, h3, c4, c5, c6, c7, c8, c9, c10, c11, c12, h14, h16, c17, c18, h20, h22, c23, h25, c26, h28, c29, c45, c46, c54]; first | rfl | (injection h with h; rw [h]; rfl) | (injection h with h; rw [h]))
               ·first | (cases h; done) | (simp -implicitDefEqProofs [h1, h3, c4, c5, c6, c7, c8, c9, c10, c11, c12, h14, h16, c17, c18, h20, h22, c23, h25, c26, h28, c29, c45]; first | rfl | (injection h with h; rw [h]; rfl) | (injection h with h; rw [h]))
             ·first | (cases h; done) | (simp -implicitDefEqProofs [h1, h3, c4, c5, c6, c7, c8, c9, c10, c11, c12, h14, h16, c17, c18, h20, h22, c23, h25, c26]; first | rfl | (injection h with h; rw [h]; rfl) | (injection h with h; rw [h]))
            ·simp -implicitDefEqProofs [h1, h3, c4, c5, c6, c7, c8, c9, c10, c11, c12, h14, h16, c17, c18, h20, h22, c23]
             rcases iteB_cases h with ⟨c60, h⟩ | ⟨c60, h⟩
             ·simp -implicitDefEqProofs [h1, h3, c4, c5, c6, c7, c8, c9, c10, c11, c12, h14, h16, c17, c18, h20, h22, c23, c60]
              obtain ⟨v61, h62', h⟩ := bind_some' h
              have h62 : ev 25 [T.c (sls 1 intF (with_.c ++ [with_.l])), T.c (sls 1 boolF with_.m)] = some (T.c (C.lit (Value.bool v61)), []) := w_cnf_Clause _ _ _ h62'
              simp -implicitDefEqProofs [h1, h3, c4, c5, c6, c7, c8, c9, c10, c11, c12, h14, h16, c17, c18, h20, h22, c23, c60, h62]
              obtain ⟨v63, h64', h⟩ := bind_some' h
              have h64 : ev 25 [T.c (sls 1 intF with_.c), T.c (sls 1 boolF with_.m)] = some (T.c (C.lit (Value.bool v63)), []) := w_cnf_Clause _ _ _ h64'
              simp -implicitDefEqProofs [h1, h3, c4, c5, c6, c7, c8, c9, c10, c11, c12, h14, h16, c17, c18, h20, h22, c23, c60, h62, h64]
              rcases iteB_cases h with ⟨c65, h⟩ | ⟨c65, h⟩
              ·simp -implicitDefEqProofs [h1, h3, c4, c5, c6, c7, c8, c9, c10, c11, c12, h14, h16, c17, c18, h20, h22, c23, c60, h62, h64, c65]
               rcases iteB_cases h with ⟨c66, h⟩ | ⟨c66, h⟩
               ·simp -implicitDefEqProofs [h1, h3, c4, c5, c6, c7, c8, c9, c10, c11, c12, h14, h16, c17, c18, h20, h22, c23, c60, h62, h64, c65, c66]
                rcases iteB_cases h with ⟨c67, h⟩ | ⟨c67, h⟩
                ·simp -implicitDefEqProofs [h1, h3, c4, c5, c6, c7, c8, c9, c10, c11, c12, h14, h16, c17, c18, h20, h22, c23, c60, h62, h64, c65, c66, c67]
                 rcases iteB_cases h with ⟨c68, h⟩ | ⟨c68, h⟩
                 ·first | (cases h; done) | (simp -implicitDefEqProofs [h1, h3, c4, c5, c6, c7, c8, c9, c10, c11, c12, h14, h16, c17, c18, h20, h22, c23, c60, h62, h64, c65, c66, c67, c68]; first | rfl | (injection h with h; rw [h]; rfl) | (injection h with h; rw [h]))
                 ·simp -implicitDefEqProofs [h1, h3, c4, c5, c6, c7, c8, c9, c10, c11, c12, h14, h16, c17, c18, h20, h22, c23, c60, h62, h64, c65, c66, c67, c68]
                  rcases iteB_cases h with ⟨c69, h⟩ | ⟨c69, h⟩
                  ·simp -implicitDefEqProofs [h1, h3, c4, c5, c6, c7, c8, c9, c10, c11, c12, h14, h16, c17, c18, h20, h22, c23, c60, h62, h64, c65, c66, c67, c68, c69]
                   obtain ⟨v70, h71', h⟩ := bind_some' h
                   have h71 : ev 27 [T.agg [C.lit (Value.int IntKind.i64 0), C.sl 1 []], T.c (sls 1 boolF with_.m)] = some (T.c (C.lit (Value.bool v70)), []) := w_cnf_Holds _ _ _ h71'
                   simp -implicitDefEqProofs [h1, h3, c4, c5, c6, c7, c8, c9, c10, c11, c12, h14, h16, c17, c18, h20, h22, c23, c60, h62, h64, c65, c66, c67, c68, c69, h71]
                   rcases iteB_cases h with ⟨c72, h⟩ | ⟨c72, h⟩
                   ·simp -implicitDefEqProofs [h1, h3, c4, c5, c6, c7, c8, c9, c10, c11, c12, h14, h16, c17, c18, h20, h22, c23, c60, h62, h64, c65, c66, c67, c68, c69, h71, c72]
                    obtain ⟨v73, h74', h⟩ := bind_some' h
                    have h74 : ev 25 [T.c (C.lit (Value.slice none 0 0)), T.c (sls 1 boolF with_.m)] = some (T.c (C.lit (Value.bool v73)), []) := w_cnf_Clause_nil _ _ h74'
                    first | (cases h; done) | (simp -implicitDefEqProofs [h1, h3, c4, c5, c6, c7, c8, c9, c10, c11, c12, h14, h16, c17, c18, h20, h22, c23, c60, h62, h64, c65, c66, c67, c68, c69, h71, c72, h74]; first | rfl | (injection h with h; rw [h]; rfl) | (injection h with h; rw [h]))
                   ·first | (cases h; done) | (simp -implicitDefEqProofs [h1, h3, c4, c5, c6, c7, c8, c9, c10, c11, c12, h14, h16, c17, c18, h20, h22, c23, c60, h62, h64, c65, c66, c67, c68, c69, h71, c72]; first | rfl | (injection h with h; rw [h]; rfl) | (injection h with h; rw [h]))
                  ·first | (cases h; done) | (simp -implicitDefEqProofs [h1, h3, c4, c5, c6, c7, c8, c9, c10, c11, c12, h14, h16, c17, c18, h20, h22, c23, c60, h62, h64, c65, c66, c67, c68, c69]; first | rfl | (injection h with h; rw [h]; rfl) | (injection h with h; rw [h]))
                ·simp -implicitDefEqProofs [h1, h3, c4, c5, c6, c7, c8, c9, c10, c11, c12, h14, h16, c17, c18, h20, h22, c23, c60, h62, h64, c65, c66, c67]
                 rcases iteB_cases h with ⟨c75, h⟩ | ⟨c75, h⟩
                 ·simp -implicitDefEqProofs [h1, h3, c4, c5, c6, c7, c8, c9, c10, c11, c12, h14, h16, c17, c18, h20, h22, c23, c60, h62, h64, c65, c66, c67, c75]
                  obtain ⟨v76, h77', h⟩ := bind_some' h
                  have h77 : ev 27 [T.agg [C.lit (Value.int IntKind.i64 0), C.sl 1 []], T.c (sls 1 boolF with_.m)] = some (T.c (C.lit (Value.bool v76)), []) := w_cnf_Holds _ _ _ h77'
                  simp -implicitDefEqProofs [h1, h3, c4, c5, c6, c7, c8, c9, c10, c11, c12, h14, h16, c17, c18, h20, h22, c23, c60, h62, h64, c65, c66, c67, c75, h77]
                  rcases iteB_cases h with ⟨c78, h⟩ | ⟨c78, h⟩
                  ·simp -implicitDefEqProofs [h1, h3, c4, c5, c6, c7, c8, c9, c10, c11, c12, h14, h16, c17, c18, h20, h22, c23, c60, h62, h64, c65, c66, c67, c75, h77, c78]
                   obtain ⟨v79, h80', h⟩ := bind_some' h
                   have h80 : ev 25 [T.c (C.lit (Value.slice none 0 0)), T.c (sls 1 boolF with_.m)] = some (T.c (C.lit (Value.bool v79)), []) := w_cnf_Clause_nil _ _ h80'
                   first | (cases h; done) | (simp -implicitDefEqProofs [h1, h3, c4, c5, c6, c7, c8, c9, c10, c11, c12, h14, h16, c17, c18, h20, h22, c23, c60, h62, h64, c65, c66, c67, c75, h77, c78, h80]; first | rfl | (injection h with h; rw [h]; rfl) | (injection h with h; rw [h]))
                  ·first | (cases h; done) | (simp -implicitDefEqProofs [h1, h3, c4, c5, c6, c7, c8, c9, c10, c11, c12, h14, h16, c17, c18, h20, h22, c23, c60, h62, h64, c65, c66, c67, c75, h77, c78]; first | rfl | (injection h with h; rw [h]; rfl) | (injection h with h; rw [h]))
                 ·first | (cases h; done) | (simp -implicitDefEqProofs [h1, h3, c4, c5, c6, c7, c8, c9, c10, c11, c12, h14, h16, c17, c18, h20, h22, c23, c60, h62, h64, c65, c66, c67, c75]; first | rfl | (injection h with h; rw [h]; rfl) | (injection h with h; rw [h]))
               ·first | (cases h; done) | (simp -implicitDefEqProofs [h1, h3, c4, c5, c6, c7, c8, c9, c10, c11, c12, h14, h16, c17, c18, h20, h22, c23, c60, h62, h64, c65, c66]; first | rfl | (injection h with h; rw [h]; rfl) | (injection h with h; rw [h]))
              ·simp -implicitDefEqProofs [h1, h3, c4, c5, c6, c7, c8, c9, c10, c11, c12, h14, h16, c17, c18, h20, h22, c23, c60, h62, h64, c65]
               rcases iteB_cases h with ⟨c81, h⟩ | ⟨c81, h⟩
               ·simp -implicitDefEqProofs [h1, h3, c4, c5, c6, c7, c8, c9, c10, c11, c12, h14, h16, c17, c18, h20, h22, c23, c60, h62, h64, c65, c81]
                rcases iteB_cases h with ⟨c82, h⟩ | ⟨c82, h⟩
                ·simp -implicitDefEqProofs [h1, h3, c4, c5, c6, c7, c8, c9, c10, c11, c12, h14, h16, c17, c18, h20, h22, c23, c60, h62, h64, c65, c81, c82]
                 rcases iteB_cases h with ⟨c83, h⟩ | ⟨c83, h⟩
                 ·first | (cases h; done) | (simp -implicitDefEqProofs [h1, h3, c4, c5, c6, c7, c8, c9, c10, c11, c12, h14, h16, c17, c18, h20, h22, c23, c60, h62, h64, c65, c81, c82, c83]; first | rfl | (injection h with h; rw [h]; rfl) | (injection h with h; rw [h]))
                 ·simp -implicitDefEqProofs [h1, h3, c4, c5, c6, c7, c8, c9, c10, c11, c12, h14, h16, c17, c18, h20, h22, c23, c60, h62, h64, c65, c81, c82, c83]
                  rcases iteB_cases h with ⟨c84, h⟩ | ⟨c84, h⟩
                  ·simp -implicitDefEqProofs [h1, h3, c4, c5, c6, c7, c8, c9, c10, c11, c12, h14, h16, c17, c18, h20, h22, c23, c60, h62, h64, c65, c81, c82, c83, c84]
                   obtain ⟨v85, h86', h⟩ := bind_some' h
                   have h86 : ev 27 [T.agg [C.lit (Value.int IntKind.i64 0), C.sl 1 []], T.c (sls 1 boolF with_.m)] = some (T.c (C.lit (Value.bool v85)), []) := w_cnf_Holds _ _ _ h86'
                   simp -implicitDefEqProofs [h1, h3, c4, c5, c6, c7, c8, c9, c10, c11, c12, h14, h16, c17, c18, h20, h22, c23, c60, h62, h64, c65, c81, c82, c83, c84, h86]
                   rcases iteB_cases h with ⟨c87, h⟩ | ⟨c87, h⟩
                   ·simp -implicitDefEqProofs [h1, h3, c4, c5, c6, c7, c8, c9, c10, c11, c12, h14, h16, c17, c18, h20, h22, c23, c60, h62, h64, c65, c81, c82, c83, c84, h86, c87]
                    obtain ⟨v88, h89', h⟩ := bind_some' h
                    have h89 : ev 25 [T.c (C.lit (Value.slice none 0 0)), T.c (sls 1 boolF with_.m)] = some (T.c (C.lit (Value.bool v88)), []) := w_cnf_Clause_nil _ _ h89'
                    first | (cases h; done) | (simp -implicitDefEqProofs [h1, h3, c4, c5, c6, c7, c8, c9, c10, c11, c12, h14, h16, c17, c18, h20, h22, c23, c60, h62, h64, c65, c81, c82, c83, c84, h86, c87, h89]; first | rfl | (injection h with h; rw [h]; rfl) | (injection h with h; rw [h]))
                   ·first | (cases h; done) | (simp -implicitDefEqProofs [h1, h3, c4, c5, c6, c7, c8, c9, c10, c11, c12, h14, h16, c17, c18, h20, h22, c23, c60, h62, h64, c65, c81, c82, c83, c84, h86, c87]; first | rfl | (injection h with h; rw [h]; rfl) | (injection h with h; rw [h]))
                  ·first | (cases h; done) | (simp -implicitDefEqProofs [h1, h3, c4, c5, c6, c7, c8, c9, c10, c11, c12, h14, h16, c17, c18, h20, h22, c23, c60, h62, h64, c65, c81, c82, c83, c84]; first | rfl | (injection h with h; rw [h]; rfl) | (injection h with h; rw [h]))
                ·simp -implicitDefEqProofs [h1, h3, c4, c5, c6, c7, c8, c9, c10, c11, c12, h14, h16, c17, c18, h20, h22, c23, c60, h62, h64, c65, c81, c82]
                 rcases iteB_cases h with ⟨c90, h⟩ | ⟨c90, h⟩
                 ·simp -implicitDefEqProofs [h1, h3, c4, c5, c6, c7, c8, c9, c10, c11, c12, h14, h16, c17, c18, h20, h22, c23, c60, h62, h64, c65, c81, c82, c90]
                  obtain ⟨v91, h92', h⟩ := bind_some' h
                  have h92 : ev 27 [T.agg [C.lit (Value.int IntKind.i64 0), C.sl 1 []], T.c (sls 1 boolF with_.m)] = some (T.c (C.lit (Value.bool v91)), []) := w_cnf_Holds _ _ _ h92'
                  simp -implicitDefEqProofs [h1, h3, c4, c5, c6, c7, c8, c9, c10, c11, c12, h14, h16, c17, c18, h20, h22, c23, c60, h62, h64, c65, c81, c82, c90, h92]
                  rcases iteB_cases h with ⟨c93, h⟩ | ⟨c93, h⟩
                  ·simp -implicitDefEqProofs [h1, h3, c4, c5, c6, c7, c8, c9, c10, c11, c12, h14, h16, c17, c18, h20, h22, c23, c60, h62, h64, c65, c81, c82, c90, h92, c93]
                   obtain ⟨v94, h95', h⟩ := bind_some' h
                   have h95 : ev 25 [T.c (C.lit (Value.slice none 0 0)), T.c (sls 1 boolF with_.m)] = some (T.c (C.lit (Value.bool v94)), []) := w_cnf_Clause_nil _ _ h95'
                   first | (cases h; done) | (simp -implicitDefEqProofs [h1, h3, c4, c5, c6, c7, c8, c9, c10, c11, c12, h14, h16, c17, c18, h20, h22, c23, c60, h62, h64, c65, c81, c82, c90, h92, c93, h95]; first | rfl | (injection h with h; rw [h]; rfl) | (injection h with h; rw [h]))
                  ·first | (cases h; done) | (simp -implicitDefEqProofs [h1, h3, c4, c5, c6, c7, c8, c9, c10, c11, c12, h14, h16, c17, c18, h20, h22, c23, c60, h62, h64, c65, c81, c82, c90, h92, c93]; first | rfl | (injection h with h; rw [h]; rfl) | (injection h with h; rw [h]))
                 ·first | (cases h; done) | (simp -implicitDefEqProofs [h1, h3, c4, c5, c6, c7, c8, c9, c10, c11, c12, h14, h16, c17, c18, h20, h22, c23, c60, h62, h64, c65, c81, c82, c90]; first | rfl | (injection h with h; rw [h]; rfl) | (injection h with h; rw [h]))
               ·first | (cases h; done) | (simp -implicitDefEqProofs [h1, h3, c4, c5, c6, c7, c8, c9, c10, c11, c12, h14, h16, c17, c18, h20, h22, c23, c60, h62, h64, c65, c81]; first | rfl | (injection h with h; rw [h]; rfl) | (injection h with h; rw [h]))
             ·first | (cases h; done) | (simp -implicitDefEqProofs [h1, h3, c4, c5, c6, c7, c8, c9, c10, c11, c12, h14, h16, c17, c18, h20, h22, c23, c60]; first | rfl | (injection h with h; rw [h]; rfl) | (injection h with h; rw [h]))
           ·first | (cases h; done) | (simp -implicitDefEqProofs [h1, h3, c4, c5, c6, c7, c8, c9, c10, c11, c12, h14, h16, c17, c18]; first | rfl | (injection h with h; rw [h]; rfl) | (injection h with h; rw [h]))
          ·simp -implicitDefEqProofs [h1, h3, c4, c5, c6, c7, c8, c9, c10, c11, c12, h14, h16, c17]
           rcases iteB_cases h with ⟨c96, h⟩ | ⟨c96, h⟩
           ·simp -implicitDefEqProofs [h1, h3, c4, c5, c6, c7, c8, c9, c10, c11, c12, h14, h16, c17, c96]
            obtain ⟨v97, h98', h⟩ := bind_some' h
            have h98 : ev 27 [T.agg [C.lit (Value.int IntKind.i64 with_.f.N), sls 1 rowF (with_.f.cs ++ [with_.c])], T.c (sls 1 boolF with_.m)] = some (T.c (C.lit (Value.bool v97)), []) := w_cnf_Holds _ _ _ h98'
            simp -implicitDefEqProofs [h1, h3, c4, c5, c6, c7, c8, c9, c10, c11, c12, h14, h16, c17, c96, h98]
            obtain ⟨v99, h100', h⟩ := bind_some' h
            have h100 : ev 27 [T.agg [C.lit (Value.int IntKind.i64 with_.f.N), sls 1 rowF with_.f.cs], T.c (sls 1 boolF with_.m)] = some (T.c (C.lit (Value.bool v99)), []) := w_cnf_Holds _ _ _ h100'
            simp -implicitDefEqProofs [h1, h3, c4, c5, c6, c7, c8, c9, c10, c11, c12, h14, h16, c17, c96, h98, h100]
            rcases iteB_cases h with ⟨c101, h⟩ | ⟨c101, h⟩
            ·simp -implicitDefEqProofs [h1, h3, c4, c5, c6, c7, c8, c9, c10, c11, c12, h14, h16, c17, c96, h98, h100, c101]
             obtain ⟨v102, h103', h⟩ := bind_some' h
             have h103 : ev 25 [T.c (sls 1 intF with_.c), T.c (sls 1 boolF with_.m)] = some (T.c (C.lit (Value.bool v102)), []) := w_cnf_Clause _ _ _ h103'
             simp -implicitDefEqProofs [h1, h3, c4, c5, c6, c7, c8, c9, c10, c11, c12, h14, h16, c17, c96, h98, h100, c101, h103]
             rcases iteB_cases h with ⟨c104, h⟩ | ⟨c104, h⟩
             ·simp -implicitDefEqProofs [h1, h3, c4, c5, c6, c7, c8, c9, c10, c11, c12, h14, h16, c17, c96, h98, h100, c101, h103, c104]
              obtain ⟨v105, h106', h⟩ := bind_some' h
              have h106 : ev 25 [T.c (sls 1 intF (with_.c ++ [with_.l])), T.c (sls 1 boolF with_.m)] = some (T.c (C.lit (Value.bool v105)), []) := w_cnf_Clause _ _ _ h106'
              simp -implicitDefEqProofs [h1, h3, c4, c5, c6, c7, c8, c9, c10, c11, c12, h14, h16, c17, c96, h98, h100, c101, h103, c104, h106]
              rcases iteB_cases h with ⟨c107, h⟩ | ⟨c107, h⟩
              ·simp -implicitDefEqProofs [h1, h3, c4, c5, c6, c7, c8, c9, c10, c11, c12, h14, h16, c17, c96, h98, h100, c101, h103, c104, h106, c107]
               rcases iteB_cases h with ⟨c108, h⟩ | ⟨c108, h⟩
               ·simp -implicitDefEqProofs [h1, h3, c4, c5, c6, c7, c8, c9, c10, c11, c12, h14, h16, c17, c96, h98, h100, c101, h103, c104, h106, c107, c108]
                rcases iteB_cases h with ⟨c109, h⟩ | ⟨c109, h⟩
                ·simp -implicitDefEqProofs [h1, h3, c4, c5, c6, c7, c8, c9, c10, c11, c12, h14, h16, c17, c96, h98, h100, c101, h103, c104, h106, c107, c108, c109]
                 rcases iteB_cases h with ⟨c110, h⟩ | ⟨c110, h⟩
                 ·first | (cases h; done) | (simp -implicitDefEqProofs [h1, h3, c4, c5, c6, c7, c8, c9, c10, c11, c12, h14, h16, c17, c96, h98, h100, c101, h103, c104, h106, c107, c108, c109, c110]; first | rfl | (injection h with h; rw [h]; rfl) | (injection h with h; rw [h]))
                 ·simp -implicitDefEqProofs [h1, h3, c4, c5, c6, c7, c8, c9, c10, c11, c12, h14, h16, c17, c96, h98, h100, c101, h103, c104, h106, c107, c108, c109, c110]
                  rcases iteB_cases h with ⟨c111, h⟩ | ⟨c111, h⟩
                  ·simp -implicitDefEqProofs [h1, h3, c4, c5, c6, c7, c8, c9, c10, c11, c12, h14, h16, c17, c96, h98, h100, c101, h103, c104, h106, c107, c108, c109, c110, c111]
                   obtain ⟨v112, h113', h⟩ := bind_some' h
                   have h113 : ev 27 [T.agg [C.lit (Value.int IntKind.i64 0), C.sl 1 []], T.c (sls 1 boolF with_.m)] = some (T.c (C.lit (Value.bool v112)), []) := w_cnf_Holds _ _ _ h113'
                   simp -implicitDefEqProofs [h1, h3, c4, c5, c6, c7, c8, c9, c10, c11, c12, h14, h16, c17, c96, h98, h100, c101, h103, c104, h106, c107, c108, c109, c110, c111, h113]
                   rcases iteB_cases h with ⟨c114, h⟩ | ⟨c114, h⟩
                   ·simp -implicitDefEqProofs [h1, h3, c4, c5, c6, c7, c8, c9, c10, c11, c12, h14, h16, c17, c96, h98, h100, c101, h103, c104, h106, c107, c108, c109, c110, c111, h113, c114]
                    obtain ⟨v115, h116', h⟩ := bind_some' h
                    have h116 : ev 25 [T.c (C.lit (Value.slice none 0 0)), T.c (sls 1 boolF with_.m)] = some (T.c (C.lit (Value.bool v115)), []) := w_cnf_Clause_nil _ _ h116'
                    first | (cases h; done) | (simp -implicitDefEqProofs [h1, h3, c4, c5, c6, c7, c8, c9, c10, c11, c12, h14, h16, c17, c96, h98, h100, c101, h103, c104, h106, c107, c108, c109, c110, c111, h113, c114, h116]; first | rfl | (injection h with h; rw [h]; rfl) | (injection h with h; rw [h]))
                   ·first | (cases h; done) | (simp -implicitDefEqProofs [h1, h3, c4, c5, c6, c7, c8, c9, c10, c11, c12, h14, h16, c17, c96, h98, h100, c101, h103, c104, h106, c107, c108, c109, c110, c111, h113, c114]; first | rfl | (injection h with h; rw [h]; rfl) | (injection h with h; rw [h]))
                  ·first | (cases h; done) | (simp -implicitDefEqProofs [h1, h3, c4, c5, c6, c7, c8, c9, c10, c11, c12, h14, h16, c17, c96, h98, h100, c101, h103, c104, h106, c107, c108, c109, c110, c111]; first | rfl | (injection h with h; rw [h]; rfl) | (injection h with h; rw [h]))
                ·simp -implicitDefEqProofs [h1, h3, c4, c5, c6, c7, c8, c9, c10, c11, c12, h14, h16, c17, c96, h98, h100, c101, h103, c104, h106, c107, c108, c109]
                 rcases iteB_cases h with ⟨c117, h⟩ | ⟨c117, h⟩
                 ·simp -implicitDefEqProofs [h1, h3, c4, c5, c6, c7, c8, c9, c10, c11, c12, h14, h16, c17, c96, h98, h100, c101, h103, c104, h106, c107, c108, c109, c117]
                  obtain ⟨v118, h119', h⟩ := bind_some' h
                  have h119 : ev 27 [T.agg [C.lit (Value.int IntKind.i64 0), C.sl 1 []], T.c (sls 1 boolF with_.m)] = some (T.c (C.lit (Value.bool v118)), []) := w_cnf_Holds _ _ _ h119'
                  simp -implicitDefEqProofs [h1, h3, c4, c5, c6, c7, c8, c9, c10, c11, c12, h14, h16, c17, c96, h98, h100, c101, h103, c104, h106, c107, c108, c109, c117, h119]
                  rcases iteB_cases h with ⟨c120, h⟩ | ⟨c120, h⟩
                  ·simp -implicitDefEqProofs [h1, h3, c4, c5, c6, c7, c8, c9, c10, c11, c12, h14, h16, c17, c96, h98, h100, c101, h103, c104, h106, c107, c108, c109, c117, h119, c120]
                   obtain ⟨v121, h122', h⟩ := bind_some' h
                   have h122 : ev 25 [T.c (C.lit (Value.slice none 0 0)), T.c (sls 1 boolF with_.m)] = some (T.c (C.lit (Value.bool v121)), []) := w_cnf_Clause_nil _ _ h122'
                   first | (cases h; done) | (simp -implicitDefEqProofs [h1, h3, c4, c5, c6, c7, c8, c9, c10, c11, c12, h14, h16, c17, c96, h98, h100, c101, h103, c104, h106, c107, c108, c109, c117, h119, c120, h122]; first | rfl | (injection h with h; rw [h]; rfl) | (injection h with h; rw [h]))
                  ·first | (cases h; done) | (simp -implicitDefEqProofs [h1, h3, c4, c5, c6, c7, c8, c9, c10, c11, c12, h14, h16, c17, c96, h98, h100, c101, h103, c104, h106, c107, c108, c109, c117, h119, c120]; first | rfl | (injection h with h; rw [h]; rfl) | (injection h with h; rw [h]))
                 ·first | (cases h; done) | (simp -implicitDefEqProofs [h1, h3, c4, c5, c6, c7, c8, c9, c10, c11, c12, h14, h16, c17, c96, h98, h100, c101, h103, c104, h106, c107, c108, c109, c117]; first | rfl | (injection h with h; rw [h]; rfl) | (injection h with h; rw [h]))
               ·first | (cases h; done) | (simp -implicitDefEqProofs [h1, h3, c4, c5, c6, c7, c8, c9, c10, c11, c12, h14, h16, c17, c96, h98, h100, c101, h103, c104, h106, c107, c108]; first | rfl | (injection h with h; rw [h]; rfl) | (injection h with h; rw [h]))
              ·simp -implicitDefEqProofs [h1, h3, c4, c5, c6, c7, c8, c9, c10, c11, c12, h14, h16, c17, c96, h98, h100, c101, h103, c104, h106, c107]
               rcases iteB_cases h with ⟨c123, h⟩ | ⟨c123, h⟩
               ·simp -implicitDefEqProofs [h1, h3, c4, c5, c6, c7, c8, c9, c10, c11, c12, h14, h16, c17, c96, h98, h100, c101, h103, c104, h106, c107, c123]
                rcases iteB_cases h with ⟨c124, h⟩ | ⟨c124, h⟩
                ·simp -implicitDefEqProofs [h1, h3, c4, c5, c6, c7, c8, c9, c10, c11, c12, h14, h16, c17, c96, h98, h100, c101, h103, c104, h106, c107, c123, c124]
                 rcases iteB_cases h with ⟨c125, h⟩ | ⟨c125, h⟩
                 ·first | (cases h; done) | (simp -implicitDefEqProofs [h1, h3, c4, c5, c6, c7, c8, c9, c10, c11, c12, h14, h16, c17, c96, h98, h100, c101, h103, c104, h106, c107, c123, c124, c125]; first | rfl | (injection h with h; rw [h]; rfl) | (injection h with h; rw [h]))
                 ·simp -implicitDefEqProofs [h1, h3, c4, c5, c6, c7, c8, c9, c10, c11, c12, h14, h16, c17, c96, h98, h100, c101, h103, c104, h106, c107, c123, c124, c125]
                  rcases iteB_cases h with ⟨c126, h⟩ | ⟨c126, h⟩
                  ·simp -implicitDefEqProofs [h1, h3, c4, c5, c6, c7, c8, c9, c10, c11, c12, h14, h16, c17, c96, h98, h100, c101, h103, c104, h106, c107, c123, c124, c125, c126]
                   obtain ⟨v127, h128', h⟩ := bind_some' h
                   have h128 : ev 27 [T.agg [C.lit (Value.int IntKind.i64 0), C.sl 1 []], T.c (sls 1 boolF with_.m)] = some (T.c (C.lit (Value.bool v127)), []) := w_cnf_Holds _ _ _ h128'
                   simp -implicitDefEqProofs [h1, h3, c4, c5, c6, c7, c8, c9, c10, c11, c12, h14, h16, c17, c96, h98, h100, c101, h103, c104, h106, c107, c123, c124, c125, c126, h128]
                   rcases iteB_cases h with ⟨c129, h⟩ | ⟨c129, h⟩
                   ·simp -implicitDefEqProofs [h1, h3, c4, c5, c6, c7, c8, c9, c10, c11, c12, h14, h16, c17, c96, h98, h100, c101, h103, c104, h106, c107, c123, c124, c125, c126, h128, c129]
                    obtain ⟨v130, h131', h⟩ := bind_some' h
                    have h131 : ev 25 [T.c (C.lit (Value.slice none 0 0)), T.c (sls 1 boolF with_.m)] = some (T.c (C.lit (Value.bool v130)), []) := w_cnf_Clause_nil _ _ h131'
                    first | (cases h; done) | (simp -implicitDefEqProofs [h1, h3, c4, c5, c6, c7, c8, c9, c10, c11, c12, h14, h16, c17, c96, h98, h100, c101, h103, c104, h106, c107, c123, c124, c125, c126, h128, c129, h131]; first | rfl | (injection h with h; rw [h]; rfl) | (injection h with h; rw [h]))
                   ·first | (cases h; done) | (simp -implicitDefEqProofs [h1, h3, c4, c5, c6, c7, c8, c9, c10, c11, c12, h14, h16, c17, c96, h98, h100, c101, h103, c104, h106, c107, c123, c124, c125, c126, h128, c129]; first | rfl | (injection h with h; rw [h]; rfl) | (injection h with h; rw [h]))
                  ·first | (cases h; done) | (simp -implicitDefEqProofs [h1, h3, c4, c5, c6, c7, c8, c9, c10, c11, c12, h14, h16, c17, c96, h98, h100, c101, h103, c104, h106, c107, c123, c124, c125, c126]; first | rfl | (injection h with h; rw [h]; rfl) | (injection h with h; rw [h]))
                ·simp -implicitDefEqProofs [h1, h3, c4, c5, c6, c7, c8, c9, c10, c11, c12, h14, h16, c17, c96, h98, h100, c101, h103, c104, h106, c107, c123, c124]
                 rcases iteB_cases h with ⟨c132, h⟩ | ⟨c132, h⟩
                 ·simp -implicitDefEqProofs [h1, h3, c4, c5, c6, c7, c8, c9, c10, c11, c12, h14, h16, c17, c96, h98, h100, c101, h103, c104, h106, c107, c123, c124, c132]
                  obtain ⟨v133, h134', h⟩ := bind_some' h
                  have h134 : ev 27 [T.agg [C.lit (Value.int IntKind.i64 0), C.sl 1 []], T.c (sls 1 boolF with_.m)] = some (T.c (C.lit (Value.bool v133)), []) := w_cnf_Holds _ _ _ h134'
                  simp -implicitDefEqProofs [h1, h3, c4, c5, c6, c7, c8, c9, c10, c11, c12, h14, h16, c17, c96, h98, h100, c101, h103, c104, h106, c107, c123, c124, c132, h134]
                  rcases iteB_cases h with ⟨c135, h⟩ | ⟨c135, h⟩
                  ·simp -implicitDefEqProofs [h1, h3, c4, c5, c6, c7, c8, c9, c10, c11, c12, h14, h16, c17, c96, h98, h100, c101, h103, c104, h106, c107, c123, c124, c132, h134, c135]
                   obtain ⟨v136, h137', h⟩ := bind_some' h
                   have h137 : ev 25 [T.c (C.lit (Value.slice none 0 0)), T.c (sls 1 boolF with_.m)] = some (T.c (C.lit (Value.bool v136)), []) := w_cnf_Clause_nil _ _ h137'
                   first | (cases h; done) | (simp -implicitDefEqProofs [h1, h3, c4, c5, c6, c7, c8, c9, c10, c11, c12, h14, h16, c17, c96, h98, h100, c101, h103, c104, h106, c107, c123, c124, c132, h134, c135, h137]; first | rfl | (injection h with h; rw [h]; rfl) | (injection h with h; rw [h]))
                  ·first | (cases h; done) | (simp -implicitDefEqProofs [h1, h3, c4, c5, c6, c7, c8, c9, c10, c11, c12, h14, h16, c17, c96, h98, h100, c101, h103, c104, h106, c107, c123, c124, c132, h134, c135]; first | rfl | (injection h with h; rw [h]; rfl) | (injection h with h; rw [h]))
                 ·first | (cases h; done) | (simp -implicitDefEqProofs [h1, h3, c4, c5, c6, c7, c8, c9, c10, c11, c12, h14, h16, c17, c96, h98, h100, c101, h103, c104, h106, c107, c123, c124, c132]; first | rfl | (injection h with h; rw [h]; rfl) | (injection h with h; rw [h]))
               ·first | (cases h; done) | (simp -implicitDefEqProofs [h1, h3, c4, c5, c6, c7, c8, c9, c10, c11, c12, h14, h16, c17, c96, h98, h100, c101, h103, c104, h106, c107, c123]; first | rfl | (injection h with h; rw [h]; rfl) | (injection h with h; rw [h]))
             ·first | (cases h; done) | (simp -implicitDefEqProofs [h1, h3, c4, c5, c6, c7, c8, c9, c10, c11, c12, h14, h16, c17, c96, h98, h100, c101, h103, c104]; first | rfl | (injection h with h; rw [h]; rfl) | (injection h with h; rw [h]))
            ·simp -implicitDefEqProofs [h1, h3, c4, c5, c6, c7, c8, c9, c10, c11, c12, h14, h16, c17, c96, h98, h100, c101]
             rcases iteB_cases h with ⟨c138, h⟩ | ⟨c138, h⟩
             ·simp -implicitDefEqProofs [h1, h3, c4, c5, c6, c7, c8, c9, c10, c11, c12, h14, h16, c17, c96, h98, h100, c101, c138]
              obtain ⟨v139, h140', h⟩ := bind_some' h
              have h140 : ev 25 [T.c (sls 1 intF (with_.c ++ [with_.l])), T.c (sls 1 boolF with_.m)] = some (T.c (C.lit (Value.bool v139)), []) := w_cnf_Clause _ _ _ h140'
              simp -implicitDefEqProofs [h1, h3, c4, c5, c6, c7, c8, c9, c10, c11, c12, h14, h16, c17, c96, h98, h100, c101, c138, h140]
              obtain ⟨v141, h142', h⟩ := bind_some' h
              have h142 : ev 25 [T.c (sls 1 intF with_.c), T.c (sls 1 boolF with_.m)] = some (T.c (C.lit (Value.bool v141)), []) := w_cnf_Clause _ _ _ h142'
              simp -implicitDefEqProofs [h1, h3, c4, c5, c6, c7, c8, c9, c10, c11, c12, h14, h16, c17, c96, h98, h100, c101, c138, h140, h142]
              rcases iteB_cases h with ⟨c143, h⟩ | ⟨c143, h⟩
              ·simp -implicitDefEqProofs [h1, h3, c4, c5, c6, c7, c8, c9, c10, c11, c12, h14, h16, c17, c96, h98, h100, c101, c138, h140, h142, c143]
               rcases iteB_cases h with ⟨c144, h⟩ | ⟨c144, h⟩
               ·simp -implicitDefEqProofs [h1, h3, c4, c5, c6, c7, c8, c9, c10, c11, c12, h14, h16, c17, c96, h98, h100, c101, c138, h140, h142, c143, c144]
                rcases iteB_cases h with ⟨c145, h⟩ | ⟨c145, h⟩
                ·simp -implicitDefEqProofs [h1, h3, c4, c5, c6, c7, c8, c9, c10, c11, c12, h14, h16, c17, c96, h98, h100, c101, c138, h140, h142, c143, c144, c145]
                 rcases iteB_cases h with ⟨c146, h⟩ | ⟨c146, h⟩
                 ·first | (cases h; done) | (simp -implicitDefEqProofs [h1, h3, c4, c5, c6, c7, c8, c9, c10, c11, c12, h14, h16, c17, c96, h98, h100, c101, c138, h140, h142, c143, c144, c145, c146]; first | rfl | (injection h with h; rw [h]; rfl) | (injection h with h; rw [h]))
                 ·simp -implicitDefEqProofs [h1, h3, c4, c5, c6, c7, c8, c9, c10, c11, c12, h14, h16, c17, c96, h98, h100, c101, c138, h140, h142, c143, c144, c145, c146]
                  rcases iteB_cases h with ⟨c147, h⟩ | ⟨c147, h⟩
                  ·simp -implicitDefEqProofs [h1, h3, c4, c5, c6, c7, c8, c9, c10, c11, c12, h14, h16, c17, c96, h98, h100, c101, c138, h140, h142, c143, c144, c145, c146, c147]
                   obtain ⟨v148, h149', h⟩ := bind_some' h
                   have h149 : ev 27 [T.agg [C.lit (Value.int IntKind.i64 0), C.sl 1 []], T.c (sls 1 boolF with_.m)] = some (T.c (C.lit (Value.bool v148)), []) := w_cnf_Holds _ _ _ h149'
                   simp -implicitDefEqProofs [h1, h3, c4, c5, c6, c7, c8, c9, c10, c11, c12, h14, h16, c17, c96, h98, h100, c101, c138, h140, h142, c143, c144, c145, c146, c147, h149]
                   rcases iteB_cases h with ⟨c150, h⟩ | ⟨c150, h⟩
                   ·simp -implicitDefEqProofs [h1, h3, c4, c5, c6, c7, c8, c9, c10, c11, c12, h14, h16, c17, c96, h98, h100, c101, c138, h140, h142, c143, c144, c145, c146, c147, h149, c150]
                    obtain ⟨v151, h152', h⟩ := bind_some' h
                    have h152 : ev 25 [T.c (C.lit (Value.slice none 0 0)), T.c (sls 1 boolF with_.m)] = some (T.c (C.lit (Value.bool v151)), []) := w_cnf_Clause_nil _ _ h152'
                    first | (cases h; done) | (simp -implicitDefEqProofs [h1, h3, c4, c5, c6, c7, c8, c9, c10, c11, c12, h14, h16, c17, c96, h98, h100, c101, c138, h140, h142, c143, c144, c145, c146, c147, h149, c150, h152]; first | rfl | (injection h with h; rw [h]; rfl) | (injection h with h; rw [h]))
                   ·first | (cases h; done) | (simp -implicitDefEqProofs [h1, h3, c4, c5, c6, c7, c8, c9, c10, c11, c12, h14, h16, c17, c96, h98, h100, c101, c138, h140, h142, c143, c144, c145, c146, c147, h149, c150]; first | rfl | (injection h with h; rw [h]; rfl) | (injection h with h; rw [h]))
                  ·first | (cases h; done) | (simp -implicitDefEqProofs [h1, h3, c4, c5, c6, c7, c8, c9, c10, c11, c12, h14, h16, c17, c96, h98, h100, c101, c138, h140, h142, c143, c144, c145, c146, c147]; first | rfl | (injection h with h; rw [h]; rfl) | (injection h with h; rw [h]))
                ·simp -implicitDefEqProofs [h1, h3, c4, c5, c6, c7, c8, c9, c10, c11, c12, h14, h16, c17, c96, h98, h100, c101, c138, h140, h142, c143, c144, c145]
                 rcases iteB_cases h with ⟨c153, h⟩ | ⟨c153, h⟩
                 ·simp -implicitDefEqProofs [h1, h3, c4, c5, c6, c7, c8, c9, c10, c11, c12, h14, h16, c17, c96, h98, h100, c101, c138, h140, h142, c143, c144, c145, c153]
                  obtain ⟨v154, h155', h⟩ := bind_some' h
                  have h155 : ev 27 [T.agg [C.lit (Value.int IntKind.i64 0), C.sl 1 []], T.c (sls 1 boolF with_.m)] = some (T.c (C.lit (Value.bool v154)), []) := w_cnf_Holds _ _ _ h155'
                  simp -implicitDefEqProofs [h1, h3, c4, c5, c6, c7, c8, c9, c10, c11, c12, h14, h16, c17, c96, h98, h100, c101, c138, h140, h142, c143, c144, c145, c153, h155]
                  rcases iteB_cases h with ⟨c156, h⟩ | ⟨c156, h⟩
                  ·simp -implicitDefEqProofs [h1, h3, c4, c5, c6, c7, c8, c9, c10, c11, c12, h14, h16, c17, c96, h98, h100, c101, c138, h140, h142, c143, c144, c145, c153, h155, c156]
                   obtain ⟨v157, h158', h⟩ := bind_some' h
                   have h158 : ev 25 [T.c (C.lit (Value.slice none 0 0)), T.c (sls 1 boolF with_.m)] = some (T.c (C.lit (Value.bool v157)), []) := w_cnf_Clause_nil _ _ h158'
                   first | (cases h; done) | (simp -implicitDefEqProofs [h1, h3, c4, c5, c6, c7, c8, c9, c10, c11, c12, h14, h16, c17, c96, h98, h100, c101, c138, h140, h142, c143, c144, c145, c153, h155, c156, h158]; first | rfl | (injection h with h; rw [h]; rfl) | (injection h with h; rw [h]))
                  ·first | (cases h; done) | (simp -implicitDefEqProofs [h1, h3, c4, c5, c6, c7, c8, c9, c10, c11, c12, h14, h16, c17, c96, h98, h100, c101, c138, h140, h142, c143, c144, c145, c153, h155, c156]; first | rfl | (injection h with h; rw [h]; rfl) | (injection h with h; rw [h]))
                 ·first | (cases h; done) | (simp -implicitDefEqProofs [h1, h3, c4, c5, c6, c7, c8, c9, c10, c11, c12, h14, h16, c17, c96, h98, h100, c101, c138, h140, h142, c143, c144, c145, c153]; first | rfl | (injection h with h; rw [h]; rfl) | (injection h with h; rw [h]))
               ·first | (cases h; done) | (simp -implicitDefEqProofs [h1, h3, c4, c5, c6, c7, c8, c9, c10, c11, c12, h14, h16, c17, c96, h98, h100, c101, c138, h140, h142, c143, c144]; first | rfl | (injection h with h; rw [h]; rfl) | (injection h with h; rw [h]))
              ·simp -implicitDefEqProofs [h1, h3, c4, c5, c6, c7, c8, c9, c10, c11, c12, h14, h16, c17, c96, h98, h100, c101, c138, h140, h142, c143]
               rcases iteB_cases h with ⟨c159, h⟩ | ⟨c159, h⟩
               ·simp -implicitDefEqProofs [h1, h3, c4, c5, c6, c7, c8, c9, c10, c11, c12, h14, h16, c17, c96, h98, h100, c101, c138, h140, h142, c143, c159]
                rcases iteB_cases h with ⟨c160, h⟩ | ⟨c160, h⟩
                ·simp -implicitDefEqProofs [h1, h3, c4, c5, c6, c7, c8, c9, c10, c11, c12, h14, h16, c17, c96, h98, h100, c101, c138, h140, h142, c143, c159, c160]
                 rcases iteB_cases h with ⟨c161, h⟩ | ⟨c161, h⟩
                 ·first | (cases h; done) | (simp -implicitDefEqProofs [h1, h3, c4, c5, c6, c7, c8, c9, c10, c11, c12, h14, h16, c17, c96, h98, h100, c101, c138, h140, h142, c143, c159, c160, c161]; first | rfl | (injection h with h; rw [h]; rfl) | (injection h with h; rw [h]))
                 ·simp -implicitDefEqProofs [h1, h3, c4, c5, c6, c7, c8, c9, c10, c11, c12, h14, h16, c17, c96, h98, h100, c101, c138, h140, h142, c143, c159, c160, c161]
                  rcases iteB_cases h with ⟨c162, h⟩ | ⟨c162, h⟩
                  ·simp -implicitDefEqProofs [h1, h3, c4, c5, c6, c7, c8, c9, c10, c11, c12, h14, h16, c17, c96, h98, h100, c101, c138, h140, h142, c143, c159, c160, c161, c162]
                   obtain ⟨v163, h164', h⟩ := bind_some' h
                   have h164 : ev 27 [T.agg [C.lit (Value.int IntKind.i64 0), C.sl 1 []], T.c (sls 1 boolF with_.m)] = some (T.c (C.lit (Value.bool v163)), []) := w_cnf_Holds _ _ _ h164'
                   simp -implicitDefEqProofs [h1, h3, c4, c5, c6, c7, c8, c9, c10, c11, c12, h14, h16, c17, c96, h98, h100, c101, c138, h140, h142, c143, c159, c160, c161, c162, h164]
                   rcases iteB_cases h with ⟨c165, h⟩ | ⟨c165, h⟩
                   ·simp -implicitDefEqProofs [h1, h3, c4, c5, c6, c7, c8, c9, c10, c11, c12, h14, h16, c17, c96, h98, h100, c101, c138, h140, h142, c143, c159, c160, c161, c162, h164, c165]
                    obtain ⟨v166, h167', h⟩ := bind_some' h
                    have h167 : ev 25 [T.c (C.lit (Value.slice none 0 0)), T.c (sls 1 boolF with_.m)] = some (T.c (C.lit (Value.bool v166)), []) := w_cnf_Clause_nil _ _ h167'
                    first | (cases h; done) | (simp -implicitDefEqProofs [h1, h3, c4, c5, c6, c7, c8, c9, c10, c11, c12, h14, h16, c17, c96, h98, h100, c101, c138, h140, h142, c143, c159, c160, c161, c162, h164, c165, h167]; first | rfl | (injection h with h; rw [h]; rfl) | (injection h with h; rw [h]))
                   ·first | (cases h; done) | (simp -implicitDefEqProofs [h1, h3, c4, c5, c6, c7, c8, c9, c10, c11, c12, h14, h16, c17, c96, h98, h100, c101, c138, h140, h142, c143, c159, c160, c161, c162, h164, c165]; first | rfl | (injection h with h; rw [h]; rfl) | (injection h with h; rw [h]))
                  ·first | (cases h; done) | (simp -implicitDefEqProofs [h1, h3, c4, c5, c6, c7, c8, c9, c10, c11, c12, h14, h16, c17, c96, h98, h100, c101, c138, h140, h142, c143, c159, c160, c161, c162]; first | rfl | (injection h with h; rw [h]; rfl) | (injection h with h; rw [h]))
                ·simp -implicitDefEqProofs [h1, h3, c4, c5, c6, c7, c8, c9, c10, c11, c12, h14, h16, c17, c96, h98, h100, c101, c138, h140, h142, c143, c159, c160]
                 rcases iteB_cases h with ⟨c168, h⟩ | ⟨c168, h⟩
                 ·simp -implicitDefEqProofs [h1, h3, c4, c5, c6, c7, c8, c9, c10, c11, c12, h14, h16, c17, c96, h98, h100, c101, c138, h140, h142, c143, c159, c160, c168]
                  obtain ⟨v169, h170', h⟩ := bind_some' h
                  have h170 : ev 27 [T.agg [C.lit (Value.int IntKind.i64 0), C.sl 1 []], T.c (sls 1 boolF with_.m)] = some (T.c (C.lit (Value.bool v169)), []) := w_cnf_Holds _ _ _ h170'
                  simp -implicitDefEqProofs [h1, h3, c4, c5, c6, c7, c8, c9, c10, c11, c12, h14, h16, c17, c96, h98, h100, c101, c138, h140, h142, c143, c159, c160, c168, h170]
                  rcases iteB_cases h with ⟨c171, h⟩ | ⟨c171, h⟩
                  ·simp -implicitDefEqProofs [h1, h3, c4, c5, c6, c7, c8, c9, c10, c11, c12, h14, h16, c17, c96, h98, h100, c101, c138, h140, h142, c143, c159, c160, c168, h170, c171]
                   obtain ⟨v172, h173', h⟩ := bind_some' h
                   have h173 : ev 25 [T.c (C.lit (Value.slice none 0 0)), T.c (sls 1 boolF with_.m)] = some (T.c (C.lit (Value.bool v172)), []) := w_cnf_Clause_nil _ _ h173'
                   first | (cases h; done) | (simp -implicitDefEqProofs [h1, h3, c4, c5, c6, c7, c8, c9, c10, c11, c12, h14, h16, c17, c96, h98, h100, c101, c138, h140, h142, c143, c159, c160, c168, h170, c171, h173]; first | rfl | (injection h with h; rw [h]; rfl) | (injection h with h; rw [h]))
                  ·first | (cases h; done) | (simp -implicitDefEqProofs [h1, h3, c4, c5, c6, c7, c8, c9, c10, c11, c12, h14, h16, c17, c96, h98, h100, c101, c138, h140, h142, c143, c159, c160, c168, h170, c171]; first | rfl | (injection h with h; rw [h]; rfl) | (injection h with h; rw [h]))
                 ·first | (cases h; done) | (simp -implicitDefEqProofs [h1, h3, c4, c5, c6, c7, c8, c9, c10, c11, c12, h14, h16, c17, c96, h98, h100, c101, c138, h140, h142, c143, c159, c160, c168]; first | rfl | (injection h with h; rw [h]; rfl) | (injection h with h; rw [h]))
               ·first | (cases h; done) | (simp -implicitDefEqProofs [h1, h3, c4, c5, c6, c7, c8, c9, c10, c11, c12, h14, h16, c17, c96, h98, h100, c101, c138, h140, h142, c143, c159]; first | rfl | (injection h with h; rw [h]; rfl) | (injection h with h; rw [h]))
             ·first | (cases h; done) | (simp -implicitDefEqProofs [h1, h3, c4, c5, c6, c7, c8, c9, c10, c11, c12, h14, h16, c17, c96, h98, h100, c101, c138]; first | rfl | (injection h with h; rw [h]; rfl) | (injection h with h; rw [h]))
           ·first | (cases h; done) | (simp -implicitDefEqProofs [h1, h3, c4, c5, c6, c7, c8, c9, c10, c11, c12, h14, h16, c17, c96]; first | rfl | (injection h with h; rw [h]; rfl) | (injection h with h; rw [h]))
         ·simp -implicitDefEqProofs [h1, h3, c4, c5, c6, c7, c8, c9, c10, c11, c12]
          cases h
        ·simp -implicitDefEqProofs [h1, h3, c4, c5, c6, c7, c8, c9, c10, c11]
         cases h
       ·simp -implicitDefEqProofs [h1, h3, c4, c5, c6, c7, c8, c9, c10]
        cases h
      ·simp -implicitDefEqProofs [h1, h3, c4, c5, c6, c7, c8, c9]
       cases h
 ·first | (cases h; done) | (simp -implicitDefEqProofs [h1, h3, c4]; first | rfl | (injection h with h; rw [h]; rfl) | (injection h with h; rw [h]))
end Go.Proofs.YtkdlblpidghjcaaDoor
set_option linter.unusedSimpArgs false
set_option linter.unusedVariables false
set_option maxRecDepth 20000
set_option maxHeartbeats 4000000
namespace Go.Proofs.YtkdlblpidghjcaaDoor
open Go.Vabs Go.Vid
end Go.Proofs.YtkdlblpidghjcaaDoor

/- What the interpreter comes to is what the plain functions come to. No condition. -/
import Derived.Test.YtkdlblpidghjcaaDoorW1
import Derived.Test.YtkdlblpidghjcaaDoorGw
set_option linter.unusedSimpArgs false
set_option linter.unusedVariables false
set_option maxRecDepth 20000
set_option maxHeartbeats 4000000
namespace Go.Proofs.YtkdlblpidghjcaaDoor
open Go.Vabs Go.Vid
theorem w_ref03_Small (f_ : Cnf) (most : Int) (r : Bool) (h : ref03_Small f_ most = some r) : ev 11 [T.agg (Cnf.cells f_), T.c (C.lit (Value.int IntKind.i64 most))] = some (T.c (C.lit (Value.bool r)), []) := by
 refine ev_run' (kp := k11) (us := [4]) fn11 rfl rfl rfl rfl rfl (by kernel_rfl) rfl (by simp) ?_
 unfold ref03_Small at h
 simp
 rcases iteB_cases h with ⟨c0, h⟩ | ⟨c0, h⟩
 ·simp [c0]
  cases h
  rfl
 ·simp [c0]
  obtain ⟨w19, h18, h⟩ := bind_some' h
  rw [evLoop_loopF (ι := Int) (ρ := Unit ⊕ Unit) (fun p => match p with | x13 => mk 26 [(1, T.c (C.lit (Value.int IntKind.i64 most))), (2, T.c (C.ptr 2 0 0)), (5, T.c (C.lit (Value.int IntKind.i64 x13)))] [(2, { box := true, free := true, elem := 24, sz := 2, es := [f_.cells] })] []) (fun r => match r with | .inl () => (Ex.ret, mk 26 [(4, T.c (C.lit (Value.bool false)))] [] []) | .inr () => (Ex.exit 0, mk 26 [] [] [])) (ref03_Small_B0 f_ most) h18 ?_ _ ?_]
  ·rcases w19 with ⟨⟩ | ⟨⟩
   ·simp [c0]
    cases h
    rfl
   ·simp [c0]
    cases h
    rfl
  ·clear h18 h
   rintro x13 y L res h hL hR
   unfold ref03_Small_B0 at h
   simp
   rcases iteB_cases h with ⟨c14, h⟩ | ⟨c14, h⟩
   ·simp [c14]
    obtain ⟨v15, h16, h⟩ := bind_some' h
    simp [c14, h16]
    rcases iteB_cases h with ⟨c17, h⟩ | ⟨c17, h⟩
    ·simp [c14, h16, c17]
     cases h
     exact hR _ rfl
    ·simp [c14, h16, c17]
     cases h
     exact hL _ _ rfl (by simp [headOf])
   ·simp [c14]
    cases h
    exact hR _ rfl
  ·simp [headOf]
theorem w_ref03_Print (f_ : Cnf) (r : ByteArray × Int) (h : ref03_Print f_ = some r) : ev 13 [T.agg (Cnf.cells f_)] = some (T.tup [T.c (C.lit (Value.string r.1)), T.c (C.lit (Value.int IntKind.i64 r.2))], []) := by
 refine ev_run' (kp := k13) (us := [9, 3]) fn13 rfl rfl rfl rfl rfl (by kernel_rfl) rfl (by simp) ?_
 unfold ref03_Print at h
 simp
 obtain ⟨v0, h1', h⟩ := bind_some' h
 have h1 : ev 17 [T.agg f_.cells] = some (T.c (C.lit (Value.bool v0)), []) := w_ref03_Right _ _ h1'
 simp [h1]
 rcases iteB_cases h with ⟨c2, h⟩ | ⟨c2, h⟩
 ·simp [h1, c2]
  obtain ⟨v3, h4', h⟩ := bind_some' h
  have h4 : ev 32 [T.c (C.lit (Value.int IntKind.i64 f_.N))] = some (T.c (C.lit (Value.string v3)), []) := w_ref03_Figures _ _ h4'
  simp [h1, c2, h4]
  rcases iteB_cases h with ⟨c5, h⟩ | ⟨c5, h⟩
  ·simp [h1, c2, h4, c5]
   rcases iteB_cases h with ⟨c6, h⟩ | ⟨c6, h⟩
   ·simp [h1, c2, h4, c5, c6]
    obtain ⟨v7, h8', h⟩ := bind_some' h
    have h8 : ev 32 [T.c (C.lit (Value.int IntKind.i64 (lenI f_.cs)))] = some (T.c (C.lit (Value.string v7)), []) := w_ref03_Figures _ _ h8'
    simp [h1, c2, h4, c5, c6, h8]
    rcases iteB_cases h with ⟨c9, h⟩ | ⟨c9, h⟩
    ·simp [h1, c2, h4, c5, c6, h8, c9]
     rcases iteB_cases h with ⟨c10, h⟩ | ⟨c10, h⟩
     ·simp [h1, c2, h4, c5, c6, h8, c9, c10]
      obtain ⟨y138, h139, h⟩ := bind_some' h
      rw [evLoop_loopF (ι := ByteArray × Int) (ρ := ByteArray) (fun p => match p with | (x96, x97) => mk 55 [(1, T.c (C.ptr 1 0 0)), (5, T.c (C.lit (Value.string x96))), (6, T.c (C.lit (Value.int IntKind.i64 x97)))] [(1, { box := true, free := true, elem := 24, sz := 2, es := [f_.cells] })] []) (fun r => match r with | y138 => (Ex.exit 0, mk 55 [(5, T.c (C.lit (Value.string y138)))] [] [])) (ref03_Print_B1 f_) h139 ?_ _ ?_]
      ·simp [h1, c2, h4, c5, c6, h8, c9, c10]
       cases h
       rfl
      ·clear h139 h
       rintro ⟨x96, x97⟩ y L res h hL hR
       unfold ref03_Print_B1 at h
       simp
       rcases iteB_cases h with ⟨c98, h⟩ | ⟨c98, h⟩
       ·simp [c98]
        obtain ⟨y134, h136, h⟩ := bind_some' h
        rw [evLoop_loopF (ι := ByteArray × Int) (ρ := ByteArray) (fun p => match p with | (x123, x124) => mk 55 [(1, T.c (C.ptr 1 0 0)), (5, T.c (C.lit (Value.string x123))), (6, T.c (C.lit (Value.int IntKind.i64 x97))), (7, T.c (C.lit (Value.int IntKind.i64 x124)))] [(1, { box := true, free := true, elem := 24, sz := 2, es := [f_.cells] })] []) (fun r => match r with | y134 => (Ex.exit 2, mk 55 [(1, T.c (C.ptr 1 0 0)), (5, T.c (C.lit (Value.string y134))), (6, T.c (C.lit (Value.int IntKind.i64 x97)))] [(1, { box := true, free := true, elem := 24, sz := 2, es := [f_.cells] })] [])) (ref03_Print_B0 f_ x97) h136 ?_ _ ?_]
        ·simp [c98]
         rcases iteB_cases h with ⟨c135, h⟩ | ⟨c135, h⟩
         ·simp [c98, c135]
          cases h
          exact hL _ _ rfl (by simp [headOf])
         ·simp [c98, c135]
          cases h
        ·clear h136 h
         rintro ⟨x123, x124⟩ y L res h hL hR
         unfold ref03_Print_B0 at h
         simp
         obtain ⟨v125, h126, h⟩ := bind_some' h
         simp [h126]
         rcases iteB_cases h with ⟨c127, h⟩ | ⟨c127, h⟩
         ·simp [h126, c127]
          obtain ⟨v128, h129, h⟩ := bind_some' h
          simp [h126, c127, h129]
          obtain ⟨v130, h131', h⟩ := bind_some' h
          have h131 : ev 32 [T.c (C.lit (Value.int IntKind.i64 v128))] = some (T.c (C.lit (Value.string v130)), []) := w_ref03_Figures _ _ h131'
          simp [h126, c127, h129, h131]
          rcases iteB_cases h with ⟨c132, h⟩ | ⟨c132, h⟩
          ·simp [h126, c127, h129, h131, c132]
           rcases iteB_cases h with ⟨c133, h⟩ | ⟨c133, h⟩
           ·simp [h126, c127, h129, h131, c132, c133]
            cases h
            exact hL _ _ rfl (by simp [headOf])
           ·simp [h126, c127, h129, h131, c132, c133]
            cases h
          ·simp [h126, c127, h129, h131, c132]
           cases h
         ·simp [h126, c127]
          cases h
          exact hR _ rfl
        ·simp [headOf]
       ·simp [c98]
        cases h
        exact hR _ rfl
      ·simp [headOf]
     ·simp [h1, c2, h4, c5, c6, h8, c9, c10]
      cases h
    ·simp [h1, c2, h4, c5, c6, h8, c9]
     cases h
   ·simp [h1, c2, h4, c5, c6]
    cases h
  ·simp [h1, c2, h4, c5]
   cases h
 ·simp [h1, c2]
  cases h
  rfl
theorem w_ref03_Parse (b : List Int) (r : Cnf × Int × Int) (h : ref03_Parse b = some r) : ev 15 [T.c (sls 1 byteF b)] = some (T.tup [T.agg [C.lit (Value.int IntKind.i64 r.1.N), C.ref 0 0 (lenN r.1.cs)], T.c (C.lit (Value.int IntKind.i64 r.2.1)), T.c (C.lit (Value.int IntKind.i64 r.2.2))], [rowO 50 1 rowF r.1.cs]) := by
 refine ev_run' (kp := k15) (us := [24, 3, 3]) fn15 rfl rfl rfl rfl rfl (by kernel_rfl) rfl (by simp) ?_
 unfold ref03_Parse at h
 simp
 rcases iteB_cases h with ⟨c0, h⟩ | ⟨c0, h⟩
 ·simp [c0]
  cases h
  rfl
 ·simp [c0]
  obtain ⟨v1, h2', h⟩ := bind_some' h
  have h2 : ev 39 [T.agg [sls 1 byteF b, C.lit (Value.int IntKind.i64 0), C.lit (Value.int IntKind.i64 0)], T.c (C.lit (Value.string { data := #[112, 32, 99, 110, 102, 32] }))] = some (T.agg (At_ref03.cells v1), []) := w_ref03_Word _ _ _ h2'
  simp [c0, h2]
  obtain ⟨⟨v3, v4⟩, h5', h⟩ := bind_some' h
  have h5 : ev 38 [T.agg [sls 1 byteF v1.b, C.lit (Value.int IntKind.i64 v1.n), C.lit (Value.int IntKind.i64 v1.bad)], T.c (C.lit (Value.int IntKind.i64 100000))] = some (T.tup [T.c (C.lit (Value.int IntKind.i64 v3)), T.agg (At_ref03.cells v4)], []) := w_ref03_Number _ _ _ h5'
  simp [c0, h2, h5]
  obtain ⟨v6, h7', h⟩ := bind_some' h
  have h7 : ev 39 [T.agg [sls 1 byteF v4.b, C.lit (Value.int IntKind.i64 v4.n), C.lit (Value.int IntKind.i64 v4.bad)], T.c (C.lit (Value.string { data := #[32] }))] = some (T.agg (At_ref03.cells v6), []) := w_ref03_Word _ _ _ h7'
  simp [c0, h2, h5, h7]
  obtain ⟨⟨v8, v9⟩, h10', h⟩ := bind_some' h
  have h10 : ev 38 [T.agg [sls 1 byteF v6.b, C.lit (Value.int IntKind.i64 v6.n), C.lit (Value.int IntKind.i64 v6.bad)], T.c (C.lit (Value.int IntKind.i64 20000))] = some (T.tup [T.c (C.lit (Value.int IntKind.i64 v8)), T.agg (At_ref03.cells v9)], []) := w_ref03_Number _ _ _ h10'
  simp [c0, h2, h5, h7, h10]
  obtain ⟨v11, h12', h⟩ := bind_some' h
  have h12 : ev 39 [T.agg [sls 1 byteF v9.b, C.lit (Value.int IntKind.i64 v9.n), C.lit (Value.int IntKind.i64 v9.bad)], T.c (C.lit (Value.string { data := #[10] }))] = some (T.agg (At_ref03.cells v11), []) := w_ref03_Word _ _ _ h12'
  simp [c0, h2, h5, h7, h10, h12]
  rw [evL_peel (s0 := mk 71 [(2, T.c (C.ptr 2 0 0)), (5, T.c (C.lit (Value.int IntKind.i64 v3))), (7, T.c (C.lit (Value.int IntKind.i64 v8))), (9, T.c (C.ptr 9 0 0)), (10, T.c (C.ptr 10 0 0)), (11, T.c (C.lit (Value.int IntKind.i64 0)))] [(2, { box := true, free := true, elem := 24, sz := 2, es := [[C.lit (Value.int IntKind.i64 0), C.lit (Value.slice none 0 0)]] }), (9, { box := true, free := true, elem := 75, sz := 3, es := [[sls 1 byteF v11.b, C.lit (Value.int IntKind.i64 v11.n), C.lit (Value.int IntKind.i64 v11.bad)]] }), (10, { box := true, free := true, elem := 24, sz := 2, es := [[C.lit (Value.int IntKind.i64 v3), C.lit (Value.slice none 0 0)]] })] []) ?_]
  ·simp [c0, h2, h5, h7, h10, h12]
   rcases iteB_cases h with ⟨c27, h⟩ | ⟨c27, h⟩
   ·simp [c0, h2, h5, h7, h10, h12, c27]
    rcases iteB_cases h with ⟨c28, h⟩ | ⟨c28, h⟩
    ·simp [c0, h2, h5, h7, h10, h12, c27, c28]
     obtain ⟨⟨v29, v30⟩, h31', h⟩ := bind_some' h
     have h31 : ev 40 [T.agg [sls 1 byteF v11.b, C.lit (Value.int IntKind.i64 v11.n), C.lit (Value.int IntKind.i64 v11.bad)], T.c (C.lit (Value.int IntKind.i64 v3))] = some (T.tup [T.c (C.ref 0 0 (lenN v29)), T.agg (At_ref03.cells v30)], [rowO 3 1 intF v29]) := w_ref03_Lits _ _ _ h31'
     simp [c0, h2, h5, h7, h10, h12, c27, c28, h31]
     rcases iteB_cases h with ⟨c32, h⟩ | ⟨c32, h⟩
     ·simp [c0, h2, h5, h7, h10, h12, c27, c28, h31, c32]
      obtain ⟨w78, h77, h⟩ := bind_some' h
      rw [evLoop_loopF (ι := ((List (List Int))) × (List Int) × Int × Int × Int) (ρ := ((List (List Int))) × (List Int) × Int × Int) (fun p => match p with | (x59, x60, x61, x62, x63) => mk 71 [(2, T.c (C.ptr 2 0 0)), (5, T.c (C.lit (Value.int IntKind.i64 v3))), (7, T.c (C.lit (Value.int IntKind.i64 v8))), (9, T.c (C.ptr 9 0 0)), (10, T.c (C.ptr 10 0 0)), (11, T.c (C.lit (Value.int IntKind.i64 x63)))] [(2, { box := true, free := true, elem := 24, sz := 2, es := [[C.lit (Value.int IntKind.i64 0), C.lit (Value.slice none 0 0)]] }), (9, { box := true, free := true, elem := 75, sz := 3, es := [[sls 1 byteF x60, C.lit (Value.int IntKind.i64 x61), C.lit (Value.int IntKind.i64 x62)]] }), (10, { box := true, free := false, elem := 24, sz := 2, es := [[C.lit (Value.int IntKind.i64 v3), C.ref 55 0 (lenN x59)]] }), (55, rowO 50 1 rowF x59)] []) (fun r => match r with | (y70, y71, y72, y73) => (Ex.exit 0, mk 71 [(2, T.c (C.ptr 2 0 0)), (9, T.c (C.ptr 9 0 0)), (10, T.c (C.ptr 10 0 0))] [(2, { box := true, free := true, elem := 24, sz := 2, es := [[C.lit (Value.int IntKind.i64 0), C.lit (Value.slice none 0 0)]] }), (9, { box := true, free := true, elem := 75, sz := 3, es := [[sls 1 byteF y71, C.lit (Value.int IntKind.i64 y72), C.lit (Value.int IntKind.i64 y73)]] }), (10, { box := true, free := false, elem := 24, sz := 2, es := [[C.lit (Value.int IntKind.i64 v3), C.ref 55 0 (lenN y70)]] }), (55, rowO 50 1 rowF y70)] [])) (ref03_Parse_B0 b v3 v8) h77 ?_ _ ?_]
      ·obtain ⟨y70, y71, y72, y73⟩ := w78
       simp [c0, h2, h5, h7, h10, h12, c27, c28, h31, c32]
       obtain ⟨v74, h75', h⟩ := bind_some' h
       have h75 : ev 41 [T.agg [sls 1 byteF y71, C.lit (Value.int IntKind.i64 y72), C.lit (Value.int IntKind.i64 y73)]] = some (T.agg (At_ref03.cells v74), []) := w_ref03_End _ _ h75'
       simp [c0, h2, h5, h7, h10, h12, c27, c28, h31, c32, h75]
       rcases iteB_cases h with ⟨c76, h⟩ | ⟨c76, h⟩
       ·simp [c0, h2, h5, h7, h10, h12, c27, c28, h31, c32, h75, c76]
        cases h
        rfl
       ·simp [c0, h2, h5, h7, h10, h12, c27, c28, h31, c32, h75, c76]
        cases h
        rfl
      ·clear h77 h
       rintro ⟨x59, x60, x61, x62, x63⟩ y L res h hL hR
       unfold ref03_Parse_B0 at h
       simp
       rcases iteB_cases h with ⟨c64, h⟩ | ⟨c64, h⟩
       ·simp [c64]
        rcases iteB_cases h with ⟨c65, h⟩ | ⟨c65, h⟩
        ·simp [c64, c65]
         obtain ⟨⟨v66, v67⟩, h68', h⟩ := bind_some' h
         have h68 : ev 40 [T.agg [sls 1 byteF x60, C.lit (Value.int IntKind.i64 x61), C.lit (Value.int IntKind.i64 x62)], T.c (C.lit (Value.int IntKind.i64 v3))] = some (T.tup [T.c (C.ref 0 0 (lenN v66)), T.agg (At_ref03.cells v67)], [rowO 3 1 intF v66]) := w_ref03_Lits _ _ _ h68'
         simp [c64, c65, h68]
         rcases iteB_cases h with ⟨c69, h⟩ | ⟨c69, h⟩
         ·simp [c64, c65, h68, c69]
          cases h
          exact hL _ _ rfl (by simp [headOf])
         ·simp [c64, c65, h68, c69]
          cases h
        ·simp [c64, c65]
         cases h
         exact hR _ rfl
       ·simp [c64]
        cases h
        exact hR _ rfl
      ·simp [headOf]
     ·simp [c0, h2, h5, h7, h10, h12, c27, c28, h31, c32]
      cases h
    ·simp [c0, h2, h5, h7, h10, h12, c27, c28]
     obtain ⟨v79, h80', h⟩ := bind_some' h
     have h80 : ev 41 [T.agg [sls 1 byteF v11.b, C.lit (Value.int IntKind.i64 v11.n), C.lit (Value.int IntKind.i64 v11.bad)]] = some (T.agg (At_ref03.cells v79), []) := w_ref03_End _ _ h80'
     simp [c0, h2, h5, h7, h10, h12, c27, c28, h80]
     rcases iteB_cases h with ⟨c81, h⟩ | ⟨c81, h⟩
     ·simp [c0, h2, h5, h7, h10, h12, c27, c28, h80, c81]
      cases h
      rfl
     ·simp [c0, h2, h5, h7, h10, h12, c27, c28, h80, c81]
      cases h
      rfl
   ·simp [c0, h2, h5, h7, h10, h12, c27]
    obtain ⟨v82, h83', h⟩ := bind_some' h
    have h83 : ev 41 [T.agg [sls 1 byteF v11.b, C.lit (Value.int IntKind.i64 v11.n), C.lit (Value.int IntKind.i64 v11.bad)]] = some (T.agg (At_ref03.cells v82), []) := w_ref03_End _ _ h83'
    simp [c0, h2, h5, h7, h10, h12, c27, h83]
    rcases iteB_cases h with ⟨c84, h⟩ | ⟨c84, h⟩
    ·simp [c0, h2, h5, h7, h10, h12, c27, h83, c84]
     cases h
     rfl
    ·simp [c0, h2, h5, h7, h10, h12, c27, h83, c84]
     cases h
     rfl
  ·simp [headOf]
theorem w_ref03_PrintModel (m : List Bool) (r : ByteArray) (h : ref03_PrintModel m = some r) : ev 23 [T.c (sls 1 boolF m)] = some (T.c (C.lit (Value.string r)), []) := by
 refine ev_run' (kp := k23) (us := [9]) fn23 rfl rfl rfl rfl rfl (by kernel_rfl) rfl (by simp) ?_
 unfold ref03_PrintModel at h
 simp
 obtain ⟨y43, h45, h⟩ := bind_some' h
 rw [evLoop_loopF (ι := ByteArray × Int) (ρ := ByteArray) (fun p => match p with | (x29, x30) => mk 30 [(0, T.c (sls 1 boolF m)), (3, T.c (C.lit (Value.string x29))), (4, T.c (C.lit (Value.int IntKind.i64 x30)))] [] []) (fun r => match r with | y43 => (Ex.exit 0, mk 30 [(3, T.c (C.lit (Value.string y43)))] [] [])) (ref03_PrintModel_B0 m) h45 ?_ _ ?_]
 ·simp
  rcases iteB_cases h with ⟨c44, h⟩ | ⟨c44, h⟩
  ·simp [c44]
   cases h
   rfl
  ·simp [c44]
   cases h
 ·clear h45 h
  rintro ⟨x29, x30⟩ y L res h hL hR
  unfold ref03_PrintModel_B0 at h
  simp
  rcases iteB_cases h with ⟨c31, h⟩ | ⟨c31, h⟩
  ·simp [c31]
   obtain ⟨v32, h33, h⟩ := bind_some' h
   simp [c31, h33]
   rcases iteB_cases h with ⟨c34, h⟩ | ⟨c34, h⟩
   ·simp [c31, h33, c34]
    obtain ⟨v35, h36', h⟩ := bind_some' h
    have h36 : ev 32 [T.c (C.lit (Value.int IntKind.i64 (iadd IntKind.i64 x30 1)))] = some (T.c (C.lit (Value.string v35)), []) := w_ref03_Figures _ _ h36'
    simp [c31, h33, c34, h36]
    rcases iteB_cases h with ⟨c37, h⟩ | ⟨c37, h⟩
    ·simp [c31, h33, c34, h36, c37]
     rcases iteB_cases h with ⟨c38, h⟩ | ⟨c38, h⟩
     ·simp [c31, h33, c34, h36, c37, c38]
      cases h
      exact hL _ _ rfl (by simp [headOf])
     ·simp [c31, h33, c34, h36, c37, c38]
      cases h
    ·simp [c31, h33, c34, h36, c37]
     cases h
   ·simp [c31, h33, c34]
    obtain ⟨v39, h40', h⟩ := bind_some' h
    have h40 : ev 32 [T.c (C.lit (Value.int IntKind.i64 (isub IntKind.i64 (ineg IntKind.i64 x30) 1)))] = some (T.c (C.lit (Value.string v39)), []) := w_ref03_Figures _ _ h40'
    simp [c31, h33, c34, h40]
    rcases iteB_cases h with ⟨c41, h⟩ | ⟨c41, h⟩
    ·simp [c31, h33, c34, h40, c41]
     rcases iteB_cases h with ⟨c42, h⟩ | ⟨c42, h⟩
     ·simp [c31, h33, c34, h40, c41, c42]
      cases h
      exact hL _ _ rfl (by simp [headOf])
     ·simp [c31, h33, c34, h40, c41, c42]
      cases h
    ·simp [c31, h33, c34, h40, c41]
     cases h
  ·simp [c31]
   cases h
   exact hR _ rfl
 ·simp [headOf]
theorem w_ref03_ParseModel (b : List Int) (n : Int) (r : (List Bool) × Int × Int) (h : ref03_ParseModel b n = some r) : ev 21 [T.c (sls 1 byteF b), T.c (C.lit (Value.int IntKind.i64 n))] = some (T.tup [T.c (C.ref 0 0 (lenN r.1)), T.c (C.lit (Value.int IntKind.i64 r.2.1)), T.c (C.lit (Value.int IntKind.i64 r.2.2))], [rowO 4 1 boolF r.1]) := by
 refine ev_run' (kp := k21) (us := [40, 3, 3]) fn21 rfl rfl rfl rfl rfl (by kernel_rfl) rfl (by simp) ?_
 unfold ref03_ParseModel at h
 simp
 obtain ⟨v0, h1', h⟩ := bind_some' h
 have h1 : ev 39 [T.agg [sls 1 byteF b, C.lit (Value.int IntKind.i64 0), C.lit (Value.int IntKind.i64 0)], T.c (C.lit (Value.string { data := #[118, 32] }))] = some (T.agg (At_ref03.cells v0), []) := w_ref03_Word _ _ _ h1'
 simp [h1]
 obtain ⟨w79, h78, h⟩ := bind_some' h
 rw [evLoop_loopF (ι := (List Bool) × (List Int) × Int × Int × Int) (ρ := (List Bool) × (List Int) × Int × Int) (fun p => match p with | (x47, x48, x49, x50, x51) => mk 55 [(1, T.c (C.lit (Value.int IntKind.i64 n))), (7, T.c (C.ptr 7 0 0)), (8, T.c (C.ref 8 0 (lenN x47))), (9, T.c (C.lit (Value.int IntKind.i64 x51)))] [(7, { box := true, free := true, elem := 75, sz := 3, es := [[sls 1 byteF x48, C.lit (Value.int IntKind.i64 x49), C.lit (Value.int IntKind.i64 x50)]] }), (8, rowO 4 1 boolF x47)] []) (fun r => match r with | (y69, y70, y71, y72) => (Ex.exit 0, mk 55 [(7, T.c (C.ptr 7 0 0)), (8, T.c (C.ref 8 0 (lenN y69)))] [(7, { box := true, free := true, elem := 75, sz := 3, es := [[sls 1 byteF y70, C.lit (Value.int IntKind.i64 y71), C.lit (Value.int IntKind.i64 y72)]] }), (8, rowO 4 1 boolF y69)] [])) (ref03_ParseModel_B0 b n) h78 ?_ _ ?_]
 ·obtain ⟨y69, y70, y71, y72⟩ := w79
  simp [h1]
  obtain ⟨v73, h74', h⟩ := bind_some' h
  have h74 : ev 39 [T.agg [sls 1 byteF y70, C.lit (Value.int IntKind.i64 y71), C.lit (Value.int IntKind.i64 y72)], T.c (C.lit (Value.string { data := #[48, 10] }))] = some (T.agg (At_ref03.cells v73), []) := w_ref03_Word _ _ _ h74'
  simp [h1, h74]
  obtain ⟨v75, h76', h⟩ := bind_some' h
  have h76 : ev 41 [T.agg [sls 1 byteF v73.b, C.lit (Value.int IntKind.i64 v73.n), C.lit (Value.int IntKind.i64 v73.bad)]] = some (T.agg (At_ref03.cells v75), []) := w_ref03_End _ _ h76'
  simp [h1, h74, h76]
  rcases iteB_cases h with ⟨c77, h⟩ | ⟨c77, h⟩
  ·simp [h1, h74, h76, c77]
   cases h
   rfl
  ·simp [h1, h74, h76, c77]
   cases h
   rfl
 ·clear h78 h
  rintro ⟨x47, x48, x49, x50, x51⟩ y L res h hL hR
  unfold ref03_ParseModel_B0 at h
  simp
  rcases iteB_cases h with ⟨c52, h⟩ | ⟨c52, h⟩
  ·simp [c52]
   rcases iteB_cases h with ⟨c53, h⟩ | ⟨c53, h⟩
   ·simp [c52, c53]
    obtain ⟨v54, h55', h⟩ := bind_some' h
    have h55 : ev 39 [T.agg [sls 1 byteF x48, C.lit (Value.int IntKind.i64 x49), C.lit (Value.int IntKind.i64 x50)], T.c (C.lit (Value.string { data := #[45] }))] = some (T.agg (At_ref03.cells v54), []) := w_ref03_Word _ _ _ h55'
    simp [c52, c53, h55]
    rcases iteB_cases h with ⟨c56, h⟩ | ⟨c56, h⟩
    ·simp [c52, c53, h55, c56]
     rcases iteB_cases h with ⟨c57, h⟩ | ⟨c57, h⟩
     ·simp [c52, c53, h55, c56, c57]
      obtain ⟨v58, h59', h⟩ := bind_some' h
      have h59 : ev 32 [T.c (C.lit (Value.int IntKind.i64 (iadd IntKind.i64 x51 1)))] = some (T.c (C.lit (Value.string v58)), []) := w_ref03_Figures _ _ h59'
      simp [c52, c53, h55, c56, c57, h59]
      rcases iteB_cases h with ⟨c60, h⟩ | ⟨c60, h⟩
      ·simp [c52, c53, h55, c56, c57, h59, c60]
       obtain ⟨v61, h62', h⟩ := bind_some' h
       have h62 : ev 39 [T.agg [sls 1 byteF v54.b, C.lit (Value.int IntKind.i64 v54.n), C.lit (Value.int IntKind.i64 v54.bad)], T.c (C.lit (Value.string (v58 ++ { data := #[32] })))] = some (T.agg (At_ref03.cells v61), []) := w_ref03_Word _ _ _ h62'
       simp [c52, c53, h55, c56, c57, h59, c60, h62]
       cases h
       exact hL _ _ rfl (by simp [headOf])
      ·simp [c52, c53, h55, c56, c57, h59, c60]
       cases h
     ·simp [c52, c53, h55, c56, c57]
      cases h
    ·simp [c52, c53, h55, c56]
     rcases iteB_cases h with ⟨c63, h⟩ | ⟨c63, h⟩
     ·simp [c52, c53, h55, c56, c63]
      obtain ⟨v64, h65', h⟩ := bind_some' h
      have h65 : ev 32 [T.c (C.lit (Value.int IntKind.i64 (iadd IntKind.i64 x51 1)))] = some (T.c (C.lit (Value.string v64)), []) := w_ref03_Figures _ _ h65'
      simp [c52, c53, h55, c56, c63, h65]
      rcases iteB_cases h with ⟨c66, h⟩ | ⟨c66, h⟩
      ·simp [c52, c53, h55, c56, c63, h65, c66]
       obtain ⟨v67, h68', h⟩ := bind_some' h
       have h68 : ev 39 [T.agg [sls 1 byteF x48, C.lit (Value.int IntKind.i64 x49), C.lit (Value.int IntKind.i64 x50)], T.c (C.lit (Value.string (v64 ++ { data := #[32] })))] = some (T.agg (At_ref03.cells v67), []) := w_ref03_Word _ _ _ h68'
       simp [c52, c53, h55, c56, c63, h65, c66, h68]
       cases h
       exact hL _ _ rfl (by simp [headOf])
      ·simp [c52, c53, h55, c56, c63, h65, c66]
       cases h
     ·simp [c52, c53, h55, c56, c63]
      cases h
   ·simp [c52, c53]
    cases h
    exact hR _ rfl
  ·simp [c52]
   cases h
   exact hR _ rfl
 ·simp [headOf]
theorem w_law03_shown (r : Bool) (h : law03_shown = some r) : ev 10 [] = some (T.c (C.lit (Value.bool r)), []) := by
 refine ev_run' (kp := k10) (us := [4]) fn10 rfl rfl rfl rfl rfl (by kernel_rfl) rfl (by simp) ?_
 unfold law03_shown at h
 simp -implicitDefEqProofs
 obtain ⟨⟨v0, v1⟩, h2', h⟩ := bind_some' h
 have h2 : ev 12 [T.agg [C.lit (Value.int IntKind.i64 2), sls 1 rowF [[1, -2]]]] = some (T.tup [T.c (C.lit (Value.string v0)), T.c (C.lit (Value.int IntKind.i64 v1))], []) := w_cnf_Print _ _ h2'
 simp -implicitDefEqProofs [h2]
 obtain ⟨⟨v3, v4, v5⟩, h6', h⟩ := bind_some' h
 have h6 : ev 14 [T.c (sls 1 byteF (bytesOf v0))] = some (T.tup [T.agg [C.lit (Value.int IntKind.i64 v3.N), C.ref 0 0 (lenN v3.cs)], T.c (C.lit (Value.int IntKind.i64 v4)), T.c (C.lit (Value.int IntKind.i64 v5))], [rowO 50 1 rowF v3.cs]) := w_cnf_Parse _ _ h6'
 simp -implicitDefEqProofs [h2, h6]
 obtain ⟨⟨v7, v8, v9⟩, h10', h⟩ := bind_some' h
 have h10 : ev 20 [T.c (sls 1 byteF [118, 32, 45, 49, 32, 45, 50, 32, 48, 10]), T.c (C.lit (Value.int IntKind.i64 2))] = some (T.tup [T.c (C.ref 0 0 (lenN v7)), T.c (C.lit (Value.int IntKind.i64 v8)), T.c (C.lit (Value.int IntKind.i64 v9))], [rowO 4 1 boolF v7]) := w_cnf_ParseModel _ _ _ h10'
 simp -implicitDefEqProofs [h2, h6, h10]
 rcases iteB_cases h with ⟨c11, h⟩ | ⟨c11, h⟩
 ·simp -implicitDefEqProofs [h2, h6, h10, c11]
  rcases iteB_cases h with ⟨c12, h⟩ | ⟨c12, h⟩
  ·simp -implicitDefEqProofs [h2, h6, h10, c11, c12]
   rcases iteB_cases h with ⟨c13, h⟩ | ⟨c13, h⟩
   ·simp -implicitDefEqProofs [h2, h6, h10, c11, c12, c13]
    rcases iteB_cases h with ⟨c14, h⟩ | ⟨c14, h⟩
    ·simp -implicitDefEqProofs [h2, h6, h10, c11, c12, c13, c14]
     obtain ⟨v15, h16', h⟩ := bind_some' h
     have h16 : ev 18 [T.agg [C.lit (Value.int IntKind.i64 2), sls 1 rowF [[1, -2]]], T.agg [C.lit (Value.int IntKind.i64 v3.N), sls 1 rowF v3.cs]] = some (T.c (C.lit (Value.bool v15)), []) := w_cnf_Same _ _ _ h16'
     simp -implicitDefEqProofs [h2, h6, h10, c11, c12, c13, c14, h16]
     rcases iteB_cases h with ⟨c17, h⟩ | ⟨c17, h⟩
     ·simp -implicitDefEqProofs [h2, h6, h10, c11, c12, c13, c14, h16, c17]
      rcases iteB_cases h with ⟨c18, h⟩ | ⟨c18, h⟩
      ·simp -implicitDefEqProofs [h2, h6, h10, c11, c12, c13, c14, h16, c17, c18]
       rcases iteB_cases h with ⟨c19, h⟩ | ⟨c19, h⟩
       ·simp -implicitDefEqProofs [h2, h6, h10, c11, c12, c13, c14, h16, c17, c18, c19]
        rcases iteB_cases h with ⟨c20, h⟩ | ⟨c20, h⟩
        ·simp -implicitDefEqProofs [h2, h6, h10, c11, c12, c13, c14, h16, c17, c18, c19, c20]
         obtain ⟨v21, h22', h⟩ := bind_some' h
         have h22 : ev 27 [T.agg [C.lit (Value.int IntKind.i64 2), sls 1 rowF [[1, -2]]], T.c (sls 1 boolF v7)] = some (T.c (C.lit (Value.bool v21)), []) := w_cnf_Holds _ _ _ h22'
         simp -implicitDefEqProofs [h2, h6, h10, c11, c12, c13, c14, h16, c17, c18, c19, c20, h22]
         rcases iteB_cases h with ⟨c23, h⟩ | ⟨c23, h⟩
         ·simp -implicitDefEqProofs [h2, h6, h10, c11, c12, c13, c14, h16, c17, c18, c19, c20, h22, c23]
          rcases iteB_cases h with ⟨c24, h⟩ | ⟨c24, h⟩
          ·simp -implicitDefEqProofs [h2, h6, h10, c11, c12, c13, c14, h16, c17, c18, c19, c20, h22, c23, c24]
           obtain ⟨v25, h26', h⟩ := bind_some' h
           have h26 : ev 25 [T.c (sls 1 intF [1, -2]), T.c (sls 1 boolF v7)] = some (T.c (C.lit (Value.bool v25)), []) := w_cnf_Clause _ _ _ h26'
           simp -implicitDefEqProofs [h2, h6, h10, c11, c12, c13, c14, h16, c17, c18, c19, c20, h22, c23, c24, h26]
           rcases iteB_cases h with ⟨c27, h⟩ | ⟨c27, h⟩
           ·simp -implicitDefEqProofs [h2, h6, h10, c11, c12, c13, c14, h16, c17, c18, c19, c20, h22, c23, c24, h26, c27]
            obtain ⟨v28, h29', h⟩ := bind_some' h
            have h29 : ev 22 [T.c (sls 1 boolF v7)] = some (T.c (C.lit (Value.string v28)), []) := w_cnf_PrintModel _ _ h29'
            simp -implicitDefEqProofs [h2, h6, h10, c11, c12, c13, c14, h16, c17, c18, c19, c20, h22, c23, c24, h26, c27, h29]
            rcases iteB_cases h with ⟨c30, h⟩ | ⟨c30, h⟩
            ·simp -implicitDefEqProofs [h2, h6, h10, c11, c12, c13, c14, h16, c17, c18, c19, c20, h22, c23, c24, h26, c27, h29, c30]
             obtain ⟨v31, h32', h⟩ := bind_some' h
             have h32 : ev 16 [T.agg [C.lit (Value.int IntKind.i64 2), sls 1 rowF [[1, -2]]]] = some (T.c (C.lit (Value.bool v31)), []) := w_cnf_Right _ _ h32'
             simp -implicitDefEqProofs [h2, h6, h10, c11, c12, c13, c14, h16, c17, c18, c19, c20, h22, c23, c24, h26, c27, h29, c30, h32]
             cases h
             rfl
            ·simp -implicitDefEqProofs [h2, h6, h10, c11, c12, c13, c14, h16, c17, c18, c19, c20, h22, c23, c24, h26, c27, h29, c30]
             cases h
             rfl
           ·simp -implicitDefEqProofs [h2, h6, h10, c11, c12, c13, c14, h16, c17, c18, c19, c20, h22, c23, c24, h26, c27]
            cases h
            rfl
          ·simp -implicitDefEqProofs [h2, h6, h10, c11, c12, c13, c14, h16, c17, c18, c19, c20, h22, c23, c24]
           cases h
         ·simp -implicitDefEqProofs [h2, h6, h10, c11, c12, c13, c14, h16, c17, c18, c19, c20, h22, c23]
          cases h
          rfl
        ·simp -implicitDefEqProofs [h2, h6, h10, c11, c12, c13, c14, h16, c17, c18, c19, c20]
         cases h
         rfl
       ·simp -implicitDefEqProofs [h2, h6, h10, c11, c12, c13, c14, h16, c17, c18, c19]
        cases h
        rfl
      ·simp -implicitDefEqProofs [h2, h6, h10, c11, c12, c13, c14, h16, c17, c18]
       cases h
       rfl
     ·simp -implicitDefEqProofs [h2, h6, h10, c11, c12, c13, c14, h16, c17]
      cases h
      rfl
    ·simp -implicitDefEqProofs [h2, h6, h10, c11, c12, c13, c14]
     cases h
     rfl
   ·simp -implicitDefEqProofs [h2, h6, h10, c11, c12, c13]
    cases h
    rfl
  ·simp -implicitDefEqProofs [h2, h6, h10, c11, c12]
   cases h
   rfl
 ·simp -implicitDefEqProofs [h2, h6, h10, c11]
  cases h
  rfl
end Go.Proofs.YtkdlblpidghjcaaDoor
set_option linter.unusedSimpArgs false
set_option linter.unusedVariables false
set_option maxRecDepth 20000
set_option maxHeartbeats 4000000
namespace Go.Proofs.YtkdlblpidghjcaaDoor
open Go.Vabs Go.Vid
end Go.Proofs.YtkdlblpidghjcaaDoor
set_option linter.unusedSimpArgs false
set_option linter.unusedVariables false
set_option maxRecDepth 20000
set_option maxHeartbeats 4000000
namespace Go.Proofs.YtkdlblpidghjcaaDoor
open Go.Vabs Go.Vid
end Go.Proofs.YtkdlblpidghjcaaDoor
set_option linter.unusedSimpArgs false
set_option linter.unusedVariables false
set_option maxRecDepth 20000
set_option maxHeartbeats 4000000
namespace Go.Proofs.YtkdlblpidghjcaaDoor
open Go.Vabs Go.Vid
theorem w_law03_CnfTurned (f_ : Cnf) (m : List Bool) (h : law03_CnfTurned f_ m = some true) : ev 9 [T.agg (Cnf.cells f_), T.c (sls 1 boolF m)] = some (T.c (C.lit (Value.bool true)), []) := by
 refine ev_run' (kp := k9) (us := [4]) fn9 rfl rfl rfl rfl rfl (by kernel_rfl) rfl (by simp) ?_
 unfold law03_CnfTurned at h
 simp -implicitDefEqProofs
 obtain ⟨v0, h1', h⟩ := bind_some' h
 have h1 : ev 10 [] = some (T.c (C.lit (Value.bool v0)), []) := w_law03_shown _ h1'
 simp -implicitDefEqProofs [h1]
 obtain ⟨v2, h3', h⟩ := bind_some' h
 have h3 : ev 11 [T.agg f_.cells, T.c (C.lit (Value.int IntKind.i64 40))] = some (T.c (C.lit (Value.bool v2)), []) := w_ref03_Small _ _ _ h3'
 simp -implicitDefEqProofs [h1, h3]
 rcases iteB_cases h with ⟨c4, h⟩ | ⟨c4, h⟩
 ·simp -implicitDefEqProofs [h1, h3, c4]
  rcases iteB_cases h with ⟨c5, h⟩ | ⟨c5, h⟩
  ·first | (cases h; done) | (simp -implicitDefEqProofs [h1, h3, c4, c5]; first | rfl | (injection h with h; rw [h]; rfl) | (injection h with h; rw [h]))
  ·simp -implicitDefEqProofs [h1, h3, c4, c5]
   obtain ⟨v6, h7', h⟩ := bind_some' h
   have h7 : ev 17 [T.agg f_.cells] = some (T.c (C.lit (Value.bool v6)), []) := w_ref03_Right _ _ h7'
   simp -implicitDefEqProofs [h1, h3, c4, c5, h7]
   rcases iteB_cases h with ⟨c8, h⟩ | ⟨c8, h⟩
   ·simp -implicitDefEqProofs [h1, h3, c4, c5, h7, c8]
    rw [evL_peel (s0 := mk 93 [(1, T.c (sls 1 boolF m)), (2, T.c (C.ptr 2 0 0)), (5, T.c (C.lit (Value.bool v0))), (6, T.c (C.ptr 6 0 0)), (7, T.c (C.lit (Value.int IntKind.i64 0)))] [(2, { box := true, free := true, elem := 24, sz := 2, es := [f_.cells] }), (6, { box := true, free := true, elem := 24, sz := 2, es := [[C.lit (Value.int IntKind.i64 f_.N), C.lit (Value.slice none 0 0)]] })] []) ?_]
    ·simp -implicitDefEqProofs [h1, h3, c4, c5, h7, c8]
     rcases iteB_cases h with ⟨c48, h⟩ | ⟨c48, h⟩
     ·simp -implicitDefEqProofs [h1, h3, c4, c5, h7, c8, c48]
      obtain ⟨y78, h232, h⟩ := bind_some' h
      rw [evLoop_loopF (ι := (List Int) × Int) (ρ := (List Int)) (fun p => match p with | (x70, x71) => mk 93 [(1, T.c (sls 1 boolF m)), (2, T.c (C.ptr 2 0 0)), (5, T.c (C.lit (Value.bool v0))), (6, T.c (C.ptr 6 0 0)), (7, T.c (C.lit (Value.int IntKind.i64 0))), (8, T.c (C.ref 8 0 (lenN x70))), (9, T.c (C.lit (Value.int IntKind.i64 x71)))] [(2, { box := true, free := true, elem := 24, sz := 2, es := [f_.cells] }), (6, { box := true, free := true, elem := 24, sz := 2, es := [[C.lit (Value.int IntKind.i64 f_.N), C.lit (Value.slice none 0 0)]] }), (8, rowO 3 1 intF x70)] []) (fun r => match r with | y78 => (Ex.exit 2, mk 93 [(1, T.c (sls 1 boolF m)), (2, T.c (C.ptr 2 0 0)), (5, T.c (C.lit (Value.bool v0))), (6, T.c (C.ptr 6 0 0)), (7, T.c (C.lit (Value.int IntKind.i64 0))), (8, T.c (C.ref 8 0 (lenN y78)))] [(2, { box := true, free := true, elem := 24, sz := 2, es := [f_.cells] }), (6, { box := true, free := true, elem := 24, sz := 2, es := [[C.lit (Value.int IntKind.i64 f_.N), C.lit (Value.slice none 0 0)]] }), (8, rowO 3 1 intF y78)] [])) (law03_CnfTurned_B0 f_) h232 ?_ _ ?_]
      ·simp -implicitDefEqProofs [h1, h3, c4, c5, h7, c8, c48]
       rcases iteB_cases h with ⟨c79, h⟩ | ⟨c79, h⟩
       ·simp -implicitDefEqProofs [h1, h3, c4, c5, h7, c8, c48, c79]
        obtain ⟨y195, h230, h⟩ := bind_some' h
        rw [evLoop_loopF (ι := ((List (List Int))) × Int) (ρ := ((List (List Int)))) (fun p => match p with | (x158, x159) => mk 93 [(1, T.c (sls 1 boolF m)), (2, T.c (C.ptr 2 0 0)), (5, T.c (C.lit (Value.bool v0))), (6, T.c (C.ptr 6 0 0)), (7, T.c (C.lit (Value.int IntKind.i64 x159)))] [(2, { box := true, free := true, elem := 24, sz := 2, es := [f_.cells] }), (6, { box := true, free := false, elem := 24, sz := 2, es := [[C.lit (Value.int IntKind.i64 f_.N), C.ref 63 0 (lenN x158)]] }), (63, rowO 50 1 rowF x158)] []) (fun r => match r with | y195 => (Ex.exit 0, mk 93 [(1, T.c (sls 1 boolF m)), (2, T.c (C.ptr 2 0 0)), (5, T.c (C.lit (Value.bool v0))), (6, T.c (C.ptr 6 0 0))] [(2, { box := true, free := true, elem := 24, sz := 2, es := [f_.cells] }), (6, { box := true, free := false, elem := 24, sz := 2, es := [[C.lit (Value.int IntKind.i64 f_.N), C.ref 63 0 (lenN y195)]] }), (63, rowO 50 1 rowF y195)] [])) (law03_CnfTurned_B2 f_) h230 ?_ _ ?_]
        ·simp -implicitDefEqProofs [h1, h3, c4, c5, h7, c8, c48, c79]
         obtain ⟨y219, h228, h⟩ := bind_some' h
         rw [evLoop_loopF (ι := (List Bool) × Int) (ρ := (List Bool)) (fun p => match p with | (x213, x214) => mk 93 [(1, T.c (sls 1 boolF m)), (2, T.c (C.ptr 2 0 0)), (5, T.c (C.lit (Value.bool v0))), (6, T.c (C.ptr 6 0 0)), (10, T.c (C.ref 10 0 (lenN x213))), (11, T.c (C.lit (Value.int IntKind.i64 x214)))] [(2, { box := true, free := true, elem := 24, sz := 2, es := [f_.cells] }), (6, { box := true, free := false, elem := 24, sz := 2, es := [[C.lit (Value.int IntKind.i64 f_.N), C.ref 63 0 (lenN y195)]] }), (10, rowO 4 1 boolF x213), (63, rowO 50 1 rowF y195)] []) (fun r => match r with | y219 => (Ex.exit 4, mk 93 [(1, T.c (sls 1 boolF m)), (2, T.c (C.ptr 2 0 0)), (5, T.c (C.lit (Value.bool v0))), (6, T.c (C.ptr 6 0 0)), (10, T.c (C.ref 10 0 (lenN y219)))] [(2, { box := true, free := true, elem := 24, sz := 2, es := [f_.cells] }), (6, { box := true, free := false, elem := 24, sz := 2, es := [[C.lit (Value.int IntKind.i64 f_.N), C.ref 63 0 (lenN y195)]] }), (10, rowO 4 1 boolF y219), (63, rowO 50 1 rowF y195)] [])) (law03_CnfTurned_B3 m) h228 ?_ _ ?_]
         ·simp -implicitDefEqProofs [h1, h3, c4, c5, h7, c8, c48, c79]
          rcases iteB_cases h with ⟨c220, h⟩ | ⟨c220, h⟩
          ·simp -implicitDefEqProofs [h1, h3, c4, c5, h7, c8, c48, c79, c220]
           obtain ⟨v221, h222', h⟩ := bind_some' h
           have h222 : ev 27 [T.agg f_.cells, T.c (sls 1 boolF m)] = some (T.c (C.lit (Value.bool v221)), []) := w_cnf_Holds _ _ _ h222'
           simp -implicitDefEqProofs [h1, h3, c4, c5, h7, c8, c48, c79, c220, h222]
           obtain ⟨v223, h224', h⟩ := bind_some' h
           have h224 : ev 27 [T.agg [C.lit (Value.int IntKind.i64 f_.N), sls 1 rowF y195], T.c (sls 1 boolF y219)] = some (T.c (C.lit (Value.bool v223)), []) := w_cnf_Holds _ _ _ h224'
           simp -implicitDefEqProofs [h1, h3, c4, c5, h7, c8, c48, c79, c220, h222, h224]
           rcases iteB_cases h with ⟨c225, h⟩ | ⟨c225, h⟩
           ·simp -implicitDefEqProofs [h1, h3, c4, c5, h7, c8, c48, c79, c220, h222, h224, c225]
            obtain ⟨v226, h227', h⟩ := bind_some' h
            have h227 : ev 16 [T.agg [C.lit (Value.int IntKind.i64 f_.N), sls 1 rowF y195]] = some (T.c (C.lit (Value.bool v226)), []) := w_cnf_Right _ _ h227'
            first | (cases h; done) | (simp -implicitDefEqProofs [h1, h3, c4, c5, h7, c8, c48, c79, c220, h222, h224, c225, h227]; first | rfl | (injection h with h; rw [h]; rfl) | (injection h with h; rw [h]))
           ·first | (cases h; done) | (simp -implicitDefEqProofs [h1, h3, c4, c5, h7, c8, c48, c79, c220, h222, h224, c225]; first | rfl | (injection h with h; rw [h]; rfl) | (injection h with h; rw [h]))
          ·first | (cases h; done) | (simp -implicitDefEqProofs [h1, h3, c4, c5, h7, c8, c48, c79, c220]; first | rfl | (injection h with h; rw [h]; rfl) | (injection h with h; rw [h]))
         ·clear h228 h
          rintro ⟨x213, x214⟩ y L res h hL hR
          unfold law03_CnfTurned_B3 at h
          simp -implicitDefEqProofs
          rcases iteB_cases h with ⟨c215, h⟩ | ⟨c215, h⟩
          ·simp -implicitDefEqProofs [c215]
           obtain ⟨v216, h217, h⟩ := bind_some' h
           simp -implicitDefEqProofs [c215, h217]
           rcases iteB_cases h with ⟨c218, h⟩ | ⟨c218, h⟩
           ·simp -implicitDefEqProofs [c215, h217, c218]
            cases h
            exact hL _ _ rfl (by simp -implicitDefEqProofs [headOf])
           ·simp -implicitDefEqProofs [c215, h217, c218]
            cases h
          ·simp -implicitDefEqProofs [c215]
           cases h
           exact hR _ rfl
         ·simp -implicitDefEqProofs [headOf]
        ·clear h230 h
         rintro ⟨x158, x159⟩ y L res h hL hR
         unfold law03_CnfTurned_B2 at h
         simp -implicitDefEqProofs
         rcases iteB_cases h with ⟨c160, h⟩ | ⟨c160, h⟩
         ·simp -implicitDefEqProofs [c160]
          obtain ⟨y191, h193, h⟩ := bind_some' h
          rw [evLoop_loopF (ι := (List Int) × Int) (ρ := (List Int)) (fun p => match p with | (x183, x184) => mk 93 [(1, T.c (sls 1 boolF m)), (2, T.c (C.ptr 2 0 0)), (5, T.c (C.lit (Value.bool v0))), (6, T.c (C.ptr 6 0 0)), (7, T.c (C.lit (Value.int IntKind.i64 x159))), (8, T.c (C.ref 8 0 (lenN x183))), (9, T.c (C.lit (Value.int IntKind.i64 x184)))] [(2, { box := true, free := true, elem := 24, sz := 2, es := [f_.cells] }), (6, { box := true, free := false, elem := 24, sz := 2, es := [[C.lit (Value.int IntKind.i64 f_.N), C.ref 63 0 (lenN x158)]] }), (8, rowO 3 1 intF x183), (63, rowO 50 1 rowF x158)] []) (fun r => match r with | y191 => (Ex.exit 2, mk 93 [(1, T.c (sls 1 boolF m)), (2, T.c (C.ptr 2 0 0)), (5, T.c (C.lit (Value.bool v0))), (6, T.c (C.ptr 6 0 0)), (7, T.c (C.lit (Value.int IntKind.i64 x159))), (8, T.c (C.ref 8 0 (lenN y191)))] [(2, { box := true, free := true, elem := 24, sz := 2, es := [f_.cells] }), (6, { box := true, free := false, elem := 24, sz := 2, es := [[C.lit (Value.int IntKind.i64 f_.N), C.ref 63 0 (lenN x158)]] }), (8, rowO 3 1 intF y191), (63, rowO 50 1 rowF x158)] [])) (law03_CnfTurned_B1 f_ x159) h193 ?_ _ ?_]
          ·simp -implicitDefEqProofs [c160]
           rcases iteB_cases h with ⟨c192, h⟩ | ⟨c192, h⟩
           ·simp -implicitDefEqProofs [c160, c192]
            cases h
            exact hL _ _ rfl (by simp -implicitDefEqProofs [headOf])
           ·simp -implicitDefEqProofs [c160, c192]
            cases h
          ·clear h193 h
           rintro ⟨x183, x184⟩ y L res h hL hR
           unfold law03_CnfTurned_B1 at h
           simp -implicitDefEqProofs
           obtain ⟨v185, h186, h⟩ := bind_some' h
           simp -implicitDefEqProofs [h186]
           rcases iteB_cases h with ⟨c187, h⟩ | ⟨c187, h⟩
           ·simp -implicitDefEqProofs [h186, c187]
            obtain ⟨v188, h189, h⟩ := bind_some' h
            simp -implicitDefEqProofs [h186, c187, h189]
            rcases iteB_cases h with ⟨c190, h⟩ | ⟨c190, h⟩
            ·simp -implicitDefEqProofs [h186, c187, h189, c190]
             cases h
             exact hL _ _ rfl (by simp -implicitDefEqProofs [headOf])
            ·simp -implicitDefEqProofs [h186, c187, h189, c190]
             cases h
           ·simp -implicitDefEqProofs [h186, c187]
            cases h
            exact hR _ rfl
          ·simp -implicitDefEqProofs [headOf]
         ·simp -implicitDefEqProofs [c160]
          cases h
          exact hR _ rfl
        ·simp -implicitDefEqProofs [headOf]
       ·simp -implicitDefEqProofs [h1, h3, c4, c5, h7, c8, c48, c79]
        cases h
      ·clear h232 h
       rintro ⟨x70, x71⟩ y L res h hL hR
       unfold law03_CnfTurned_B0 at h
       simp -implicitDefEqProofs
       obtain ⟨v72, h73, h⟩ := bind_some' h
       simp -implicitDefEqProofs [h73]
       rcases iteB_cases h with ⟨c74, h⟩ | ⟨c74, h⟩
       ·simp -implicitDefEqProofs [h73, c74]
        obtain ⟨v75, h76, h⟩ := bind_some' h
        simp -implicitDefEqProofs [h73, c74, h76]
        rcases iteB_cases h with ⟨c77, h⟩ | ⟨c77, h⟩
        ·simp -implicitDefEqProofs [h73, c74, h76, c77]
         cases h
         exact hL _ _ rfl (by simp -implicitDefEqProofs [headOf])
        ·simp -implicitDefEqProofs [h73, c74, h76, c77]
         cases h
       ·simp -implicitDefEqProofs [h73, c74]
        cases h
        exact hR _ rfl
      ·simp -implicitDefEqProofs [headOf]
     ·simp -implicitDefEqProofs [h1, h3, c4, c5, h7, c8, c48]
      obtain ⟨y256, h265, h⟩ := bind_some' h
      rw [evLoop_loopF (ι := (List Bool) × Int) (ρ := (List Bool)) (fun p => match p with | (x250, x251) => mk 93 [(1, T.c (sls 1 boolF m)), (2, T.c (C.ptr 2 0 0)), (5, T.c (C.lit (Value.bool v0))), (6, T.c (C.ptr 6 0 0)), (10, T.c (C.ref 10 0 (lenN x250))), (11, T.c (C.lit (Value.int IntKind.i64 x251)))] [(2, { box := true, free := true, elem := 24, sz := 2, es := [f_.cells] }), (6, { box := true, free := true, elem := 24, sz := 2, es := [[C.lit (Value.int IntKind.i64 f_.N), C.lit (Value.slice none 0 0)]] }), (10, rowO 4 1 boolF x250)] []) (fun r => match r with | y256 => (Ex.exit 4, mk 93 [(1, T.c (sls 1 boolF m)), (2, T.c (C.ptr 2 0 0)), (5, T.c (C.lit (Value.bool v0))), (6, T.c (C.ptr 6 0 0)), (10, T.c (C.ref 10 0 (lenN y256)))] [(2, { box := true, free := true, elem := 24, sz := 2, es := [f_.cells] }), (6, { box := true, free := true, elem := 24, sz := 2, es := [[C.lit (Value.int IntKind.i64 f_.N), C.lit (Value.slice none 0 0)]] }), (10, rowO 4 1 boolF y256)] [])) (law03_CnfTurned_B4 m) h265 ?_ _ ?_]
      ·simp -implicitDefEqProofs [h1, h3, c4, c5, h7, c8, c48]
       rcases iteB_cases h with ⟨c257, h⟩ | ⟨c257, h⟩
       ·simp -implicitDefEqProofs [h1, h3, c4, c5, h7, c8, c48, c257]
        obtain ⟨v258, h259', h⟩ := bind_some' h
        have h259 : ev 27 [T.agg f_.cells, T.c (sls 1 boolF m)] = some (T.c (C.lit (Value.bool v258)), []) := w_cnf_Holds _ _ _ h259'
        simp -implicitDefEqProofs [h1, h3, c4, c5, h7, c8, c48, c257, h259]
        obtain ⟨v260, h261', h⟩ := bind_some' h
        have h261 : ev 27 [T.agg [C.lit (Value.int IntKind.i64 f_.N), C.sl 1 []], T.c (sls 1 boolF y256)] = some (T.c (C.lit (Value.bool v260)), []) := w_cnf_Holds _ _ _ h261'
        simp -implicitDefEqProofs [h1, h3, c4, c5, h7, c8, c48, c257, h259, h261]
        rcases iteB_cases h with ⟨c262, h⟩ | ⟨c262, h⟩
        ·simp -implicitDefEqProofs [h1, h3, c4, c5, h7, c8, c48, c257, h259, h261, c262]
         obtain ⟨v263, h264', h⟩ := bind_some' h
         have h264 : ev 16 [T.agg [C.lit (Value.int IntKind.i64 f_.N), C.sl 1 []]] = some (T.c (C.lit (Value.bool v263)), []) := w_cnf_Right _ _ h264'
         first | (cases h; done) | (simp -implicitDefEqProofs [h1, h3, c4, c5, h7, c8, c48, c257, h259, h261, c262, h264]; first | rfl | (injection h with h; rw [h]; rfl) | (injection h with h; rw [h]))
        ·first | (cases h; done) | (simp -implicitDefEqProofs [h1, h3, c4, c5, h7, c8, c48, c257, h259, h261, c262]; first | rfl | (injection h with h; rw [h]; rfl) | (injection h with h; rw [h]))
       ·first | (cases h; done) | (simp -implicitDefEqProofs [h1, h3, c4, c5, h7, c8, c48, c257]; first | rfl | (injection h with h; rw [h]; rfl) | (injection h with h; rw [h]))
      ·clear h265 h
       rintro ⟨x250, x251⟩ y L res h hL hR
       unfold law03_CnfTurned_B4 at h
       simp -implicitDefEqProofs
       rcases iteB_cases h with ⟨c252, h⟩ | ⟨c252, h⟩
       ·simp -implicitDefEqProofs [c252]
        obtain ⟨v253, h254, h⟩ := bind_some' h
        simp -implicitDefEqProofs [c252, h254]
        rcases iteB_cases h with ⟨c255, h⟩ | ⟨c255, h⟩
        ·simp -implicitDefEqProofs [c252, h254, c255]
         cases h
         exact hL _ _ rfl (by simp -implicitDefEqProofs [headOf])
        ·simp -implicitDefEqProofs [c252, h254, c255]
         cases h
       ·simp -implicitDefEqProofs [c252]
        cases h
        exact hR _ rfl
      ·simp -implicitDefEqProofs [headOf]
    ·simp -implicitDefEqProofs [headOf]
   ·first | (cases h; done) | (simp -implicitDefEqProofs [h1, h3, c4, c5, h7, c8]; first | rfl | (injection h with h; rw [h]; rfl) | (injection h with h; rw [h]))
 ·first | (cases h; done) | (simp -implicitDefEqProofs [h1, h3, c4]; first | rfl | (injection h with h; rw [h]; rfl) | (injection h with h; rw [h]))
end Go.Proofs.YtkdlblpidghjcaaDoor

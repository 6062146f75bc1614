/- What the interpreter comes to is what the plain functions come to. No condition. -/
import Derived.Test.YtkdlblpidghjcaaDoorPr
import Derived.Test.YtkdlblpidghjcaaDoorG
set_option linter.unusedSimpArgs false
set_option linter.unusedVariables false
set_option maxRecDepth 20000
set_option maxHeartbeats 4000000
namespace Go.Proofs.YtkdlblpidghjcaaDoor
open Go.Vabs Go.Vid
theorem w_lex_isPlace (b : List Int) (at_ : Int) (r : Bool) (h : lex_isPlace b at_ = some r) : ev 57 [T.c (sls 1 byteF b), T.c (C.lit (Value.int IntKind.i64 at_))] = some (T.c (C.lit (Value.bool r)), []) := by
 refine ev_run' (kp := k57) (us := [4]) fn57 rfl rfl rfl rfl rfl (by kernel_rfl) rfl (by simp) ?_
 unfold lex_isPlace at h
 simp
 rcases iteB_cases h with ⟨c0, h⟩ | ⟨c0, h⟩
 ·simp [c0]
  cases h
  rfl
 ·simp [c0]
  cases h
  rfl
theorem w_lex_Number_1 (c : Int) (r : Bool) (h : lex_Number_1 c = some r) : ev 59 [T.c (C.lit (Value.int IntKind.u8 c))] = some (T.c (C.lit (Value.bool r)), []) := by
 refine ev_run' (kp := k59) (us := [4]) fn59 rfl rfl rfl rfl rfl (by kernel_rfl) rfl (by simp) ?_
 unfold lex_Number_1 at h
 simp
 rcases iteB_cases h with ⟨c0, h⟩ | ⟨c0, h⟩
 ·simp [c0]
  cases h
  rfl
 ·simp [c0]
  cases h
  rfl
theorem w_lex_run_1_figs (r_ : Int) (r : Bool) (h : lex_run_1_figs r_ = some r) : ev 71 [T.c (C.lit (Value.int IntKind.i32 r_)), T.c (C.fptr [C.lit (Go.Value.func (Go.Fn.func 59) #[] #[])] 0)] = some (T.c (C.lit (Value.bool r)), []) := by
 refine ev_run' (kp := k71) (us := [4]) fn71 rfl rfl rfl rfl rfl (by kernel_rfl) rfl (by simp) ?_
 unfold lex_run_1_figs at h
 simp
 rcases iteB_cases h with ⟨c0, h⟩ | ⟨c0, h⟩
 ·simp [c0]
  cases h
  rfl
 ·simp [c0]
  obtain ⟨v1, h2', h⟩ := bind_some' h
  have h2 : ev 59 [T.c (C.lit (Value.int IntKind.u8 (iconv IntKind.u8 r_)))] = some (T.c (C.lit (Value.bool v1)), []) := w_lex_Number_1 _ _ h2'
  simp [c0, h2]
  cases h
  rfl
theorem w_unicode_utf8_decodeRuneSlow (p_ : List Int) (r : Int × Int) (h : unicode_utf8_decodeRuneSlow p_ = some r) : ev 89 [T.c (sls 1 byteF p_)] = some (T.tup [T.c (C.lit (Value.int IntKind.i32 r.1)), T.c (C.lit (Value.int IntKind.i64 r.2))], []) := by
 refine ev_run' (kp := k89) (us := [21, 3]) fn89 rfl rfl rfl rfl rfl (by kernel_rfl) rfl (by simp) ?_
 unfold unicode_utf8_decodeRuneSlow at h
 simp
 rcases iteB_cases h with ⟨c0, h⟩ | ⟨c0, h⟩
 ·simp [c0]
  cases h
  rfl
 ·simp [c0]
  obtain ⟨v1, h2, h⟩ := bind_some' h
  simp [c0, h2]
  rcases iteB_cases h with ⟨c3, h⟩ | ⟨c3, h⟩
  ·simp [c0, h2, c3]
   obtain ⟨v4, h5, h⟩ := bind_some' h
   simp [c0, h2, c3, h5]
   rcases iteB_cases h with ⟨c6, h⟩ | ⟨c6, h⟩
   ·simp [c0, h2, c3, h5, c6]
    rcases iteB_cases h with ⟨c7, h⟩ | ⟨c7, h⟩
    ·simp [c0, h2, c3, h5, c6, c7]
     cases h
    ·simp [c0, h2, c3, h5, c6, c7]
     cases h
     rfl
   ·simp [c0, h2, c3, h5, c6]
    rcases iteB_cases h with ⟨c8, h⟩ | ⟨c8, h⟩
    ·simp [c0, h2, c3, h5, c6, c8]
     cases h
    ·simp [c0, h2, c3, h5, c6, c8]
     rcases iteB_cases h with ⟨c9, h⟩ | ⟨c9, h⟩
     ·simp [c0, h2, c3, h5, c6, c8, c9]
      obtain ⟨v10, h11, h⟩ := bind_some' h
      simp [c0, h2, c3, h5, c6, c8, c9, h11]
      rcases iteB_cases h with ⟨c12, h⟩ | ⟨c12, h⟩
      ·simp [c0, h2, c3, h5, c6, c8, c9, h11, c12]
       cases h
       rfl
      ·simp [c0, h2, c3, h5, c6, c8, c9, h11, c12]
       obtain ⟨v13, h14, h⟩ := bind_some' h
       simp [c0, h2, c3, h5, c6, c8, c9, h11, c12, h14]
       rcases iteB_cases h with ⟨c15, h⟩ | ⟨c15, h⟩
       ·simp [c0, h2, c3, h5, c6, c8, c9, h11, c12, h14, c15]
        cases h
        rfl
       ·simp [c0, h2, c3, h5, c6, c8, c9, h11, c12, h14, c15]
        rcases iteB_cases h with ⟨c16, h⟩ | ⟨c16, h⟩
        ·simp [c0, h2, c3, h5, c6, c8, c9, h11, c12, h14, c15, c16]
         cases h
         rfl
        ·simp [c0, h2, c3, h5, c6, c8, c9, h11, c12, h14, c15, c16]
         rcases iteB_cases h with ⟨c17, h⟩ | ⟨c17, h⟩
         ·simp [c0, h2, c3, h5, c6, c8, c9, h11, c12, h14, c15, c16, c17]
          rcases iteB_cases h with ⟨c18, h⟩ | ⟨c18, h⟩
          ·simp [c0, h2, c3, h5, c6, c8, c9, h11, c12, h14, c15, c16, c17, c18]
           cases h
          ·simp [c0, h2, c3, h5, c6, c8, c9, h11, c12, h14, c15, c16, c17, c18]
           cases h
           rfl
         ·simp [c0, h2, c3, h5, c6, c8, c9, h11, c12, h14, c15, c16, c17]
          obtain ⟨v19, h20, h⟩ := bind_some' h
          simp [c0, h2, c3, h5, c6, c8, c9, h11, c12, h14, c15, c16, c17, h20]
          rcases iteB_cases h with ⟨c21, h⟩ | ⟨c21, h⟩
          ·simp [c0, h2, c3, h5, c6, c8, c9, h11, c12, h14, c15, c16, c17, h20, c21]
           cases h
           rfl
          ·simp [c0, h2, c3, h5, c6, c8, c9, h11, c12, h14, c15, c16, c17, h20, c21]
           rcases iteB_cases h with ⟨c22, h⟩ | ⟨c22, h⟩
           ·simp [c0, h2, c3, h5, c6, c8, c9, h11, c12, h14, c15, c16, c17, h20, c21, c22]
            cases h
            rfl
           ·simp [c0, h2, c3, h5, c6, c8, c9, h11, c12, h14, c15, c16, c17, h20, c21, c22]
            rcases iteB_cases h with ⟨c23, h⟩ | ⟨c23, h⟩
            ·simp [c0, h2, c3, h5, c6, c8, c9, h11, c12, h14, c15, c16, c17, h20, c21, c22, c23]
             rcases iteB_cases h with ⟨c24, h⟩ | ⟨c24, h⟩
             ·simp [c0, h2, c3, h5, c6, c8, c9, h11, c12, h14, c15, c16, c17, h20, c21, c22, c23, c24]
              cases h
             ·simp [c0, h2, c3, h5, c6, c8, c9, h11, c12, h14, c15, c16, c17, h20, c21, c22, c23, c24]
              rcases iteB_cases h with ⟨c25, h⟩ | ⟨c25, h⟩
              ·simp [c0, h2, c3, h5, c6, c8, c9, h11, c12, h14, c15, c16, c17, h20, c21, c22, c23, c24, c25]
               cases h
              ·simp [c0, h2, c3, h5, c6, c8, c9, h11, c12, h14, c15, c16, c17, h20, c21, c22, c23, c24, c25]
               cases h
               rfl
            ·simp [c0, h2, c3, h5, c6, c8, c9, h11, c12, h14, c15, c16, c17, h20, c21, c22, c23]
             obtain ⟨v26, h27, h⟩ := bind_some' h
             simp [c0, h2, c3, h5, c6, c8, c9, h11, c12, h14, c15, c16, c17, h20, c21, c22, c23, h27]
             rcases iteB_cases h with ⟨c28, h⟩ | ⟨c28, h⟩
             ·simp [c0, h2, c3, h5, c6, c8, c9, h11, c12, h14, c15, c16, c17, h20, c21, c22, c23, h27, c28]
              cases h
              rfl
             ·simp [c0, h2, c3, h5, c6, c8, c9, h11, c12, h14, c15, c16, c17, h20, c21, c22, c23, h27, c28]
              rcases iteB_cases h with ⟨c29, h⟩ | ⟨c29, h⟩
              ·simp [c0, h2, c3, h5, c6, c8, c9, h11, c12, h14, c15, c16, c17, h20, c21, c22, c23, h27, c28, c29]
               cases h
               rfl
              ·simp [c0, h2, c3, h5, c6, c8, c9, h11, c12, h14, c15, c16, c17, h20, c21, c22, c23, h27, c28, c29]
               rcases iteB_cases h with ⟨c30, h⟩ | ⟨c30, h⟩
               ·simp [c0, h2, c3, h5, c6, c8, c9, h11, c12, h14, c15, c16, c17, h20, c21, c22, c23, h27, c28, c29, c30]
                cases h
               ·simp [c0, h2, c3, h5, c6, c8, c9, h11, c12, h14, c15, c16, c17, h20, c21, c22, c23, h27, c28, c29, c30]
                rcases iteB_cases h with ⟨c31, h⟩ | ⟨c31, h⟩
                ·simp [c0, h2, c3, h5, c6, c8, c9, h11, c12, h14, c15, c16, c17, h20, c21, c22, c23, h27, c28, c29, c30, c31]
                 cases h
                ·simp [c0, h2, c3, h5, c6, c8, c9, h11, c12, h14, c15, c16, c17, h20, c21, c22, c23, h27, c28, c29, c30, c31]
                 rcases iteB_cases h with ⟨c32, h⟩ | ⟨c32, h⟩
                 ·simp [c0, h2, c3, h5, c6, c8, c9, h11, c12, h14, c15, c16, c17, h20, c21, c22, c23, h27, c28, c29, c30, c31, c32]
                  cases h
                 ·simp [c0, h2, c3, h5, c6, c8, c9, h11, c12, h14, c15, c16, c17, h20, c21, c22, c23, h27, c28, c29, c30, c31, c32]
                  cases h
                  rfl
     ·simp [c0, h2, c3, h5, c6, c8, c9]
      cases h
  ·simp [c0, h2, c3]
   cases h
theorem w_unicode_utf8_DecodeRune (p_ : List Int) (r : Int × Int) (h : unicode_utf8_DecodeRune p_ = some r) : ev 83 [T.c (sls 1 byteF p_)] = some (T.tup [T.c (C.lit (Value.int IntKind.i32 r.1)), T.c (C.lit (Value.int IntKind.i64 r.2))], []) := by
 refine ev_run' (kp := k83) (us := [21, 3]) fn83 rfl rfl rfl rfl rfl (by kernel_rfl) rfl (by simp) ?_
 unfold unicode_utf8_DecodeRune at h
 simp
 obtain ⟨w21, h20, h⟩ := bind_some' h
 rw [evLoop_loopF (ι := Unit) (ρ := Int ⊕ Unit) (fun p => match p with | () => mk 22 [(0, T.c (sls 1 byteF p_)), (6, T.c (sls 1 byteF p_)), (7, T.c (C.lit (Value.int IntKind.i64 (lenI p_)))), (8, T.c (C.lit (Value.int IntKind.i64 0)))] [] []) (fun r => match r with | .inl y16 => (Ex.ret, mk 22 [(2, T.c (C.lit (Value.int IntKind.i32 y16))), (3, T.c (C.lit (Value.int IntKind.i64 1)))] [] []) | .inr () => (Ex.exit 0, mk 22 [(0, T.c (sls 1 byteF p_))] [] [])) (unicode_utf8_DecodeRune_B0 p_) h20 ?_ _ ?_]
 ·rcases w21 with y16 | ⟨⟩
  ·simp
   cases h
   rfl
  ·simp
   obtain ⟨⟨v17, v18⟩, h19', h⟩ := bind_some' h
   have h19 : ev 89 [T.c (sls 1 byteF p_)] = some (T.tup [T.c (C.lit (Value.int IntKind.i32 v17)), T.c (C.lit (Value.int IntKind.i64 v18))], []) := w_unicode_utf8_decodeRuneSlow _ _ h19'
   simp [h19]
   cases h
   rfl
 ·clear h20 h
  rintro ⟨⟩ y L res h hL hR
  unfold unicode_utf8_DecodeRune_B0 at h
  simp
  rcases iteB_cases h with ⟨c12, h⟩ | ⟨c12, h⟩
  ·simp [c12]
   obtain ⟨v13, h14, h⟩ := bind_some' h
   simp [c12, h14]
   rcases iteB_cases h with ⟨c15, h⟩ | ⟨c15, h⟩
   ·simp [c12, h14, c15]
    cases h
    exact hR _ rfl
   ·simp [c12, h14, c15]
    cases h
    exact hR _ rfl
  ·simp [c12]
   cases h
   exact hR _ rfl
 ·simp [headOf]
theorem w_bytes_indexFunc_figs (s : List Int) (r : Int) (h : bytes_indexFunc_figs s = some r) : ev 78 [T.c (sls 1 byteF s), T.c (C.fn 71 [C.fptr [C.lit (Go.Value.func (Go.Fn.func 59) #[] #[])] 0]), T.c (C.lit (Go.Value.bool true))] = some (T.c (C.lit (Value.int IntKind.i64 r)), []) := by
 refine ev_run' (kp := k78) (us := [3]) fn78 rfl rfl rfl rfl rfl (by kernel_rfl) rfl (by simp) ?_
 unfold bytes_indexFunc_figs at h
 simp
 obtain ⟨w31, h30, h⟩ := bind_some' h
 rw [evLoop_loopF (ι := Int) (ρ := Int ⊕ Unit) (fun p => match p with | x20 => mk 30 [(0, T.c (sls 1 byteF s)), (1, T.c (C.fn 71 [C.fptr [C.lit (Value.func (Fn.func 59) #[] #[])] 0])), (2, T.c (C.lit (Value.bool true))), (7, T.c (C.lit (Value.int IntKind.i64 x20)))] [] []) (fun r => match r with | .inl y29 => (Ex.ret, mk 30 [(6, T.c (C.lit (Value.int IntKind.i64 y29)))] [] []) | .inr () => (Ex.exit 0, mk 30 [] [] [])) (bytes_indexFunc_figs_B0 s) h30 ?_ _ ?_]
 ·rcases w31 with y29 | ⟨⟩
  ·simp
   cases h
   rfl
  ·simp
   cases h
   rfl
 ·clear h30 h
  rintro x20 y L res h hL hR
  unfold bytes_indexFunc_figs_B0 at h
  simp
  rcases iteB_cases h with ⟨c21, h⟩ | ⟨c21, h⟩
  ·simp [c21]
   rcases iteB_cases h with ⟨c22, h⟩ | ⟨c22, h⟩
   ·simp [c21, c22]
    obtain ⟨⟨v23, v24⟩, h25', h⟩ := bind_some' h
    have h25 : ev 83 [T.c (sls 1 byteF (cut s x20 (lenI s)))] = some (T.tup [T.c (C.lit (Value.int IntKind.i32 v23)), T.c (C.lit (Value.int IntKind.i64 v24))], []) := w_unicode_utf8_DecodeRune _ _ h25'
    simp [c21, c22, h25]
    obtain ⟨v26, h27', h⟩ := bind_some' h
    have h27 : ev 71 [T.c (C.lit (Value.int IntKind.i32 v23)), T.c (C.fptr [C.lit (Value.func (Fn.func 59) #[] #[])] 0)] = some (T.c (C.lit (Value.bool v26)), []) := w_lex_run_1_figs _ _ h27'
    simp [c21, c22, h25, h27]
    rcases iteB_cases h with ⟨c28, h⟩ | ⟨c28, h⟩
    ·simp [c21, c22, h25, h27, c28]
     cases h
     exact hR _ rfl
    ·simp [c21, c22, h25, h27, c28]
     cases h
     exact hL _ _ rfl (by simp [headOf])
   ·simp [c21, c22]
    cases h
  ·simp [c21]
   cases h
   exact hR _ rfl
 ·simp [headOf]
theorem w_bytes_IndexFunc_figs (s : List Int) (r : Int) (h : bytes_IndexFunc_figs s = some r) : ev 70 [T.c (sls 1 byteF s), T.c (C.fn 71 [C.fptr [C.lit (Go.Value.func (Go.Fn.func 59) #[] #[])] 0])] = some (T.c (C.lit (Value.int IntKind.i64 r)), []) := by
 refine ev_run' (kp := k70) (us := [3]) fn70 rfl rfl rfl rfl rfl (by kernel_rfl) rfl (by simp) ?_
 unfold bytes_IndexFunc_figs at h
 simp
 obtain ⟨v0, h1', h⟩ := bind_some' h
 have h1 : ev 78 [T.c (sls 1 byteF s), T.c (C.fn 71 [C.fptr [C.lit (Value.func (Fn.func 59) #[] #[])] 0]), T.c (C.lit (Value.bool true))] = some (T.c (C.lit (Value.int IntKind.i64 v0)), []) := w_bytes_indexFunc_figs _ _ h1'
 simp [h1]
 cases h
 rfl
theorem w_lex_run_figs (b : List Int) (at_ : Int) (r : Int) (h : lex_run_figs b at_ = some r) : ev 58 [T.c (sls 1 byteF b), T.c (C.lit (Value.int IntKind.i64 at_)), T.c (C.lit (Go.Value.func (Go.Fn.func 59) #[] #[]))] = some (T.c (C.lit (Value.int IntKind.i64 r)), []) := by
 refine ev_run' (kp := k58) (us := [3]) fn58 rfl rfl rfl rfl rfl (by kernel_rfl) rfl (by simp) ?_
 unfold lex_run_figs at h
 simp
 rcases iteB_cases h with ⟨c0, h⟩ | ⟨c0, h⟩
 ·simp [c0]
  obtain ⟨v1, h2', h⟩ := bind_some' h
  have h2 : ev 70 [T.c (sls 1 byteF (cut b at_ (lenI b))), T.c (C.fn 71 [C.fptr [C.lit (Value.func (Fn.func 59) #[] #[])] 0])] = some (T.c (C.lit (Value.int IntKind.i64 v1)), []) := w_bytes_IndexFunc_figs _ _ h2'
  simp [c0, h2]
  rcases iteB_cases h with ⟨c3, h⟩ | ⟨c3, h⟩
  ·simp [c0, h2, c3]
   cases h
   rfl
  ·simp [c0, h2, c3]
   cases h
   rfl
 ·simp [c0]
  cases h
theorem w_internal_stringslite_HasPrefix (s : ByteArray) (prefix_ : ByteArray) (r : Bool) (h : internal_stringslite_HasPrefix s prefix_ = some r) : ev 75 [T.c (C.lit (Value.string s)), T.c (C.lit (Value.string prefix_))] = some (T.c (C.lit (Value.bool r)), []) := by
 refine ev_run' (kp := k75) (us := [4]) fn75 rfl rfl rfl rfl rfl (by kernel_rfl) rfl (by simp) ?_
 unfold internal_stringslite_HasPrefix at h
 simp
 rcases iteB_cases h with ⟨c0, h⟩ | ⟨c0, h⟩
 ·simp [c0]
  rcases iteB_cases h with ⟨c1, h⟩ | ⟨c1, h⟩
  ·simp [c0, c1]
   cases h
   rfl
  ·simp [c0, c1]
   cases h
 ·simp [c0]
  cases h
  rfl
theorem w_strings_HasPrefix (s : ByteArray) (prefix_ : ByteArray) (r : Bool) (h : strings_HasPrefix s prefix_ = some r) : ev 67 [T.c (C.lit (Value.string s)), T.c (C.lit (Value.string prefix_))] = some (T.c (C.lit (Value.bool r)), []) := by
 refine ev_run' (kp := k67) (us := [4]) fn67 rfl rfl rfl rfl rfl (by kernel_rfl) rfl (by simp) ?_
 unfold strings_HasPrefix at h
 simp
 obtain ⟨v0, h1', h⟩ := bind_some' h
 have h1 : ev 75 [T.c (C.lit (Value.string s)), T.c (C.lit (Value.string prefix_))] = some (T.c (C.lit (Value.bool v0)), []) := w_internal_stringslite_HasPrefix _ _ _ h1'
 simp [h1]
 cases h
 rfl
theorem w_lex_Is (b : List Int) (at_ : Int) (s : ByteArray) (r : Int × Bool) (h : lex_Is b at_ s = some r) : ev 51 [T.c (sls 1 byteF b), T.c (C.lit (Value.int IntKind.i64 at_)), T.c (C.lit (Value.string s))] = some (T.tup [T.c (C.lit (Value.int IntKind.i64 r.1)), T.c (C.lit (Value.bool r.2))], []) := by
 refine ev_run' (kp := k51) (us := [3, 4]) fn51 rfl rfl rfl rfl rfl (by kernel_rfl) rfl (by simp) ?_
 unfold lex_Is at h
 simp
 obtain ⟨v0, h1', h⟩ := bind_some' h
 have h1 : ev 57 [T.c (sls 1 byteF b), T.c (C.lit (Value.int IntKind.i64 at_))] = some (T.c (C.lit (Value.bool v0)), []) := w_lex_isPlace _ _ _ h1'
 simp [h1]
 rcases iteB_cases h with ⟨c2, h⟩ | ⟨c2, h⟩
 ·simp [h1, c2]
  rcases iteB_cases h with ⟨c3, h⟩ | ⟨c3, h⟩
  ·simp [h1, c2, c3]
   obtain ⟨v4, h5', h⟩ := bind_some' h
   have h5 : ev 67 [T.c (C.lit (Value.string (strOf (cut b at_ (lenI b))))), T.c (C.lit (Value.string s))] = some (T.c (C.lit (Value.bool v4)), []) := w_strings_HasPrefix _ _ _ h5'
   simp [h1, c2, c3, h5]
   rcases iteB_cases h with ⟨c6, h⟩ | ⟨c6, h⟩
   ·simp [h1, c2, c3, h5, c6]
    cases h
    rfl
   ·simp [h1, c2, c3, h5, c6]
    cases h
    rfl
  ·simp [h1, c2, c3]
   cases h
 ·simp [h1, c2]
  cases h
  rfl
theorem w_lex_Number (b : List Int) (at_ : Int) (most : Int) (r : Int × Int × Int) (h : lex_Number b at_ most = some r) : ev 35 [T.c (sls 1 byteF b), T.c (C.lit (Value.int IntKind.i64 at_)), T.c (C.lit (Value.int IntKind.i64 most))] = some (T.tup [T.c (C.lit (Value.int IntKind.i64 r.1)), T.c (C.lit (Value.int IntKind.i64 r.2.1)), T.c (C.lit (Value.int IntKind.i64 r.2.2))], []) := by
 refine ev_run' (kp := k35) (us := [3, 3, 28]) fn35 rfl rfl rfl rfl rfl (by kernel_rfl) rfl (by simp) ?_
 unfold lex_Number at h
 simp
 obtain ⟨v0, h1', h⟩ := bind_some' h
 have h1 : ev 57 [T.c (sls 1 byteF b), T.c (C.lit (Value.int IntKind.i64 at_))] = some (T.c (C.lit (Value.bool v0)), []) := w_lex_isPlace _ _ _ h1'
 simp [h1]
 rcases iteB_cases h with ⟨c2, h⟩ | ⟨c2, h⟩
 ·simp [h1, c2]
  obtain ⟨v3, h4', h⟩ := bind_some' h
  have h4 : ev 58 [T.c (sls 1 byteF b), T.c (C.lit (Value.int IntKind.i64 at_)), T.c (C.lit (Value.func (Fn.func 59) #[] #[]))] = some (T.c (C.lit (Value.int IntKind.i64 v3)), []) := w_lex_run_figs _ _ _ h4'
  simp [h1, c2, h4]
  rcases iteB_cases h with ⟨c5, h⟩ | ⟨c5, h⟩
  ·simp [h1, c2, h4, c5]
   cases h
   rfl
  ·simp [h1, c2, h4, c5]
   obtain ⟨v6, h7, h⟩ := bind_some' h
   simp [h1, c2, h4, c5, h7]
   rcases iteB_cases h with ⟨c8, h⟩ | ⟨c8, h⟩
   ·simp [h1, c2, h4, c5, h7, c8]
    rcases iteB_cases h with ⟨c9, h⟩ | ⟨c9, h⟩
    ·simp [h1, c2, h4, c5, h7, c8, c9]
     cases h
     rfl
    ·simp [h1, c2, h4, c5, h7, c8, c9]
     rcases iteB_cases h with ⟨c10, h⟩ | ⟨c10, h⟩
     ·simp [h1, c2, h4, c5, h7, c8, c9, c10]
      obtain ⟨w36, h35, h⟩ := bind_some' h
      rw [evLoop_loopF (ι := Int × Int) (ρ := Unit ⊕ Int) (fun p => match p with | (x28, x29) => mk 60 [(1, T.c (C.lit (Value.int IntKind.i64 at_))), (2, T.c (C.lit (Value.int IntKind.i64 most))), (9, T.c (C.lit (Value.int IntKind.i64 v3))), (10, T.c (C.lit (Value.int IntKind.i64 x28))), (40, T.c (sls 1 byteF (cut b at_ v3))), (41, T.c (C.lit (Value.int IntKind.i64 (lenI (cut b at_ v3))))), (42, T.c (C.lit (Value.int IntKind.i64 x29)))] [] []) (fun r => match r with | .inl () => (Ex.ret, mk 60 [(6, T.c (C.lit (Value.int IntKind.i64 0))), (7, T.c (C.lit (Value.int IntKind.i64 at_))), (8, T.c (C.lit (Value.int IntKind.i64 3)))] [] []) | .inr y34 => (Ex.exit 0, mk 60 [(9, T.c (C.lit (Value.int IntKind.i64 v3))), (10, T.c (C.lit (Value.int IntKind.i64 y34)))] [] [])) (lex_Number_B0 b at_ most v3) h35 ?_ _ ?_]
      ·rcases w36 with ⟨⟩ | y34
       ·simp [h1, c2, h4, c5, h7, c8, c9, c10]
        cases h
        rfl
       ·simp [h1, c2, h4, c5, h7, c8, c9, c10]
        cases h
        rfl
      ·clear h35 h
       rintro ⟨x28, x29⟩ y L res h hL hR
       unfold lex_Number_B0 at h
       simp
       rcases iteB_cases h with ⟨c30, h⟩ | ⟨c30, h⟩
       ·simp [c30]
        obtain ⟨v31, h32, h⟩ := bind_some' h
        simp [c30, h32]
        rcases iteB_cases h with ⟨c33, h⟩ | ⟨c33, h⟩
        ·simp [c30, h32, c33]
         cases h
         exact hR _ rfl
        ·simp [c30, h32, c33]
         cases h
         exact hL _ _ rfl (by simp [headOf])
       ·simp [c30]
        cases h
        exact hR _ rfl
      ·simp [headOf]
     ·simp [h1, c2, h4, c5, h7, c8, c9, c10]
      cases h
   ·simp [h1, c2, h4, c5, h7, c8]
    rcases iteB_cases h with ⟨c37, h⟩ | ⟨c37, h⟩
    ·simp [h1, c2, h4, c5, h7, c8, c37]
     obtain ⟨w63, h62, h⟩ := bind_some' h
     rw [evLoop_loopF (ι := Int × Int) (ρ := Unit ⊕ Int) (fun p => match p with | (x55, x56) => mk 60 [(1, T.c (C.lit (Value.int IntKind.i64 at_))), (2, T.c (C.lit (Value.int IntKind.i64 most))), (9, T.c (C.lit (Value.int IntKind.i64 v3))), (10, T.c (C.lit (Value.int IntKind.i64 x55))), (40, T.c (sls 1 byteF (cut b at_ v3))), (41, T.c (C.lit (Value.int IntKind.i64 (lenI (cut b at_ v3))))), (42, T.c (C.lit (Value.int IntKind.i64 x56)))] [] []) (fun r => match r with | .inl () => (Ex.ret, mk 60 [(6, T.c (C.lit (Value.int IntKind.i64 0))), (7, T.c (C.lit (Value.int IntKind.i64 at_))), (8, T.c (C.lit (Value.int IntKind.i64 3)))] [] []) | .inr y61 => (Ex.exit 0, mk 60 [(9, T.c (C.lit (Value.int IntKind.i64 v3))), (10, T.c (C.lit (Value.int IntKind.i64 y61)))] [] [])) (lex_Number_B1 b at_ most v3) h62 ?_ _ ?_]
     ·rcases w63 with ⟨⟩ | y61
      ·simp [h1, c2, h4, c5, h7, c8, c37]
       cases h
       rfl
      ·simp [h1, c2, h4, c5, h7, c8, c37]
       cases h
       rfl
     ·clear h62 h
      rintro ⟨x55, x56⟩ y L res h hL hR
      unfold lex_Number_B1 at h
      simp
      rcases iteB_cases h with ⟨c57, h⟩ | ⟨c57, h⟩
      ·simp [c57]
       obtain ⟨v58, h59, h⟩ := bind_some' h
       simp [c57, h59]
       rcases iteB_cases h with ⟨c60, h⟩ | ⟨c60, h⟩
       ·simp [c57, h59, c60]
        cases h
        exact hR _ rfl
       ·simp [c57, h59, c60]
        cases h
        exact hL _ _ rfl (by simp [headOf])
      ·simp [c57]
       cases h
       exact hR _ rfl
     ·simp [headOf]
    ·simp [h1, c2, h4, c5, h7, c8, c37]
     cases h
 ·simp [h1, c2]
  cases h
  rfl
theorem w_lex_Signed (b : List Int) (at_ : Int) (most : Int) (r : Int × Int × Int) (h : lex_Signed b at_ most = some r) : ev 60 [T.c (sls 1 byteF b), T.c (C.lit (Value.int IntKind.i64 at_)), T.c (C.lit (Value.int IntKind.i64 most))] = some (T.tup [T.c (C.lit (Value.int IntKind.i64 r.1)), T.c (C.lit (Value.int IntKind.i64 r.2.1)), T.c (C.lit (Value.int IntKind.i64 r.2.2))], []) := by
 refine ev_run' (kp := k60) (us := [3, 3, 28]) fn60 rfl rfl rfl rfl rfl (by kernel_rfl) rfl (by simp) ?_
 unfold lex_Signed at h
 simp
 obtain ⟨v0, h1', h⟩ := bind_some' h
 have h1 : ev 57 [T.c (sls 1 byteF b), T.c (C.lit (Value.int IntKind.i64 at_))] = some (T.c (C.lit (Value.bool v0)), []) := w_lex_isPlace _ _ _ h1'
 simp [h1]
 rcases iteB_cases h with ⟨c2, h⟩ | ⟨c2, h⟩
 ·simp [h1, c2]
  obtain ⟨⟨v3, v4⟩, h5', h⟩ := bind_some' h
  have h5 : ev 51 [T.c (sls 1 byteF b), T.c (C.lit (Value.int IntKind.i64 at_)), T.c (C.lit (Value.string { data := #[45] }))] = some (T.tup [T.c (C.lit (Value.int IntKind.i64 v3)), T.c (C.lit (Value.bool v4))], []) := w_lex_Is _ _ _ _ h5'
  simp [h1, c2, h5]
  obtain ⟨⟨v6, v7, v8⟩, h9', h⟩ := bind_some' h
  have h9 : ev 35 [T.c (sls 1 byteF b), T.c (C.lit (Value.int IntKind.i64 v3)), T.c (C.lit (Value.int IntKind.i64 most))] = some (T.tup [T.c (C.lit (Value.int IntKind.i64 v6)), T.c (C.lit (Value.int IntKind.i64 v7)), T.c (C.lit (Value.int IntKind.i64 v8))], []) := w_lex_Number _ _ _ _ h9'
  simp [h1, c2, h5, h9]
  rcases iteB_cases h with ⟨c10, h⟩ | ⟨c10, h⟩
  ·simp [h1, c2, h5, h9, c10]
   rcases iteB_cases h with ⟨c11, h⟩ | ⟨c11, h⟩
   ·simp [h1, c2, h5, h9, c10, c11]
    rcases iteB_cases h with ⟨c12, h⟩ | ⟨c12, h⟩
    ·simp [h1, c2, h5, h9, c10, c11, c12]
     cases h
     rfl
    ·simp [h1, c2, h5, h9, c10, c11, c12]
     cases h
     rfl
   ·simp [h1, c2, h5, h9, c10, c11]
    cases h
    rfl
  ·simp [h1, c2, h5, h9, c10]
   cases h
   rfl
 ·simp [h1, c2]
  cases h
  rfl
theorem w_ref01_figure (c : Int) (r : Bool) (h : ref01_figure c = some r) : ev 72 [T.c (C.lit (Value.int IntKind.u8 c))] = some (T.c (C.lit (Value.bool r)), []) := by
 refine ev_run' (kp := k72) (us := [4]) fn72 rfl rfl rfl rfl rfl (by kernel_rfl) rfl (by simp) ?_
 unfold ref01_figure at h
 simp
 rcases iteB_cases h with ⟨c0, h⟩ | ⟨c0, h⟩
 ·simp [c0]
  cases h
  rfl
 ·simp [c0]
  cases h
  rfl
theorem w_ref01_Is (b : List Int) (at_ : Int) (s : ByteArray) (r : Int × Bool) (h : ref01_Is b at_ s = some r) : ev 62 [T.c (sls 1 byteF b), T.c (C.lit (Value.int IntKind.i64 at_)), T.c (C.lit (Value.string s))] = some (T.tup [T.c (C.lit (Value.int IntKind.i64 r.1)), T.c (C.lit (Value.bool r.2))], []) := by
 refine ev_run' (kp := k62) (us := [3, 4]) fn62 rfl rfl rfl rfl rfl (by kernel_rfl) rfl (by simp) ?_
 unfold ref01_Is at h
 simp
 rcases iteB_cases h with ⟨c0, h⟩ | ⟨c0, h⟩
 ·simp [c0]
  cases h
  rfl
 ·simp [c0]
  rcases iteB_cases h with ⟨c1, h⟩ | ⟨c1, h⟩
  ·simp [c0, c1]
   cases h
   rfl
  ·simp [c0, c1]
   rcases iteB_cases h with ⟨c2, h⟩ | ⟨c2, h⟩
   ·simp [c0, c1, c2]
    cases h
    rfl
   ·simp [c0, c1, c2]
    obtain ⟨w28, h27, h⟩ := bind_some' h
    rw [evLoop_loopF (ι := Int) (ρ := Unit ⊕ Unit) (fun p => match p with | x20 => mk 46 [(0, T.c (sls 1 byteF b)), (1, T.c (C.lit (Value.int IntKind.i64 at_))), (2, T.c (C.lit (Value.string s))), (8, T.c (C.lit (Value.int IntKind.i64 x20)))] [] []) (fun r => match r with | .inl () => (Ex.ret, mk 46 [(6, T.c (C.lit (Value.int IntKind.i64 at_))), (7, T.c (C.lit (Value.bool false)))] [] []) | .inr () => (Ex.exit 0, mk 46 [(1, T.c (C.lit (Value.int IntKind.i64 at_))), (2, T.c (C.lit (Value.string s)))] [] [])) (ref01_Is_B0 b at_ s) h27 ?_ _ ?_]
    ·rcases w28 with ⟨⟩ | ⟨⟩
     ·simp [c0, c1, c2]
      cases h
      rfl
     ·simp [c0, c1, c2]
      cases h
      rfl
    ·clear h27 h
     rintro x20 y L res h hL hR
     unfold ref01_Is_B0 at h
     simp
     rcases iteB_cases h with ⟨c21, h⟩ | ⟨c21, h⟩
     ·simp [c21]
      obtain ⟨v22, h23, h⟩ := bind_some' h
      simp [c21, h23]
      obtain ⟨v24, h25, h⟩ := bind_some' h
      simp [c21, h23, h25]
      rcases iteB_cases h with ⟨c26, h⟩ | ⟨c26, h⟩
      ·simp [c21, h23, h25, c26]
       cases h
       exact hL _ _ rfl (by simp [headOf])
      ·simp [c21, h23, h25, c26]
       cases h
       exact hR _ rfl
     ·simp [c21]
      cases h
      exact hR _ rfl
    ·simp [headOf]
theorem w_ref01_Number (b : List Int) (at_ : Int) (most : Int) (r : Int × Int × Int) (h : ref01_Number b at_ most = some r) : ev 61 [T.c (sls 1 byteF b), T.c (C.lit (Value.int IntKind.i64 at_)), T.c (C.lit (Value.int IntKind.i64 most))] = some (T.tup [T.c (C.lit (Value.int IntKind.i64 r.1)), T.c (C.lit (Value.int IntKind.i64 r.2.1)), T.c (C.lit (Value.int IntKind.i64 r.2.2))], []) := by
 refine ev_run' (kp := k61) (us := [3, 3, 3]) fn61 rfl rfl rfl rfl rfl (by kernel_rfl) rfl (by simp) ?_
 unfold ref01_Number at h
 simp
 rcases iteB_cases h with ⟨c0, h⟩ | ⟨c0, h⟩
 ·simp [c0]
  cases h
  rfl
 ·simp [c0]
  rcases iteB_cases h with ⟨c1, h⟩ | ⟨c1, h⟩
  ·simp [c0, c1]
   cases h
   rfl
  ·simp [c0, c1]
   obtain ⟨w49, h48, h⟩ := bind_some' h
   rw [evLoop_loopF (ι := Int × Int × Bool) (ρ := Int × Int × Bool) (fun p => match p with | (x27, x28, x29) => mk 71 [(0, T.c (sls 1 byteF b)), (1, T.c (C.lit (Value.int IntKind.i64 at_))), (2, T.c (C.lit (Value.int IntKind.i64 most))), (9, T.c (C.lit (Value.int IntKind.i64 x27))), (10, T.c (C.lit (Value.int IntKind.i64 x28))), (11, T.c (C.lit (Value.bool x29)))] [] []) (fun r => match r with | (y38, y39, y40) => (Ex.exit 0, mk 71 [(0, T.c (sls 1 byteF b)), (1, T.c (C.lit (Value.int IntKind.i64 at_))), (9, T.c (C.lit (Value.int IntKind.i64 y38))), (10, T.c (C.lit (Value.int IntKind.i64 y39))), (11, T.c (C.lit (Value.bool y40)))] [] [])) (ref01_Number_B0 b most) h48 ?_ _ ?_]
   ·obtain ⟨y38, y39, y40⟩ := w49
    simp [c0, c1]
    rcases iteB_cases h with ⟨c41, h⟩ | ⟨c41, h⟩
    ·simp [c0, c1, c41]
     cases h
     rfl
    ·simp [c0, c1, c41]
     obtain ⟨v42, h43, h⟩ := bind_some' h
     simp [c0, c1, c41, h43]
     rcases iteB_cases h with ⟨c44, h⟩ | ⟨c44, h⟩
     ·simp [c0, c1, c41, h43, c44]
      rcases iteB_cases h with ⟨c45, h⟩ | ⟨c45, h⟩
      ·simp [c0, c1, c41, h43, c44, c45]
       cases h
       rfl
      ·simp [c0, c1, c41, h43, c44, c45]
       rcases iteB_cases h with ⟨c46, h⟩ | ⟨c46, h⟩
       ·simp [c0, c1, c41, h43, c44, c45, c46]
        cases h
        rfl
       ·simp [c0, c1, c41, h43, c44, c45, c46]
        cases h
        rfl
     ·simp [c0, c1, c41, h43, c44]
      rcases iteB_cases h with ⟨c47, h⟩ | ⟨c47, h⟩
      ·simp [c0, c1, c41, h43, c44, c47]
       cases h
       rfl
      ·simp [c0, c1, c41, h43, c44, c47]
       cases h
       rfl
   ·clear h48 h
    rintro ⟨x27, x28, x29⟩ y L res h hL hR
    unfold ref01_Number_B0 at h
    simp
    rcases iteB_cases h with ⟨c30, h⟩ | ⟨c30, h⟩
    ·simp [c30]
     obtain ⟨v31, h32, h⟩ := bind_some' h
     simp [c30, h32]
     obtain ⟨v33, h34', h⟩ := bind_some' h
     have h34 : ev 72 [T.c (C.lit (Value.int IntKind.u8 v31))] = some (T.c (C.lit (Value.bool v33)), []) := w_ref01_figure _ _ h34'
     simp [c30, h32, h34]
     rcases iteB_cases h with ⟨c35, h⟩ | ⟨c35, h⟩
     ·simp [c30, h32, h34, c35]
      rcases iteB_cases h with ⟨c36, h⟩ | ⟨c36, h⟩
      ·simp [c30, h32, h34, c35, c36]
       cases h
       exact hL _ _ rfl (by simp [headOf])
      ·simp [c30, h32, h34, c35, c36]
       rcases iteB_cases h with ⟨c37, h⟩ | ⟨c37, h⟩
       ·simp [c30, h32, h34, c35, c36, c37]
        cases h
        exact hL _ _ rfl (by simp [headOf])
       ·simp [c30, h32, h34, c35, c36, c37]
        cases h
        exact hL _ _ rfl (by simp [headOf])
     ·simp [c30, h32, h34, c35]
      cases h
      exact hR _ rfl
    ·simp [c30]
     cases h
     exact hR _ rfl
   ·simp [headOf]
theorem w_ref01_Signed (b : List Int) (at_ : Int) (most : Int) (r : Int × Int × Int) (h : ref01_Signed b at_ most = some r) : ev 73 [T.c (sls 1 byteF b), T.c (C.lit (Value.int IntKind.i64 at_)), T.c (C.lit (Value.int IntKind.i64 most))] = some (T.tup [T.c (C.lit (Value.int IntKind.i64 r.1)), T.c (C.lit (Value.int IntKind.i64 r.2.1)), T.c (C.lit (Value.int IntKind.i64 r.2.2))], []) := by
 refine ev_run' (kp := k73) (us := [3, 3, 3]) fn73 rfl rfl rfl rfl rfl (by kernel_rfl) rfl (by simp) ?_
 unfold ref01_Signed at h
 simp
 rcases iteB_cases h with ⟨c0, h⟩ | ⟨c0, h⟩
 ·simp [c0]
  cases h
  rfl
 ·simp [c0]
  rcases iteB_cases h with ⟨c1, h⟩ | ⟨c1, h⟩
  ·simp [c0, c1]
   cases h
   rfl
  ·simp [c0, c1]
   obtain ⟨⟨v2, v3⟩, h4', h⟩ := bind_some' h
   have h4 : ev 62 [T.c (sls 1 byteF b), T.c (C.lit (Value.int IntKind.i64 at_)), T.c (C.lit (Value.string { data := #[45] }))] = some (T.tup [T.c (C.lit (Value.int IntKind.i64 v2)), T.c (C.lit (Value.bool v3))], []) := w_ref01_Is _ _ _ _ h4'
   simp [c0, c1, h4]
   obtain ⟨⟨v5, v6, v7⟩, h8', h⟩ := bind_some' h
   have h8 : ev 61 [T.c (sls 1 byteF b), T.c (C.lit (Value.int IntKind.i64 v2)), T.c (C.lit (Value.int IntKind.i64 most))] = some (T.tup [T.c (C.lit (Value.int IntKind.i64 v5)), T.c (C.lit (Value.int IntKind.i64 v6)), T.c (C.lit (Value.int IntKind.i64 v7))], []) := w_ref01_Number _ _ _ _ h8'
   simp [c0, c1, h4, h8]
   rcases iteB_cases h with ⟨c9, h⟩ | ⟨c9, h⟩
   ·simp [c0, c1, h4, h8, c9]
    rcases iteB_cases h with ⟨c10, h⟩ | ⟨c10, h⟩
    ·simp [c0, c1, h4, h8, c9, c10]
     rcases iteB_cases h with ⟨c11, h⟩ | ⟨c11, h⟩
     ·simp [c0, c1, h4, h8, c9, c10, c11]
      cases h
      rfl
     ·simp [c0, c1, h4, h8, c9, c10, c11]
      cases h
      rfl
    ·simp [c0, c1, h4, h8, c9, c10]
     cases h
     rfl
   ·simp [c0, c1, h4, h8, c9]
    cases h
    rfl
theorem w_strings_Builder_WriteString0 (s : ByteArray) (r : Int × (List Int)) (h : strings_Builder_WriteString0 s = some r) : ev 54 [T.c (C.ptr 9000 0 0), T.c (C.lit (Value.string s)), obT (Ob.mk true true 92 2 [[C.lit (Go.Value.pointer none), C.lit (Go.Value.slice none 0 0)]])] = some (T.tup [T.c (C.lit (Value.int IntKind.i64 r.1)), T.c (C.lit Go.Value.nilIface)], [Ob.mk true false 92 2 [[C.ptr 0 0 0, C.ref 1 0 (lenN r.2)]], rowO 5 1 byteF r.2]) := by
 refine ev_runL (kp := k54) (us := [3, 94]) (ts := [T.c (C.ptr 9000 0 0), T.c (C.lit (Value.string s))]) (obs := [Ob.mk true true 92 2 [[C.lit (Go.Value.pointer none), C.lit (Go.Value.slice none 0 0)]]]) fn54 rfl rfl rfl rfl rfl (by kernel_rfl) rfl rfl rfl (by simp) ?_
 unfold strings_Builder_WriteString0 at h
 simp
 obtain ⟨_u, h0', h⟩ := bind_some' h
 have h0 : ev 68 [T.c (C.ptr 9000 0 0), obT { box := true, free := true, elem := 92, sz := 2, es := [[C.lit (Value.pointer none), C.lit (Value.slice none 0 0)]] }] = some (T.tup [], [Ob.mk true false 92 2 [[C.ptr 0 0 0, C.lit (Go.Value.slice none 0 0)]]]) := w_bld_check0 _ h0'
 simp [h0]
 rcases iteB_cases h with ⟨c1, h⟩ | ⟨c1, h⟩
 ·simp [h0, c1]
  cases h
  rfl
 ·simp [h0, c1]
  cases h
theorem w_strings_Builder_WriteString1 (s : ByteArray) (q0 : List Int) (r : Int × (List Int)) (h : strings_Builder_WriteString1 s q0 = some r) : ev 54 [T.c (C.ptr 9000 0 0), T.c (C.lit (Value.string s)), obT (Ob.mk true false 92 2 [[C.ptr 9000 0 0, C.ref 19001 0 (lenN q0)]]), obT (rowO 5 1 byteF q0)] = some (T.tup [T.c (C.lit (Value.int IntKind.i64 r.1)), T.c (C.lit Go.Value.nilIface)], [Ob.mk true false 92 2 [[C.ptr 0 0 0, C.ref 1 0 (lenN r.2)]], rowO 5 1 byteF r.2]) := by
 refine ev_runL (kp := k54) (us := [3, 94]) (ts := [T.c (C.ptr 9000 0 0), T.c (C.lit (Value.string s))]) (obs := [Ob.mk true false 92 2 [[C.ptr 9000 0 0, C.ref 19001 0 (lenN q0)]], rowO 5 1 byteF q0]) fn54 rfl rfl rfl rfl rfl (by kernel_rfl) rfl rfl rfl (by simp) ?_
 unfold strings_Builder_WriteString1 at h
 simp
 obtain ⟨v0, h1', h⟩ := bind_some' h
 have h1 : ev 68 [T.c (C.ptr 9000 0 0), obT { box := true, free := false, elem := 92, sz := 2, es := [[C.ptr 9000 0 0, C.ref 19001 0 (lenN q0)]] }, obT (rowO 5 1 byteF q0)] = some (T.tup [], [Ob.mk true false 92 2 [[C.ptr 0 0 0, C.ref 1 0 (lenN v0)]], rowO 5 1 byteF v0]) := w_bld_check1 _ _ h1'
 simp [h1]
 rcases iteB_cases h with ⟨c2, h⟩ | ⟨c2, h⟩
 ·simp [h1, c2]
  cases h
  rfl
 ·simp [h1, c2]
  cases h
theorem w_cnf_reader_word (s : ByteArray) (q0 : Reader_cnf) (r : Reader_cnf) (h : cnf_reader_word s q0 = some r) : ev 33 [T.c (C.ptr 9000 0 0), T.c (C.lit (Value.string s)), obT (Ob.mk true true 69 3 [Reader_cnf.cells q0])] = some (T.tup [], [Ob.mk true true 69 3 [Reader_cnf.cells r]]) := by
 refine ev_runL (kp := k33) (us := []) (ts := [T.c (C.ptr 9000 0 0), T.c (C.lit (Value.string s))]) (obs := [Ob.mk true true 69 3 [Reader_cnf.cells q0]]) fn33 rfl rfl rfl rfl rfl (by kernel_rfl) rfl rfl rfl (by simp) ?_
 unfold cnf_reader_word at h
 simp
 rcases iteB_cases h with ⟨c0, h⟩ | ⟨c0, h⟩
 ·simp [c0]
  obtain ⟨⟨v1, v2⟩, h3', h⟩ := bind_some' h
  have h3 : ev 51 [T.c (sls 1 byteF q0.b), T.c (C.lit (Value.int IntKind.i64 q0.at')), T.c (C.lit (Value.string s))] = some (T.tup [T.c (C.lit (Value.int IntKind.i64 v1)), T.c (C.lit (Value.bool v2))], []) := w_lex_Is _ _ _ _ h3'
  simp [c0, h3]
  rcases iteB_cases h with ⟨c4, h⟩ | ⟨c4, h⟩
  ·simp [c0, h3, c4]
   cases h
   rfl
  ·simp [c0, h3, c4]
   cases h
   rfl
 ·simp [c0]
  cases h
  rfl
theorem w_cnf_reader_number (most : Int) (q0 : Reader_cnf) (r : Int × Reader_cnf) (h : cnf_reader_number most q0 = some r) : ev 34 [T.c (C.ptr 9000 0 0), T.c (C.lit (Go.Value.func (Go.Fn.func 35) #[] #[])), T.c (C.lit (Value.int IntKind.i64 most)), obT (Ob.mk true true 69 3 [Reader_cnf.cells q0])] = some (T.c (C.lit (Value.int IntKind.i64 r.1)), [Ob.mk true true 69 3 [Reader_cnf.cells r.2]]) := by
 refine ev_runL (kp := k34) (us := [3]) (ts := [T.c (C.ptr 9000 0 0), T.c (C.lit (Go.Value.func (Go.Fn.func 35) #[] #[])), T.c (C.lit (Value.int IntKind.i64 most))]) (obs := [Ob.mk true true 69 3 [Reader_cnf.cells q0]]) fn34 rfl rfl rfl rfl rfl (by kernel_rfl) rfl rfl rfl (by simp) ?_
 unfold cnf_reader_number at h
 simp
 rcases iteB_cases h with ⟨c0, h⟩ | ⟨c0, h⟩
 ·simp [c0]
  obtain ⟨⟨v1, v2, v3⟩, h4', h⟩ := bind_some' h
  have h4 : ev 35 [T.c (sls 1 byteF q0.b), T.c (C.lit (Value.int IntKind.i64 q0.at')), T.c (C.lit (Value.int IntKind.i64 most))] = some (T.tup [T.c (C.lit (Value.int IntKind.i64 v1)), T.c (C.lit (Value.int IntKind.i64 v2)), T.c (C.lit (Value.int IntKind.i64 v3))], []) := w_lex_Number _ _ _ _ h4'
  simp [c0, h4]
  cases h
  rfl
 ·simp [c0]
  cases h
  rfl
theorem w_cnf_reader_signed (most : Int) (q0 : Reader_cnf) (r : Int × Reader_cnf) (h : cnf_reader_signed most q0 = some r) : ev 34 [T.c (C.ptr 9000 0 0), T.c (C.lit (Go.Value.func (Go.Fn.func 60) #[] #[])), T.c (C.lit (Value.int IntKind.i64 most)), obT (Ob.mk true true 69 3 [Reader_cnf.cells q0])] = some (T.c (C.lit (Value.int IntKind.i64 r.1)), [Ob.mk true true 69 3 [Reader_cnf.cells r.2]]) := by
 refine ev_runL (kp := k34) (us := [3]) (ts := [T.c (C.ptr 9000 0 0), T.c (C.lit (Go.Value.func (Go.Fn.func 60) #[] #[])), T.c (C.lit (Value.int IntKind.i64 most))]) (obs := [Ob.mk true true 69 3 [Reader_cnf.cells q0]]) fn34 rfl rfl rfl rfl rfl (by kernel_rfl) rfl rfl rfl (by simp) ?_
 unfold cnf_reader_signed at h
 simp
 rcases iteB_cases h with ⟨c0, h⟩ | ⟨c0, h⟩
 ·simp [c0]
  obtain ⟨⟨v1, v2, v3⟩, h4', h⟩ := bind_some' h
  have h4 : ev 60 [T.c (sls 1 byteF q0.b), T.c (C.lit (Value.int IntKind.i64 q0.at')), T.c (C.lit (Value.int IntKind.i64 most))] = some (T.tup [T.c (C.lit (Value.int IntKind.i64 v1)), T.c (C.lit (Value.int IntKind.i64 v2)), T.c (C.lit (Value.int IntKind.i64 v3))], []) := w_lex_Signed _ _ _ _ h4'
  simp [c0, h4]
  cases h
  rfl
 ·simp [c0]
  cases h
  rfl
theorem w_cnf_reader_clause (most : Int) (q0 : Reader_cnf) (r : (List Int) × Reader_cnf) (h : cnf_reader_clause most q0 = some r) : ev 36 [T.c (C.ptr 9000 0 0), T.c (C.lit (Value.int IntKind.i64 most)), obT (Ob.mk true true 69 3 [Reader_cnf.cells q0])] = some (T.c (C.ref 1 0 (lenN r.1)), [Ob.mk true true 69 3 [Reader_cnf.cells r.2], rowO 3 1 intF r.1]) := by
 refine ev_runL (kp := k36) (us := [50]) (ts := [T.c (C.ptr 9000 0 0), T.c (C.lit (Value.int IntKind.i64 most))]) (obs := [Ob.mk true true 69 3 [Reader_cnf.cells q0]]) fn36 rfl rfl rfl rfl rfl (by kernel_rfl) rfl rfl rfl (by simp) ?_
 unfold cnf_reader_clause at h
 simp
 obtain ⟨w60, h59, h⟩ := bind_some' h
 rw [evLoop_loopF (ι := (List Int) × (List Int) × Int × Int) (ρ := ((List Int) × (List Int) × Int × Int) ⊕ ((List Int) × Int × Int) ⊕ ((List Int) × Int × Int)) (fun p => match p with | (x33, x34, x35, x36) => mk 50 [(0, T.c (C.ptr 9000 0 0)), (1, T.c (C.lit (Value.int IntKind.i64 most))), (5, T.c (C.ref 8 0 (lenN x33)))] [(8, rowO 3 1 intF x33), (9000, { box := true, free := true, elem := 69, sz := 3, es := [[sls 1 byteF x34, C.lit (Value.int IntKind.i64 x35), C.lit (Value.int IntKind.i64 x36)]] })] []) (fun r => match r with | .inl (y49, y50, y51, y52) => (Ex.ret, mk 50 [(4, T.c (C.ref 8 0 (lenN y49)))] [(8, rowO 3 1 intF y49), (9000, { box := true, free := true, elem := 69, sz := 3, es := [[sls 1 byteF y50, C.lit (Value.int IntKind.i64 y51), C.lit (Value.int IntKind.i64 y52)]] })] []) | .inr (.inl (y53, y54, y55)) => (Ex.ret, mk 50 [(4, T.c (C.ref 4 0 (0)))] [(4, rowO 3 1 intF []), (9000, { box := true, free := true, elem := 69, sz := 3, es := [[sls 1 byteF y53, C.lit (Value.int IntKind.i64 y54), C.lit (Value.int IntKind.i64 y55)]] })] []) | .inr (.inr ((y56, y57, y58))) => (Ex.exit 0, mk 50 [] [(9000, { box := true, free := true, elem := 69, sz := 3, es := [[sls 1 byteF y56, C.lit (Value.int IntKind.i64 y57), C.lit (Value.int IntKind.i64 y58)]] })] [])) (cnf_reader_clause_B0 most) h59 ?_ _ ?_]
 ·rcases w60 with ⟨y49, y50, y51, y52⟩ | ⟨y53, y54, y55⟩ | ⟨y56, y57, y58⟩
  ·simp
   cases h
   rfl
  ·simp
   cases h
   rfl
  ·simp
   cases h
   rfl
 ·clear h59 h
  rintro ⟨x33, x34, x35, x36⟩ y L res h hL hR
  unfold cnf_reader_clause_B0 at h
  simp
  rcases iteB_cases h with ⟨c37, h⟩ | ⟨c37, h⟩
  ·simp [c37]
   obtain ⟨⟨v38, v39⟩, h40', h⟩ := bind_some' h
   have h40 : ev 34 [T.c (C.ptr 9000 0 0), T.c (C.lit (Value.func (Fn.func 60) #[] #[])), T.c (C.lit (Value.int IntKind.i64 most)), obT { box := true, free := true, elem := 69, sz := 3, es := [[sls 1 byteF x34, C.lit (Value.int IntKind.i64 x35), C.lit (Value.int IntKind.i64 x36)]] }] = some (T.c (C.lit (Value.int IntKind.i64 v38)), [Ob.mk true true 69 3 [Reader_cnf.cells v39]]) := w_cnf_reader_signed _ _ _ h40'
   simp [c37, h40]
   rcases iteB_cases h with ⟨c41, h⟩ | ⟨c41, h⟩
   ·simp [c37, h40, c41]
    rcases iteB_cases h with ⟨c42, h⟩ | ⟨c42, h⟩
    ·simp [c37, h40, c41, c42]
     obtain ⟨v43, h44', h⟩ := bind_some' h
     have h44 : ev 33 [T.c (C.ptr 9000 0 0), T.c (C.lit (Value.string { data := #[10] })), obT { box := true, free := true, elem := 69, sz := 3, es := [[sls 1 byteF v39.b, C.lit (Value.int IntKind.i64 v39.at'), C.lit (Value.int IntKind.i64 v39.e)]] }] = some (T.tup [], [Ob.mk true true 69 3 [Reader_cnf.cells v43]]) := w_cnf_reader_word _ _ _ h44'
     simp [c37, h40, c41, c42, h44]
     cases h
     exact hR _ rfl
    ·simp [c37, h40, c41, c42]
     rcases iteB_cases h with ⟨c45, h⟩ | ⟨c45, h⟩
     ·simp [c37, h40, c41, c42, c45]
      cases h
      exact hR _ rfl
     ·simp [c37, h40, c41, c42, c45]
      rcases iteB_cases h with ⟨c46, h⟩ | ⟨c46, h⟩
      ·simp [c37, h40, c41, c42, c45, c46]
       obtain ⟨v47, h48', h⟩ := bind_some' h
       have h48 : ev 33 [T.c (C.ptr 9000 0 0), T.c (C.lit (Value.string { data := #[32] })), obT { box := true, free := true, elem := 69, sz := 3, es := [[sls 1 byteF v39.b, C.lit (Value.int IntKind.i64 v39.at'), C.lit (Value.int IntKind.i64 v39.e)]] }] = some (T.tup [], [Ob.mk true true 69 3 [Reader_cnf.cells v47]]) := w_cnf_reader_word _ _ _ h48'
       simp [c37, h40, c41, c42, c45, c46, h48]
       cases h
       exact hL _ _ rfl (by simp [headOf])
      ·simp [c37, h40, c41, c42, c45, c46]
       cases h
   ·simp [c37, h40, c41]
    cases h
    exact hR _ rfl
  ·simp [c37]
   cases h
   exact hR _ rfl
 ·simp [headOf]
theorem w_cnf_reader_end (q0 : Reader_cnf) (r : Reader_cnf) (h : cnf_reader_end q0 = some r) : ev 37 [T.c (C.ptr 9000 0 0), obT (Ob.mk true true 69 3 [Reader_cnf.cells q0])] = some (T.tup [], [Ob.mk true true 69 3 [Reader_cnf.cells r]]) := by
 refine ev_runL (kp := k37) (us := []) (ts := [T.c (C.ptr 9000 0 0)]) (obs := [Ob.mk true true 69 3 [Reader_cnf.cells q0]]) fn37 rfl rfl rfl rfl rfl (by kernel_rfl) rfl rfl rfl (by simp) ?_
 unfold cnf_reader_end at h
 simp
 rcases iteB_cases h with ⟨c0, h⟩ | ⟨c0, h⟩
 ·simp [c0]
  rcases iteB_cases h with ⟨c1, h⟩ | ⟨c1, h⟩
  ·simp [c0, c1]
   cases h
   rfl
  ·simp [c0, c1]
   cases h
   rfl
 ·simp [c0]
  cases h
  rfl
theorem w_cnf_line (ahead : ByteArray) (l : List Int) (r : ByteArray) (h : cnf_line ahead l = some r) : ev 29 [T.c (C.lit (Value.string ahead)), T.c (sls 1 intF l)] = some (T.c (C.lit (Value.string r)), []) := by
 refine ev_run' (kp := k29) (us := [9]) fn29 rfl rfl rfl rfl rfl (by kernel_rfl) rfl (by simp) ?_
 unfold cnf_line at h
 simp
 obtain ⟨⟨v0, v1⟩, h2', h⟩ := bind_some' h
 have h2 : ev 54 [T.c (C.ptr 9000 0 0), T.c (C.lit (Value.string ahead)), obT { box := true, free := true, elem := 92, sz := 2, es := [[C.lit (Value.pointer none), C.lit (Value.slice none 0 0)]] }] = some (T.tup [T.c (C.lit (Value.int IntKind.i64 v0)), T.c (C.lit Go.Value.nilIface)], [Ob.mk true false 92 2 [[C.ptr 0 0 0, C.ref 1 0 (lenN v1)]], rowO 5 1 byteF v1]) := w_strings_Builder_WriteString0 _ _ h2'
 simp [h2]
 obtain ⟨y62, h68, h⟩ := bind_some' h
 rw [evLoop_loopF (ι := (List Int) × Int) (ρ := (List Int)) (fun p => match p with | (x43, x44) => mk 26 [(5, T.c (C.ptr 5 0 0)), (10, T.c (sls 1 intF l)), (11, T.c (C.lit (Value.int IntKind.i64 (lenI l)))), (12, T.c (C.lit (Value.int IntKind.i64 x44)))] [(5, { box := true, free := false, elem := 92, sz := 2, es := [[C.ptr 5 0 0, C.ref 9 0 (lenN x43)]] }), (9, rowO 5 1 byteF x43)] []) (fun r => match r with | y62 => (Ex.exit 0, mk 26 [(5, T.c (C.ptr 5 0 0))] [(5, { box := true, free := false, elem := 92, sz := 2, es := [[C.ptr 5 0 0, C.ref 9 0 (lenN y62)]] }), (9, rowO 5 1 byteF y62)] [])) (cnf_line_B0 l) h68 ?_ _ ?_]
 ·simp [h2]
  obtain ⟨⟨v63, v64⟩, h65', h⟩ := bind_some' h
  have h65 : ev 54 [T.c (C.ptr 9000 0 0), T.c (C.lit (Value.string { data := #[10] })), obT { box := true, free := false, elem := 92, sz := 2, es := [[C.ptr 9000 0 0, C.ref 19001 0 (lenN y62)]] }, obT (rowO 5 1 byteF y62)] = some (T.tup [T.c (C.lit (Value.int IntKind.i64 v63)), T.c (C.lit Go.Value.nilIface)], [Ob.mk true false 92 2 [[C.ptr 0 0 0, C.ref 1 0 (lenN v64)]], rowO 5 1 byteF v64]) := w_strings_Builder_WriteString1 _ _ _ h65'
  simp [h2, h65]
  obtain ⟨v66, h67', h⟩ := bind_some' h
  have h67 : ev 55 [T.c (C.ptr 9000 0 0), obT { box := true, free := false, elem := 92, sz := 2, es := [[C.ptr 9000 0 0, C.ref 19001 0 (lenN v64)]] }, obT (rowO 5 1 byteF v64)] = some (T.c (C.lit (Value.string v66)), [Ob.mk true false 92 2 [[C.ptr 0 0 0, C.junk]], Ob.mk false true 5 1 []]) := w_strings_Builder_String _ _ h67'
  simp [h2, h65, h67]
  cases h
  rfl
 ·clear h68 h
  rintro ⟨x43, x44⟩ y L res h hL hR
  unfold cnf_line_B0 at h
  simp
  rcases iteB_cases h with ⟨c45, h⟩ | ⟨c45, h⟩
  ·simp [c45]
   obtain ⟨v46, h47, h⟩ := bind_some' h
   simp [c45, h47]
   rcases iteB_cases h with ⟨c48, h⟩ | ⟨c48, h⟩
   ·simp [c45, h47, c48]
    obtain ⟨⟨v49, v50⟩, h51', h⟩ := bind_some' h
    have h51 : ev 54 [T.c (C.ptr 9000 0 0), T.c (C.lit (Value.string { data := #[32] })), obT { box := true, free := false, elem := 92, sz := 2, es := [[C.ptr 9000 0 0, C.ref 19001 0 (lenN x43)]] }, obT (rowO 5 1 byteF x43)] = some (T.tup [T.c (C.lit (Value.int IntKind.i64 v49)), T.c (C.lit Go.Value.nilIface)], [Ob.mk true false 92 2 [[C.ptr 0 0 0, C.ref 1 0 (lenN v50)]], rowO 5 1 byteF v50]) := w_strings_Builder_WriteString1 _ _ _ h51'
    simp [c45, h47, c48, h51]
    obtain ⟨v52, h53', h⟩ := bind_some' h
    have h53 : ev 50 [T.c (C.lit (Value.int IntKind.i64 v46))] = some (T.c (C.lit (Value.string v52)), []) := w_strconv_Itoa _ _ h53'
    simp [c45, h47, c48, h51, h53]
    obtain ⟨⟨v54, v55⟩, h56', h⟩ := bind_some' h
    have h56 : ev 54 [T.c (C.ptr 9000 0 0), T.c (C.lit (Value.string v52)), obT { box := true, free := false, elem := 92, sz := 2, es := [[C.ptr 9000 0 0, C.ref 19001 0 (lenN v50)]] }, obT (rowO 5 1 byteF v50)] = some (T.tup [T.c (C.lit (Value.int IntKind.i64 v54)), T.c (C.lit Go.Value.nilIface)], [Ob.mk true false 92 2 [[C.ptr 0 0 0, C.ref 1 0 (lenN v55)]], rowO 5 1 byteF v55]) := w_strings_Builder_WriteString1 _ _ _ h56'
    simp [c45, h47, c48, h51, h53, h56]
    cases h
    exact hL _ _ rfl (by simp [headOf])
   ·simp [c45, h47, c48]
    obtain ⟨v57, h58', h⟩ := bind_some' h
    have h58 : ev 50 [T.c (C.lit (Value.int IntKind.i64 v46))] = some (T.c (C.lit (Value.string v57)), []) := w_strconv_Itoa _ _ h58'
    simp [c45, h47, c48, h58]
    obtain ⟨⟨v59, v60⟩, h61', h⟩ := bind_some' h
    have h61 : ev 54 [T.c (C.ptr 9000 0 0), T.c (C.lit (Value.string v57)), obT { box := true, free := false, elem := 92, sz := 2, es := [[C.ptr 9000 0 0, C.ref 19001 0 (lenN x43)]] }, obT (rowO 5 1 byteF x43)] = some (T.tup [T.c (C.lit (Value.int IntKind.i64 v59)), T.c (C.lit Go.Value.nilIface)], [Ob.mk true false 92 2 [[C.ptr 0 0 0, C.ref 1 0 (lenN v60)]], rowO 5 1 byteF v60]) := w_strings_Builder_WriteString1 _ _ _ h61'
    simp [c45, h47, c48, h58, h61]
    cases h
    exact hL _ _ rfl (by simp [headOf])
  ·simp [c45]
   cases h
   exact hR _ rfl
 ·simp [headOf]
theorem w_cnf_Right_1_lit (l : Int) (k1 : Cnf) (r : Bool) (h : cnf_Right_1_lit l k1 = some r) : ev 42 [T.c (C.lit (Value.int IntKind.i64 l)), T.c (C.fptr (Cnf.cells k1) 0)] = some (T.c (C.lit (Value.bool r)), []) := by
 refine ev_run' (kp := k42) (us := [4]) fn42 rfl rfl rfl rfl rfl (by kernel_rfl) rfl (by simp) ?_
 unfold cnf_Right_1_lit at h
 simp
 rcases iteB_cases h with ⟨c0, h⟩ | ⟨c0, h⟩
 ·simp [c0]
  cases h
  rfl
 ·simp [c0]
  rcases iteB_cases h with ⟨c1, h⟩ | ⟨c1, h⟩
  ·simp [c0, c1]
   cases h
   rfl
  ·simp [c0, c1]
   cases h
   rfl
theorem w_slices_IndexFunc_lit (s : List Int) (f_ : Cnf) (r : Int) (h : slices_IndexFunc_lit s f_ = some r) : ev 64 [T.c (sls 1 intF s), T.c (C.fn 42 [C.fptr (Cnf.cells f_) 0])] = some (T.c (C.lit (Value.int IntKind.i64 r)), []) := by
 refine ev_run' (kp := k64) (us := [3]) fn64 rfl rfl rfl rfl rfl (by kernel_rfl) rfl (by simp) ?_
 unfold slices_IndexFunc_lit at h
 simp
 obtain ⟨w25, h24, h⟩ := bind_some' h
 rw [evLoop_loopF (ι := Int) (ρ := Int ⊕ Unit) (fun p => match p with | x16 => mk 19 [(0, T.c (sls 1 intF s)), (1, T.c (C.fn 42 [C.fptr f_.cells 0])), (7, T.c (C.lit (Value.int IntKind.i64 (lenI s)))), (8, T.c (C.lit (Value.int IntKind.i64 x16)))] [] []) (fun r => match r with | .inl y23 => (Ex.ret, mk 19 [(4, T.c (C.lit (Value.int IntKind.i64 y23)))] [] []) | .inr () => (Ex.exit 0, mk 19 [] [] [])) (slices_IndexFunc_lit_B0 s f_) h24 ?_ _ ?_]
 ·rcases w25 with y23 | ⟨⟩
  ·simp
   cases h
   rfl
  ·simp
   cases h
   rfl
 ·clear h24 h
  rintro x16 y L res h hL hR
  unfold slices_IndexFunc_lit_B0 at h
  simp
  rcases iteB_cases h with ⟨c17, h⟩ | ⟨c17, h⟩
  ·simp [c17]
   obtain ⟨v18, h19, h⟩ := bind_some' h
   simp [c17, h19]
   obtain ⟨v20, h21', h⟩ := bind_some' h
   have h21 : ev 42 [T.c (C.lit (Value.int IntKind.i64 v18)), T.c (C.fptr f_.cells 0)] = some (T.c (C.lit (Value.bool v20)), []) := w_cnf_Right_1_lit _ _ _ h21'
   simp [c17, h19, h21]
   rcases iteB_cases h with ⟨c22, h⟩ | ⟨c22, h⟩
   ·simp [c17, h19, h21, c22]
    cases h
    exact hR _ rfl
   ·simp [c17, h19, h21, c22]
    cases h
    exact hL _ _ rfl (by simp [headOf])
  ·simp [c17]
   cases h
   exact hR _ rfl
 ·simp [headOf]
theorem w_slices_ContainsFunc_lit (s : List Int) (f_ : Cnf) (r : Bool) (h : slices_ContainsFunc_lit s f_ = some r) : ev 44 [T.c (sls 1 intF s), T.c (C.fn 42 [C.fptr (Cnf.cells f_) 0])] = some (T.c (C.lit (Value.bool r)), []) := by
 refine ev_run' (kp := k44) (us := [4]) fn44 rfl rfl rfl rfl rfl (by kernel_rfl) rfl (by simp) ?_
 unfold slices_ContainsFunc_lit at h
 simp
 obtain ⟨v0, h1', h⟩ := bind_some' h
 have h1 : ev 64 [T.c (sls 1 intF s), T.c (C.fn 42 [C.fptr f_.cells 0])] = some (T.c (C.lit (Value.int IntKind.i64 v0)), []) := w_slices_IndexFunc_lit _ _ _ h1'
 simp [h1]
 cases h
 rfl
theorem w_cnf_Right_2_odd (c : List Int) (k1 : Cnf) (r : Bool) (h : cnf_Right_2_odd c k1 = some r) : ev 43 [T.c (sls 1 intF c), T.c (C.fptr [C.fn 42 [C.fptr (Cnf.cells k1) 0]] 0)] = some (T.c (C.lit (Value.bool r)), []) := by
 refine ev_run' (kp := k43) (us := [4]) fn43 rfl rfl rfl rfl rfl (by kernel_rfl) rfl (by simp) ?_
 unfold cnf_Right_2_odd at h
 simp
 rcases iteB_cases h with ⟨c0, h⟩ | ⟨c0, h⟩
 ·simp [c0]
  cases h
  rfl
 ·simp [c0]
  obtain ⟨v1, h2', h⟩ := bind_some' h
  have h2 : ev 44 [T.c (sls 1 intF c), T.c (C.fn 42 [C.fptr k1.cells 0])] = some (T.c (C.lit (Value.bool v1)), []) := w_slices_ContainsFunc_lit _ _ _ h2'
  simp [c0, h2]
  cases h
  rfl
theorem w_slices_IndexFunc'_odd (s : List (List Int)) (f_ : Cnf) (r : Int) (h : slices_IndexFunc'_odd s f_ = some r) : ev 65 [T.c (sls 1 rowF s), T.c (C.fn 43 [C.fptr [C.fn 42 [C.fptr (Cnf.cells f_) 0]] 0])] = some (T.c (C.lit (Value.int IntKind.i64 r)), []) := by
 refine ev_run' (kp := k65) (us := [3]) fn65 rfl rfl rfl rfl rfl (by kernel_rfl) rfl (by simp) ?_
 unfold slices_IndexFunc'_odd at h
 simp
 obtain ⟨w25, h24, h⟩ := bind_some' h
 rw [evLoop_loopF (ι := Int) (ρ := Int ⊕ Unit) (fun p => match p with | x16 => mk 19 [(0, T.c (sls 1 rowF s)), (1, T.c (C.fn 43 [C.fptr [C.fn 42 [C.fptr f_.cells 0]] 0])), (7, T.c (C.lit (Value.int IntKind.i64 (lenI s)))), (8, T.c (C.lit (Value.int IntKind.i64 x16)))] [] []) (fun r => match r with | .inl y23 => (Ex.ret, mk 19 [(4, T.c (C.lit (Value.int IntKind.i64 y23)))] [] []) | .inr () => (Ex.exit 0, mk 19 [] [] [])) (slices_IndexFunc'_odd_B0 s f_) h24 ?_ _ ?_]
 ·rcases w25 with y23 | ⟨⟩
  ·simp
   cases h
   rfl
  ·simp
   cases h
   rfl
 ·clear h24 h
  rintro x16 y L res h hL hR
  unfold slices_IndexFunc'_odd_B0 at h
  simp
  rcases iteB_cases h with ⟨c17, h⟩ | ⟨c17, h⟩
  ·simp [c17]
   obtain ⟨v18, h19, h⟩ := bind_some' h
   simp [c17, h19]
   obtain ⟨v20, h21', h⟩ := bind_some' h
   have h21 : ev 43 [T.c (sls 1 intF v18), T.c (C.fptr [C.fn 42 [C.fptr f_.cells 0]] 0)] = some (T.c (C.lit (Value.bool v20)), []) := w_cnf_Right_2_odd _ _ _ h21'
   simp [c17, h19, h21]
   rcases iteB_cases h with ⟨c22, h⟩ | ⟨c22, h⟩
   ·simp [c17, h19, h21, c22]
    cases h
    exact hR _ rfl
   ·simp [c17, h19, h21, c22]
    cases h
    exact hL _ _ rfl (by simp [headOf])
  ·simp [c17]
   cases h
   exact hR _ rfl
 ·simp [headOf]
theorem w_slices_ContainsFunc'_odd (s : List (List Int)) (f_ : Cnf) (r : Bool) (h : slices_ContainsFunc'_odd s f_ = some r) : ev 45 [T.c (sls 1 rowF s), T.c (C.fn 43 [C.fptr [C.fn 42 [C.fptr (Cnf.cells f_) 0]] 0])] = some (T.c (C.lit (Value.bool r)), []) := by
 refine ev_run' (kp := k45) (us := [4]) fn45 rfl rfl rfl rfl rfl (by kernel_rfl) rfl (by simp) ?_
 unfold slices_ContainsFunc'_odd at h
 simp
 obtain ⟨v0, h1', h⟩ := bind_some' h
 have h1 : ev 65 [T.c (sls 1 rowF s), T.c (C.fn 43 [C.fptr [C.fn 42 [C.fptr f_.cells 0]] 0])] = some (T.c (C.lit (Value.int IntKind.i64 v0)), []) := w_slices_IndexFunc'_odd _ _ _ h1'
 simp [h1]
 cases h
 rfl
theorem w_cnf_Right (f_ : Cnf) (r : Bool) (h : cnf_Right f_ = some r) : ev 16 [T.agg (Cnf.cells f_)] = some (T.c (C.lit (Value.bool r)), []) := by
 refine ev_run' (kp := k16) (us := [4]) fn16 rfl rfl rfl rfl rfl (by kernel_rfl) rfl (by simp) ?_
 unfold cnf_Right at h
 simp
 rcases iteB_cases h with ⟨c0, h⟩ | ⟨c0, h⟩
 ·simp [c0]
  rcases iteB_cases h with ⟨c1, h⟩ | ⟨c1, h⟩
  ·simp [c0, c1]
   rcases iteB_cases h with ⟨c2, h⟩ | ⟨c2, h⟩
   ·simp [c0, c1, c2]
    obtain ⟨v3, h4', h⟩ := bind_some' h
    have h4 : ev 45 [T.c (sls 1 rowF f_.cs), T.c (C.fn 43 [C.fptr [C.fn 42 [C.fptr f_.cells 0]] 0])] = some (T.c (C.lit (Value.bool v3)), []) := w_slices_ContainsFunc'_odd _ _ _ h4'
    simp [c0, c1, c2, h4]
    cases h
    rfl
   ·simp [c0, c1, c2]
    cases h
    rfl
  ·simp [c0, c1]
   cases h
   rfl
 ·simp [c0]
  cases h
  rfl
end Go.Proofs.YtkdlblpidghjcaaDoor

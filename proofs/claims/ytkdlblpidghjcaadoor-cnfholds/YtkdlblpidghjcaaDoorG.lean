/- The seat's functions, plainly. No condition. -/
import Derived.Test.YtkdlblpidghjcaaDoorS
import Derived.Test.YtkdlblpidghjcaaDoorGl
set_option linter.unusedVariables false
namespace Go.Vid
open Go.Vabs
def lex_isPlace (b : List Int) (at_ : Int) : Option Bool :=
 if (ile 0 at_) = true then
  some ((ile at_ (lenI b)))
 else
  some false
def lex_Number_1 (c : Int) : Option Bool :=
 if (ile 48 c) = true then
  some (ile c 57)
 else
  some false
def lex_run_1_figs (r_ : Int) : Option Bool :=
 if (ile 128 r_) = true then
  some true
 else
  Option.bind (lex_Number_1 (iconv IntKind.u8 r_)) fun v1 =>
  some (bnot v1)
def unicode_utf8_decodeRuneSlow (p_ : List Int) : Option (Int × Int) :=
 if (ilt (lenI p_) 1) = true then
  some (65533, 0)
 else
  Option.bind (getI p_ 0) fun v1 =>
  if (inI 256 v1) = true then
   Option.bind (tabI first v1) fun v4 =>
   if (ile 240 v4) = true then
    if (ilt 31 0) = true then
     none
    else
     some (((bor IntKind.i32 (iandn IntKind.i32 (iconv IntKind.i32 v1) (ishr IntKind.i32 (ishl IntKind.i32 (iconv IntKind.i32 v4) 31) 31)) (band IntKind.i32 65533 (ishr IntKind.i32 (ishl IntKind.i32 (iconv IntKind.i32 v4) 31) 31))), 1))
   else
    if (ilt 4 0) = true then
     none
    else
     if (inI 16 (ishr IntKind.u8 v4 4)) = true then
      Option.bind (tabI ranges (ishr IntKind.u8 v4 4)) fun v10 =>
      if (ilt (lenI p_) (iconv IntKind.i64 (band IntKind.u8 v4 7))) = true then
       some (65533, 1)
      else
       Option.bind (getI p_ 1) fun v13 =>
       if (ilt v13 v10.fst) = true then
        some (65533, 1)
       else
        if (ilt v10.snd v13) = true then
         some (65533, 1)
        else
         if (ile (iconv IntKind.i64 (band IntKind.u8 v4 7)) 2) = true then
          if (ilt 6 0) = true then
           none
          else
           some (((bor IntKind.i32 (ishl IntKind.i32 (iconv IntKind.i32 (band IntKind.u8 v1 31)) 6) (iconv IntKind.i32 (band IntKind.u8 v13 63))), 2))
         else
          Option.bind (getI p_ 2) fun v19 =>
          if (ilt v19 128) = true then
           some (65533, 1)
          else
           if (ilt 191 v19) = true then
            some (65533, 1)
           else
            if (ile (iconv IntKind.i64 (band IntKind.u8 v4 7)) 3) = true then
             if (ilt 12 0) = true then
              none
             else
              if (ilt 6 0) = true then
               none
              else
               some (((bor IntKind.i32 (bor IntKind.i32 (ishl IntKind.i32 (iconv IntKind.i32 (band IntKind.u8 v1 15)) 12) (ishl IntKind.i32 (iconv IntKind.i32 (band IntKind.u8 v13 63)) 6)) (iconv IntKind.i32 (band IntKind.u8 v19 63))), 3))
            else
             Option.bind (getI p_ 3) fun v26 =>
             if (ilt v26 128) = true then
              some (65533, 1)
             else
              if (ilt 191 v26) = true then
               some (65533, 1)
              else
               if (ilt 18 0) = true then
                none
               else
                if (ilt 12 0) = true then
                 none
                else
                 if (ilt 6 0) = true then
                  none
                 else
                  some (((bor IntKind.i32 (bor IntKind.i32 (bor IntKind.i32 (ishl IntKind.i32 (iconv IntKind.i32 (band IntKind.u8 v1 7)) 18) (ishl IntKind.i32 (iconv IntKind.i32 (band IntKind.u8 v13 63)) 12)) (ishl IntKind.i32 (iconv IntKind.i32 (band IntKind.u8 v19 63)) 6)) (iconv IntKind.i32 (band IntKind.u8 v26 63))), 4))
     else
      none
  else
   none
def unicode_utf8_DecodeRune_B0 (p_ : List Int) (p : Unit) : Option (Unit ⊕ (Int ⊕ Unit)) := match p with
 | () =>
  if (ilt 0 (lenI p_)) = true then
   Option.bind (getI p_ 0) fun v13 =>
   if (ilt v13 128) = true then
    some (.inr (.inl (iconv IntKind.i32 v13)))
   else
    some (.inr (.inr ()))
  else
   some (.inr (.inr ()))
def unicode_utf8_DecodeRune (p_ : List Int) : Option (Int × Int) :=
 Option.bind (loopF (unicode_utf8_DecodeRune_B0 p_) ()) fun r => match r with
 | .inl y16 =>
  some (y16, 1)
 | .inr () =>
  Option.bind (unicode_utf8_decodeRuneSlow p_) fun (v17, v18) =>
  some (v17, v18)
def bytes_indexFunc_figs_B0 (s : List Int) (p : Int) : Option (Int ⊕ (Int ⊕ Unit)) := match p with
 | x20 =>
  if (ilt x20 (lenI s)) = true then
   if (cutOk (lenN s) x20 (lenI s)) = true then
    Option.bind (unicode_utf8_DecodeRune ((cut s x20 (lenI s)))) fun (v23, v24) =>
    Option.bind (lex_run_1_figs v23) fun v26 =>
    if (beq2 v26 true) = true then
     some (.inr (.inl x20))
    else
     some (.inl (iadd IntKind.i64 x20 v24))
   else
    none
  else
   some (.inr (.inr ()))
def bytes_indexFunc_figs (s : List Int) : Option Int :=
 Option.bind (loopF (bytes_indexFunc_figs_B0 s) 0) fun r => match r with
 | .inl y29 =>
  some y29
 | .inr () =>
  some (-1)
def bytes_IndexFunc_figs (s : List Int) : Option Int :=
 Option.bind (bytes_indexFunc_figs s) fun v0 =>
 some v0
def lex_run_figs (b : List Int) (at_ : Int) : Option Int :=
 if (cutOk (lenN b) at_ (lenI b)) = true then
  Option.bind (bytes_IndexFunc_figs ((cut b at_ (lenI b)))) fun v1 =>
  if (ilt v1 0) = true then
   some (lenI b)
  else
   some (iadd IntKind.i64 at_ v1)
 else
  none
def internal_stringslite_HasPrefix (s : ByteArray) (prefix_ : ByteArray) : Option Bool :=
 if (ile (sizI prefix_) (sizI s)) = true then
  if (cutOk s.size 0 (sizI prefix_)) = true then
   some ((seq (cutB s 0 (sizI prefix_)) prefix_))
  else
   none
 else
  some false
def strings_HasPrefix (s : ByteArray) (prefix_ : ByteArray) : Option Bool :=
 Option.bind (internal_stringslite_HasPrefix s prefix_) fun v0 =>
 some v0
def lex_Is (b : List Int) (at_ : Int) (s : ByteArray) : Option (Int × Bool) :=
 Option.bind (lex_isPlace b at_) fun v0 =>
 if v0 = true then
  if (cutOk (lenN b) at_ (lenI b)) = true then
   Option.bind (strings_HasPrefix ((strOf (cut b at_ (lenI b)))) s) fun v4 =>
   if v4 = true then
    some (((iadd IntKind.i64 at_ (sizI s)), true))
   else
    some (at_, false)
  else
   none
 else
  some (0, false)
def lex_Number_B0 (b : List Int) (at_ : Int) (most : Int) (v3 : Int) (p : Int × Int) : Option ((Int × Int) ⊕ (Unit ⊕ Int)) := match p with
 | (x28, x29) =>
  if (ilt x29 (lenI (cut b at_ v3))) = true then
   Option.bind (getI (cut b at_ v3) x29) fun v31 =>
   if (ilt (imin most 2147483647) (iadd IntKind.i64 (imul IntKind.i64 x28 10) (iconv IntKind.i64 (isub IntKind.u8 v31 48)))) = true then
    some (.inr (.inl ()))
   else
    some (.inl (((iadd IntKind.i64 (imul IntKind.i64 x28 10) (iconv IntKind.i64 (isub IntKind.u8 v31 48))), (iadd IntKind.i64 x29 1))))
  else
   some (.inr (.inr x28))
def lex_Number_B1 (b : List Int) (at_ : Int) (most : Int) (v3 : Int) (p : Int × Int) : Option ((Int × Int) ⊕ (Unit ⊕ Int)) := match p with
 | (x55, x56) =>
  if (ilt x56 (lenI (cut b at_ v3))) = true then
   Option.bind (getI (cut b at_ v3) x56) fun v58 =>
   if (ilt (imin most 2147483647) (iadd IntKind.i64 (imul IntKind.i64 x55 10) (iconv IntKind.i64 (isub IntKind.u8 v58 48)))) = true then
    some (.inr (.inl ()))
   else
    some (.inl (((iadd IntKind.i64 (imul IntKind.i64 x55 10) (iconv IntKind.i64 (isub IntKind.u8 v58 48))), (iadd IntKind.i64 x56 1))))
  else
   some (.inr (.inr x55))
def lex_Number (b : List Int) (at_ : Int) (most : Int) : Option (Int × Int × Int) :=
 Option.bind (lex_isPlace b at_) fun v0 =>
 if v0 = true then
  Option.bind (lex_run_figs b at_) fun v3 =>
  if (ieq v3 at_) = true then
   some (0, at_, 2)
  else
   Option.bind (getI b at_) fun v6 =>
   if (ieq v6 48) = true then
    if (ilt (iadd IntKind.i64 at_ 1) v3) = true then
     some (0, at_, 2)
    else
     if (cutOk (lenN b) at_ v3) = true then
      Option.bind (loopF (lex_Number_B0 b at_ most v3) (0, 0)) fun r => match r with
      | .inl () =>
       some (0, at_, 3)
      | .inr y34 =>
       some (y34, v3, 0)
     else
      none
   else
    if (cutOk (lenN b) at_ v3) = true then
     Option.bind (loopF (lex_Number_B1 b at_ most v3) (0, 0)) fun r => match r with
     | .inl () =>
      some (0, at_, 3)
     | .inr y61 =>
      some (y61, v3, 0)
    else
     none
 else
  some (0, 0, 2)
def lex_Signed (b : List Int) (at_ : Int) (most : Int) : Option (Int × Int × Int) :=
 Option.bind (lex_isPlace b at_) fun v0 =>
 if v0 = true then
  Option.bind (lex_Is b at_ ({ data := #[45] })) fun (v3, v4) =>
  Option.bind (lex_Number b v3 most) fun (v6, v7, v8) =>
  if v4 = true then
   if (ieq v8 0) = true then
    if (ieq v6 0) = true then
     some (0, at_, 2)
    else
     some (((ineg IntKind.i64 v6), v7, 0))
   else
    some (0, at_, v8)
  else
   some (v6, v7, v8)
 else
  some (0, 0, 2)
def ref01_figure (c : Int) : Option Bool :=
 if (ile 48 c) = true then
  some (ile c 57)
 else
  some false
def ref01_Is_B0 (b : List Int) (at_ : Int) (s : ByteArray) (p : Int) : Option (Int ⊕ (Unit ⊕ Unit)) := match p with
 | x20 =>
  if (ilt x20 (sizI s)) = true then
   Option.bind (getI b (iadd IntKind.i64 at_ x20)) fun v22 =>
   Option.bind (getB s x20) fun v24 =>
   if (ieq v22 v24) = true then
    some (.inl (iadd IntKind.i64 x20 1))
   else
    some (.inr (.inl ()))
  else
   some (.inr (.inr ()))
def ref01_Is (b : List Int) (at_ : Int) (s : ByteArray) : Option (Int × Bool) :=
 if (ilt at_ 0) = true then
  some (0, false)
 else
  if (ilt (lenI b) at_) = true then
   some (0, false)
  else
   if (ilt (isub IntKind.i64 (lenI b) at_) (sizI s)) = true then
    some (at_, false)
   else
    Option.bind (loopF (ref01_Is_B0 b at_ s) 0) fun r => match r with
    | .inl () =>
     some (at_, false)
    | .inr () =>
     some (((iadd IntKind.i64 at_ (sizI s)), true))
def ref01_Number_B0 (b : List Int) (most : Int) (p : Int × Int × Bool) : Option ((Int × Int × Bool) ⊕ (Int × Int × Bool)) := match p with
 | (x27, x28, x29) =>
  if (ilt x27 (lenI b)) = true then
   Option.bind (getI b x27) fun v31 =>
   Option.bind (ref01_figure v31) fun v33 =>
   if v33 = true then
    if (ilt most (isub IntKind.i64 (iadd IntKind.i64 (imul IntKind.i64 x28 10) (iconv IntKind.i64 v31)) 48)) = true then
     some (.inl (((iadd IntKind.i64 x27 1), 0, true)))
    else
     if (ilt 2147483647 (isub IntKind.i64 (iadd IntKind.i64 (imul IntKind.i64 x28 10) (iconv IntKind.i64 v31)) 48)) = true then
      some (.inl (((iadd IntKind.i64 x27 1), 0, true)))
     else
      some (.inl (((iadd IntKind.i64 x27 1), (isub IntKind.i64 (iadd IntKind.i64 (imul IntKind.i64 x28 10) (iconv IntKind.i64 v31)) 48), x29)))
   else
    some (.inr (x27, x28, x29))
  else
   some (.inr (x27, x28, x29))
def ref01_Number (b : List Int) (at_ : Int) (most : Int) : Option (Int × Int × Int) :=
 if (ilt at_ 0) = true then
  some (0, 0, 2)
 else
  if (ilt (lenI b) at_) = true then
   some (0, 0, 2)
  else
   Option.bind (loopF (ref01_Number_B0 b most) (at_, 0, false)) fun (y38, y39, y40) =>
   if (ieq y38 at_) = true then
    some (0, at_, 2)
   else
    Option.bind (getI b at_) fun v42 =>
    if (ieq v42 48) = true then
     if (ilt 1 (isub IntKind.i64 y38 at_)) = true then
      some (0, at_, 2)
     else
      if y40 = true then
       some (0, at_, 3)
      else
       some (y39, y38, 0)
    else
     if y40 = true then
      some (0, at_, 3)
     else
      some (y39, y38, 0)
def ref01_Signed (b : List Int) (at_ : Int) (most : Int) : Option (Int × Int × Int) :=
 if (ilt at_ 0) = true then
  some (0, 0, 2)
 else
  if (ilt (lenI b) at_) = true then
   some (0, 0, 2)
  else
   Option.bind (ref01_Is b at_ ({ data := #[45] })) fun (v2, v3) =>
   Option.bind (ref01_Number b v2 most) fun (v5, v6, v7) =>
   if v3 = true then
    if (ieq v7 0) = true then
     if (ieq v5 0) = true then
      some (0, at_, 2)
     else
      some (((ineg IntKind.i64 v5), v6, 0))
    else
     some (0, at_, v7)
   else
    some (v5, v6, v7)
def strings_Builder_WriteString0 (s : ByteArray) : Option (Int × (List Int)) :=
 Option.bind (bld_check0) fun _u =>
 if (capN (lenN (bytesOf s)) 1) = true then
  some (((sizI s), (bytesOf s)))
 else
  none
def strings_Builder_WriteString1 (s : ByteArray) (q0 : List Int) : Option (Int × (List Int)) :=
 Option.bind (bld_check1 q0) fun v0 =>
 if (capN (lenN (v0 ++ bytesOf s)) 1) = true then
  some (((sizI s), (v0 ++ bytesOf s)))
 else
  none
def cnf_reader_word (s : ByteArray) (q0 : Reader_cnf) : Option Reader_cnf :=
 if (ieq q0.e 0) = true then
  Option.bind (lex_Is q0.b q0.at' s) fun (v1, v2) =>
  if v2 = true then
   some ({ b := q0.b, at' := v1, e := q0.e } : Reader_cnf)
  else
   some ({ b := q0.b, at' := v1, e := 2 } : Reader_cnf)
 else
  some q0
def cnf_reader_number (most : Int) (q0 : Reader_cnf) : Option (Int × Reader_cnf) :=
 if (ieq q0.e 0) = true then
  Option.bind (lex_Number q0.b q0.at' most) fun (v1, v2, v3) =>
  some ((v1, ({ b := q0.b, at' := v2, e := v3 } : Reader_cnf)))
 else
  some (0, q0)
def cnf_reader_signed (most : Int) (q0 : Reader_cnf) : Option (Int × Reader_cnf) :=
 if (ieq q0.e 0) = true then
  Option.bind (lex_Signed q0.b q0.at' most) fun (v1, v2, v3) =>
  some ((v1, ({ b := q0.b, at' := v2, e := v3 } : Reader_cnf)))
 else
  some (0, q0)
def cnf_reader_clause_B0 (most : Int) (p : (List Int) × (List Int) × Int × Int) : Option (((List Int) × (List Int) × Int × Int) ⊕ (((List Int) × (List Int) × Int × Int) ⊕ ((List Int) × Int × Int) ⊕ ((List Int) × Int × Int))) := match p with
 | (x33, x34, x35, x36) =>
  if (ieq x36 0) = true then
   Option.bind (cnf_reader_signed most ({ b := x34, at' := x35, e := x36 } : Reader_cnf)) fun (v38, v39) =>
   if (ieq v39.e 0) = true then
    if (ieq v38 0) = true then
     Option.bind (cnf_reader_word ({ data := #[10] }) v39) fun v43 =>
     some (.inr (.inl (x33, v43.b, v43.at', v43.e)))
    else
     if (ieq (lenI x33) 1000) = true then
      some (.inr (.inr (.inl (v39.b, x35, 3))))
     else
      if (capN (lenN (x33 ++ [v38])) 8) = true then
       Option.bind (cnf_reader_word ({ data := #[32] }) v39) fun v47 =>
       some (.inl (((x33 ++ [v38]), v47.b, v47.at', v47.e)))
      else
       none
   else
    some (.inr (.inr (.inl (v39.b, v39.at', v39.e))))
  else
   some (.inr (.inr (.inr ((x34, x35, x36)))))
def cnf_reader_clause (most : Int) (q0 : Reader_cnf) : Option ((List Int) × Reader_cnf) :=
 Option.bind (loopF (cnf_reader_clause_B0 most) ([], q0.b, q0.at', q0.e)) fun r => match r with
 | .inl (y49, y50, y51, y52) =>
  some ((y49, ({ b := y50, at' := y51, e := y52 } : Reader_cnf)))
 | .inr (.inl (y53, y54, y55)) =>
  some ((([] : List Int), ({ b := y53, at' := y54, e := y55 } : Reader_cnf)))
 | .inr (.inr ((y56, y57, y58))) =>
  some ((([] : List Int), ({ b := y56, at' := y57, e := y58 } : Reader_cnf)))
def cnf_reader_end (q0 : Reader_cnf) : Option Reader_cnf :=
 if (ieq q0.e 0) = true then
  if (ilt q0.at' (lenI q0.b)) = true then
   some ({ b := q0.b, at' := q0.at', e := 2 } : Reader_cnf)
  else
   some q0
 else
  some q0
def cnf_line_B0 (l : List Int) (p : (List Int) × Int) : Option (((List Int) × Int) ⊕ (List Int)) := match p with
 | (x43, x44) =>
  if (ilt x44 (lenI l)) = true then
   Option.bind (getI l x44) fun v46 =>
   if (ilt 0 x44) = true then
    Option.bind (strings_Builder_WriteString1 ({ data := #[32] }) x43) fun (v49, v50) =>
    Option.bind (strconv_Itoa v46) fun v52 =>
    Option.bind (strings_Builder_WriteString1 v52 v50) fun (v54, v55) =>
    some (.inl ((v55, (iadd IntKind.i64 x44 1))))
   else
    Option.bind (strconv_Itoa v46) fun v57 =>
    Option.bind (strings_Builder_WriteString1 v57 x43) fun (v59, v60) =>
    some (.inl ((v60, (iadd IntKind.i64 x44 1))))
  else
   some (.inr x43)
def cnf_line (ahead : ByteArray) (l : List Int) : Option ByteArray :=
 Option.bind (strings_Builder_WriteString0 ahead) fun (v0, v1) =>
 Option.bind (loopF (cnf_line_B0 l) (v1, 0)) fun y62 =>
 Option.bind (strings_Builder_WriteString1 ({ data := #[10] }) y62) fun (v63, v64) =>
 Option.bind (strings_Builder_String v64) fun v66 =>
 some v66
def cnf_Right_1_lit (l : Int) (k1 : Cnf) : Option Bool :=
 if (ieq l 0) = true then
  some true
 else
  if (ilt k1.N l) = true then
   some true
  else
   some ((ilt l (ineg IntKind.i64 k1.N)))
def slices_IndexFunc_lit_B0 (s : List Int) (f_ : Cnf) (p : Int) : Option (Int ⊕ (Int ⊕ Unit)) := match p with
 | x16 =>
  if (ilt x16 (lenI s)) = true then
   Option.bind (getI s x16) fun v18 =>
   Option.bind (cnf_Right_1_lit v18 f_) fun v20 =>
   if v20 = true then
    some (.inr (.inl x16))
   else
    some (.inl (iadd IntKind.i64 x16 1))
  else
   some (.inr (.inr ()))
def slices_IndexFunc_lit (s : List Int) (f_ : Cnf) : Option Int :=
 Option.bind (loopF (slices_IndexFunc_lit_B0 s f_) 0) fun r => match r with
 | .inl y23 =>
  some y23
 | .inr () =>
  some (-1)
def slices_ContainsFunc_lit (s : List Int) (f_ : Cnf) : Option Bool :=
 Option.bind (slices_IndexFunc_lit s f_) fun v0 =>
 some (ile 0 v0)
def cnf_Right_2_odd (c : List Int) (k1 : Cnf) : Option Bool :=
 if (ilt 1000 (lenI c)) = true then
  some true
 else
  Option.bind (slices_ContainsFunc_lit c k1) fun v1 =>
  some v1
def slices_IndexFunc'_odd_B0 (s : List (List Int)) (f_ : Cnf) (p : Int) : Option (Int ⊕ (Int ⊕ Unit)) := match p with
 | x16 =>
  if (ilt x16 (lenI s)) = true then
   Option.bind (getI s x16) fun v18 =>
   Option.bind (cnf_Right_2_odd v18 f_) fun v20 =>
   if v20 = true then
    some (.inr (.inl x16))
   else
    some (.inl (iadd IntKind.i64 x16 1))
  else
   some (.inr (.inr ()))
def slices_IndexFunc'_odd (s : List (List Int)) (f_ : Cnf) : Option Int :=
 Option.bind (loopF (slices_IndexFunc'_odd_B0 s f_) 0) fun r => match r with
 | .inl y23 =>
  some y23
 | .inr () =>
  some (-1)
def slices_ContainsFunc'_odd (s : List (List Int)) (f_ : Cnf) : Option Bool :=
 Option.bind (slices_IndexFunc'_odd s f_) fun v0 =>
 some (ile 0 v0)
def cnf_Right (f_ : Cnf) : Option Bool :=
 if (ile 0 f_.N) = true then
  if (ile f_.N 100000) = true then
   if (ile (lenI f_.cs) 20000) = true then
    Option.bind (slices_ContainsFunc'_odd f_.cs f_) fun v3 =>
    some (bnot v3)
   else
    some false
  else
   some false
 else
  some false
def cnf_Print_B0 (f_ : Cnf) (p : (List ByteArray) × Int) : Option (((List ByteArray) × Int) ⊕ (List ByteArray)) := match p with
 | (x50, x51) =>
  if (ilt x51 (lenI f_.cs)) = true then
   Option.bind (getI f_.cs x51) fun v53 =>
   Option.bind (slices_Clone v53) fun v55 =>
   if (capN (lenN (v55 ++ [0])) 8) = true then
    Option.bind (cnf_line ({ data := #[] }) (v55 ++ [0])) fun v58 =>
    if (capN (lenN (x50 ++ [v58])) 16) = true then
     some (.inl (((x50 ++ [v58]), (iadd IntKind.i64 x51 1))))
    else
     none
   else
    none
  else
   some (.inr x50)
def cnf_Print (f_ : Cnf) : Option (ByteArray × Int) :=
 Option.bind (cnf_Right f_) fun v0 =>
 if v0 = true then
  Option.bind (cnf_line ({ data := #[112, 32, 99, 110, 102, 32] }) ([f_.N, lenI f_.cs])) fun v3 =>
  if (ilt 0 (lenI f_.cs)) = true then
   Option.bind (getI f_.cs 0) fun v18 =>
   Option.bind (slices_Clone v18) fun v20 =>
   if (capN (lenN (v20 ++ [0])) 8) = true then
    Option.bind (cnf_line ({ data := #[] }) (v20 ++ [0])) fun v23 =>
    if (capN 2 16) = true then
     Option.bind (loopF (cnf_Print_B0 f_) ((([v3, v23]), (iadd IntKind.i64 0 1)))) fun y61 =>
     Option.bind (strings_Join y61 ({ data := #[] })) fun v62 =>
     some (v62, 0)
    else
     none
   else
    none
  else
   Option.bind (strings_Join [v3] ({ data := #[] })) fun v66 =>
   some (v66, 0)
 else
  some ((({ data := #[] }), 1))
def cnf_Clause_1_cl (l : Int) (k1 : List Bool) : Option Bool :=
 if (ile 1 (imax l (ineg IntKind.i64 l))) = true then
  if (ile (imax l (ineg IntKind.i64 l)) (lenI k1)) = true then
   Option.bind (getI k1 (isub IntKind.i64 (imax l (ineg IntKind.i64 l)) 1)) fun v2 =>
   some ((beq2 v2 (ilt 0 l)))
  else
   some false
 else
  some false
def slices_IndexFunc_cl_B0 (s : List Int) (f_ : List Bool) (p : Int) : Option (Int ⊕ (Int ⊕ Unit)) := match p with
 | x16 =>
  if (ilt x16 (lenI s)) = true then
   Option.bind (getI s x16) fun v18 =>
   Option.bind (cnf_Clause_1_cl v18 f_) fun v20 =>
   if v20 = true then
    some (.inr (.inl x16))
   else
    some (.inl (iadd IntKind.i64 x16 1))
  else
   some (.inr (.inr ()))
def slices_IndexFunc_cl (s : List Int) (f_ : List Bool) : Option Int :=
 Option.bind (loopF (slices_IndexFunc_cl_B0 s f_) 0) fun r => match r with
 | .inl y23 =>
  some y23
 | .inr () =>
  some (-1)
def slices_ContainsFunc_cl (s : List Int) (f_ : List Bool) : Option Bool :=
 Option.bind (slices_IndexFunc_cl s f_) fun v0 =>
 some (ile 0 v0)
def cnf_Clause (c : List Int) (m : List Bool) : Option Bool :=
 Option.bind (slices_ContainsFunc_cl c m) fun v0 =>
 some v0
def slices_IndexFunc_cln_B0 (p : Unit) : Option (Unit ⊕ Unit) := match p with
 | () =>
  if (ilt 0 0) = true then
   none
  else
   some (.inr ())
def slices_IndexFunc_cln (f_ : List Bool) : Option Int :=
 Option.bind (loopF (slices_IndexFunc_cln_B0) ()) fun () =>
 some (-1)
def slices_ContainsFunc_cln (f_ : List Bool) : Option Bool :=
 Option.bind (slices_IndexFunc_cln f_) fun v0 =>
 some (ile 0 v0)
def cnf_Clause_nil (m : List Bool) : Option Bool :=
 Option.bind (slices_ContainsFunc_cln m) fun v0 =>
 some v0
def cnf_Holds_1_ho (c : List Int) (k1 : List Bool) : Option Bool :=
 Option.bind (cnf_Clause c k1) fun v0 =>
 some (bnot v0)
def slices_IndexFunc'_ho_B0 (s : List (List Int)) (f_ : List Bool) (p : Int) : Option (Int ⊕ (Int ⊕ Unit)) := match p with
 | x16 =>
  if (ilt x16 (lenI s)) = true then
   Option.bind (getI s x16) fun v18 =>
   Option.bind (cnf_Holds_1_ho v18 f_) fun v20 =>
   if v20 = true then
    some (.inr (.inl x16))
   else
    some (.inl (iadd IntKind.i64 x16 1))
  else
   some (.inr (.inr ()))
def slices_IndexFunc'_ho (s : List (List Int)) (f_ : List Bool) : Option Int :=
 Option.bind (loopF (slices_IndexFunc'_ho_B0 s f_) 0) fun r => match r with
 | .inl y23 =>
  some y23
 | .inr () =>
  some (-1)
def slices_ContainsFunc'_ho (s : List (List Int)) (f_ : List Bool) : Option Bool :=
 Option.bind (slices_IndexFunc'_ho s f_) fun v0 =>
 some (ile 0 v0)
def cnf_Holds (f_ : Cnf) (m : List Bool) : Option Bool :=
 Option.bind (slices_ContainsFunc'_ho f_.cs m) fun v0 =>
 some (bnot v0)
def slices_Equal_B0 (s1 : List Int) (s2 : List Int) (p : Int) : Option (Int ⊕ (Unit ⊕ Unit)) := match p with
 | x18 =>
  if (ilt x18 (lenI s1)) = true then
   Option.bind (getI s1 x18) fun v20 =>
   Option.bind (getI s2 x18) fun v22 =>
   if (ieq v20 v22) = true then
    some (.inl (iadd IntKind.i64 x18 1))
   else
    some (.inr (.inl ()))
  else
   some (.inr (.inr ()))
def slices_Equal (s1 : List Int) (s2 : List Int) : Option Bool :=
 if (ieq (lenI s1) (lenI s2)) = true then
  Option.bind (loopF (slices_Equal_B0 s1 s2) 0) fun r => match r with
  | .inl () =>
   some false
  | .inr () =>
   some true
 else
  some false
def cnf_Same_1 (x : List Int) (y_ : List Int) : Option Bool :=
 Option.bind (slices_Equal x y_) fun v0 =>
 some v0
def slices_EqualFunc_same_B0 (s1 : List (List Int)) (s2 : List (List Int)) (p : Int) : Option (Int ⊕ (Unit ⊕ Unit)) := match p with
 | x22 =>
  if (ilt x22 (lenI s1)) = true then
   Option.bind (getI s1 x22) fun v24 =>
   Option.bind (getI s2 x22) fun v26 =>
   Option.bind (cnf_Same_1 v24 v26) fun v28 =>
   if v28 = true then
    some (.inl (iadd IntKind.i64 x22 1))
   else
    some (.inr (.inl ()))
  else
   some (.inr (.inr ()))
def slices_EqualFunc_same (s1 : List (List Int)) (s2 : List (List Int)) : Option Bool :=
 if (ieq (lenI s1) (lenI s2)) = true then
  Option.bind (loopF (slices_EqualFunc_same_B0 s1 s2) 0) fun r => match r with
  | .inl () =>
   some false
  | .inr () =>
   some true
 else
  some false
def cnf_Same (a : Cnf) (b : Cnf) : Option Bool :=
 if (ieq a.N b.N) = true then
  Option.bind (slices_EqualFunc_same a.cs b.cs) fun v1 =>
  some v1
 else
  some false
def cnf_PrintModel_B0 (m : List Bool) (p : (List Int) × Int) : Option (((List Int) × Int) ⊕ (List Int)) := match p with
 | (x18, x19) =>
  if (ilt x19 (lenI m)) = true then
   Option.bind (getI m x19) fun v21 =>
   if v21 = true then
    if (capN (lenN (x18 ++ [iadd IntKind.i64 x19 1])) 8) = true then
     some (.inl (((x18 ++ [iadd IntKind.i64 x19 1]), (iadd IntKind.i64 x19 1))))
    else
     none
   else
    if (capN (lenN (x18 ++ [ineg IntKind.i64 (iadd IntKind.i64 x19 1)])) 8) = true then
     some (.inl (((x18 ++ [ineg IntKind.i64 (iadd IntKind.i64 x19 1)]), (iadd IntKind.i64 x19 1))))
    else
     none
  else
   some (.inr x18)
def cnf_PrintModel (m : List Bool) : Option ByteArray :=
 Option.bind (loopF (cnf_PrintModel_B0 m) ([], 0)) fun y26 =>
 if (capN (lenN (y26 ++ [0])) 8) = true then
  Option.bind (cnf_line ({ data := #[118, 32] }) (y26 ++ [0])) fun v28 =>
  some v28
 else
  none
def cnf_Parse_B0 (b : List Int) (v3 : Int) (v8 : Int) (p : ((List (List Int))) × (List Int) × Int × Int × Int) : Option ((((List (List Int))) × (List Int) × Int × Int × Int) ⊕ (((List (List Int))) × (List Int) × Int × Int)) := match p with
 | (x57, x58, x59, x60, x61) =>
  if (ilt x61 v8) = true then
   Option.bind (cnf_reader_clause v3 ({ b := x58, at' := x59, e := x60 } : Reader_cnf)) fun (v63, v64) =>
   if (ieq v64.e 0) = true then
    if (capN (lenN (x57 ++ [v63])) 24) = true then
     some (.inl (((x57 ++ [v63]), v64.b, v64.at', v64.e, (iadd IntKind.i64 x61 1))))
    else
     none
   else
    some (.inr (x57, v64.b, v64.at', v64.e))
  else
   some (.inr (x57, x58, x59, x60))
def cnf_Parse (b : List Int) : Option (Cnf × Int × Int) :=
 if (ilt 100000 (lenI b)) = true then
  some ((({ N := 0, cs := ([] : List (List Int)) } : Cnf), 0, 3))
 else
  Option.bind (cnf_reader_word ({ data := #[112, 32, 99, 110, 102, 32] }) ({ b := b, at' := 0, e := 0 } : Reader_cnf)) fun v1 =>
  Option.bind (cnf_reader_number 100000 v1) fun (v3, v4) =>
  Option.bind (cnf_reader_word ({ data := #[32] }) v4) fun v6 =>
  Option.bind (cnf_reader_number 20000 v6) fun (v8, v9) =>
  Option.bind (cnf_reader_word ({ data := #[10] }) v9) fun v11 =>
  if (ilt 0 v8) = true then
   Option.bind (cnf_reader_clause v3 v11) fun (v27, v28) =>
   if (ieq v28.e 0) = true then
    if (capN 1 24) = true then
     Option.bind (loopF (cnf_Parse_B0 b v3 v8) (([v27], v28.b, v28.at', v28.e, (iadd IntKind.i64 0 1)))) fun (y68, y69, y70, y71) =>
     Option.bind (cnf_reader_end ({ b := y69, at' := y70, e := y71 } : Reader_cnf)) fun v72 =>
     if (ieq v72.e 0) = true then
      some ((({ N := v3, cs := y68 } : Cnf), v72.at', 0))
     else
      some ((({ N := 0, cs := ([] : List (List Int)) } : Cnf), v72.at', v72.e))
    else
     none
   else
    Option.bind (cnf_reader_end v28) fun v77 =>
    if (ieq v77.e 0) = true then
     some ((({ N := v3, cs := ([] : List (List Int)) } : Cnf), v77.at', 0))
    else
     some ((({ N := 0, cs := ([] : List (List Int)) } : Cnf), v77.at', v77.e))
  else
   Option.bind (cnf_reader_end v11) fun v80 =>
   if (ieq v80.e 0) = true then
    some ((({ N := v3, cs := ([] : List (List Int)) } : Cnf), v80.at', 0))
   else
    some ((({ N := 0, cs := ([] : List (List Int)) } : Cnf), v80.at', v80.e))
def cnf_ParseModel_B0 (b : List Int) (n : Int) (p : (List Bool) × (List Int) × Int × Int × Int) : Option (((List Bool) × (List Int) × Int × Int × Int) ⊕ ((List Bool) × (List Int) × Int × Int)) := match p with
 | (x60, x61, x62, x63, x64) =>
  if (ilt x64 n) = true then
   Option.bind (strconv_Itoa (iadd IntKind.i64 x64 1)) fun v66 =>
   Option.bind (lex_Is b x62 ({ data := #[45] })) fun (v68, v69) =>
   if (ieq x63 0) = true then
    if v69 = true then
     if (addOk v66 { data := #[32] }) = true then
      Option.bind (cnf_reader_word (v66 ++ { data := #[32] }) ({ b := x61, at' := v68, e := x63 } : Reader_cnf)) fun v74 =>
      if (capN (lenN (x60 ++ [false])) 1) = true then
       if (ieq v74.e 0) = true then
        some (.inl (((x60 ++ [false]), v74.b, v74.at', v74.e, (iadd IntKind.i64 x64 1))))
       else
        some (.inr (((x60 ++ [false]), v74.b, v74.at', v74.e)))
      else
       none
     else
      none
    else
     if (addOk v66 { data := #[32] }) = true then
      Option.bind (cnf_reader_word (v66 ++ { data := #[32] }) ({ b := x61, at' := x62, e := x63 } : Reader_cnf)) fun v79 =>
      if (capN (lenN (x60 ++ [true])) 1) = true then
       if (ieq v79.e 0) = true then
        some (.inl (((x60 ++ [true]), v79.b, v79.at', v79.e, (iadd IntKind.i64 x64 1))))
       else
        some (.inr (((x60 ++ [true]), v79.b, v79.at', v79.e)))
      else
       none
     else
      none
   else
    if (addOk v66 { data := #[32] }) = true then
     Option.bind (cnf_reader_word (v66 ++ { data := #[32] }) ({ b := x61, at' := x62, e := x63 } : Reader_cnf)) fun v84 =>
     if (capN (lenN (x60 ++ [bnot v69])) 1) = true then
      if (ieq v84.e 0) = true then
       some (.inl (((x60 ++ [bnot v69]), v84.b, v84.at', v84.e, (iadd IntKind.i64 x64 1))))
      else
       some (.inr (((x60 ++ [bnot v69]), v84.b, v84.at', v84.e)))
     else
      none
    else
     none
  else
   some (.inr (x60, x61, x62, x63))
def cnf_ParseModel (b : List Int) (n : Int) : Option ((List Bool) × Int × Int) :=
 Option.bind (cnf_reader_word ({ data := #[118, 32] }) ({ b := b, at' := 0, e := 0 } : Reader_cnf)) fun v0 =>
 Option.bind (loopF (cnf_ParseModel_B0 b n) ([], v0.b, v0.at', v0.e, 0)) fun (y88, y89, y90, y91) =>
 Option.bind (cnf_reader_word ({ data := #[48, 10] }) ({ b := y89, at' := y90, e := y91 } : Reader_cnf)) fun v92 =>
 Option.bind (cnf_reader_end v92) fun v94 =>
 if (ieq v94.e 0) = true then
  some (y88, v94.at', 0)
 else
  some ((([] : List Bool), v94.at', v94.e))
def ref03_Word (p_ : At_ref03) (s : ByteArray) : Option At_ref03 :=
 if (ieq p_.bad 0) = true then
  Option.bind (ref01_Is p_.b p_.n s) fun (v1, v2) =>
  if v2 = true then
   some ({ b := p_.b, n := v1, bad := p_.bad } : At_ref03)
  else
   some ({ b := p_.b, n := v1, bad := 2 } : At_ref03)
 else
  some p_
def ref03_Number (p_ : At_ref03) (most : Int) : Option (Int × At_ref03) :=
 if (ieq p_.bad 0) = true then
  Option.bind (ref01_Number p_.b p_.n most) fun (v1, v2, v3) =>
  some ((v1, ({ b := p_.b, n := v2, bad := v3 } : At_ref03)))
 else
  some (0, p_)
def ref03_Signed (p_ : At_ref03) (most : Int) : Option (Int × At_ref03) :=
 if (ieq p_.bad 0) = true then
  Option.bind (ref01_Signed p_.b p_.n most) fun (v1, v2, v3) =>
  some ((v1, ({ b := p_.b, n := v2, bad := v3 } : At_ref03)))
 else
  some (0, p_)
def ref03_Lits_B0 (most : Int) (p : (List Int) × (List Int) × Int × Int) : Option (((List Int) × (List Int) × Int × Int) ⊕ (((List Int) × (List Int) × Int × Int) ⊕ ((List Int) × Int × Int) ⊕ ((List Int) × Int × Int))) := match p with
 | (x35, x36, x37, x38) =>
  if (ieq x38 0) = true then
   Option.bind (ref03_Signed ({ b := x36, n := x37, bad := x38 } : At_ref03) most) fun (v40, v41) =>
   if (ieq v41.bad 0) = true then
    if (ieq v40 0) = true then
     Option.bind (ref03_Word v41 ({ data := #[10] })) fun v45 =>
     some (.inr (.inl (x35, v45.b, v45.n, v45.bad)))
    else
     if (ieq (lenI x35) 1000) = true then
      some (.inr (.inr (.inl (x36, x37, 3))))
     else
      if (capN (lenN (x35 ++ [v40])) 8) = true then
       Option.bind (ref03_Word v41 ({ data := #[32] })) fun v49 =>
       some (.inl (((x35 ++ [v40]), v49.b, v49.n, v49.bad)))
      else
       none
   else
    some (.inr (.inr (.inl (v41.b, v41.n, v41.bad))))
  else
   some (.inr (.inr (.inr ((x36, x37, x38)))))
def ref03_Lits (p_ : At_ref03) (most : Int) : Option ((List Int) × At_ref03) :=
 Option.bind (loopF (ref03_Lits_B0 most) ([], p_.b, p_.n, p_.bad)) fun r => match r with
 | .inl (y51, y52, y53, y54) =>
  some ((y51, ({ b := y52, n := y53, bad := y54 } : At_ref03)))
 | .inr (.inl (y55, y56, y57)) =>
  some ((([] : List Int), ({ b := y55, n := y56, bad := y57 } : At_ref03)))
 | .inr (.inr ((y58, y59, y60))) =>
  some ((([] : List Int), ({ b := y58, n := y59, bad := y60 } : At_ref03)))
def ref03_End (p_ : At_ref03) : Option At_ref03 :=
 if (ieq p_.bad 0) = true then
  if (ilt p_.n (lenI p_.b)) = true then
   some ({ b := p_.b, n := p_.n, bad := 2 } : At_ref03)
  else
   some p_
 else
  some p_
def ref03_Right_B0 (f_ : Cnf) (x76 : Int) (p : Int) : Option (Int ⊕ (Unit ⊕ Unit)) := match p with
 | x101 =>
  Option.bind (getI f_.cs x76) fun v102 =>
  if (ilt x101 (lenI v102)) = true then
   Option.bind (getI v102 x101) fun v105 =>
   if (ieq v105 0) = true then
    some (.inr (.inl ()))
   else
    if (ilt f_.N v105) = true then
     some (.inr (.inl ()))
    else
     if (ilt v105 (ineg IntKind.i64 f_.N)) = true then
      some (.inr (.inl ()))
     else
      some (.inl (iadd IntKind.i64 x101 1))
  else
   some (.inr (.inr ()))
def ref03_Right_B1 (f_ : Cnf) (p : Int) : Option (Int ⊕ (Unit ⊕ Unit)) := match p with
 | x76 =>
  if (ilt x76 (lenI f_.cs)) = true then
   Option.bind (getI f_.cs x76) fun v78 =>
   if (ilt 1000 (lenI v78)) = true then
    some (.inr (.inl ()))
   else
    Option.bind (loopF (ref03_Right_B0 f_ x76) 0) fun r => match r with
    | .inl () =>
     some (.inr (.inl ()))
    | .inr () =>
     some (.inl (iadd IntKind.i64 x76 1))
  else
   some (.inr (.inr ()))
def ref03_Right (f_ : Cnf) : Option Bool :=
 if (ilt f_.N 0) = true then
  some false
 else
  if (ilt 100000 f_.N) = true then
   some false
  else
   if (ilt 20000 (lenI f_.cs)) = true then
    some false
   else
    Option.bind (loopF (ref03_Right_B1 f_) 0) fun r => match r with
    | .inl () =>
     some false
    | .inr () =>
     some true
def ref03_Ints_B0 (a : List Int) (b : List Int) (p : Int) : Option (Int ⊕ (Unit ⊕ Unit)) := match p with
 | x17 =>
  if (ilt x17 (lenI a)) = true then
   Option.bind (getI a x17) fun v19 =>
   Option.bind (getI b x17) fun v21 =>
   if (ieq v19 v21) = true then
    some (.inl (iadd IntKind.i64 x17 1))
   else
    some (.inr (.inl ()))
  else
   some (.inr (.inr ()))
def ref03_Ints (a : List Int) (b : List Int) : Option Bool :=
 if (ieq (lenI a) (lenI b)) = true then
  Option.bind (loopF (ref03_Ints_B0 a b) 0) fun r => match r with
  | .inl () =>
   some false
  | .inr () =>
   some true
 else
  some false
def ref03_Same_B0 (a : Cnf) (b : Cnf) (p : Int) : Option (Int ⊕ (Unit ⊕ Unit)) := match p with
 | x22 =>
  if (ilt x22 (lenI a.cs)) = true then
   Option.bind (getI a.cs x22) fun v24 =>
   Option.bind (getI b.cs x22) fun v26 =>
   Option.bind (ref03_Ints v24 v26) fun v28 =>
   if v28 = true then
    some (.inl (iadd IntKind.i64 x22 1))
   else
    some (.inr (.inl ()))
  else
   some (.inr (.inr ()))
def ref03_Same (a : Cnf) (b : Cnf) : Option Bool :=
 if (ieq a.N b.N) = true then
  if (ieq (lenI a.cs) (lenI b.cs)) = true then
   Option.bind (loopF (ref03_Same_B0 a b) 0) fun r => match r with
   | .inl () =>
    some false
   | .inr () =>
    some true
  else
   some false
 else
  some false
def ref03_Flags_B0 (a : List Bool) (b : List Bool) (p : Int) : Option (Int ⊕ (Unit ⊕ Unit)) := match p with
 | x17 =>
  if (ilt x17 (lenI a)) = true then
   Option.bind (getI a x17) fun v19 =>
   Option.bind (getI b x17) fun v21 =>
   if (beq2 v19 v21) = true then
    some (.inl (iadd IntKind.i64 x17 1))
   else
    some (.inr (.inl ()))
  else
   some (.inr (.inr ()))
def ref03_Flags (a : List Bool) (b : List Bool) : Option Bool :=
 if (ieq (lenI a) (lenI b)) = true then
  Option.bind (loopF (ref03_Flags_B0 a b) 0) fun r => match r with
  | .inl () =>
   some false
  | .inr () =>
   some true
 else
  some false
def ref03_Clause_B0 (c : List Int) (m : List Bool) (x82 : Int) (p : Int) : Option (Int ⊕ (Unit ⊕ Unit)) := match p with
 | x109 =>
  if (ilt x109 (lenI m)) = true then
   Option.bind (getI m x109) fun v111 =>
   if v111 = true then
    Option.bind (getI c x82) fun v114 =>
    if (ieq v114 (iadd IntKind.i64 x109 1)) = true then
     some (.inr (.inl ()))
    else
     some (.inl (iadd IntKind.i64 x109 1))
   else
    Option.bind (getI c x82) fun v117 =>
    if (ieq v117 (isub IntKind.i64 (ineg IntKind.i64 x109) 1)) = true then
     some (.inr (.inl ()))
    else
     some (.inl (iadd IntKind.i64 x109 1))
  else
   some (.inr (.inr ()))
def ref03_Clause_B1 (c : List Int) (m : List Bool) (p : Int) : Option (Int ⊕ (Unit ⊕ Unit)) := match p with
 | x82 =>
  if (ilt x82 (lenI c)) = true then
   Option.bind (loopF (ref03_Clause_B0 c m x82) 0) fun r => match r with
   | .inl () =>
    some (.inr (.inl ()))
   | .inr () =>
    some (.inl (iadd IntKind.i64 x82 1))
  else
   some (.inr (.inr ()))
def ref03_Clause (c : List Int) (m : List Bool) : Option Bool :=
 Option.bind (loopF (ref03_Clause_B1 c m) 0) fun r => match r with
 | .inl () =>
  some true
 | .inr () =>
  some false
def ref03_Holds_B0 (f_ : Cnf) (m : List Bool) (p : Int) : Option (Int ⊕ (Unit ⊕ Unit)) := match p with
 | x16 =>
  if (ilt x16 (lenI f_.cs)) = true then
   Option.bind (getI f_.cs x16) fun v18 =>
   Option.bind (ref03_Clause v18 m) fun v20 =>
   if v20 = true then
    some (.inl (iadd IntKind.i64 x16 1))
   else
    some (.inr (.inl ()))
  else
   some (.inr (.inr ()))
def ref03_Holds (f_ : Cnf) (m : List Bool) : Option Bool :=
 Option.bind (loopF (ref03_Holds_B0 f_ m) 0) fun r => match r with
 | .inl () =>
  some false
 | .inr () =>
  some true
def ref03_Small_B0 (f_ : Cnf) (most : Int) (p : Int) : Option (Int ⊕ (Unit ⊕ Unit)) := match p with
 | x13 =>
  if (ilt x13 (lenI f_.cs)) = true then
   Option.bind (getI f_.cs x13) fun v15 =>
   if (ilt most (lenI v15)) = true then
    some (.inr (.inl ()))
   else
    some (.inl (iadd IntKind.i64 x13 1))
  else
   some (.inr (.inr ()))
def ref03_Small (f_ : Cnf) (most : Int) : Option Bool :=
 if (ilt most (lenI f_.cs)) = true then
  some false
 else
  Option.bind (loopF (ref03_Small_B0 f_ most) 0) fun r => match r with
  | .inl () =>
   some false
  | .inr () =>
   some true
def ref03_Print_B0 (f_ : Cnf) (x97 : Int) (p : ByteArray × Int) : Option ((ByteArray × Int) ⊕ ByteArray) := match p with
 | (x123, x124) =>
  Option.bind (getI f_.cs x97) fun v125 =>
  if (ilt x124 (lenI v125)) = true then
   Option.bind (getI v125 x124) fun v128 =>
   Option.bind (ref03_Figures v128) fun v130 =>
   if (addOk x123 v130) = true then
    if (addOk (x123 ++ v130) { data := #[32] }) = true then
     some (.inl (((x123 ++ v130 ++ { data := #[32] }), (iadd IntKind.i64 x124 1))))
    else
     none
   else
    none
  else
   some (.inr x123)
def ref03_Print_B1 (f_ : Cnf) (p : ByteArray × Int) : Option ((ByteArray × Int) ⊕ ByteArray) := match p with
 | (x96, x97) =>
  if (ilt x97 (lenI f_.cs)) = true then
   Option.bind (loopF (ref03_Print_B0 f_ x97) (x96, 0)) fun y134 =>
   if (addOk y134 { data := #[48, 10] }) = true then
    some (.inl (((y134 ++ { data := #[48, 10] }), (iadd IntKind.i64 x97 1))))
   else
    none
  else
   some (.inr x96)
def ref03_Print (f_ : Cnf) : Option (ByteArray × Int) :=
 Option.bind (ref03_Right f_) fun v0 =>
 if v0 = true then
  Option.bind (ref03_Figures f_.N) fun v3 =>
  if (addOk { data := #[112, 32, 99, 110, 102, 32] } v3) = true then
   if (addOk ({ data := #[112, 32, 99, 110, 102, 32] } ++ v3) { data := #[32] }) = true then
    Option.bind (ref03_Figures (lenI f_.cs)) fun v7 =>
    if (addOk ({ data := #[112, 32, 99, 110, 102, 32] } ++ v3 ++ { data := #[32] }) v7) = true then
     if (addOk ({ data := #[112, 32, 99, 110, 102, 32] } ++ v3 ++ { data := #[32] } ++ v7) { data := #[10] }) = true then
      Option.bind (loopF (ref03_Print_B1 f_) ((({ data := #[112, 32, 99, 110, 102, 32] } ++ v3 ++ { data := #[32] } ++ v7 ++ { data := #[10] }), 0))) fun y138 =>
      some (y138, 0)
     else
      none
    else
     none
   else
    none
  else
   none
 else
  some ((({ data := #[] }), 1))
def ref03_Parse_B0 (b : List Int) (v3 : Int) (v8 : Int) (p : ((List (List Int))) × (List Int) × Int × Int × Int) : Option ((((List (List Int))) × (List Int) × Int × Int × Int) ⊕ (((List (List Int))) × (List Int) × Int × Int)) := match p with
 | (x59, x60, x61, x62, x63) =>
  if (ilt x63 v8) = true then
   if (ieq x62 0) = true then
    Option.bind (ref03_Lits ({ b := x60, n := x61, bad := x62 } : At_ref03) v3) fun (v66, v67) =>
    if (capN (lenN (x59 ++ [v66])) 24) = true then
     some (.inl (((x59 ++ [v66]), v67.b, v67.n, v67.bad, (iadd IntKind.i64 x63 1))))
    else
     none
   else
    some (.inr (x59, x60, x61, x62))
  else
   some (.inr (x59, x60, x61, x62))
def ref03_Parse (b : List Int) : Option (Cnf × Int × Int) :=
 if (ilt 100000 (lenI b)) = true then
  some ((({ N := 0, cs := ([] : List (List Int)) } : Cnf), 0, 3))
 else
  Option.bind (ref03_Word ({ b := b, n := 0, bad := 0 } : At_ref03) ({ data := #[112, 32, 99, 110, 102, 32] })) fun v1 =>
  Option.bind (ref03_Number v1 100000) fun (v3, v4) =>
  Option.bind (ref03_Word v4 ({ data := #[32] })) fun v6 =>
  Option.bind (ref03_Number v6 20000) fun (v8, v9) =>
  Option.bind (ref03_Word v9 ({ data := #[10] })) fun v11 =>
  if (ilt 0 v8) = true then
   if (ieq v11.bad 0) = true then
    Option.bind (ref03_Lits v11 v3) fun (v29, v30) =>
    if (capN 1 24) = true then
     Option.bind (loopF (ref03_Parse_B0 b v3 v8) (([v29], v30.b, v30.n, v30.bad, (iadd IntKind.i64 0 1)))) fun (y70, y71, y72, y73) =>
     Option.bind (ref03_End ({ b := y71, n := y72, bad := y73 } : At_ref03)) fun v74 =>
     if (ieq v74.bad 0) = true then
      some ((({ N := v3, cs := y70 } : Cnf), v74.n, 0))
     else
      some ((({ N := 0, cs := ([] : List (List Int)) } : Cnf), v74.n, v74.bad))
    else
     none
   else
    Option.bind (ref03_End v11) fun v79 =>
    if (ieq v79.bad 0) = true then
     some ((({ N := v3, cs := ([] : List (List Int)) } : Cnf), v79.n, 0))
    else
     some ((({ N := 0, cs := ([] : List (List Int)) } : Cnf), v79.n, v79.bad))
  else
   Option.bind (ref03_End v11) fun v82 =>
   if (ieq v82.bad 0) = true then
    some ((({ N := v3, cs := ([] : List (List Int)) } : Cnf), v82.n, 0))
   else
    some ((({ N := 0, cs := ([] : List (List Int)) } : Cnf), v82.n, v82.bad))
def ref03_PrintModel_B0 (m : List Bool) (p : ByteArray × Int) : Option ((ByteArray × Int) ⊕ ByteArray) := match p with
 | (x29, x30) =>
  if (ilt x30 (lenI m)) = true then
   Option.bind (getI m x30) fun v32 =>
   if v32 = true then
    Option.bind (ref03_Figures (iadd IntKind.i64 x30 1)) fun v35 =>
    if (addOk x29 v35) = true then
     if (addOk (x29 ++ v35) { data := #[32] }) = true then
      some (.inl (((x29 ++ v35 ++ { data := #[32] }), (iadd IntKind.i64 x30 1))))
     else
      none
    else
     none
   else
    Option.bind (ref03_Figures ((isub IntKind.i64 (ineg IntKind.i64 x30) 1))) fun v39 =>
    if (addOk x29 v39) = true then
     if (addOk (x29 ++ v39) { data := #[32] }) = true then
      some (.inl (((x29 ++ v39 ++ { data := #[32] }), (iadd IntKind.i64 x30 1))))
     else
      none
    else
     none
  else
   some (.inr x29)
def ref03_PrintModel (m : List Bool) : Option ByteArray :=
 Option.bind (loopF (ref03_PrintModel_B0 m) ((({ data := #[118, 32] }), 0))) fun y43 =>
 if (addOk y43 { data := #[48, 10] }) = true then
  some (y43 ++ { data := #[48, 10] })
 else
  none
def ref03_ParseModel_B0 (b : List Int) (n : Int) (p : (List Bool) × (List Int) × Int × Int × Int) : Option (((List Bool) × (List Int) × Int × Int × Int) ⊕ ((List Bool) × (List Int) × Int × Int)) := match p with
 | (x47, x48, x49, x50, x51) =>
  if (ilt x51 n) = true then
   if (ieq x50 0) = true then
    Option.bind (ref03_Word ({ b := x48, n := x49, bad := x50 } : At_ref03) ({ data := #[45] })) fun v54 =>
    if (ieq v54.bad 0) = true then
     if (capN (lenN (x47 ++ [false])) 1) = true then
      Option.bind (ref03_Figures (iadd IntKind.i64 x51 1)) fun v58 =>
      if (addOk v58 { data := #[32] }) = true then
       Option.bind (ref03_Word v54 (v58 ++ { data := #[32] })) fun v61 =>
       some (.inl (((x47 ++ [false]), v61.b, v61.n, v61.bad, (iadd IntKind.i64 x51 1))))
      else
       none
     else
      none
    else
     if (capN (lenN (x47 ++ [true])) 1) = true then
      Option.bind (ref03_Figures (iadd IntKind.i64 x51 1)) fun v64 =>
      if (addOk v64 { data := #[32] }) = true then
       Option.bind (ref03_Word ({ b := x48, n := x49, bad := x50 } : At_ref03) (v64 ++ { data := #[32] })) fun v67 =>
       some (.inl (((x47 ++ [true]), v67.b, v67.n, v67.bad, (iadd IntKind.i64 x51 1))))
      else
       none
     else
      none
   else
    some (.inr (x47, x48, x49, x50))
  else
   some (.inr (x47, x48, x49, x50))
def ref03_ParseModel (b : List Int) (n : Int) : Option ((List Bool) × Int × Int) :=
 Option.bind (ref03_Word ({ b := b, n := 0, bad := 0 } : At_ref03) ({ data := #[118, 32] })) fun v0 =>
 Option.bind (loopF (ref03_ParseModel_B0 b n) ([], v0.b, v0.n, v0.bad, 0)) fun (y69, y70, y71, y72) =>
 Option.bind (ref03_Word ({ b := y70, n := y71, bad := y72 } : At_ref03) ({ data := #[48, 10] })) fun v73 =>
 Option.bind (ref03_End v73) fun v75 =>
 if (ieq v75.bad 0) = true then
  some (y69, v75.n, 0)
 else
  some ((([] : List Bool), v75.n, v75.bad))
def law03_shown : Option Bool :=
 Option.bind (cnf_Print (({ N := 2, cs := ([[1, -2]]) } : Cnf))) fun (v0, v1) =>
 Option.bind (cnf_Parse (bytesOf v0)) fun (v3, v4, v5) =>
 Option.bind (cnf_ParseModel ([118, 32, 45, 49, 32, 45, 50, 32, 48, 10]) 2) fun (v7, v8, v9) =>
 if (ieq v1 0) = true then
  if (seq v0 { data := #[112, 32, 99, 110, 102, 32, 50, 32, 49, 10, 49, 32, 45, 50, 32, 48, 10] }) = true then
   if (ieq v5 0) = true then
    if (ieq v4 17) = true then
     Option.bind (cnf_Same (({ N := 2, cs := ([[1, -2]]) } : Cnf)) v3) fun v15 =>
     if v15 = true then
      if (ieq v9 0) = true then
       if (ieq v8 10) = true then
        if (ieq (lenI v7) 2) = true then
         Option.bind (cnf_Holds (({ N := 2, cs := ([[1, -2]]) } : Cnf)) v7) fun v21 =>
         if v21 = true then
          if (inI 1 0) = true then
           Option.bind (cnf_Clause ([1, -2]) v7) fun v25 =>
           if v25 = true then
            Option.bind (cnf_PrintModel v7) fun v28 =>
            if (seq v28 { data := #[118, 32, 45, 49, 32, 45, 50, 32, 48, 10] }) = true then
             Option.bind (cnf_Right (({ N := 2, cs := ([[1, -2]]) } : Cnf))) fun v31 =>
             some v31
            else
             some false
           else
            some false
          else
           none
         else
          some false
        else
         some false
       else
        some false
      else
       some false
     else
      some false
    else
     some false
   else
    some false
  else
   some false
 else
  some false
end Go.Vid

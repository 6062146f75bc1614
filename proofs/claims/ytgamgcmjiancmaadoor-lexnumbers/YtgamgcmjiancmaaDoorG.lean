/- The seat's functions, plainly. No condition. -/
import Derived.Test.YtgamgcmjiancmaaDoorS
import Derived.Test.YtgamgcmjiancmaaDoorGl
set_option linter.unusedVariables false
namespace Go.Vid
open Go.Vabs
def lex_isPlace (b : List Int) (at_ : Int) : Option Bool :=
  if (ile 0 at_) = true then
    some ((ile at_ (lenI b)))
  else
    some false
def lex_Ones_1 (c : Int) : Option Bool :=
  if (ieq c 48) = true then
    some true
  else
    some (ieq c 49)
def lex_Number_1 (c : Int) : Option Bool :=
  if (ile 48 c) = true then
    some (ile c 57)
  else
    some false
def lex_run_1_ones (r_ : Int) : Option Bool :=
  if (ile 128 r_) = true then
    some true
  else
    Option.bind (lex_Ones_1 (iconv IntKind.u8 r_)) fun v1 =>
    some (bnot v1)
def lex_run_1_figs (r_ : Int) : Option Bool :=
  if (ile 128 r_) = true then
    some true
  else
    Option.bind (lex_Number_1 (iconv IntKind.u8 r_)) fun v1 =>
    some (bnot v1)
def unicode_utf8_decodeRuneInStringSlow (s : ByteArray) : Option (Int × Int) :=
  if (ilt (sizI s) 1) = true then
    some (65533, 0)
  else
    Option.bind (getB s 0) fun v1 =>
    if (inI 256 v1) = true then
      Option.bind (tabI first v1) fun v4 =>
      if (ile 240 v4) = true then
        if (ilt 31 0) = true then
          none
        else
          some (((bor IntKind.i32 (iandn IntKind.i32 (iconv IntKind.i32 v1) (ishr IntKind.i32 (ishl IntKind.i32 (iconv IntKind.i32 v4) 31) 31)) (band IntKind.i32 65533 (ishr IntKind.i32 (ishl IntKind.i32 (iconv IntKind.i32 v4) 31) 31))), 1))
      else
        if (ilt 4 0) = true then
          none
        else
          if (inI 16 (ishr IntKind.u8 v4 4)) = true then
            Option.bind (tabI ranges (ishr IntKind.u8 v4 4)) fun v10 =>
            if (ilt (sizI s) (iconv IntKind.i64 (band IntKind.u8 v4 7))) = true then
              some (65533, 1)
            else
              Option.bind (getB s 1) fun v13 =>
              if (ilt v13 v10.fst) = true then
                some (65533, 1)
              else
                if (ilt v10.snd v13) = true then
                  some (65533, 1)
                else
                  if (ile (iconv IntKind.i64 (band IntKind.u8 v4 7)) 2) = true then
                    if (ilt 6 0) = true then
                      none
                    else
                      some (((bor IntKind.i32 (ishl IntKind.i32 (iconv IntKind.i32 (band IntKind.u8 v1 31)) 6) (iconv IntKind.i32 (band IntKind.u8 v13 63))), 2))
                  else
                    Option.bind (getB s 2) fun v19 =>
                    if (ilt v19 128) = true then
                      some (65533, 1)
                    else
                      if (ilt 191 v19) = true then
                        some (65533, 1)
                      else
                        if (ile (iconv IntKind.i64 (band IntKind.u8 v4 7)) 3) = true then
                          if (ilt 12 0) = true then
                            none
                          else
                            if (ilt 6 0) = true then
                              none
                            else
                              some (((bor IntKind.i32 (bor IntKind.i32 (ishl IntKind.i32 (iconv IntKind.i32 (band IntKind.u8 v1 15)) 12) (ishl IntKind.i32 (iconv IntKind.i32 (band IntKind.u8 v13 63)) 6)) (iconv IntKind.i32 (band IntKind.u8 v19 63))), 3))
                        else
                          Option.bind (getB s 3) fun v26 =>
                          if (ilt v26 128) = true then
                            some (65533, 1)
                          else
                            if (ilt 191 v26) = true then
                              some (65533, 1)
                            else
                              if (ilt 18 0) = true then
                                none
                              else
                                if (ilt 12 0) = true then
                                  none
                                else
                                  if (ilt 6 0) = true then
                                    none
                                  else
                                    some (((bor IntKind.i32 (bor IntKind.i32 (bor IntKind.i32 (ishl IntKind.i32 (iconv IntKind.i32 (band IntKind.u8 v1 7)) 18) (ishl IntKind.i32 (iconv IntKind.i32 (band IntKind.u8 v13 63)) 12)) (ishl IntKind.i32 (iconv IntKind.i32 (band IntKind.u8 v19 63)) 6)) (iconv IntKind.i32 (band IntKind.u8 v26 63))), 4))
          else
            none
    else
      none
def unicode_utf8_decodeRuneSlow (p_ : List Int) : Option (Int × Int) :=
  if (ilt (lenI p_) 1) = true then
    some (65533, 0)
  else
    Option.bind (getI p_ 0) fun v1 =>
    if (inI 256 v1) = true then
      Option.bind (tabI first v1) fun v4 =>
      if (ile 240 v4) = true then
        if (ilt 31 0) = true then
          none
        else
          some (((bor IntKind.i32 (iandn IntKind.i32 (iconv IntKind.i32 v1) (ishr IntKind.i32 (ishl IntKind.i32 (iconv IntKind.i32 v4) 31) 31)) (band IntKind.i32 65533 (ishr IntKind.i32 (ishl IntKind.i32 (iconv IntKind.i32 v4) 31) 31))), 1))
      else
        if (ilt 4 0) = true then
          none
        else
          if (inI 16 (ishr IntKind.u8 v4 4)) = true then
            Option.bind (tabI ranges (ishr IntKind.u8 v4 4)) fun v10 =>
            if (ilt (lenI p_) (iconv IntKind.i64 (band IntKind.u8 v4 7))) = true then
              some (65533, 1)
            else
              Option.bind (getI p_ 1) fun v13 =>
              if (ilt v13 v10.fst) = true then
                some (65533, 1)
              else
                if (ilt v10.snd v13) = true then
                  some (65533, 1)
                else
                  if (ile (iconv IntKind.i64 (band IntKind.u8 v4 7)) 2) = true then
                    if (ilt 6 0) = true then
                      none
                    else
                      some (((bor IntKind.i32 (ishl IntKind.i32 (iconv IntKind.i32 (band IntKind.u8 v1 31)) 6) (iconv IntKind.i32 (band IntKind.u8 v13 63))), 2))
                  else
                    Option.bind (getI p_ 2) fun v19 =>
                    if (ilt v19 128) = true then
                      some (65533, 1)
                    else
                      if (ilt 191 v19) = true then
                        some (65533, 1)
                      else
                        if (ile (iconv IntKind.i64 (band IntKind.u8 v4 7)) 3) = true then
                          if (ilt 12 0) = true then
                            none
                          else
                            if (ilt 6 0) = true then
                              none
                            else
                              some (((bor IntKind.i32 (bor IntKind.i32 (ishl IntKind.i32 (iconv IntKind.i32 (band IntKind.u8 v1 15)) 12) (ishl IntKind.i32 (iconv IntKind.i32 (band IntKind.u8 v13 63)) 6)) (iconv IntKind.i32 (band IntKind.u8 v19 63))), 3))
                        else
                          Option.bind (getI p_ 3) fun v26 =>
                          if (ilt v26 128) = true then
                            some (65533, 1)
                          else
                            if (ilt 191 v26) = true then
                              some (65533, 1)
                            else
                              if (ilt 18 0) = true then
                                none
                              else
                                if (ilt 12 0) = true then
                                  none
                                else
                                  if (ilt 6 0) = true then
                                    none
                                  else
                                    some (((bor IntKind.i32 (bor IntKind.i32 (bor IntKind.i32 (ishl IntKind.i32 (iconv IntKind.i32 (band IntKind.u8 v1 7)) 18) (ishl IntKind.i32 (iconv IntKind.i32 (band IntKind.u8 v13 63)) 12)) (ishl IntKind.i32 (iconv IntKind.i32 (band IntKind.u8 v19 63)) 6)) (iconv IntKind.i32 (band IntKind.u8 v26 63))), 4))
          else
            none
    else
      none
def unicode_utf8_DecodeRuneInString (s : ByteArray) : Option (Int × Int) :=
  if (seq s { data := #[] }) = true then
    Option.bind (unicode_utf8_decodeRuneInStringSlow s) fun (v1, v2) =>
    some (v1, v2)
  else
    Option.bind (getB s 0) fun v4 =>
    if (ilt v4 128) = true then
      some (((iconv IntKind.i32 v4), 1))
    else
      Option.bind (unicode_utf8_decodeRuneInStringSlow s) fun (v7, v8) =>
      some (v7, v8)
def unicode_utf8_DecodeRune_B0 (p_ : List Int) (p : Unit) : Option (Unit ⊕ (Int ⊕ Unit)) := match p with
  | () =>
    if (ilt 0 (lenI p_)) = true then
      Option.bind (getI p_ 0) fun v13 =>
      if (ilt v13 128) = true then
        some (.inr (.inl (iconv IntKind.i32 v13)))
      else
        some (.inr (.inr ()))
    else
      some (.inr (.inr ()))
def unicode_utf8_DecodeRune (p_ : List Int) : Option (Int × Int) :=
  Option.bind (loopF (unicode_utf8_DecodeRune_B0 p_) ()) fun r => match r with
  | .inl y16 =>
    some (y16, 1)
  | .inr () =>
    Option.bind (unicode_utf8_decodeRuneSlow p_) fun (v17, v18) =>
    some (v17, v18)
def bytes_indexFunc_ones_B0 (s : List Int) (p : Int) : Option (Int ⊕ (Int ⊕ Unit)) := match p with
  | x20 =>
    if (ilt x20 (lenI s)) = true then
      if (cutOk (lenN s) x20 (lenI s)) = true then
        Option.bind (unicode_utf8_DecodeRune ((cut s x20 (lenI s)))) fun (v23, v24) =>
        Option.bind (lex_run_1_ones v23) fun v26 =>
        if (beq2 v26 true) = true then
          some (.inr (.inl x20))
        else
          some (.inl (iadd IntKind.i64 x20 v24))
      else
        none
    else
      some (.inr (.inr ()))
def bytes_indexFunc_ones (s : List Int) : Option Int :=
  Option.bind (loopF (bytes_indexFunc_ones_B0 s) 0) fun r => match r with
  | .inl y29 =>
    some y29
  | .inr () =>
    some (-1)
def bytes_indexFunc_figs_B0 (s : List Int) (p : Int) : Option (Int ⊕ (Int ⊕ Unit)) := match p with
  | x20 =>
    if (ilt x20 (lenI s)) = true then
      if (cutOk (lenN s) x20 (lenI s)) = true then
        Option.bind (unicode_utf8_DecodeRune ((cut s x20 (lenI s)))) fun (v23, v24) =>
        Option.bind (lex_run_1_figs v23) fun v26 =>
        if (beq2 v26 true) = true then
          some (.inr (.inl x20))
        else
          some (.inl (iadd IntKind.i64 x20 v24))
      else
        none
    else
      some (.inr (.inr ()))
def bytes_indexFunc_figs (s : List Int) : Option Int :=
  Option.bind (loopF (bytes_indexFunc_figs_B0 s) 0) fun r => match r with
  | .inl y29 =>
    some y29
  | .inr () =>
    some (-1)
def bytes_IndexFunc_ones (s : List Int) : Option Int :=
  Option.bind (bytes_indexFunc_ones s) fun v0 =>
  some v0
def bytes_IndexFunc_figs (s : List Int) : Option Int :=
  Option.bind (bytes_indexFunc_figs s) fun v0 =>
  some v0
def lex_run_ones (b : List Int) (at_ : Int) : Option Int :=
  if (cutOk (lenN b) at_ (lenI b)) = true then
    Option.bind (bytes_IndexFunc_ones ((cut b at_ (lenI b)))) fun v1 =>
    if (ilt v1 0) = true then
      some (lenI b)
    else
      some (iadd IntKind.i64 at_ v1)
  else
    none
def lex_run_figs (b : List Int) (at_ : Int) : Option Int :=
  if (cutOk (lenN b) at_ (lenI b)) = true then
    Option.bind (bytes_IndexFunc_figs ((cut b at_ (lenI b)))) fun v1 =>
    if (ilt v1 0) = true then
      some (lenI b)
    else
      some (iadd IntKind.i64 at_ v1)
  else
    none
def internal_stringslite_HasPrefix (s : ByteArray) (prefix_ : ByteArray) : Option Bool :=
  if (ile (sizI prefix_) (sizI s)) = true then
    if (cutOk s.size 0 (sizI prefix_)) = true then
      some ((seq (cutB s 0 (sizI prefix_)) prefix_))
    else
      none
  else
    some false
def strings_HasPrefix (s : ByteArray) (prefix_ : ByteArray) : Option Bool :=
  Option.bind (internal_stringslite_HasPrefix s prefix_) fun v0 =>
  some v0
def lex_Is (b : List Int) (at_ : Int) (s : ByteArray) : Option (Int × Bool) :=
  Option.bind (lex_isPlace b at_) fun v0 =>
  if v0 = true then
    if (cutOk (lenN b) at_ (lenI b)) = true then
      Option.bind (strings_HasPrefix ((strOf (cut b at_ (lenI b)))) s) fun v4 =>
      if v4 = true then
        some (((iadd IntKind.i64 at_ (sizI s)), true))
      else
        some (at_, false)
    else
      none
  else
    some (0, false)
def internal_stringslite_IndexByte (s : ByteArray) (c : Int) : Option Int :=
  some (findB s c)
def internal_stringslite_Index_nl (s : ByteArray) : Option Int :=
  if (seq { data := #[10] } s) = true then
    some 0
  else
    Option.bind (getB { data := #[10] } 0) fun v1 =>
    Option.bind (internal_stringslite_IndexByte s v1) fun v3 =>
    some v3
def internal_stringslite_Cut_nl (s : ByteArray) : Option (ByteArray × ByteArray × Bool) :=
  Option.bind (internal_stringslite_Index_nl s) fun v0 =>
  if (ile 0 v0) = true then
    if (cutOk s.size 0 v0) = true then
      if (cutOk s.size (iadd IntKind.i64 v0 1) (sizI s)) = true then
        some (((cutB s 0 v0), (cutB s (iadd IntKind.i64 v0 1) (sizI s)), true))
      else
        none
    else
      none
  else
    some ((s, ({ data := #[] }), false))
def strings_Cut_nl (s : ByteArray) : Option (ByteArray × ByteArray × Bool) :=
  Option.bind (internal_stringslite_Cut_nl s) fun (v0, v1, v2) =>
  some (v0, v1, v2)
def lex_IsName_B0 (s : ByteArray) (p : Int × Nat) : Option ((Int × Nat) ⊕ (Unit ⊕ Int)) := match p with
  | (x24, x25) =>
    if (isAt s x25) = true then
      if (cutOk s.size (ofN x25) (sizI s)) = true then
        Option.bind (unicode_utf8_DecodeRuneInString ((cutB s (ofN x25) (sizI s)))) fun (v28, v29) =>
        if (ilt (decR s x25) 32) = true then
          some (.inr (.inl ()))
        else
          if (ieq (decR s x25) 127) = true then
            some (.inr (.inl ()))
          else
            if (ieq (decR s x25) 65533) = true then
              if (ieq v29 1) = true then
                some (.inr (.inl ()))
              else
                some (.inl (((iadd IntKind.i64 x24 1), (x25 + decW s x25))))
            else
              some (.inl (((iadd IntKind.i64 x24 1), (x25 + decW s x25))))
      else
        none
    else
      some (.inr (.inr x24))
def lex_IsName (s : ByteArray) : Option Bool :=
  Option.bind (loopF (lex_IsName_B0 s) (0, 0)) fun r => match r with
  | .inl () =>
    some false
  | .inr y35 =>
    if (ilt 0 y35) = true then
      some (ile y35 40)
    else
      some false
def lex_Name (b : List Int) (at_ : Int) : Option (ByteArray × Int × Int) :=
  Option.bind (lex_isPlace b at_) fun v0 =>
  if v0 = true then
    if (cutOk (lenN b) at_ (lenI b)) = true then
      Option.bind (strings_Cut_nl ((strOf (cut b at_ (lenI b))))) fun (v4, v5, v6) =>
      Option.bind (lex_IsName v4) fun v8 =>
      if v8 = true then
        some ((v4, (iadd IntKind.i64 at_ (sizI v4)), 0))
      else
        some ((({ data := #[] }), at_, 2))
    else
      none
  else
    some ((({ data := #[] }), 0, 2))
def lex_Number_B0 (b : List Int) (at_ : Int) (most : Int) (v3 : Int) (p : Int × Int) : Option ((Int × Int) ⊕ (Unit ⊕ Int)) := match p with
  | (x28, x29) =>
    if (ilt x29 (lenI (cut b at_ v3))) = true then
      Option.bind (getI (cut b at_ v3) x29) fun v31 =>
      if (ilt (imin most 2147483647) (iadd IntKind.i64 (imul IntKind.i64 x28 10) (iconv IntKind.i64 (isub IntKind.u8 v31 48)))) = true then
        some (.inr (.inl ()))
      else
        some (.inl (((iadd IntKind.i64 (imul IntKind.i64 x28 10) (iconv IntKind.i64 (isub IntKind.u8 v31 48))), (iadd IntKind.i64 x29 1))))
    else
      some (.inr (.inr x28))
def lex_Number_B1 (b : List Int) (at_ : Int) (most : Int) (v3 : Int) (p : Int × Int) : Option ((Int × Int) ⊕ (Unit ⊕ Int)) := match p with
  | (x55, x56) =>
    if (ilt x56 (lenI (cut b at_ v3))) = true then
      Option.bind (getI (cut b at_ v3) x56) fun v58 =>
      if (ilt (imin most 2147483647) (iadd IntKind.i64 (imul IntKind.i64 x55 10) (iconv IntKind.i64 (isub IntKind.u8 v58 48)))) = true then
        some (.inr (.inl ()))
      else
        some (.inl (((iadd IntKind.i64 (imul IntKind.i64 x55 10) (iconv IntKind.i64 (isub IntKind.u8 v58 48))), (iadd IntKind.i64 x56 1))))
    else
      some (.inr (.inr x55))
def lex_Number (b : List Int) (at_ : Int) (most : Int) : Option (Int × Int × Int) :=
  Option.bind (lex_isPlace b at_) fun v0 =>
  if v0 = true then
    Option.bind (lex_run_figs b at_) fun v3 =>
    if (ieq v3 at_) = true then
      some (0, at_, 2)
    else
      Option.bind (getI b at_) fun v6 =>
      if (ieq v6 48) = true then
        if (ilt (iadd IntKind.i64 at_ 1) v3) = true then
          some (0, at_, 2)
        else
          if (cutOk (lenN b) at_ v3) = true then
            Option.bind (loopF (lex_Number_B0 b at_ most v3) (0, 0)) fun r => match r with
            | .inl () =>
              some (0, at_, 3)
            | .inr y34 =>
              some (y34, v3, 0)
          else
            none
      else
        if (cutOk (lenN b) at_ v3) = true then
          Option.bind (loopF (lex_Number_B1 b at_ most v3) (0, 0)) fun r => match r with
          | .inl () =>
            some (0, at_, 3)
          | .inr y61 =>
            some (y61, v3, 0)
        else
          none
  else
    some (0, 0, 2)
def lex_Ones (b : List Int) (at_ : Int) (most : Int) : Option (ByteArray × Int × Int) :=
  Option.bind (lex_isPlace b at_) fun v0 =>
  if v0 = true then
    Option.bind (lex_run_ones b at_) fun v3 =>
    if (ieq v3 at_) = true then
      some ((({ data := #[] }), at_, 2))
    else
      if (ilt most (isub IntKind.i64 v3 at_)) = true then
        some ((({ data := #[] }), at_, 3))
      else
        if (cutOk (lenN b) at_ v3) = true then
          some (((strOf (cut b at_ v3)), v3, 0))
        else
          none
  else
    some ((({ data := #[] }), 0, 2))
def lex_Signed (b : List Int) (at_ : Int) (most : Int) : Option (Int × Int × Int) :=
  Option.bind (lex_isPlace b at_) fun v0 =>
  if v0 = true then
    Option.bind (lex_Is b at_ ({ data := #[45] })) fun (v3, v4) =>
    Option.bind (lex_Number b v3 most) fun (v6, v7, v8) =>
    if v4 = true then
      if (ieq v8 0) = true then
        if (ieq v6 0) = true then
          some (0, at_, 2)
        else
          some (((ineg IntKind.i64 v6), v7, 0))
      else
        some (0, at_, v8)
    else
      some (v6, v7, v8)
  else
    some (0, 0, 2)
def lex_Take_B0 (b : List Int) (at_ : Int) (p : Int × Int) : Option ((Int × Int) ⊕ ((Int × Int × Int) ⊕ Unit)) := match p with
  | (x41, x42) =>
    if (ilt x42 (lenI (cut b at_ (lenI b)))) = true then
      Option.bind (getI (cut b at_ (lenI b)) x42) fun v44 =>
      if (ilt (imul IntKind.i64 7 x42) 0) = true then
        none
      else
        if (ilt 2147483647 (iadd IntKind.i64 x41 (ishl IntKind.i64 (iconv IntKind.i64 (irem v44 128)) (imul IntKind.i64 7 x42)))) = true then
          some (.inr (.inl (0, at_, 2)))
        else
          if (ilt 0 x42) = true then
            if (ieq v44 0) = true then
              some (.inr (.inl (0, at_, 2)))
            else
              if (ieq x42 4) = true then
                if (ile 128 v44) = true then
                  some (.inr (.inl (0, at_, 2)))
                else
                  if (ilt v44 128) = true then
                    some (.inr (.inl (((iadd IntKind.i64 x41 (ishl IntKind.i64 (iconv IntKind.i64 (irem v44 128)) (imul IntKind.i64 7 x42))), (iadd IntKind.i64 (iadd IntKind.i64 at_ x42) 1), 0))))
                  else
                    some (.inl (((iadd IntKind.i64 x41 (ishl IntKind.i64 (iconv IntKind.i64 (irem v44 128)) (imul IntKind.i64 7 x42))), (iadd IntKind.i64 x42 1))))
              else
                if (ilt v44 128) = true then
                  some (.inr (.inl (((iadd IntKind.i64 x41 (ishl IntKind.i64 (iconv IntKind.i64 (irem v44 128)) (imul IntKind.i64 7 x42))), (iadd IntKind.i64 (iadd IntKind.i64 at_ x42) 1), 0))))
                else
                  some (.inl (((iadd IntKind.i64 x41 (ishl IntKind.i64 (iconv IntKind.i64 (irem v44 128)) (imul IntKind.i64 7 x42))), (iadd IntKind.i64 x42 1))))
          else
            if (ieq x42 4) = true then
              if (ile 128 v44) = true then
                some (.inr (.inl (0, at_, 2)))
              else
                if (ilt v44 128) = true then
                  some (.inr (.inl (((iadd IntKind.i64 x41 (ishl IntKind.i64 (iconv IntKind.i64 (irem v44 128)) (imul IntKind.i64 7 x42))), (iadd IntKind.i64 (iadd IntKind.i64 at_ x42) 1), 0))))
                else
                  some (.inl (((iadd IntKind.i64 x41 (ishl IntKind.i64 (iconv IntKind.i64 (irem v44 128)) (imul IntKind.i64 7 x42))), (iadd IntKind.i64 x42 1))))
            else
              if (ilt v44 128) = true then
                some (.inr (.inl (((iadd IntKind.i64 x41 (ishl IntKind.i64 (iconv IntKind.i64 (irem v44 128)) (imul IntKind.i64 7 x42))), (iadd IntKind.i64 (iadd IntKind.i64 at_ x42) 1), 0))))
              else
                some (.inl (((iadd IntKind.i64 x41 (ishl IntKind.i64 (iconv IntKind.i64 (irem v44 128)) (imul IntKind.i64 7 x42))), (iadd IntKind.i64 x42 1))))
    else
      some (.inr (.inr ()))
def lex_Take (b : List Int) (at_ : Int) : Option (Int × Int × Int) :=
  Option.bind (lex_isPlace b at_) fun v0 =>
  if v0 = true then
    if (cutOk (lenN b) at_ (lenI b)) = true then
      Option.bind (loopF (lex_Take_B0 b at_) (0, 0)) fun r => match r with
      | .inl (y58, y59, y60) =>
        some (y58, y59, y60)
      | .inr () =>
        some (0, at_, 2)
    else
      none
  else
    some (0, 0, 2)
def ref01_Take_B0 (b : List Int) (at_ : Int) (p : Int × Int × Int) : Option ((Int × Int × Int) ⊕ ((Int × Int × Int) ⊕ Unit)) := match p with
  | (x26, x27, x28) =>
    if (ilt x28 5) = true then
      if (ilt x28 (isub IntKind.i64 (lenI b) at_)) = true then
        Option.bind (getI b (iadd IntKind.i64 at_ x28)) fun v31 =>
        if (ilt (iconv IntKind.i64 v31) 128) = true then
          if (ilt 2147483647 (iadd IntKind.i64 x26 (imul IntKind.i64 (irem (iconv IntKind.i64 v31) 128) x27))) = true then
            some (.inr (.inl (0, at_, 2)))
          else
            if (ilt 0 x28) = true then
              if (ieq (iconv IntKind.i64 v31) 0) = true then
                some (.inr (.inl (0, at_, 2)))
              else
                some (.inr (.inl (((iadd IntKind.i64 x26 (imul IntKind.i64 (irem (iconv IntKind.i64 v31) 128) x27)), (iadd IntKind.i64 (iadd IntKind.i64 at_ x28) 1), 0))))
            else
              some (.inr (.inl (((iadd IntKind.i64 x26 (imul IntKind.i64 (irem (iconv IntKind.i64 v31) 128) x27)), (iadd IntKind.i64 (iadd IntKind.i64 at_ x28) 1), 0))))
        else
          some (.inl (((iadd IntKind.i64 x26 (imul IntKind.i64 (irem (iconv IntKind.i64 v31) 128) x27)), (imul IntKind.i64 x27 128), (iadd IntKind.i64 x28 1))))
      else
        some (.inr (.inr ()))
    else
      some (.inr (.inr ()))
def ref01_Take (b : List Int) (at_ : Int) : Option (Int × Int × Int) :=
  if (ilt at_ 0) = true then
    some (0, 0, 2)
  else
    if (ilt (lenI b) at_) = true then
      some (0, 0, 2)
    else
      Option.bind (loopF (ref01_Take_B0 b at_) (0, 1, 0)) fun r => match r with
      | .inl (y37, y38, y39) =>
        some (y37, y38, y39)
      | .inr () =>
        some (0, at_, 2)
def lex_Put_B0 (p : (List Int) × Int) : Option (((List Int) × Int) ⊕ ((List Int) × Int)) := match p with
  | (x12, x13) =>
    if (ile 128 x13) = true then
      if (capN (lenN (x12 ++ [bor IntKind.u8 (iconv IntKind.u8 x13) 128])) 1) = true then
        if (ilt 7 0) = true then
          none
        else
          some (.inl (((x12 ++ [bor IntKind.u8 (iconv IntKind.u8 x13) 128]), (ishr IntKind.i64 x13 7))))
      else
        none
    else
      some (.inr (x12, x13))
def lex_Put (n : Int) : Option (List Int) :=
  if (ilt n 0) = true then
    some ([] : List Int)
  else
    if (ilt 2147483647 n) = true then
      some ([] : List Int)
    else
      Option.bind (loopF (lex_Put_B0) ([], n)) fun (y17, y18) =>
      if (capN (lenN (y17 ++ [iconv IntKind.u8 y18])) 1) = true then
        some (y17 ++ [iconv IntKind.u8 y18])
      else
        none
def ref01_Put_B0 (p : (List Int) × Int) : Option (((List Int) × Int) ⊕ ((List Int) × Int)) := match p with
  | (x10, x11) =>
    if (ilt 127 x11) = true then
      if (capN (lenN (x10 ++ [iconv IntKind.u8 (iadd IntKind.i64 128 (irem x11 128))])) 1) = true then
        some (.inl (((x10 ++ [iconv IntKind.u8 (iadd IntKind.i64 128 (irem x11 128))]), (iquo IntKind.i64 x11 128))))
      else
        none
    else
      some (.inr (x10, x11))
def ref01_Put (n : Int) : Option (List Int) :=
  if (ilt n 0) = true then
    some ([] : List Int)
  else
    if (ilt 2147483647 n) = true then
      some ([] : List Int)
    else
      Option.bind (loopF (ref01_Put_B0) ([], n)) fun (y14, y15) =>
      if (capN (lenN (y14 ++ [iconv IntKind.u8 y15])) 1) = true then
        some (y14 ++ [iconv IntKind.u8 y15])
      else
        none
def ref01_Row_B0 (a : List Int) (b : List Int) (p : Int) : Option (Int ⊕ (Unit ⊕ Unit)) := match p with
  | x17 =>
    if (ilt x17 (lenI a)) = true then
      Option.bind (getI a x17) fun v19 =>
      Option.bind (getI b x17) fun v21 =>
      if (ieq v19 v21) = true then
        some (.inl (iadd IntKind.i64 x17 1))
      else
        some (.inr (.inl ()))
    else
      some (.inr (.inr ()))
def ref01_Row (a : List Int) (b : List Int) : Option Bool :=
  if (ieq (lenI a) (lenI b)) = true then
    Option.bind (loopF (ref01_Row_B0 a b) 0) fun r => match r with
    | .inl () =>
      some false
    | .inr () =>
      some true
  else
    some false
def ref01_Long_B0 (s : ByteArray) (at_ : Int) (p : Int × Int) : Option ((Int × Int) ⊕ (Unit ⊕ Int)) := match p with
  | (x24, x25) =>
    if (ilt x25 4) = true then
      if (ile (isub IntKind.i64 (sizI s) at_) x25) = true then
        some (.inr (.inl ()))
      else
        Option.bind (getB s (iadd IntKind.i64 at_ x25)) fun v28 =>
        if (ilt v28 128) = true then
          some (.inr (.inl ()))
        else
          if (ilt 191 v28) = true then
            some (.inr (.inl ()))
          else
            some (.inl (((isub IntKind.i64 (iadd IntKind.i64 (imul IntKind.i64 x24 64) (iconv IntKind.i64 v28)) 128), (iadd IntKind.i64 x25 1))))
    else
      some (.inr (.inr x24))
def ref01_Long_B1 (s : ByteArray) (at_ : Int) (p : Int × Int) : Option ((Int × Int) ⊕ (Unit ⊕ Int)) := match p with
  | (x61, x62) =>
    if (ilt x62 3) = true then
      if (ile (isub IntKind.i64 (sizI s) at_) x62) = true then
        some (.inr (.inl ()))
      else
        Option.bind (getB s (iadd IntKind.i64 at_ x62)) fun v65 =>
        if (ilt v65 128) = true then
          some (.inr (.inl ()))
        else
          if (ilt 191 v65) = true then
            some (.inr (.inl ()))
          else
            some (.inl (((isub IntKind.i64 (iadd IntKind.i64 (imul IntKind.i64 x61 64) (iconv IntKind.i64 v65)) 128), (iadd IntKind.i64 x62 1))))
    else
      some (.inr (.inr x61))
def ref01_Long_B2 (s : ByteArray) (at_ : Int) (p : Int × Int) : Option ((Int × Int) ⊕ (Unit ⊕ Int)) := match p with
  | (x98, x99) =>
    if (ilt x99 2) = true then
      if (ile (isub IntKind.i64 (sizI s) at_) x99) = true then
        some (.inr (.inl ()))
      else
        Option.bind (getB s (iadd IntKind.i64 at_ x99)) fun v102 =>
        if (ilt v102 128) = true then
          some (.inr (.inl ()))
        else
          if (ilt 191 v102) = true then
            some (.inr (.inl ()))
          else
            some (.inl (((isub IntKind.i64 (iadd IntKind.i64 (imul IntKind.i64 x98 64) (iconv IntKind.i64 v102)) 128), (iadd IntKind.i64 x99 1))))
    else
      some (.inr (.inr x98))
def ref01_Long_B3 (s : ByteArray) (at_ : Int) (p : Int × Int) : Option ((Int × Int) ⊕ (Unit ⊕ Int)) := match p with
  | (x134, x135) =>
    if (ilt x135 1) = true then
      if (ile (isub IntKind.i64 (sizI s) at_) x135) = true then
        some (.inr (.inl ()))
      else
        Option.bind (getB s (iadd IntKind.i64 at_ x135)) fun v138 =>
        if (ilt v138 128) = true then
          some (.inr (.inl ()))
        else
          if (ilt 191 v138) = true then
            some (.inr (.inl ()))
          else
            some (.inl (((isub IntKind.i64 (iadd IntKind.i64 (imul IntKind.i64 x134 64) (iconv IntKind.i64 v138)) 128), (iadd IntKind.i64 x135 1))))
    else
      some (.inr (.inr x134))
def ref01_Long_B4 (s : ByteArray) (at_ : Int) (p : Int × Int) : Option ((Int × Int) ⊕ (Unit ⊕ Int)) := match p with
  | (x170, x171) =>
    if (ilt x171 1) = true then
      if (ile (isub IntKind.i64 (sizI s) at_) x171) = true then
        some (.inr (.inl ()))
      else
        Option.bind (getB s (iadd IntKind.i64 at_ x171)) fun v174 =>
        if (ilt v174 128) = true then
          some (.inr (.inl ()))
        else
          if (ilt 191 v174) = true then
            some (.inr (.inl ()))
          else
            some (.inl (((isub IntKind.i64 (iadd IntKind.i64 (imul IntKind.i64 x170 64) (iconv IntKind.i64 v174)) 128), (iadd IntKind.i64 x171 1))))
    else
      some (.inr (.inr x170))
def ref01_Long_B5 (s : ByteArray) (at_ : Int) (p : Int × Int) : Option ((Int × Int) ⊕ (Unit ⊕ Int)) := match p with
  | (x207, x208) =>
    if (ilt x208 2) = true then
      if (ile (isub IntKind.i64 (sizI s) at_) x208) = true then
        some (.inr (.inl ()))
      else
        Option.bind (getB s (iadd IntKind.i64 at_ x208)) fun v211 =>
        if (ilt v211 128) = true then
          some (.inr (.inl ()))
        else
          if (ilt 191 v211) = true then
            some (.inr (.inl ()))
          else
            some (.inl (((isub IntKind.i64 (iadd IntKind.i64 (imul IntKind.i64 x207 64) (iconv IntKind.i64 v211)) 128), (iadd IntKind.i64 x208 1))))
    else
      some (.inr (.inr x207))
def ref01_Long_B6 (s : ByteArray) (at_ : Int) (p : Int × Int) : Option ((Int × Int) ⊕ (Unit ⊕ Int)) := match p with
  | (x243, x244) =>
    if (ilt x244 1) = true then
      if (ile (isub IntKind.i64 (sizI s) at_) x244) = true then
        some (.inr (.inl ()))
      else
        Option.bind (getB s (iadd IntKind.i64 at_ x244)) fun v247 =>
        if (ilt v247 128) = true then
          some (.inr (.inl ()))
        else
          if (ilt 191 v247) = true then
            some (.inr (.inl ()))
          else
            some (.inl (((isub IntKind.i64 (iadd IntKind.i64 (imul IntKind.i64 x243 64) (iconv IntKind.i64 v247)) 128), (iadd IntKind.i64 x244 1))))
    else
      some (.inr (.inr x243))
def ref01_Long_B7 (s : ByteArray) (at_ : Int) (p : Int × Int) : Option ((Int × Int) ⊕ (Unit ⊕ Int)) := match p with
  | (x279, x280) =>
    if (ilt x280 1) = true then
      if (ile (isub IntKind.i64 (sizI s) at_) x280) = true then
        some (.inr (.inl ()))
      else
        Option.bind (getB s (iadd IntKind.i64 at_ x280)) fun v283 =>
        if (ilt v283 128) = true then
          some (.inr (.inl ()))
        else
          if (ilt 191 v283) = true then
            some (.inr (.inl ()))
          else
            some (.inl (((isub IntKind.i64 (iadd IntKind.i64 (imul IntKind.i64 x279 64) (iconv IntKind.i64 v283)) 128), (iadd IntKind.i64 x280 1))))
    else
      some (.inr (.inr x279))
def ref01_Long_B8 (s : ByteArray) (at_ : Int) (p : Int × Int) : Option ((Int × Int) ⊕ (Unit ⊕ Int)) := match p with
  | (x316, x317) =>
    if (ilt x317 3) = true then
      if (ile (isub IntKind.i64 (sizI s) at_) x317) = true then
        some (.inr (.inl ()))
      else
        Option.bind (getB s (iadd IntKind.i64 at_ x317)) fun v320 =>
        if (ilt v320 128) = true then
          some (.inr (.inl ()))
        else
          if (ilt 191 v320) = true then
            some (.inr (.inl ()))
          else
            some (.inl (((isub IntKind.i64 (iadd IntKind.i64 (imul IntKind.i64 x316 64) (iconv IntKind.i64 v320)) 128), (iadd IntKind.i64 x317 1))))
    else
      some (.inr (.inr x316))
def ref01_Long_B9 (s : ByteArray) (at_ : Int) (p : Int × Int) : Option ((Int × Int) ⊕ (Unit ⊕ Int)) := match p with
  | (x353, x354) =>
    if (ilt x354 2) = true then
      if (ile (isub IntKind.i64 (sizI s) at_) x354) = true then
        some (.inr (.inl ()))
      else
        Option.bind (getB s (iadd IntKind.i64 at_ x354)) fun v357 =>
        if (ilt v357 128) = true then
          some (.inr (.inl ()))
        else
          if (ilt 191 v357) = true then
            some (.inr (.inl ()))
          else
            some (.inl (((isub IntKind.i64 (iadd IntKind.i64 (imul IntKind.i64 x353 64) (iconv IntKind.i64 v357)) 128), (iadd IntKind.i64 x354 1))))
    else
      some (.inr (.inr x353))
def ref01_Long_B10 (s : ByteArray) (at_ : Int) (p : Int × Int) : Option ((Int × Int) ⊕ (Unit ⊕ Int)) := match p with
  | (x389, x390) =>
    if (ilt x390 1) = true then
      if (ile (isub IntKind.i64 (sizI s) at_) x390) = true then
        some (.inr (.inl ()))
      else
        Option.bind (getB s (iadd IntKind.i64 at_ x390)) fun v393 =>
        if (ilt v393 128) = true then
          some (.inr (.inl ()))
        else
          if (ilt 191 v393) = true then
            some (.inr (.inl ()))
          else
            some (.inl (((isub IntKind.i64 (iadd IntKind.i64 (imul IntKind.i64 x389 64) (iconv IntKind.i64 v393)) 128), (iadd IntKind.i64 x390 1))))
    else
      some (.inr (.inr x389))
def ref01_Long_B11 (s : ByteArray) (at_ : Int) (p : Int × Int) : Option ((Int × Int) ⊕ (Unit ⊕ Int)) := match p with
  | (x425, x426) =>
    if (ilt x426 1) = true then
      if (ile (isub IntKind.i64 (sizI s) at_) x426) = true then
        some (.inr (.inl ()))
      else
        Option.bind (getB s (iadd IntKind.i64 at_ x426)) fun v429 =>
        if (ilt v429 128) = true then
          some (.inr (.inl ()))
        else
          if (ilt 191 v429) = true then
            some (.inr (.inl ()))
          else
            some (.inl (((isub IntKind.i64 (iadd IntKind.i64 (imul IntKind.i64 x425 64) (iconv IntKind.i64 v429)) 128), (iadd IntKind.i64 x426 1))))
    else
      some (.inr (.inr x425))
def ref01_Long_B12 (s : ByteArray) (at_ : Int) (p : Int × Int) : Option ((Int × Int) ⊕ (Unit ⊕ Int)) := match p with
  | (x462, x463) =>
    if (ilt x463 2) = true then
      if (ile (isub IntKind.i64 (sizI s) at_) x463) = true then
        some (.inr (.inl ()))
      else
        Option.bind (getB s (iadd IntKind.i64 at_ x463)) fun v466 =>
        if (ilt v466 128) = true then
          some (.inr (.inl ()))
        else
          if (ilt 191 v466) = true then
            some (.inr (.inl ()))
          else
            some (.inl (((isub IntKind.i64 (iadd IntKind.i64 (imul IntKind.i64 x462 64) (iconv IntKind.i64 v466)) 128), (iadd IntKind.i64 x463 1))))
    else
      some (.inr (.inr x462))
def ref01_Long_B13 (s : ByteArray) (at_ : Int) (p : Int × Int) : Option ((Int × Int) ⊕ (Unit ⊕ Int)) := match p with
  | (x498, x499) =>
    if (ilt x499 1) = true then
      if (ile (isub IntKind.i64 (sizI s) at_) x499) = true then
        some (.inr (.inl ()))
      else
        Option.bind (getB s (iadd IntKind.i64 at_ x499)) fun v502 =>
        if (ilt v502 128) = true then
          some (.inr (.inl ()))
        else
          if (ilt 191 v502) = true then
            some (.inr (.inl ()))
          else
            some (.inl (((isub IntKind.i64 (iadd IntKind.i64 (imul IntKind.i64 x498 64) (iconv IntKind.i64 v502)) 128), (iadd IntKind.i64 x499 1))))
    else
      some (.inr (.inr x498))
def ref01_Long_B14 (s : ByteArray) (at_ : Int) (p : Int × Int) : Option ((Int × Int) ⊕ (Unit ⊕ Int)) := match p with
  | (x534, x535) =>
    if (ilt x535 1) = true then
      if (ile (isub IntKind.i64 (sizI s) at_) x535) = true then
        some (.inr (.inl ()))
      else
        Option.bind (getB s (iadd IntKind.i64 at_ x535)) fun v538 =>
        if (ilt v538 128) = true then
          some (.inr (.inl ()))
        else
          if (ilt 191 v538) = true then
            some (.inr (.inl ()))
          else
            some (.inl (((isub IntKind.i64 (iadd IntKind.i64 (imul IntKind.i64 x534 64) (iconv IntKind.i64 v538)) 128), (iadd IntKind.i64 x535 1))))
    else
      some (.inr (.inr x534))
def ref01_Long (s : ByteArray) (at_ : Int) : Option Int :=
  Option.bind (getB s at_) fun v0 =>
  if (ile 240 (iconv IntKind.i64 v0)) = true then
    if (ilt (iconv IntKind.i64 v0) 248) = true then
      Option.bind (loopF (ref01_Long_B0 s at_) (((isub IntKind.i64 (iconv IntKind.i64 v0) 240), 1))) fun r => match r with
      | .inl () =>
        some 0
      | .inr y32 =>
        if (ilt y32 65536) = true then
          some 0
        else
          if (ilt 1114111 y32) = true then
            some 0
          else
            if (ile 55296 y32) = true then
              if (ilt y32 57344) = true then
                some 0
              else
                some 4
            else
              some 4
    else
      if (ile 224 (iconv IntKind.i64 v0)) = true then
        if (ilt (iconv IntKind.i64 v0) 240) = true then
          Option.bind (loopF (ref01_Long_B1 s at_) (((isub IntKind.i64 (iconv IntKind.i64 v0) 224), 1))) fun r => match r with
          | .inl () =>
            some 0
          | .inr y69 =>
            if (ilt y69 2048) = true then
              some 0
            else
              if (ilt 1114111 y69) = true then
                some 0
              else
                if (ile 55296 y69) = true then
                  if (ilt y69 57344) = true then
                    some 0
                  else
                    some 3
                else
                  some 3
        else
          if (ile 192 (iconv IntKind.i64 v0)) = true then
            if (ilt (iconv IntKind.i64 v0) 224) = true then
              Option.bind (loopF (ref01_Long_B2 s at_) (((isub IntKind.i64 (iconv IntKind.i64 v0) 192), 1))) fun r => match r with
              | .inl () =>
                some 0
              | .inr y106 =>
                if (ilt y106 128) = true then
                  some 0
                else
                  if (ilt 1114111 y106) = true then
                    some 0
                  else
                    if (ile 55296 y106) = true then
                      if (ilt y106 57344) = true then
                        some 0
                      else
                        some 2
                    else
                      some 2
            else
              if (ile 128 (iconv IntKind.i64 v0)) = true then
                some 0
              else
                Option.bind (loopF (ref01_Long_B3 s at_) (((iconv IntKind.i64 v0), 1))) fun r => match r with
                | .inl () =>
                  some 0
                | .inr y142 =>
                  if (ilt y142 0) = true then
                    some 0
                  else
                    if (ilt 1114111 y142) = true then
                      some 0
                    else
                      if (ile 55296 y142) = true then
                        if (ilt y142 57344) = true then
                          some 0
                        else
                          some 1
                      else
                        some 1
          else
            if (ile 128 (iconv IntKind.i64 v0)) = true then
              some 0
            else
              Option.bind (loopF (ref01_Long_B4 s at_) (((iconv IntKind.i64 v0), 1))) fun r => match r with
              | .inl () =>
                some 0
              | .inr y178 =>
                if (ilt y178 0) = true then
                  some 0
                else
                  if (ilt 1114111 y178) = true then
                    some 0
                  else
                    if (ile 55296 y178) = true then
                      if (ilt y178 57344) = true then
                        some 0
                      else
                        some 1
                    else
                      some 1
      else
        if (ile 192 (iconv IntKind.i64 v0)) = true then
          if (ilt (iconv IntKind.i64 v0) 224) = true then
            Option.bind (loopF (ref01_Long_B5 s at_) (((isub IntKind.i64 (iconv IntKind.i64 v0) 192), 1))) fun r => match r with
            | .inl () =>
              some 0
            | .inr y215 =>
              if (ilt y215 128) = true then
                some 0
              else
                if (ilt 1114111 y215) = true then
                  some 0
                else
                  if (ile 55296 y215) = true then
                    if (ilt y215 57344) = true then
                      some 0
                    else
                      some 2
                  else
                    some 2
          else
            if (ile 128 (iconv IntKind.i64 v0)) = true then
              some 0
            else
              Option.bind (loopF (ref01_Long_B6 s at_) (((iconv IntKind.i64 v0), 1))) fun r => match r with
              | .inl () =>
                some 0
              | .inr y251 =>
                if (ilt y251 0) = true then
                  some 0
                else
                  if (ilt 1114111 y251) = true then
                    some 0
                  else
                    if (ile 55296 y251) = true then
                      if (ilt y251 57344) = true then
                        some 0
                      else
                        some 1
                    else
                      some 1
        else
          if (ile 128 (iconv IntKind.i64 v0)) = true then
            some 0
          else
            Option.bind (loopF (ref01_Long_B7 s at_) (((iconv IntKind.i64 v0), 1))) fun r => match r with
            | .inl () =>
              some 0
            | .inr y287 =>
              if (ilt y287 0) = true then
                some 0
              else
                if (ilt 1114111 y287) = true then
                  some 0
                else
                  if (ile 55296 y287) = true then
                    if (ilt y287 57344) = true then
                      some 0
                    else
                      some 1
                  else
                    some 1
  else
    if (ile 224 (iconv IntKind.i64 v0)) = true then
      if (ilt (iconv IntKind.i64 v0) 240) = true then
        Option.bind (loopF (ref01_Long_B8 s at_) (((isub IntKind.i64 (iconv IntKind.i64 v0) 224), 1))) fun r => match r with
        | .inl () =>
          some 0
        | .inr y324 =>
          if (ilt y324 2048) = true then
            some 0
          else
            if (ilt 1114111 y324) = true then
              some 0
            else
              if (ile 55296 y324) = true then
                if (ilt y324 57344) = true then
                  some 0
                else
                  some 3
              else
                some 3
      else
        if (ile 192 (iconv IntKind.i64 v0)) = true then
          if (ilt (iconv IntKind.i64 v0) 224) = true then
            Option.bind (loopF (ref01_Long_B9 s at_) (((isub IntKind.i64 (iconv IntKind.i64 v0) 192), 1))) fun r => match r with
            | .inl () =>
              some 0
            | .inr y361 =>
              if (ilt y361 128) = true then
                some 0
              else
                if (ilt 1114111 y361) = true then
                  some 0
                else
                  if (ile 55296 y361) = true then
                    if (ilt y361 57344) = true then
                      some 0
                    else
                      some 2
                  else
                    some 2
          else
            if (ile 128 (iconv IntKind.i64 v0)) = true then
              some 0
            else
              Option.bind (loopF (ref01_Long_B10 s at_) (((iconv IntKind.i64 v0), 1))) fun r => match r with
              | .inl () =>
                some 0
              | .inr y397 =>
                if (ilt y397 0) = true then
                  some 0
                else
                  if (ilt 1114111 y397) = true then
                    some 0
                  else
                    if (ile 55296 y397) = true then
                      if (ilt y397 57344) = true then
                        some 0
                      else
                        some 1
                    else
                      some 1
        else
          if (ile 128 (iconv IntKind.i64 v0)) = true then
            some 0
          else
            Option.bind (loopF (ref01_Long_B11 s at_) (((iconv IntKind.i64 v0), 1))) fun r => match r with
            | .inl () =>
              some 0
            | .inr y433 =>
              if (ilt y433 0) = true then
                some 0
              else
                if (ilt 1114111 y433) = true then
                  some 0
                else
                  if (ile 55296 y433) = true then
                    if (ilt y433 57344) = true then
                      some 0
                    else
                      some 1
                  else
                    some 1
    else
      if (ile 192 (iconv IntKind.i64 v0)) = true then
        if (ilt (iconv IntKind.i64 v0) 224) = true then
          Option.bind (loopF (ref01_Long_B12 s at_) (((isub IntKind.i64 (iconv IntKind.i64 v0) 192), 1))) fun r => match r with
          | .inl () =>
            some 0
          | .inr y470 =>
            if (ilt y470 128) = true then
              some 0
            else
              if (ilt 1114111 y470) = true then
                some 0
              else
                if (ile 55296 y470) = true then
                  if (ilt y470 57344) = true then
                    some 0
                  else
                    some 2
                else
                  some 2
        else
          if (ile 128 (iconv IntKind.i64 v0)) = true then
            some 0
          else
            Option.bind (loopF (ref01_Long_B13 s at_) (((iconv IntKind.i64 v0), 1))) fun r => match r with
            | .inl () =>
              some 0
            | .inr y506 =>
              if (ilt y506 0) = true then
                some 0
              else
                if (ilt 1114111 y506) = true then
                  some 0
                else
                  if (ile 55296 y506) = true then
                    if (ilt y506 57344) = true then
                      some 0
                    else
                      some 1
                  else
                    some 1
      else
        if (ile 128 (iconv IntKind.i64 v0)) = true then
          some 0
        else
          Option.bind (loopF (ref01_Long_B14 s at_) (((iconv IntKind.i64 v0), 1))) fun r => match r with
          | .inl () =>
            some 0
          | .inr y542 =>
            if (ilt y542 0) = true then
              some 0
            else
              if (ilt 1114111 y542) = true then
                some 0
              else
                if (ile 55296 y542) = true then
                  if (ilt y542 57344) = true then
                    some 0
                  else
                    some 1
                else
                  some 1
def ref01_IsName_B0 (s : ByteArray) (p : Int × Int) : Option ((Int × Int) ⊕ (Unit ⊕ Int)) := match p with
  | (x21, x22) =>
    if (ilt x22 (sizI s)) = true then
      Option.bind (ref01_Long s x22) fun v24 =>
      if (ieq v24 0) = true then
        some (.inr (.inl ()))
      else
        Option.bind (getB s x22) fun v27 =>
        if (ilt v27 32) = true then
          some (.inr (.inl ()))
        else
          if (ieq v27 127) = true then
            some (.inr (.inl ()))
          else
            some (.inl (((iadd IntKind.i64 x21 1), (iadd IntKind.i64 x22 v24))))
    else
      some (.inr (.inr x21))
def ref01_IsName (s : ByteArray) : Option Bool :=
  Option.bind (loopF (ref01_IsName_B0 s) (0, 0)) fun r => match r with
  | .inl () =>
    some false
  | .inr y31 =>
    if (ile 1 y31) = true then
      some (ile y31 40)
    else
      some false
def ref01_Name_B0 (b : List Int) (p : Int) : Option (Int ⊕ Int) := match p with
  | x14 =>
    if (ilt x14 (lenI b)) = true then
      Option.bind (getI b x14) fun v16 =>
      if (ieq v16 10) = true then
        some (.inr x14)
      else
        some (.inl (iadd IntKind.i64 x14 1))
    else
      some (.inr x14)
def ref01_Name (b : List Int) (at_ : Int) : Option (ByteArray × Int × Int) :=
  if (ilt at_ 0) = true then
    some ((({ data := #[] }), 0, 2))
  else
    if (ilt (lenI b) at_) = true then
      some ((({ data := #[] }), 0, 2))
    else
      Option.bind (loopF (ref01_Name_B0 b) at_) fun y19 =>
      if (cutOk (lenN b) at_ y19) = true then
        Option.bind (ref01_IsName ((strOf (cut b at_ y19)))) fun v21 =>
        if v21 = true then
          some (((strOf (cut b at_ y19)), y19, 0))
        else
          some ((({ data := #[] }), at_, 2))
      else
        none
def law01_shown : Option Bool :=
  Option.bind (lex_Number ([52, 50, 57]) 0 1000) fun (v0, v1, v2) =>
  Option.bind (lex_Signed ([120, 45, 55, 32]) 1 9) fun (v4, v5, v6) =>
  Option.bind (lex_Ones ([48, 49, 49, 50]) 0 9) fun (v8, v9, v10) =>
  Option.bind (lex_Put 300) fun v12 =>
  Option.bind (lex_Take v12 0) fun (v14, v15, v16) =>
  Option.bind (lex_Name ([97, 32, 98, 10]) 0) fun (v18, v19, v20) =>
  Option.bind (lex_Is ([97, 97, 103, 32, 49]) 0 ({ data := #[97, 97, 103, 32] })) fun (v22, v23) =>
  if (ieq v2 0) = true then
    if (ieq v6 0) = true then
      if (ieq v10 0) = true then
        if (ieq v16 0) = true then
          if (ieq v20 0) = true then
            if (ieq v0 429) = true then
              if (ieq v1 3) = true then
                if (ieq v4 (-7)) = true then
                  if (ieq v5 3) = true then
                    if (seq v8 { data := #[48, 49, 49] }) = true then
                      if (ieq v9 3) = true then
                        if (ieq v14 300) = true then
                          if (ieq v15 2) = true then
                            if (seq v18 { data := #[97, 32, 98] }) = true then
                              if (ieq v19 3) = true then
                                if (ieq v22 4) = true then
                                  if v23 = true then
                                    Option.bind (lex_IsName ({ data := #[97] })) fun v42 =>
                                    some v42
                                  else
                                    some false
                                else
                                  some false
                              else
                                some false
                            else
                              some false
                          else
                            some false
                        else
                          some false
                      else
                        some false
                    else
                      some false
                  else
                    some false
                else
                  some false
              else
                some false
            else
              some false
          else
            some false
        else
          some false
      else
        some false
    else
      some false
  else
    some false
def law01_figures_B0 (p : (List Int) × Int) : Option (((List Int) × Int) ⊕ ((List Int) × Int)) := match p with
  | (x14, x15) =>
    if (ilt 9 x15) = true then
      if (capN (lenN x14 + 1) 1) = true then
        some (.inl (((iconv IntKind.u8 (iadd IntKind.i64 48 (irem x15 10)) :: x14), (iquo IntKind.i64 x15 10))))
      else
        none
    else
      some (.inr (x14, x15))
def law01_figures (n : Int) : Option (List Int) :=
  if (ilt 9 n) = true then
    if (capN 1 1) = true then
      Option.bind (loopF (law01_figures_B0) ((([iconv IntKind.u8 (iadd IntKind.i64 48 (irem n 10))]), (iquo IntKind.i64 n 10)))) fun (y18, y19) =>
      if (capN (lenN y18 + 1) 1) = true then
        some ((iconv IntKind.u8 (iadd IntKind.i64 48 y19) :: y18))
      else
        none
    else
      none
  else
    if (capN 1 1) = true then
      some (([iconv IntKind.u8 (iadd IntKind.i64 48 n)]))
    else
      none
def law01_LexNames (with_ : LexNamesIn_law01) : Option Bool :=
  Option.bind (law01_shown) fun v0 =>
  if (ilt 1000 (lenI with_.b)) = true then
    some v0
  else
    if (ilt 1000 (sizI with_.s)) = true then
      some v0
    else
      Option.bind (lex_Name with_.b with_.at') fun (v4, v5, v6) =>
      Option.bind (ref01_Name with_.b with_.at') fun (v8, v9, v10) =>
      Option.bind (lex_Take with_.b with_.at') fun (v12, v13, v14) =>
      Option.bind (ref01_Take with_.b with_.at') fun (v16, v17, v18) =>
      if v0 = true then
        if (seq v4 v8) = true then
          if (ieq v5 v9) = true then
            if (ieq v6 v10) = true then
              if (ieq v12 v16) = true then
                if (ieq v13 v17) = true then
                  if (ieq v14 v18) = true then
                    Option.bind (lex_IsName with_.s) fun v27 =>
                    Option.bind (ref01_IsName with_.s) fun v29 =>
                    if (beq2 v27 v29) = true then
                      Option.bind (lex_Put with_.n) fun v32 =>
                      Option.bind (ref01_Put with_.n) fun v34 =>
                      Option.bind (ref01_Row v32 v34) fun v36 =>
                      some v36
                    else
                      some false
                  else
                    some false
                else
                  some false
              else
                some false
            else
              some false
          else
            some false
        else
          some false
      else
        some false
def law01_LexAhead (with_ : LexAheadIn_law01) : Option Bool :=
  Option.bind (law01_shown) fun v0 =>
  if (ilt 500 (lenI with_.a)) = true then
    some v0
  else
    if (ilt 500 (lenI with_.b)) = true then
      some v0
    else
      if (ilt with_.at' 0) = true then
        some v0
      else
        if (ilt (lenI with_.b) with_.at') = true then
          some v0
        else
          if (capN (lenN with_.a) 1) = true then
            if (capN (lenN (with_.a ++ with_.b)) 1) = true then
              Option.bind (lex_Signed with_.b with_.at' with_.most) fun (v8, v9, v10) =>
              Option.bind (lex_Signed (with_.a ++ with_.b) ((iadd IntKind.i64 (lenI with_.a) with_.at')) with_.most) fun (v12, v13, v14) =>
              Option.bind (lex_Ones with_.b with_.at' with_.most) fun (v16, v17, v18) =>
              Option.bind (lex_Ones (with_.a ++ with_.b) ((iadd IntKind.i64 (lenI with_.a) with_.at')) with_.most) fun (v20, v21, v22) =>
              Option.bind (lex_Name with_.b with_.at') fun (v24, v25, v26) =>
              Option.bind (lex_Name (with_.a ++ with_.b) ((iadd IntKind.i64 (lenI with_.a) with_.at'))) fun (v28, v29, v30) =>
              Option.bind (lex_Take with_.b with_.at') fun (v32, v33, v34) =>
              Option.bind (lex_Take (with_.a ++ with_.b) ((iadd IntKind.i64 (lenI with_.a) with_.at'))) fun (v36, v37, v38) =>
              if (ieq v8 v12) = true then
                if (ieq (iadd IntKind.i64 v9 (lenI with_.a)) v13) = true then
                  if (ieq v10 v14) = true then
                    if (seq v16 v20) = true then
                      if (ieq (iadd IntKind.i64 v17 (lenI with_.a)) v21) = true then
                        if (ieq v18 v22) = true then
                          if (seq v24 v28) = true then
                            if (ieq (iadd IntKind.i64 v25 (lenI with_.a)) v29) = true then
                              if (ieq v26 v30) = true then
                                if (ieq v32 v36) = true then
                                  if (ieq (iadd IntKind.i64 v33 (lenI with_.a)) v37) = true then
                                    if v0 = true then
                                      if (ieq v34 v38) = true then
                                        if (ile with_.at' v9) = true then
                                          if (ile v9 (lenI with_.b)) = true then
                                            if (ile with_.at' v17) = true then
                                              if (ile v17 (lenI with_.b)) = true then
                                                if (ile with_.at' v25) = true then
                                                  if (ile v25 (lenI with_.b)) = true then
                                                    if (ile with_.at' v33) = true then
                                                      some ((ile v33 (lenI with_.b)))
                                                    else
                                                      some false
                                                  else
                                                    some false
                                                else
                                                  some false
                                              else
                                                some false
                                            else
                                              some false
                                          else
                                            some false
                                        else
                                          some false
                                      else
                                        some false
                                    else
                                      some false
                                  else
                                    if v0 = true then
                                      some false
                                    else
                                      some false
                                else
                                  if v0 = true then
                                    some false
                                  else
                                    some false
                              else
                                if v0 = true then
                                  some false
                                else
                                  some false
                            else
                              if v0 = true then
                                some false
                              else
                                some false
                          else
                            if v0 = true then
                              some false
                            else
                              some false
                        else
                          if v0 = true then
                            some false
                          else
                            some false
                      else
                        if v0 = true then
                          some false
                        else
                          some false
                    else
                      if v0 = true then
                        some false
                      else
                        some false
                  else
                    if v0 = true then
                      some false
                    else
                      some false
                else
                  if v0 = true then
                    some false
                  else
                    some false
              else
                if v0 = true then
                  some false
                else
                  some false
            else
              none
          else
            none
def law01_LexBack (n : Int) (m : Int) (b : List Int) : Option Bool :=
  Option.bind (law01_shown) fun v0 =>
  if (ilt 500 (lenI b)) = true then
    some v0
  else
    Option.bind (lex_Take b 0) fun (v3, v4, v5) =>
    if (ieq v5 0) = true then
      Option.bind (lex_Put v3) fun v8 =>
      if (cutOk (lenN b) 0 v4) = true then
        Option.bind (ref01_Row v8 (cut b 0 v4)) fun v11 =>
        if v11 = true then
          Option.bind (lex_Put n) fun v14 =>
          if (ilt n 0) = true then
            if v0 = true then
              some ((ieq (lenI v14) 0))
            else
              some false
          else
            if (ilt 2147483647 n) = true then
              if v0 = true then
                some ((ieq (lenI v14) 0))
              else
                some false
            else
              if (capN (lenN v14) 1) = true then
                if (capN (lenN (v14 ++ b)) 1) = true then
                  Option.bind (lex_Take (v14 ++ b) 0) fun (v22, v23, v24) =>
                  Option.bind (lex_Put m) fun v26 =>
                  if v0 = true then
                    if (ieq v24 0) = true then
                      if (ieq v22 n) = true then
                        if (ieq v23 (lenI v14)) = true then
                          if (ile (lenI v14) 5) = true then
                            if (ilt m n) = true then
                              some true
                            else
                              if (ilt 2147483647 m) = true then
                                some true
                              else
                                some ((ile (lenI v14) (lenI v26)))
                          else
                            some false
                        else
                          some false
                      else
                        some false
                    else
                      some false
                  else
                    some false
                else
                  none
              else
                none
        else
          some false
      else
        none
    else
      Option.bind (lex_Put n) fun v35 =>
      if (ilt n 0) = true then
        if v0 = true then
          some ((ieq (lenI v35) 0))
        else
          some false
      else
        if (ilt 2147483647 n) = true then
          if v0 = true then
            some ((ieq (lenI v35) 0))
          else
            some false
        else
          if (capN (lenN v35) 1) = true then
            if (capN (lenN (v35 ++ b)) 1) = true then
              Option.bind (lex_Take (v35 ++ b) 0) fun (v43, v44, v45) =>
              Option.bind (lex_Put m) fun v47 =>
              if v0 = true then
                if (ieq v45 0) = true then
                  if (ieq v43 n) = true then
                    if (ieq v44 (lenI v35)) = true then
                      if (ile (lenI v35) 5) = true then
                        if (ilt m n) = true then
                          some true
                        else
                          if (ilt 2147483647 m) = true then
                            some true
                          else
                            some ((ile (lenI v35) (lenI v47)))
                      else
                        some false
                    else
                      some false
                  else
                    some false
                else
                  some false
              else
                some false
            else
              none
          else
            none
def law01_LexNumbers (with_ : LexNumbersIn_law01) : Option Bool :=
  Option.bind (law01_shown) fun v0 =>
  if (ilt 300 (lenI with_.a)) = true then
    some v0
  else
    if (ilt 300 (lenI with_.b)) = true then
      some v0
    else
      if (ilt 0 (lenI with_.b)) = true then
        Option.bind (getI with_.b 0) fun v5 =>
        if (ile 48 v5) = true then
          if (ile v5 57) = true then
            some v0
          else
            Option.bind (law01_figures (iconv IntKind.i64 with_.n)) fun v9 =>
            if (capN (lenN with_.a) 1) = true then
              if (capN (lenN (with_.a ++ v9)) 1) = true then
                if (capN (lenN (with_.a ++ (v9 ++ with_.b))) 1) = true then
                  Option.bind (lex_Number ((with_.a ++ (v9 ++ with_.b))) (lenI with_.a) with_.most) fun (v14, v15, v16) =>
                  if (ilt with_.most (iconv IntKind.i64 with_.n)) = true then
                    if v0 = true then
                      if (ieq v16 3) = true then
                        if (ieq v14 0) = true then
                          some ((ieq v15 (lenI with_.a)))
                        else
                          some false
                      else
                        some false
                    else
                      some false
                  else
                    if (ilt 2147483647 (iconv IntKind.i64 with_.n)) = true then
                      if v0 = true then
                        if (ieq v16 3) = true then
                          if (ieq v14 0) = true then
                            some ((ieq v15 (lenI with_.a)))
                          else
                            some false
                        else
                          some false
                      else
                        some false
                    else
                      if (inI (lenN (with_.a ++ (v9 ++ with_.b))) (lenI with_.a)) = true then
                        Option.bind ((with_.a ++ (v9 ++ with_.b))[lenN with_.a]?) fun v27 =>
                        Option.bind (lex_Number (((with_.a ++ (v9 ++ with_.b)).set (lenN with_.a) 48)) (lenI with_.a) with_.most) fun (v29, v30, v31) =>
                        if v0 = true then
                          if (ieq v16 0) = true then
                            if (ieq v14 (iconv IntKind.i64 with_.n)) = true then
                              if (ieq v15 (iadd IntKind.i64 (lenI with_.a) (lenI v9))) = true then
                                some ((beq2 (ieq v31 2) (ilt 1 (lenI v9))))
                              else
                                some false
                            else
                              some false
                          else
                            some false
                        else
                          some false
                      else
                        none
                else
                  none
              else
                none
            else
              none
        else
          Option.bind (law01_figures (iconv IntKind.i64 with_.n)) fun v37 =>
          if (capN (lenN with_.a) 1) = true then
            if (capN (lenN (with_.a ++ v37)) 1) = true then
              if (capN (lenN (with_.a ++ (v37 ++ with_.b))) 1) = true then
                Option.bind (lex_Number ((with_.a ++ (v37 ++ with_.b))) (lenI with_.a) with_.most) fun (v42, v43, v44) =>
                if (ilt with_.most (iconv IntKind.i64 with_.n)) = true then
                  if v0 = true then
                    if (ieq v44 3) = true then
                      if (ieq v42 0) = true then
                        some ((ieq v43 (lenI with_.a)))
                      else
                        some false
                    else
                      some false
                  else
                    some false
                else
                  if (ilt 2147483647 (iconv IntKind.i64 with_.n)) = true then
                    if v0 = true then
                      if (ieq v44 3) = true then
                        if (ieq v42 0) = true then
                          some ((ieq v43 (lenI with_.a)))
                        else
                          some false
                      else
                        some false
                    else
                      some false
                  else
                    if (inI (lenN (with_.a ++ (v37 ++ with_.b))) (lenI with_.a)) = true then
                      Option.bind ((with_.a ++ (v37 ++ with_.b))[lenN with_.a]?) fun v55 =>
                      Option.bind (lex_Number (((with_.a ++ (v37 ++ with_.b)).set (lenN with_.a) 48)) (lenI with_.a) with_.most) fun (v57, v58, v59) =>
                      if v0 = true then
                        if (ieq v44 0) = true then
                          if (ieq v42 (iconv IntKind.i64 with_.n)) = true then
                            if (ieq v43 (iadd IntKind.i64 (lenI with_.a) (lenI v37))) = true then
                              some ((beq2 (ieq v59 2) (ilt 1 (lenI v37))))
                            else
                              some false
                          else
                            some false
                        else
                          some false
                      else
                        some false
                    else
                      none
              else
                none
            else
              none
          else
            none
      else
        Option.bind (law01_figures (iconv IntKind.i64 with_.n)) fun v65 =>
        if (capN (lenN with_.a) 1) = true then
          if (capN (lenN (with_.a ++ v65)) 1) = true then
            if (capN (lenN (with_.a ++ (v65 ++ with_.b))) 1) = true then
              Option.bind (lex_Number ((with_.a ++ (v65 ++ with_.b))) (lenI with_.a) with_.most) fun (v70, v71, v72) =>
              if (ilt with_.most (iconv IntKind.i64 with_.n)) = true then
                if v0 = true then
                  if (ieq v72 3) = true then
                    if (ieq v70 0) = true then
                      some ((ieq v71 (lenI with_.a)))
                    else
                      some false
                  else
                    some false
                else
                  some false
              else
                if (ilt 2147483647 (iconv IntKind.i64 with_.n)) = true then
                  if v0 = true then
                    if (ieq v72 3) = true then
                      if (ieq v70 0) = true then
                        some ((ieq v71 (lenI with_.a)))
                      else
                        some false
                    else
                      some false
                  else
                    some false
                else
                  if (inI (lenN (with_.a ++ (v65 ++ with_.b))) (lenI with_.a)) = true then
                    Option.bind ((with_.a ++ (v65 ++ with_.b))[lenN with_.a]?) fun v83 =>
                    Option.bind (lex_Number (((with_.a ++ (v65 ++ with_.b)).set (lenN with_.a) 48)) (lenI with_.a) with_.most) fun (v85, v86, v87) =>
                    if v0 = true then
                      if (ieq v72 0) = true then
                        if (ieq v70 (iconv IntKind.i64 with_.n)) = true then
                          if (ieq v71 (iadd IntKind.i64 (lenI with_.a) (lenI v65))) = true then
                            some ((beq2 (ieq v87 2) (ilt 1 (lenI v65))))
                          else
                            some false
                        else
                          some false
                      else
                        some false
                    else
                      some false
                  else
                    none
            else
              none
          else
            none
        else
          none
def law01_LexWords (with_ : LexWordsIn_law01) : Option Bool :=
  Option.bind (law01_shown) fun v0 =>
  if (ilt 500 (lenI with_.b)) = true then
    some v0
  else
    if (ilt 200 (sizI with_.s)) = true then
      some v0
    else
      if (ilt 200 (sizI with_.t)) = true then
        some v0
      else
        Option.bind (lex_Is with_.b with_.at' with_.s) fun (v5, v6) =>
        if (addOk with_.s with_.t) = true then
          Option.bind (lex_Is with_.b with_.at' (with_.s ++ with_.t)) fun (v9, v10) =>
          Option.bind (lex_Is with_.b with_.at' ({ data := #[] })) fun (v12, v13) =>
          if (ilt with_.at' 0) = true then
            if v0 = true then
              if v6 = true then
                some false
              else
                if v10 = true then
                  some false
                else
                  if v13 = true then
                    some false
                  else
                    some (ieq v5 0)
            else
              some false
          else
            if (ilt (lenI with_.b) with_.at') = true then
              if v0 = true then
                if v6 = true then
                  some false
                else
                  if v10 = true then
                    some false
                  else
                    if v13 = true then
                      some false
                    else
                      some (ieq v5 0)
              else
                some false
            else
              Option.bind (lex_Is with_.b v5 with_.t) fun (v25, v26) =>
              if (cutOk (lenN with_.b) 0 with_.at') = true then
                if (capN (lenN (cut with_.b 0 with_.at')) 1) = true then
                  if (capN (lenN (cut with_.b 0 with_.at' ++ bytesOf (with_.s ++ with_.t))) 1) = true then
                    Option.bind (lex_Is ((cut with_.b 0 with_.at' ++ bytesOf (with_.s ++ with_.t))) with_.at' with_.s) fun (v31, v32) =>
                    if v0 = true then
                      if v13 = true then
                        if v32 = true then
                          if (ieq v31 (iadd IntKind.i64 with_.at' (sizI with_.s))) = true then
                            if v6 = true then
                              if (beq2 v10 v26) = true then
                                if v10 = true then
                                  if (ieq v9 v25) = true then
                                    some true
                                  else
                                    some false
                                else
                                  some true
                              else
                                some false
                            else
                              if (beq2 v10 false) = true then
                                if v10 = true then
                                  if (ieq v9 v25) = true then
                                    some (ieq v5 with_.at')
                                  else
                                    some false
                                else
                                  some (ieq v5 with_.at')
                              else
                                some false
                          else
                            some false
                        else
                          some false
                      else
                        some false
                    else
                      some false
                  else
                    none
                else
                  none
              else
                none
        else
          none
def law01_LexNamed (s : ByteArray) (t : ByteArray) : Option Bool :=
  Option.bind (law01_shown) fun v0 =>
  if (ilt 500 (sizI s)) = true then
    some v0
  else
    if (ilt 500 (sizI t)) = true then
      some v0
    else
      Option.bind (lex_IsName s) fun v4 =>
      Option.bind (lex_IsName t) fun v6 =>
      if (addOk s { data := #[10] }) = true then
        if (addOk (s ++ { data := #[10] }) t) = true then
          Option.bind (lex_Name ((bytesOf (s ++ { data := #[10] } ++ t))) 0) fun (v10, v11, v12) =>
          Option.bind (ref01_IsName s) fun v14 =>
          if (beq2 v4 v14) = true then
            if v4 = true then
              if v6 = true then
                if (ile (iadd IntKind.i64 (sizI s) (sizI t)) 40) = true then
                  if (addOk s t) = true then
                    Option.bind (lex_IsName (s ++ t)) fun v21 =>
                    if v21 = true then
                      Option.bind (lex_IsName (s ++ { data := #[10] } ++ t)) fun v24 =>
                      if v24 = true then
                        some false
                      else
                        if v0 = true then
                          if (ieq v12 0) = true then
                            if (seq v10 s) = true then
                              if (ieq v11 (sizI s)) = true then
                                Option.bind (lex_IsName v10) fun v31 =>
                                some v31
                              else
                                some false
                            else
                              some false
                          else
                            some false
                        else
                          some false
                    else
                      some false
                  else
                    none
                else
                  Option.bind (lex_IsName (s ++ { data := #[10] } ++ t)) fun v33 =>
                  if v33 = true then
                    some false
                  else
                    if v0 = true then
                      if (ieq v12 0) = true then
                        if (seq v10 s) = true then
                          if (ieq v11 (sizI s)) = true then
                            Option.bind (lex_IsName v10) fun v40 =>
                            some v40
                          else
                            some false
                        else
                          some false
                      else
                        some false
                    else
                      some false
              else
                Option.bind (lex_IsName (s ++ { data := #[10] } ++ t)) fun v42 =>
                if v42 = true then
                  some false
                else
                  if v0 = true then
                    if (ieq v12 0) = true then
                      if (seq v10 s) = true then
                        if (ieq v11 (sizI s)) = true then
                          Option.bind (lex_IsName v10) fun v49 =>
                          some v49
                        else
                          some false
                      else
                        some false
                    else
                      some false
                  else
                    some false
            else
              Option.bind (lex_IsName (s ++ { data := #[10] } ++ t)) fun v51 =>
              if v51 = true then
                some false
              else
                if v0 = true then
                  if (ieq v12 0) = true then
                    Option.bind (lex_IsName v10) fun v56 =>
                    some v56
                  else
                    some true
                else
                  some false
          else
            some false
        else
          none
      else
        none
end Go.Vid

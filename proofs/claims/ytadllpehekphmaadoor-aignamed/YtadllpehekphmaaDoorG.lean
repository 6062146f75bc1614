/- The seat's functions, plainly. No condition. -/
import Derived.Test.YtadllpehekphmaaDoorS
import Derived.Test.YtadllpehekphmaaDoorGt
set_option linter.unusedVariables false
namespace Go.Vid
open Go.Vabs
def lex_isPlace (b:List Int)(at_:Int):Option Bool:=
 if (ile 0 at_)=true then
  some ((ile at_ (lenI b)))
 else
  some false
def lex_Number_1 (c:Int):Option Bool:=
 if (ile 48 c)=true then
  some (ile c 57)
 else
  some false
def unicode_utf8_decodeRuneSlow (p_:List Int):Option (Int × Int):=
 if (ilt (lenI p_) 1)=true then
  some (65533,0)
 else
  Option.bind (getI p_ 0) fun v1=>
  if (inI 256 v1)=true then
   Option.bind (tabI first v1) fun v4=>
   if (ile 240 v4)=true then
    if (ilt 31 0)=true then
     none
    else
     some (((bor .i32 (iandn .i32 (iconv .i32 v1) (ishr .i32 (ishl .i32 (iconv .i32 v4) 31) 31)) (band .i32 65533 (ishr .i32 (ishl .i32 (iconv .i32 v4) 31) 31))),1))
   else
    if (ilt 4 0)=true then
     none
    else
     if (inI 16 (ishr .u8 v4 4))=true then
      Option.bind (tabI ranges (ishr .u8 v4 4)) fun v10=>
      if (ilt (lenI p_) (iconv .i64 (band .u8 v4 7)))=true then
       some (65533,1)
      else
       Option.bind (getI p_ 1) fun v13=>
       if (ilt v13 v10.fst)=true then
        some (65533,1)
       else
        if (ilt v10.snd v13)=true then
         some (65533,1)
        else
         if (ile (iconv .i64 (band .u8 v4 7)) 2)=true then
          if (ilt 6 0)=true then
           none
          else
           some (((bor .i32 (ishl .i32 (iconv .i32 (band .u8 v1 31)) 6) (iconv .i32 (band .u8 v13 63))),2))
         else
          Option.bind (getI p_ 2) fun v19=>
          if (ilt v19 128)=true then
           some (65533,1)
          else
           if (ilt 191 v19)=true then
            some (65533,1)
           else
            if (ile (iconv .i64 (band .u8 v4 7)) 3)=true then
             if (ilt 12 0)=true then
              none
             else
              if (ilt 6 0)=true then
               none
              else
               some (((bor .i32 (bor .i32 (ishl .i32 (iconv .i32 (band .u8 v1 15)) 12) (ishl .i32 (iconv .i32 (band .u8 v13 63)) 6)) (iconv .i32 (band .u8 v19 63))),3))
            else
             Option.bind (getI p_ 3) fun v26=>
             if (ilt v26 128)=true then
              some (65533,1)
             else
              if (ilt 191 v26)=true then
               some (65533,1)
              else
               if (ilt 18 0)=true then
                none
               else
                if (ilt 12 0)=true then
                 none
                else
                 if (ilt 6 0)=true then
                  none
                 else
                  some (((bor .i32 (bor .i32 (bor .i32 (ishl .i32 (iconv .i32 (band .u8 v1 7)) 18) (ishl .i32 (iconv .i32 (band .u8 v13 63)) 12)) (ishl .i32 (iconv .i32 (band .u8 v19 63)) 6)) (iconv .i32 (band .u8 v26 63))),4))
     else
      none
  else
   none
def unicode_utf8_decodeRuneInStringSlow (s:ByteArray):Option (Int × Int):=
 if (ilt (sizI s) 1)=true then
  some (65533,0)
 else
  Option.bind (getB s 0) fun v1=>
  if (inI 256 v1)=true then
   Option.bind (tabI first v1) fun v4=>
   if (ile 240 v4)=true then
    if (ilt 31 0)=true then
     none
    else
     some (((bor .i32 (iandn .i32 (iconv .i32 v1) (ishr .i32 (ishl .i32 (iconv .i32 v4) 31) 31)) (band .i32 65533 (ishr .i32 (ishl .i32 (iconv .i32 v4) 31) 31))),1))
   else
    if (ilt 4 0)=true then
     none
    else
     if (inI 16 (ishr .u8 v4 4))=true then
      Option.bind (tabI ranges (ishr .u8 v4 4)) fun v10=>
      if (ilt (sizI s) (iconv .i64 (band .u8 v4 7)))=true then
       some (65533,1)
      else
       Option.bind (getB s 1) fun v13=>
       if (ilt v13 v10.fst)=true then
        some (65533,1)
       else
        if (ilt v10.snd v13)=true then
         some (65533,1)
        else
         if (ile (iconv .i64 (band .u8 v4 7)) 2)=true then
          if (ilt 6 0)=true then
           none
          else
           some (((bor .i32 (ishl .i32 (iconv .i32 (band .u8 v1 31)) 6) (iconv .i32 (band .u8 v13 63))),2))
         else
          Option.bind (getB s 2) fun v19=>
          if (ilt v19 128)=true then
           some (65533,1)
          else
           if (ilt 191 v19)=true then
            some (65533,1)
           else
            if (ile (iconv .i64 (band .u8 v4 7)) 3)=true then
             if (ilt 12 0)=true then
              none
             else
              if (ilt 6 0)=true then
               none
              else
               some (((bor .i32 (bor .i32 (ishl .i32 (iconv .i32 (band .u8 v1 15)) 12) (ishl .i32 (iconv .i32 (band .u8 v13 63)) 6)) (iconv .i32 (band .u8 v19 63))),3))
            else
             Option.bind (getB s 3) fun v26=>
             if (ilt v26 128)=true then
              some (65533,1)
             else
              if (ilt 191 v26)=true then
               some (65533,1)
              else
               if (ilt 18 0)=true then
                none
               else
                if (ilt 12 0)=true then
                 none
                else
                 if (ilt 6 0)=true then
                  none
                 else
                  some (((bor .i32 (bor .i32 (bor .i32 (ishl .i32 (iconv .i32 (band .u8 v1 7)) 18) (ishl .i32 (iconv .i32 (band .u8 v13 63)) 12)) (ishl .i32 (iconv .i32 (band .u8 v19 63)) 6)) (iconv .i32 (band .u8 v26 63))),4))
     else
      none
  else
   none
def unicode_utf8_DecodeRuneInString (s:ByteArray):Option (Int × Int):=
 if (seq s { data:=#[] })=true then
  Option.bind (unicode_utf8_decodeRuneInStringSlow s) fun (v1,v2)=>
  some (v1,v2)
 else
  Option.bind (getB s 0) fun v4=>
  if (ilt v4 128)=true then
   some (((iconv .i32 v4),1))
  else
   Option.bind (unicode_utf8_decodeRuneInStringSlow s) fun (v7,v8)=>
   some (v7,v8)
def unicode_utf8_DecodeRune_B0 (p_:List Int)(p:Unit):Option (Unit ⊕ (Int ⊕ Unit)):=match p with
 | ()=>
  if (ilt 0 (lenI p_))=true then
   Option.bind (getI p_ 0) fun v13=>
   if (ilt v13 128)=true then
    some (.inr (.inl (iconv .i32 v13)))
   else
    some (.inr (.inr ()))
  else
   some (.inr (.inr ()))
def unicode_utf8_DecodeRune (p_:List Int):Option (Int × Int):=
 Option.bind (loopF (unicode_utf8_DecodeRune_B0 p_) ()) fun r=>match r with
 | .inl y16=>
  some (y16,1)
 | .inr ()=>
  Option.bind (unicode_utf8_decodeRuneSlow p_) fun (v17,v18)=>
  some (v17,v18)
def lex_run_1_figs (r_:Int):Option Bool:=
 if (ile 128 r_)=true then
  some true
 else
  Option.bind (lex_Number_1 (iconv .u8 r_)) fun v1=>
  some (bnot v1)
def bytes_indexFunc_figs_B0 (s:List Int)(p:Int):Option (Int ⊕ (Int ⊕ Unit)):=match p with
 | x20=>
  if (ilt x20 (lenI s))=true then
   if (cutOk (lenN s) x20 (lenI s))=true then
    Option.bind (unicode_utf8_DecodeRune ((cut s x20 (lenI s)))) fun (v23,v24)=>
    Option.bind (lex_run_1_figs v23) fun v26=>
    if (beq2 v26 true)=true then
     some (.inr (.inl x20))
    else
     some (.inl (iadd .i64 x20 v24))
   else
    none
  else
   some (.inr (.inr ()))
def bytes_indexFunc_figs (s:List Int):Option Int:=
 Option.bind (loopF (bytes_indexFunc_figs_B0 s) 0) fun r=>match r with
 | .inl y29=>
  some y29
 | .inr ()=>
  some (-1)
def bytes_IndexFunc_figs (s:List Int):Option Int:=
 Option.bind (bytes_indexFunc_figs s) fun v0=>
 some v0
def lex_run_figs (b:List Int)(at_:Int):Option Int:=
 if (cutOk (lenN b) at_ (lenI b))=true then
  Option.bind (bytes_IndexFunc_figs ((cut b at_ (lenI b)))) fun v1=>
  if (ilt v1 0)=true then
   some (lenI b)
  else
   some (iadd .i64 at_ v1)
 else
  none
def internal_stringslite_HasPrefix (s:ByteArray)(prefix_:ByteArray):Option Bool:=
 if (ile (sizI prefix_) (sizI s))=true then
  if (cutOk s.size 0 (sizI prefix_))=true then
   some ((seq (cutB s 0 (sizI prefix_)) prefix_))
  else
   none
 else
  some false
def strings_HasPrefix (s:ByteArray)(prefix_:ByteArray):Option Bool:=
 Option.bind (internal_stringslite_HasPrefix s prefix_) fun v0=>
 some v0
def lex_Is (b:List Int)(at_:Int)(s:ByteArray):Option (Int × Bool):=
 Option.bind (lex_isPlace b at_) fun v0=>
 if v0=true then
  if (cutOk (lenN b) at_ (lenI b))=true then
   Option.bind (strings_HasPrefix ((strOf (cut b at_ (lenI b)))) s) fun v4=>
   if v4=true then
    some (((iadd .i64 at_ (sizI s)),true))
   else
    some (at_,false)
  else
   none
 else
  some (0,false)
def internal_stringslite_IndexByte (s:ByteArray)(c:Int):Option Int:=
 some (findB s c)
def internal_stringslite_Index_nl (s:ByteArray):Option Int:=
 if (seq { data:=#[10] } s)=true then
  some 0
 else
  Option.bind (getB { data:=#[10] } 0) fun v1=>
  Option.bind (internal_stringslite_IndexByte s v1) fun v3=>
  some v3
def internal_stringslite_Cut_nl (s:ByteArray):Option (ByteArray × ByteArray × Bool):=
 Option.bind (internal_stringslite_Index_nl s) fun v0=>
 if (ile 0 v0)=true then
  if (cutOk s.size 0 v0)=true then
   if (cutOk s.size (iadd .i64 v0 1) (sizI s))=true then
    some (((cutB s 0 v0),(cutB s (iadd .i64 v0 1) (sizI s)),true))
   else
    none
  else
   none
 else
  some ((s,({ data:=#[] }),false))
def strings_Cut_nl (s:ByteArray):Option (ByteArray × ByteArray × Bool):=
 Option.bind (internal_stringslite_Cut_nl s) fun (v0,v1,v2)=>
 some (v0,v1,v2)
def lex_IsName_B0 (s:ByteArray)(p:Int × Nat):Option ((Int × Nat) ⊕ (Unit ⊕ Int)):=match p with
 | (x24,x25)=>
  if (isAt s x25)=true then
   if (cutOk s.size (ofN x25) (sizI s))=true then
    Option.bind (unicode_utf8_DecodeRuneInString ((cutB s (ofN x25) (sizI s)))) fun (v28,v29)=>
    if (ilt (decR s x25) 32)=true then
     some (.inr (.inl ()))
    else
     if (ieq (decR s x25) 127)=true then
      some (.inr (.inl ()))
     else
      if (ieq (decR s x25) 65533)=true then
       if (ieq v29 1)=true then
        some (.inr (.inl ()))
       else
        some (.inl (((iadd .i64 x24 1),(x25+decW s x25))))
      else
       some (.inl (((iadd .i64 x24 1),(x25+decW s x25))))
   else
    none
  else
   some (.inr (.inr x24))
def lex_IsName (s:ByteArray):Option Bool:=
 Option.bind (loopF (lex_IsName_B0 s) (0,0)) fun r=>match r with
 | .inl ()=>
  some false
 | .inr y35=>
  if (ilt 0 y35)=true then
   some (ile y35 40)
  else
   some false
def lex_Name (b:List Int)(at_:Int):Option (ByteArray × Int × Int):=
 Option.bind (lex_isPlace b at_) fun v0=>
 if v0=true then
  if (cutOk (lenN b) at_ (lenI b))=true then
   Option.bind (strings_Cut_nl ((strOf (cut b at_ (lenI b))))) fun (v4,v5,v6)=>
   Option.bind (lex_IsName v4) fun v8=>
   if v8=true then
    some ((v4,(iadd .i64 at_ (sizI v4)),0))
   else
    some ((({ data:=#[] }),at_,2))
  else
   none
 else
  some ((({ data:=#[] }),0,2))
def lex_Number_B0 (b:List Int)(at_:Int)(most:Int)(v3:Int)(p:Int × Int):Option ((Int × Int) ⊕ (Unit ⊕ Int)):=match p with
 | (x28,x29)=>
  if (ilt x29 (lenI (cut b at_ v3)))=true then
   Option.bind (getI (cut b at_ v3) x29) fun v31=>
   if (ilt (imin most 2147483647) (iadd .i64 (imul .i64 x28 10) (iconv .i64 (isub .u8 v31 48))))=true then
    some (.inr (.inl ()))
   else
    some (.inl (((iadd .i64 (imul .i64 x28 10) (iconv .i64 (isub .u8 v31 48))),(iadd .i64 x29 1))))
  else
   some (.inr (.inr x28))
def lex_Number_B1 (b:List Int)(at_:Int)(most:Int)(v3:Int)(p:Int × Int):Option ((Int × Int) ⊕ (Unit ⊕ Int)):=match p with
 | (x55,x56)=>
  if (ilt x56 (lenI (cut b at_ v3)))=true then
   Option.bind (getI (cut b at_ v3) x56) fun v58=>
   if (ilt (imin most 2147483647) (iadd .i64 (imul .i64 x55 10) (iconv .i64 (isub .u8 v58 48))))=true then
    some (.inr (.inl ()))
   else
    some (.inl (((iadd .i64 (imul .i64 x55 10) (iconv .i64 (isub .u8 v58 48))),(iadd .i64 x56 1))))
  else
   some (.inr (.inr x55))
def lex_Number (b:List Int)(at_:Int)(most:Int):Option (Int × Int × Int):=
 Option.bind (lex_isPlace b at_) fun v0=>
 if v0=true then
  Option.bind (lex_run_figs b at_) fun v3=>
  if (ieq v3 at_)=true then
   some (0,at_,2)
  else
   Option.bind (getI b at_) fun v6=>
   if (ieq v6 48)=true then
    if (ilt (iadd .i64 at_ 1) v3)=true then
     some (0,at_,2)
    else
     if (cutOk (lenN b) at_ v3)=true then
      Option.bind (loopF (lex_Number_B0 b at_ most v3) (0,0)) fun r=>match r with
      | .inl ()=>
       some (0,at_,3)
      | .inr y34=>
       some (y34,v3,0)
     else
      none
   else
    if (cutOk (lenN b) at_ v3)=true then
     Option.bind (loopF (lex_Number_B1 b at_ most v3) (0,0)) fun r=>match r with
     | .inl ()=>
      some (0,at_,3)
     | .inr y61=>
      some (y61,v3,0)
    else
     none
 else
  some (0,0,2)
def strings_IndexByte (s:ByteArray)(c:Int):Option Int:=
 Option.bind (internal_stringslite_IndexByte s c) fun v0=>
 some v0
def aig_Vars (a:Aig):Option Int:=
 some ((iadd .i64 (iadd .i64 a.I (lenI a.L)) (lenI a.G)))
def aig_many (a:Aig)(kind:Int):Option Int:=
 if (ieq kind 105)=true then
  some a.I
 else
  if (ieq kind 108)=true then
   some (lenI a.L)
  else
   if (ieq kind 111)=true then
    some (lenI a.outs)
   else
    if (ieq kind 98)=true then
     some (lenI a.bad)
    else
     if (ieq kind 99)=true then
      some (lenI a.con)
     else
      some 0
def aig_behind (x:Name)(y_:Name):Option Bool:=
 Option.bind (strings_IndexByte ({ data:=#[105,108,111,98,99] }) x.kind) fun v0=>
 Option.bind (strings_IndexByte ({ data:=#[105,108,111,98,99] }) y_.kind) fun v2=>
 if (ilt v0 v2)=true then
  some true
 else
  if (ieq v0 v2)=true then
   some (ilt x.pos y_.pos)
  else
   some false
def aig_isNames_B0 (a:Aig)(p:Int):Option (Int ⊕ (Unit ⊕ Unit)):=match p with
 | x37=>
  if (ilt x37 (lenI a.names))=true then
   Option.bind (getI a.names x37) fun v39=>
   if (ilt v39.pos 0)=true then
    some (.inr (.inl ()))
   else
    Option.bind (aig_many a v39.kind) fun v42=>
    if (ile v42 v39.pos)=true then
     some (.inr (.inl ()))
    else
     Option.bind (lex_IsName v39.s) fun v45=>
     if v45=true then
      if (ilt 0 x37)=true then
       Option.bind (getI a.names (isub .i64 x37 1)) fun v49=>
       Option.bind (aig_behind v49 v39) fun v51=>
       if v51=true then
        some (.inl (iadd .i64 x37 1))
       else
        some (.inr (.inl ()))
      else
       some (.inl (iadd .i64 x37 1))
     else
      some (.inr (.inl ()))
  else
   some (.inr (.inr ()))
def aig_isNames (a:Aig):Option Bool:=
 Option.bind (loopF (aig_isNames_B0 a) 0) fun r=>match r with
 | .inl ()=>
  some false
 | .inr ()=>
  some ((ile (lenI a.names) 2000))
def aig_Right_1_odd (l:Int)(k1:Aig):Option Bool:=
 if (ilt l 0)=true then
  some true
 else
  Option.bind (aig_Vars k1) fun v1=>
  some ((ilt (iadd .i64 (imul .i64 2 v1) 1) l))
def slices_IndexFunc_odd_B0 (s:List Int)(f_:Aig)(p:Int):Option (Int ⊕ (Int ⊕ Unit)):=match p with
 | x16=>
  if (ilt x16 (lenI s))=true then
   Option.bind (getI s x16) fun v18=>
   Option.bind (aig_Right_1_odd v18 f_) fun v20=>
   if v20=true then
    some (.inr (.inl x16))
   else
    some (.inl (iadd .i64 x16 1))
  else
   some (.inr (.inr ()))
def slices_IndexFunc_odd (s:List Int)(f_:Aig):Option Int:=
 Option.bind (loopF (slices_IndexFunc_odd_B0 s f_) 0) fun r=>match r with
 | .inl y23=>
  some y23
 | .inr ()=>
  some (-1)
def slices_ContainsFunc_odd (s:List Int)(f_:Aig):Option Bool:=
 Option.bind (slices_IndexFunc_odd s f_) fun v0=>
 some (ile 0 v0)
def aig_Right_B0 (a:Aig)(p:Int):Option (Int ⊕ (Unit ⊕ Unit)):=match p with
 | x30=>
  if (ilt x30 (lenI a.L))=true then
   Option.bind (getI a.L x30) fun v32=>
   Option.bind (aig_Right_1_odd v32.next a) fun v34=>
   if v34=true then
    some (.inr (.inl ()))
   else
    if (ieq v32.reset 0)=true then
     some (.inl (iadd .i64 x30 1))
    else
     if (ieq v32.reset 1)=true then
      some (.inl (iadd .i64 x30 1))
     else
      if (ieq v32.reset (imul .i64 2 (iadd .i64 (iadd .i64 a.I 1) x30)))=true then
       some (.inl (iadd .i64 x30 1))
      else
       some (.inr (.inl ()))
  else
   some (.inr (.inr ()))
def aig_Right_B1 (a:Aig)(p:Int):Option (Int ⊕ (Unit ⊕ Unit)):=match p with
 | x57=>
  if (ilt x57 (lenI a.G))=true then
   Option.bind (getI a.G x57) fun v59=>
   if (ilt v59.b 0)=true then
    some (.inr (.inl ()))
   else
    if (ilt v59.a v59.b)=true then
     some (.inr (.inl ()))
    else
     if (ile (imul .i64 2 (iadd .i64 (iadd .i64 (iadd .i64 a.I (lenI a.L)) 1) x57)) v59.a)=true then
      some (.inr (.inl ()))
     else
      some (.inl (iadd .i64 x57 1))
  else
   some (.inr (.inr ()))
def aig_Right_B2 (a:Aig)(p:Int):Option (Int ⊕ (Unit ⊕ Unit)):=match p with
 | x85=>
  if (ilt x85 3)=true then
   if (inI 3 x85)=true then
    Option.bind (nthI [a.outs,a.bad,a.con] x85) fun v88=>
    if (ilt 2000 (lenI v88))=true then
     some (.inr (.inl ()))
    else
     Option.bind (slices_ContainsFunc_odd v88 a) fun v91=>
     if v91=true then
      some (.inr (.inl ()))
     else
      some (.inl (iadd .i64 x85 1))
   else
    none
  else
   some (.inr (.inr ()))
def aig_Right (a:Aig):Option Bool:=
 if (ilt a.I 0)=true then
  some false
 else
  if (ilt 20000 a.I)=true then
   some false
  else
   if (ilt 20000 (lenI a.L))=true then
    some false
   else
    if (ilt 20000 (lenI a.G))=true then
     some false
    else
     Option.bind (aig_Vars a) fun v4=>
     if (ilt 20000 v4)=true then
      some false
     else
      Option.bind (loopF (aig_Right_B0 a) 0) fun r=>match r with
      | .inl ()=>
       some false
      | .inr ()=>
       Option.bind (loopF (aig_Right_B1 a) 0) fun r=>match r with
       | .inl ()=>
        some false
       | .inr ()=>
        Option.bind (loopF (aig_Right_B2 a) 0) fun r=>match r with
        | .inl ()=>
         some false
        | .inr ()=>
         Option.bind (aig_isNames a) fun v94=>
         some v94
def slices_Grow_nil0 (n:Int):Option (List Int):=
 if (ilt n 0)=true then
  none
 else
  if (ilt 0 (isub .i64 n (isub .i64 0 0)))=true then
   if (cutOk 0 0 0)=true then
    if (zOk (isub .i64 n (isub .i64 0 0)) 8)=true then
     if (cutOk (natI (isub .i64 n (isub .i64 0 0))) 0 0)=true then
      some ([]:List Int)
     else
      none
    else
     none
   else
    none
  else
   some ([]:List Int)
def slices_Concat_B0 (slices:List (List Int))(p:Int × Int):Option ((Int × Int) ⊕ Int):=match p with
 | (x15,x16)=>
  if (ilt x16 (lenI slices))=true then
   Option.bind (getI slices x16) fun v18=>
   if (ilt (iadd .i64 x15 (lenI v18)) 0)=true then
    none
   else
    some (.inl (((iadd .i64 x15 (lenI v18)),(iadd .i64 x16 1))))
  else
   some (.inr x15)
def slices_Concat_B1 (slices:List (List Int))(p:(List Int) × Int):Option (((List Int) × Int) ⊕ (List Int)):=match p with
 | (x38,x39)=>
  if (ilt x39 (lenI slices))=true then
   Option.bind (getI slices x39) fun v41=>
   if (capN (lenN (x38++v41)) 8)=true then
    some (.inl (((x38++v41),(iadd .i64 x39 1))))
   else
    none
  else
   some (.inr x38)
def slices_Concat (slices:List (List Int)):Option (List Int):=
 Option.bind (loopF (slices_Concat_B0 slices) (0,0)) fun y21=>
 Option.bind (slices_Grow_nil0 y21) fun v22=>
 Option.bind (loopF (slices_Concat_B1 slices) (v22,0)) fun y44=>
 some y44
def strings_Builder_WriteString0 (s:ByteArray):Option (Int × (List Int)):=
 Option.bind (bld_check0) fun _u=>
 if (capN (lenN (bytesOf s)) 1)=true then
  some (((sizI s),(bytesOf s)))
 else
  none
def strings_Builder_WriteString1 (s:ByteArray)(q0:List Int):Option (Int × (List Int)):=
 Option.bind (bld_check1 q0) fun v0=>
 if (capN (lenN (v0++bytesOf s)) 1)=true then
  some (((sizI s),(v0++bytesOf s)))
 else
  none
def aig_line_B0 (l:List Int)(p:(List ByteArray) × Int):Option (((List ByteArray) × Int) ⊕ (List ByteArray)):=match p with
 | (x18,x19)=>
  if (ilt x19 (lenI l))=true then
   Option.bind (getI l x19) fun v21=>
   Option.bind (strconv_Itoa v21) fun v23=>
   if (capN (lenN (x18++[v23])) 16)=true then
    some (.inl (((x18++[v23]),(iadd .i64 x19 1))))
   else
    none
  else
   some (.inr x18)
def aig_line (l:List Int):Option ByteArray:=
 Option.bind (loopF (aig_line_B0 l) ([],0)) fun y26=>
 Option.bind (strings_Join y26 ({ data:=#[32] })) fun v27=>
 if (addOk v27 { data:=#[10] })=true then
  some (v27++{ data:=#[10] })
 else
  none
def aig_Names_B0 (a:Aig)(s:ByteArray)(p:(List Int) × Int):Option (((List Int) × Int) ⊕ (List Int)):=match p with
 | (x33,x34)=>
  if (ilt x34 (lenI a.names))=true then
   Option.bind (getI a.names x34) fun v36=>
   Option.bind (strconv_Itoa v36.pos) fun v38=>
   if (addOk (strOf [v36.kind]) v38)=true then
    if (addOk (strOf [v36.kind]++v38) { data:=#[32] })=true then
     if (addOk (strOf [v36.kind]++v38++{ data:=#[32] }) v36.s)=true then
      if (addOk (strOf [v36.kind]++v38++{ data:=#[32] }++v36.s) { data:=#[10] })=true then
       Option.bind (strings_Builder_WriteString1 (strOf [v36.kind]++v38++{ data:=#[32] }++v36.s++{ data:=#[10] }) x33) fun (v44,v45)=>
       some (.inl ((v45,(iadd .i64 x34 1))))
      else
       none
     else
      none
    else
     none
   else
    none
  else
   some (.inr x33)
def aig_Names (a:Aig)(s:ByteArray):Option ByteArray:=
 Option.bind (strings_Builder_WriteString0 s) fun (v0,v1)=>
 Option.bind (loopF (aig_Names_B0 a s) (v1,0)) fun y47=>
 Option.bind (strings_Builder_String y47) fun v48=>
 some v48
def aig_Print_B0 (a:Aig)(p:(List Int) × Int):Option (((List Int) × Int) ⊕ (List Int)):=match p with
 | (x29,x30)=>
  if (ilt x30 a.I)=true then
   Option.bind (aig_line (([imul .i64 2 (iadd .i64 x30 1)]))) fun v32=>
   Option.bind (strings_Builder_WriteString1 v32 x29) fun (v34,v35)=>
   some (.inl ((v35,(iadd .i64 x30 1))))
  else
   some (.inr x29)
def aig_Print_B1 (a:Aig)(p:(List Int) × Int):Option (((List Int) × Int) ⊕ (List Int)):=match p with
 | (x61,x62)=>
  if (ilt x62 (lenI a.L))=true then
   Option.bind (getI a.L x62) fun v64=>
   Option.bind (aig_line (([imul .i64 2 (iadd .i64 (iadd .i64 a.I 1) x62),v64.next,v64.reset]))) fun v66=>
   Option.bind (strings_Builder_WriteString1 v66 x61) fun (v68,v69)=>
   some (.inl ((v69,(iadd .i64 x62 1))))
  else
   some (.inr x61)
def aig_Print_B2 (v72:List Int)(p:(List Int) × Int):Option (((List Int) × Int) ⊕ (List Int)):=match p with
 | (x99,x100)=>
  if (ilt x100 (lenI v72))=true then
   if (inI (lenN v72) x100)=true then
    Option.bind (nthI v72 x100) fun v103=>
    Option.bind (aig_line [v103]) fun v105=>
    Option.bind (strings_Builder_WriteString1 v105 x99) fun (v107,v108)=>
    some (.inl ((v108,(iadd .i64 x100 1))))
   else
    none
  else
   some (.inr x99)
def aig_Print_B3 (a:Aig)(p:(List Int) × Int):Option (((List Int) × Int) ⊕ (List Int)):=match p with
 | (x134,x135)=>
  if (ilt x135 (lenI a.G))=true then
   Option.bind (getI a.G x135) fun v137=>
   Option.bind (aig_line (([imul .i64 2 (iadd .i64 (iadd .i64 (iadd .i64 a.I (lenI a.L)) 1) x135),v137.a,v137.b]))) fun v139=>
   Option.bind (strings_Builder_WriteString1 v139 x134) fun (v141,v142)=>
   some (.inl ((v142,(iadd .i64 x135 1))))
  else
   some (.inr x134)
def aig_Print (a:Aig):Option (ByteArray × Int):=
 Option.bind (aig_Right a) fun v0=>
 if v0=true then
  Option.bind (aig_Vars a) fun v3=>
  Option.bind (aig_line ([v3,a.I,lenI a.L,lenI a.outs,lenI a.G,lenI a.bad,lenI a.con])) fun v5=>
  if (addOk { data:=#[97,97,103,32] } v5)=true then
   Option.bind (strings_Builder_WriteString0 ({ data:=#[97,97,103,32] }++v5)) fun (v8,v9)=>
   Option.bind (loopF (aig_Print_B0 a) (v9,0)) fun y37=>
   Option.bind (loopF (aig_Print_B1 a) (y37,0)) fun y71=>
   Option.bind (slices_Concat ([a.outs,a.bad,a.con])) fun v72=>
   Option.bind (loopF (aig_Print_B2 v72) (y71,0)) fun y110=>
   Option.bind (loopF (aig_Print_B3 a) (y110,0)) fun y144=>
   Option.bind (strings_Builder_String y144) fun v145=>
   Option.bind (aig_Names a v145) fun v147=>
   some (v147,0)
  else
   none
 else
  some ((({ data:=#[] }),1))
def slices_Equal_B0 (s1:List Int)(s2:List Int)(p:Int):Option (Int ⊕ (Unit ⊕ Unit)):=match p with
 | x18=>
  if (ilt x18 (lenI s1))=true then
   Option.bind (getI s1 x18) fun v20=>
   Option.bind (getI s2 x18) fun v22=>
   if (ieq v20 v22)=true then
    some (.inl (iadd .i64 x18 1))
   else
    some (.inr (.inl ()))
  else
   some (.inr (.inr ()))
def slices_Equal (s1:List Int)(s2:List Int):Option Bool:=
 if (ieq (lenI s1) (lenI s2))=true then
  Option.bind (loopF (slices_Equal_B0 s1 s2) 0) fun r=>match r with
  | .inl ()=>
   some false
  | .inr ()=>
   some true
 else
  some false
def slices_Equal'_B0 (s1:List Latch)(s2:List Latch)(p:Int):Option (Int ⊕ (Unit ⊕ Unit)):=match p with
 | x18=>
  if (ilt x18 (lenI s1))=true then
   Option.bind (getI s1 x18) fun v20=>
   Option.bind (getI s2 x18) fun v22=>
   if (!ieq v20.next v22.next||!ieq v20.reset v22.reset)=true then
    some (.inr (.inl ()))
   else
    some (.inl (iadd .i64 x18 1))
  else
   some (.inr (.inr ()))
def slices_Equal' (s1:List Latch)(s2:List Latch):Option Bool:=
 if (ieq (lenI s1) (lenI s2))=true then
  Option.bind (loopF (slices_Equal'_B0 s1 s2) 0) fun r=>match r with
  | .inl ()=>
   some false
  | .inr ()=>
   some true
 else
  some false
def slices_Equal''_B0 (s1:List And)(s2:List And)(p:Int):Option (Int ⊕ (Unit ⊕ Unit)):=match p with
 | x18=>
  if (ilt x18 (lenI s1))=true then
   Option.bind (getI s1 x18) fun v20=>
   Option.bind (getI s2 x18) fun v22=>
   if (!ieq v20.a v22.a||!ieq v20.b v22.b)=true then
    some (.inr (.inl ()))
   else
    some (.inl (iadd .i64 x18 1))
  else
   some (.inr (.inr ()))
def slices_Equal'' (s1:List And)(s2:List And):Option Bool:=
 if (ieq (lenI s1) (lenI s2))=true then
  Option.bind (loopF (slices_Equal''_B0 s1 s2) 0) fun r=>match r with
  | .inl ()=>
   some false
  | .inr ()=>
   some true
 else
  some false
def slices_Equal'''_B0 (s1:List Name)(s2:List Name)(p:Int):Option (Int ⊕ (Unit ⊕ Unit)):=match p with
 | x18=>
  if (ilt x18 (lenI s1))=true then
   Option.bind (getI s1 x18) fun v20=>
   Option.bind (getI s2 x18) fun v22=>
   if (!ieq v20.kind v22.kind||(!ieq v20.pos v22.pos||!seq v20.s v22.s))=true then
    some (.inr (.inl ()))
   else
    some (.inl (iadd .i64 x18 1))
  else
   some (.inr (.inr ()))
def slices_Equal''' (s1:List Name)(s2:List Name):Option Bool:=
 if (ieq (lenI s1) (lenI s2))=true then
  Option.bind (loopF (slices_Equal'''_B0 s1 s2) 0) fun r=>match r with
  | .inl ()=>
   some false
  | .inr ()=>
   some true
 else
  some false
def aig_Same (a:Aig)(b:Aig):Option Bool:=
 Option.bind (slices_Equal a.outs b.outs) fun v0=>
 if v0=true then
  Option.bind (slices_Equal a.bad b.bad) fun v3=>
  if v3=true then
   Option.bind (slices_Equal a.con b.con) fun v6=>
   if v6=true then
    if (ieq a.I b.I)=true then
     Option.bind (slices_Equal' a.L b.L) fun v10=>
     if v10=true then
      Option.bind (slices_Equal'' a.G b.G) fun v13=>
      if v13=true then
       Option.bind (slices_Equal''' a.names b.names) fun v16=>
       some v16
      else
       some false
     else
      some false
    else
     some false
   else
    some false
  else
   some false
 else
  some false
def ref01_Long_B0 (s:ByteArray)(at_:Int)(p:Int × Int):Option ((Int × Int) ⊕ (Unit ⊕ Int)):=match p with
 | (x24,x25)=>
  if (ilt x25 4)=true then
   if (ile (isub .i64 (sizI s) at_) x25)=true then
    some (.inr (.inl ()))
   else
    Option.bind (getB s (iadd .i64 at_ x25)) fun v28=>
    if (ilt v28 128)=true then
     some (.inr (.inl ()))
    else
     if (ilt 191 v28)=true then
      some (.inr (.inl ()))
     else
      some (.inl (((isub .i64 (iadd .i64 (imul .i64 x24 64) (iconv .i64 v28)) 128),(iadd .i64 x25 1))))
  else
   some (.inr (.inr x24))
def ref01_Long_B1 (s:ByteArray)(at_:Int)(p:Int × Int):Option ((Int × Int) ⊕ (Unit ⊕ Int)):=match p with
 | (x61,x62)=>
  if (ilt x62 3)=true then
   if (ile (isub .i64 (sizI s) at_) x62)=true then
    some (.inr (.inl ()))
   else
    Option.bind (getB s (iadd .i64 at_ x62)) fun v65=>
    if (ilt v65 128)=true then
     some (.inr (.inl ()))
    else
     if (ilt 191 v65)=true then
      some (.inr (.inl ()))
     else
      some (.inl (((isub .i64 (iadd .i64 (imul .i64 x61 64) (iconv .i64 v65)) 128),(iadd .i64 x62 1))))
  else
   some (.inr (.inr x61))
def ref01_Long_B2 (s:ByteArray)(at_:Int)(p:Int × Int):Option ((Int × Int) ⊕ (Unit ⊕ Int)):=match p with
 | (x98,x99)=>
  if (ilt x99 2)=true then
   if (ile (isub .i64 (sizI s) at_) x99)=true then
    some (.inr (.inl ()))
   else
    Option.bind (getB s (iadd .i64 at_ x99)) fun v102=>
    if (ilt v102 128)=true then
     some (.inr (.inl ()))
    else
     if (ilt 191 v102)=true then
      some (.inr (.inl ()))
     else
      some (.inl (((isub .i64 (iadd .i64 (imul .i64 x98 64) (iconv .i64 v102)) 128),(iadd .i64 x99 1))))
  else
   some (.inr (.inr x98))
def ref01_Long_B3 (s:ByteArray)(at_:Int)(p:Int × Int):Option ((Int × Int) ⊕ (Unit ⊕ Int)):=match p with
 | (x134,x135)=>
  if (ilt x135 1)=true then
   if (ile (isub .i64 (sizI s) at_) x135)=true then
    some (.inr (.inl ()))
   else
    Option.bind (getB s (iadd .i64 at_ x135)) fun v138=>
    if (ilt v138 128)=true then
     some (.inr (.inl ()))
    else
     if (ilt 191 v138)=true then
      some (.inr (.inl ()))
     else
      some (.inl (((isub .i64 (iadd .i64 (imul .i64 x134 64) (iconv .i64 v138)) 128),(iadd .i64 x135 1))))
  else
   some (.inr (.inr x134))
def ref01_Long_B4 (s:ByteArray)(at_:Int)(p:Int × Int):Option ((Int × Int) ⊕ (Unit ⊕ Int)):=match p with
 | (x170,x171)=>
  if (ilt x171 1)=true then
   if (ile (isub .i64 (sizI s) at_) x171)=true then
    some (.inr (.inl ()))
   else
    Option.bind (getB s (iadd .i64 at_ x171)) fun v174=>
    if (ilt v174 128)=true then
     some (.inr (.inl ()))
    else
     if (ilt 191 v174)=true then
      some (.inr (.inl ()))
     else
      some (.inl (((isub .i64 (iadd .i64 (imul .i64 x170 64) (iconv .i64 v174)) 128),(iadd .i64 x171 1))))
  else
   some (.inr (.inr x170))
def ref01_Long_B5 (s:ByteArray)(at_:Int)(p:Int × Int):Option ((Int × Int) ⊕ (Unit ⊕ Int)):=match p with
 | (x207,x208)=>
  if (ilt x208 2)=true then
   if (ile (isub .i64 (sizI s) at_) x208)=true then
    some (.inr (.inl ()))
   else
    Option.bind (getB s (iadd .i64 at_ x208)) fun v211=>
    if (ilt v211 128)=true then
     some (.inr (.inl ()))
    else
     if (ilt 191 v211)=true then
      some (.inr (.inl ()))
     else
      some (.inl (((isub .i64 (iadd .i64 (imul .i64 x207 64) (iconv .i64 v211)) 128),(iadd .i64 x208 1))))
  else
   some (.inr (.inr x207))
def ref01_Long_B6 (s:ByteArray)(at_:Int)(p:Int × Int):Option ((Int × Int) ⊕ (Unit ⊕ Int)):=match p with
 | (x243,x244)=>
  if (ilt x244 1)=true then
   if (ile (isub .i64 (sizI s) at_) x244)=true then
    some (.inr (.inl ()))
   else
    Option.bind (getB s (iadd .i64 at_ x244)) fun v247=>
    if (ilt v247 128)=true then
     some (.inr (.inl ()))
    else
     if (ilt 191 v247)=true then
      some (.inr (.inl ()))
     else
      some (.inl (((isub .i64 (iadd .i64 (imul .i64 x243 64) (iconv .i64 v247)) 128),(iadd .i64 x244 1))))
  else
   some (.inr (.inr x243))
def ref01_Long_B7 (s:ByteArray)(at_:Int)(p:Int × Int):Option ((Int × Int) ⊕ (Unit ⊕ Int)):=match p with
 | (x279,x280)=>
  if (ilt x280 1)=true then
   if (ile (isub .i64 (sizI s) at_) x280)=true then
    some (.inr (.inl ()))
   else
    Option.bind (getB s (iadd .i64 at_ x280)) fun v283=>
    if (ilt v283 128)=true then
     some (.inr (.inl ()))
    else
     if (ilt 191 v283)=true then
      some (.inr (.inl ()))
     else
      some (.inl (((isub .i64 (iadd .i64 (imul .i64 x279 64) (iconv .i64 v283)) 128),(iadd .i64 x280 1))))
  else
   some (.inr (.inr x279))
def ref01_Long_B8 (s:ByteArray)(at_:Int)(p:Int × Int):Option ((Int × Int) ⊕ (Unit ⊕ Int)):=match p with
 | (x316,x317)=>
  if (ilt x317 3)=true then
   if (ile (isub .i64 (sizI s) at_) x317)=true then
    some (.inr (.inl ()))
   else
    Option.bind (getB s (iadd .i64 at_ x317)) fun v320=>
    if (ilt v320 128)=true then
     some (.inr (.inl ()))
    else
     if (ilt 191 v320)=true then
      some (.inr (.inl ()))
     else
      some (.inl (((isub .i64 (iadd .i64 (imul .i64 x316 64) (iconv .i64 v320)) 128),(iadd .i64 x317 1))))
  else
   some (.inr (.inr x316))
def ref01_Long_B9 (s:ByteArray)(at_:Int)(p:Int × Int):Option ((Int × Int) ⊕ (Unit ⊕ Int)):=match p with
 | (x353,x354)=>
  if (ilt x354 2)=true then
   if (ile (isub .i64 (sizI s) at_) x354)=true then
    some (.inr (.inl ()))
   else
    Option.bind (getB s (iadd .i64 at_ x354)) fun v357=>
    if (ilt v357 128)=true then
     some (.inr (.inl ()))
    else
     if (ilt 191 v357)=true then
      some (.inr (.inl ()))
     else
      some (.inl (((isub .i64 (iadd .i64 (imul .i64 x353 64) (iconv .i64 v357)) 128),(iadd .i64 x354 1))))
  else
   some (.inr (.inr x353))
def ref01_Long_B10 (s:ByteArray)(at_:Int)(p:Int × Int):Option ((Int × Int) ⊕ (Unit ⊕ Int)):=match p with
 | (x389,x390)=>
  if (ilt x390 1)=true then
   if (ile (isub .i64 (sizI s) at_) x390)=true then
    some (.inr (.inl ()))
   else
    Option.bind (getB s (iadd .i64 at_ x390)) fun v393=>
    if (ilt v393 128)=true then
     some (.inr (.inl ()))
    else
     if (ilt 191 v393)=true then
      some (.inr (.inl ()))
     else
      some (.inl (((isub .i64 (iadd .i64 (imul .i64 x389 64) (iconv .i64 v393)) 128),(iadd .i64 x390 1))))
  else
   some (.inr (.inr x389))
def ref01_Long_B11 (s:ByteArray)(at_:Int)(p:Int × Int):Option ((Int × Int) ⊕ (Unit ⊕ Int)):=match p with
 | (x425,x426)=>
  if (ilt x426 1)=true then
   if (ile (isub .i64 (sizI s) at_) x426)=true then
    some (.inr (.inl ()))
   else
    Option.bind (getB s (iadd .i64 at_ x426)) fun v429=>
    if (ilt v429 128)=true then
     some (.inr (.inl ()))
    else
     if (ilt 191 v429)=true then
      some (.inr (.inl ()))
     else
      some (.inl (((isub .i64 (iadd .i64 (imul .i64 x425 64) (iconv .i64 v429)) 128),(iadd .i64 x426 1))))
  else
   some (.inr (.inr x425))
def ref01_Long_B12 (s:ByteArray)(at_:Int)(p:Int × Int):Option ((Int × Int) ⊕ (Unit ⊕ Int)):=match p with
 | (x462,x463)=>
  if (ilt x463 2)=true then
   if (ile (isub .i64 (sizI s) at_) x463)=true then
    some (.inr (.inl ()))
   else
    Option.bind (getB s (iadd .i64 at_ x463)) fun v466=>
    if (ilt v466 128)=true then
     some (.inr (.inl ()))
    else
     if (ilt 191 v466)=true then
      some (.inr (.inl ()))
     else
      some (.inl (((isub .i64 (iadd .i64 (imul .i64 x462 64) (iconv .i64 v466)) 128),(iadd .i64 x463 1))))
  else
   some (.inr (.inr x462))
def ref01_Long_B13 (s:ByteArray)(at_:Int)(p:Int × Int):Option ((Int × Int) ⊕ (Unit ⊕ Int)):=match p with
 | (x498,x499)=>
  if (ilt x499 1)=true then
   if (ile (isub .i64 (sizI s) at_) x499)=true then
    some (.inr (.inl ()))
   else
    Option.bind (getB s (iadd .i64 at_ x499)) fun v502=>
    if (ilt v502 128)=true then
     some (.inr (.inl ()))
    else
     if (ilt 191 v502)=true then
      some (.inr (.inl ()))
     else
      some (.inl (((isub .i64 (iadd .i64 (imul .i64 x498 64) (iconv .i64 v502)) 128),(iadd .i64 x499 1))))
  else
   some (.inr (.inr x498))
def ref01_Long_B14 (s:ByteArray)(at_:Int)(p:Int × Int):Option ((Int × Int) ⊕ (Unit ⊕ Int)):=match p with
 | (x534,x535)=>
  if (ilt x535 1)=true then
   if (ile (isub .i64 (sizI s) at_) x535)=true then
    some (.inr (.inl ()))
   else
    Option.bind (getB s (iadd .i64 at_ x535)) fun v538=>
    if (ilt v538 128)=true then
     some (.inr (.inl ()))
    else
     if (ilt 191 v538)=true then
      some (.inr (.inl ()))
     else
      some (.inl (((isub .i64 (iadd .i64 (imul .i64 x534 64) (iconv .i64 v538)) 128),(iadd .i64 x535 1))))
  else
   some (.inr (.inr x534))
def ref01_Long (s:ByteArray)(at_:Int):Option Int:=
 Option.bind (getB s at_) fun v0=>
 if (ile 240 (iconv .i64 v0))=true then
  if (ilt (iconv .i64 v0) 248)=true then
   Option.bind (loopF (ref01_Long_B0 s at_) (((isub .i64 (iconv .i64 v0) 240),1))) fun r=>match r with
   | .inl ()=>
    some 0
   | .inr y32=>
    if (ilt y32 65536)=true then
     some 0
    else
     if (ilt 1114111 y32)=true then
      some 0
     else
      if (ile 55296 y32)=true then
       if (ilt y32 57344)=true then
        some 0
       else
        some 4
      else
       some 4
  else
   if (ile 224 (iconv .i64 v0))=true then
    if (ilt (iconv .i64 v0) 240)=true then
     Option.bind (loopF (ref01_Long_B1 s at_) (((isub .i64 (iconv .i64 v0) 224),1))) fun r=>match r with
     | .inl ()=>
      some 0
     | .inr y69=>
      if (ilt y69 2048)=true then
       some 0
      else
       if (ilt 1114111 y69)=true then
        some 0
       else
        if (ile 55296 y69)=true then
         if (ilt y69 57344)=true then
          some 0
         else
          some 3
        else
         some 3
    else
     if (ile 192 (iconv .i64 v0))=true then
      if (ilt (iconv .i64 v0) 224)=true then
       Option.bind (loopF (ref01_Long_B2 s at_) (((isub .i64 (iconv .i64 v0) 192),1))) fun r=>match r with
       | .inl ()=>
        some 0
       | .inr y106=>
        if (ilt y106 128)=true then
         some 0
        else
         if (ilt 1114111 y106)=true then
          some 0
         else
          if (ile 55296 y106)=true then
           if (ilt y106 57344)=true then
            some 0
           else
            some 2
          else
           some 2
      else
       if (ile 128 (iconv .i64 v0))=true then
        some 0
       else
        Option.bind (loopF (ref01_Long_B3 s at_) (((iconv .i64 v0),1))) fun r=>match r with
        | .inl ()=>
         some 0
        | .inr y142=>
         if (ilt y142 0)=true then
          some 0
         else
          if (ilt 1114111 y142)=true then
           some 0
          else
           if (ile 55296 y142)=true then
            if (ilt y142 57344)=true then
             some 0
            else
             some 1
           else
            some 1
     else
      if (ile 128 (iconv .i64 v0))=true then
       some 0
      else
       Option.bind (loopF (ref01_Long_B4 s at_) (((iconv .i64 v0),1))) fun r=>match r with
       | .inl ()=>
        some 0
       | .inr y178=>
        if (ilt y178 0)=true then
         some 0
        else
         if (ilt 1114111 y178)=true then
          some 0
         else
          if (ile 55296 y178)=true then
           if (ilt y178 57344)=true then
            some 0
           else
            some 1
          else
           some 1
   else
    if (ile 192 (iconv .i64 v0))=true then
     if (ilt (iconv .i64 v0) 224)=true then
      Option.bind (loopF (ref01_Long_B5 s at_) (((isub .i64 (iconv .i64 v0) 192),1))) fun r=>match r with
      | .inl ()=>
       some 0
      | .inr y215=>
       if (ilt y215 128)=true then
        some 0
       else
        if (ilt 1114111 y215)=true then
         some 0
        else
         if (ile 55296 y215)=true then
          if (ilt y215 57344)=true then
           some 0
          else
           some 2
         else
          some 2
     else
      if (ile 128 (iconv .i64 v0))=true then
       some 0
      else
       Option.bind (loopF (ref01_Long_B6 s at_) (((iconv .i64 v0),1))) fun r=>match r with
       | .inl ()=>
        some 0
       | .inr y251=>
        if (ilt y251 0)=true then
         some 0
        else
         if (ilt 1114111 y251)=true then
          some 0
         else
          if (ile 55296 y251)=true then
           if (ilt y251 57344)=true then
            some 0
           else
            some 1
          else
           some 1
    else
     if (ile 128 (iconv .i64 v0))=true then
      some 0
     else
      Option.bind (loopF (ref01_Long_B7 s at_) (((iconv .i64 v0),1))) fun r=>match r with
      | .inl ()=>
       some 0
      | .inr y287=>
       if (ilt y287 0)=true then
        some 0
       else
        if (ilt 1114111 y287)=true then
         some 0
        else
         if (ile 55296 y287)=true then
          if (ilt y287 57344)=true then
           some 0
          else
           some 1
         else
          some 1
 else
  if (ile 224 (iconv .i64 v0))=true then
   if (ilt (iconv .i64 v0) 240)=true then
    Option.bind (loopF (ref01_Long_B8 s at_) (((isub .i64 (iconv .i64 v0) 224),1))) fun r=>match r with
    | .inl ()=>
     some 0
    | .inr y324=>
     if (ilt y324 2048)=true then
      some 0
     else
      if (ilt 1114111 y324)=true then
       some 0
      else
       if (ile 55296 y324)=true then
        if (ilt y324 57344)=true then
         some 0
        else
         some 3
       else
        some 3
   else
    if (ile 192 (iconv .i64 v0))=true then
     if (ilt (iconv .i64 v0) 224)=true then
      Option.bind (loopF (ref01_Long_B9 s at_) (((isub .i64 (iconv .i64 v0) 192),1))) fun r=>match r with
      | .inl ()=>
       some 0
      | .inr y361=>
       if (ilt y361 128)=true then
        some 0
       else
        if (ilt 1114111 y361)=true then
         some 0
        else
         if (ile 55296 y361)=true then
          if (ilt y361 57344)=true then
           some 0
          else
           some 2
         else
          some 2
     else
      if (ile 128 (iconv .i64 v0))=true then
       some 0
      else
       Option.bind (loopF (ref01_Long_B10 s at_) (((iconv .i64 v0),1))) fun r=>match r with
       | .inl ()=>
        some 0
       | .inr y397=>
        if (ilt y397 0)=true then
         some 0
        else
         if (ilt 1114111 y397)=true then
          some 0
         else
          if (ile 55296 y397)=true then
           if (ilt y397 57344)=true then
            some 0
           else
            some 1
          else
           some 1
    else
     if (ile 128 (iconv .i64 v0))=true then
      some 0
     else
      Option.bind (loopF (ref01_Long_B11 s at_) (((iconv .i64 v0),1))) fun r=>match r with
      | .inl ()=>
       some 0
      | .inr y433=>
       if (ilt y433 0)=true then
        some 0
       else
        if (ilt 1114111 y433)=true then
         some 0
        else
         if (ile 55296 y433)=true then
          if (ilt y433 57344)=true then
           some 0
          else
           some 1
         else
          some 1
  else
   if (ile 192 (iconv .i64 v0))=true then
    if (ilt (iconv .i64 v0) 224)=true then
     Option.bind (loopF (ref01_Long_B12 s at_) (((isub .i64 (iconv .i64 v0) 192),1))) fun r=>match r with
     | .inl ()=>
      some 0
     | .inr y470=>
      if (ilt y470 128)=true then
       some 0
      else
       if (ilt 1114111 y470)=true then
        some 0
       else
        if (ile 55296 y470)=true then
         if (ilt y470 57344)=true then
          some 0
         else
          some 2
        else
         some 2
    else
     if (ile 128 (iconv .i64 v0))=true then
      some 0
     else
      Option.bind (loopF (ref01_Long_B13 s at_) (((iconv .i64 v0),1))) fun r=>match r with
      | .inl ()=>
       some 0
      | .inr y506=>
       if (ilt y506 0)=true then
        some 0
       else
        if (ilt 1114111 y506)=true then
         some 0
        else
         if (ile 55296 y506)=true then
          if (ilt y506 57344)=true then
           some 0
          else
           some 1
         else
          some 1
   else
    if (ile 128 (iconv .i64 v0))=true then
     some 0
    else
     Option.bind (loopF (ref01_Long_B14 s at_) (((iconv .i64 v0),1))) fun r=>match r with
     | .inl ()=>
      some 0
     | .inr y542=>
      if (ilt y542 0)=true then
       some 0
      else
       if (ilt 1114111 y542)=true then
        some 0
       else
        if (ile 55296 y542)=true then
         if (ilt y542 57344)=true then
          some 0
         else
          some 1
        else
         some 1
def ref01_IsName_B0 (s:ByteArray)(p:Int × Int):Option ((Int × Int) ⊕ (Unit ⊕ Int)):=match p with
 | (x21,x22)=>
  if (ilt x22 (sizI s))=true then
   Option.bind (ref01_Long s x22) fun v24=>
   if (ieq v24 0)=true then
    some (.inr (.inl ()))
   else
    Option.bind (getB s x22) fun v27=>
    if (ilt v27 32)=true then
     some (.inr (.inl ()))
    else
     if (ieq v27 127)=true then
      some (.inr (.inl ()))
     else
      some (.inl (((iadd .i64 x21 1),(iadd .i64 x22 v24))))
  else
   some (.inr (.inr x21))
def ref01_IsName (s:ByteArray):Option Bool:=
 Option.bind (loopF (ref01_IsName_B0 s) (0,0)) fun r=>match r with
 | .inl ()=>
  some false
 | .inr y31=>
  if (ile 1 y31)=true then
   some (ile y31 40)
  else
   some false
def ref06_kind_B0 (c:Int)(p:Int):Option (Int ⊕ (Int ⊕ Unit)):=match p with
 | x14=>
  if (ilt x14 5)=true then
   if (inI 5 x14)=true then
    Option.bind (nthI [105,108,111,98,99] x14) fun v17=>
    if (ieq v17 c)=true then
     some (.inr (.inl x14))
    else
     some (.inl (iadd .i64 x14 1))
   else
    none
  else
   some (.inr (.inr ()))
def ref06_kind (c:Int):Option Int:=
 Option.bind (loopF (ref06_kind_B0 c) 0) fun r=>match r with
 | .inl y20=>
  some y20
 | .inr ()=>
  some (-1)
def ref06_many (a:Aig)(k:Int):Option Int:=
 if (ieq k 0)=true then
  some a.I
 else
  if (ieq k 1)=true then
   some (lenI a.L)
  else
   if (ieq k 2)=true then
    some (lenI a.outs)
   else
    if (ieq k 3)=true then
     some (lenI a.bad)
    else
     if (ieq k 4)=true then
      some (lenI a.con)
     else
      some 0
def ref06_Behind (x:Name)(y_:Name):Option Bool:=
 Option.bind (ref06_kind x.kind) fun v0=>
 Option.bind (ref06_kind y_.kind) fun v2=>
 if (ilt v0 v2)=true then
  some true
 else
  if (ieq v0 v2)=true then
   some (ilt x.pos y_.pos)
  else
   some false
def ref06_lits_B0 (l:List Int)(v:Int)(p:Int):Option (Int ⊕ (Unit ⊕ Unit)):=match p with
 | x14=>
  if (ilt x14 (lenI l))=true then
   Option.bind (getI l x14) fun v16=>
   if (ilt v16 0)=true then
    some (.inr (.inl ()))
   else
    if (ilt (iadd .i64 (imul .i64 2 v) 1) v16)=true then
     some (.inr (.inl ()))
    else
     some (.inl (iadd .i64 x14 1))
  else
   some (.inr (.inr ()))
def ref06_lits (l:List Int)(v:Int):Option Bool:=
 Option.bind (loopF (ref06_lits_B0 l v) 0) fun r=>match r with
 | .inl ()=>
  some false
 | .inr ()=>
  some ((ile (lenI l) 2000))
def ref06_Vars (a:Aig):Option Int:=
 some ((iadd .i64 (iadd .i64 a.I (lenI a.L)) (lenI a.G)))
def ref06_Right_B0 (a:Aig)(v4:Int)(p:Int):Option (Int ⊕ (Unit ⊕ Unit)):=match p with
 | x37=>
  if (ilt x37 (lenI a.L))=true then
   Option.bind (getI a.L x37) fun v39=>
   if (ilt v39.next 0)=true then
    some (.inr (.inl ()))
   else
    if (ilt (iadd .i64 (imul .i64 2 v4) 1) v39.next)=true then
     some (.inr (.inl ()))
    else
     if (ieq v39.reset 0)=true then
      some (.inl (iadd .i64 x37 1))
     else
      if (ieq v39.reset 1)=true then
       some (.inl (iadd .i64 x37 1))
      else
       if (ieq v39.reset (imul .i64 2 (iadd .i64 (iadd .i64 a.I x37) 1)))=true then
        some (.inl (iadd .i64 x37 1))
       else
        some (.inr (.inl ()))
  else
   some (.inr (.inr ()))
def ref06_Right_B1 (a:Aig)(p:Int):Option (Int ⊕ (Unit ⊕ Unit)):=match p with
 | x61=>
  if (ilt x61 (lenI a.G))=true then
   Option.bind (getI a.G x61) fun v63=>
   if (ilt v63.b 0)=true then
    some (.inr (.inl ()))
   else
    if (ilt v63.a v63.b)=true then
     some (.inr (.inl ()))
    else
     if (ile (imul .i64 2 (iadd .i64 (iadd .i64 (iadd .i64 a.I (lenI a.L)) x61) 1)) v63.a)=true then
      some (.inr (.inl ()))
     else
      some (.inl (iadd .i64 x61 1))
  else
   some (.inr (.inr ()))
def ref06_Right_B2 (a:Aig)(p:Int):Option (Int ⊕ (Unit ⊕ Unit)):=match p with
 | x107=>
  if (ilt x107 (lenI a.names))=true then
   Option.bind (getI a.names x107) fun v109=>
   Option.bind (ref01_IsName v109.s) fun v111=>
   if v111=true then
    if (ilt v109.pos 0)=true then
     some (.inr (.inl ()))
    else
     Option.bind (ref06_kind v109.kind) fun v115=>
     Option.bind (ref06_many a v115) fun v117=>
     if (ile v117 v109.pos)=true then
      some (.inr (.inl ()))
     else
      if (ilt 0 x107)=true then
       Option.bind (getI a.names (isub .i64 x107 1)) fun v121=>
       Option.bind (ref06_Behind v121 v109) fun v123=>
       if v123=true then
        some (.inl (iadd .i64 x107 1))
       else
        some (.inr (.inl ()))
      else
       some (.inl (iadd .i64 x107 1))
   else
    some (.inr (.inl ()))
  else
   some (.inr (.inr ()))
def ref06_Right (a:Aig):Option Bool:=
 if (ilt a.I 0)=true then
  some false
 else
  if (ilt 20000 a.I)=true then
   some false
  else
   if (ilt 20000 (lenI a.L))=true then
    some false
   else
    if (ilt 20000 (lenI a.G))=true then
     some false
    else
     Option.bind (ref06_Vars a) fun v4=>
     if (ilt 20000 v4)=true then
      some false
     else
      if (ilt 2000 (lenI a.names))=true then
       some false
      else
       Option.bind (ref06_lits a.outs v4) fun v8=>
       Option.bind (ref06_lits a.bad v4) fun v10=>
       Option.bind (ref06_lits a.con v4) fun v12=>
       if v8=true then
        if v10=true then
         if v12=true then
          Option.bind (loopF (ref06_Right_B0 a v4) 0) fun r=>match r with
          | .inl ()=>
           some false
          | .inr ()=>
           Option.bind (loopF (ref06_Right_B1 a) 0) fun r=>match r with
           | .inl ()=>
            some false
           | .inr ()=>
            Option.bind (loopF (ref06_Right_B2 a) 0) fun r=>match r with
            | .inl ()=>
             some false
            | .inr ()=>
             some true
         else
          some false
        else
         some false
       else
        some false
def ref06_Small_B0 (a:Aig)(p:Int):Option (Int ⊕ (Unit ⊕ Unit)):=match p with
 | x18=>
  if (ilt x18 (lenI a.names))=true then
   Option.bind (getI a.names x18) fun v20=>
   if (ilt 200 (sizI v20.s))=true then
    some (.inr (.inl ()))
   else
    some (.inl (iadd .i64 x18 1))
  else
   some (.inr (.inr ()))
def ref06_Small (a:Aig)(most:Int):Option Bool:=
 if (ilt most a.I)=true then
  some false
 else
  if (ilt most (lenI a.L))=true then
   some false
  else
   if (ilt most (lenI a.G))=true then
    some false
   else
    if (ilt most (lenI a.outs))=true then
     some false
    else
     if (ilt most (lenI a.bad))=true then
      some false
     else
      if (ilt most (lenI a.con))=true then
       some false
      else
       if (ilt most (lenI a.names))=true then
        some false
       else
        Option.bind (loopF (ref06_Small_B0 a) 0) fun r=>match r with
        | .inl ()=>
         some false
        | .inr ()=>
         some true
def ref06_num (n:Int)(then_:ByteArray):Option ByteArray:=
 Option.bind (ref03_Figures n) fun v0=>
 if (addOk v0 then_)=true then
  some (v0++then_)
 else
  none
def ref06_Names_B0 (a:Aig)(s:ByteArray)(p:ByteArray × Int):Option ((ByteArray × Int) ⊕ ByteArray):=match p with
 | (x23,x24)=>
  if (ilt x24 (lenI a.names))=true then
   Option.bind (getI a.names x24) fun v26=>
   if (addOk x23 (strOf [v26.kind]))=true then
    Option.bind (ref06_num v26.pos ({ data:=#[32] })) fun v29=>
    if (addOk (x23++strOf [v26.kind]) v29)=true then
     if (addOk (x23++strOf [v26.kind]++v29) v26.s)=true then
      if (addOk (x23++strOf [v26.kind]++v29++v26.s) { data:=#[10] })=true then
       some (.inl (((x23++strOf [v26.kind]++v29++v26.s++{ data:=#[10] }),(iadd .i64 x24 1))))
      else
       none
     else
      none
    else
     none
   else
    none
  else
   some (.inr x23)
def ref06_Names (a:Aig)(s:ByteArray):Option ByteArray:=
 Option.bind (loopF (ref06_Names_B0 a s) (s,0)) fun y34=>
 some y34
def ref06_Row_B0 (l:List Int)(p:ByteArray × Int):Option ((ByteArray × Int) ⊕ ByteArray):=match p with
 | (x17,x18)=>
  if (ilt x18 (lenI l))=true then
   Option.bind (getI l x18) fun v20=>
   Option.bind (ref06_num v20 ({ data:=#[10] })) fun v22=>
   if (addOk x17 v22)=true then
    some (.inl (((x17++v22),(iadd .i64 x18 1))))
   else
    none
  else
   some (.inr x17)
def ref06_Row (s:ByteArray)(l:List Int):Option ByteArray:=
 Option.bind (loopF (ref06_Row_B0 l) (s,0)) fun y25=>
 some y25
def ref06_Head (a:Aig):Option ByteArray:=
 Option.bind (ref06_Vars a) fun v0=>
 Option.bind (ref06_num v0 ({ data:=#[32] })) fun v2=>
 Option.bind (ref06_num a.I ({ data:=#[32] })) fun v4=>
 if (addOk v2 v4)=true then
  Option.bind (ref06_num (lenI a.L) ({ data:=#[32] })) fun v7=>
  if (addOk (v2++v4) v7)=true then
   Option.bind (ref06_num (lenI a.outs) ({ data:=#[32] })) fun v10=>
   if (addOk (v2++v4++v7) v10)=true then
    Option.bind (ref06_num (lenI a.G) ({ data:=#[32] })) fun v13=>
    if (addOk (v2++v4++v7++v10) v13)=true then
     Option.bind (ref06_num (lenI a.bad) ({ data:=#[32] })) fun v16=>
     if (addOk (v2++v4++v7++v10++v13) v16)=true then
      Option.bind (ref06_num (lenI a.con) ({ data:=#[10] })) fun v19=>
      if (addOk (v2++v4++v7++v10++v13++v16) v19)=true then
       some (v2++v4++v7++v10++v13++v16++v19)
      else
       none
     else
      none
    else
     none
   else
    none
  else
   none
 else
  none
def ref06_Print_B0 (a:Aig)(p:ByteArray × Int):Option ((ByteArray × Int) ⊕ ByteArray):=match p with
 | (x19,x20)=>
  if (ilt x20 a.I)=true then
   Option.bind (ref06_num ((imul .i64 2 (iadd .i64 x20 1))) ({ data:=#[10] })) fun v22=>
   if (addOk x19 v22)=true then
    some (.inl (((x19++v22),(iadd .i64 x20 1))))
   else
    none
  else
   some (.inr x19)
def ref06_Print_B1 (a:Aig)(p:ByteArray × Int):Option ((ByteArray × Int) ⊕ ByteArray):=match p with
 | (x55,x56)=>
  if (ilt x56 (lenI a.L))=true then
   Option.bind (ref06_num ((imul .i64 2 (iadd .i64 (iadd .i64 a.I x56) 1))) ({ data:=#[32] })) fun v58=>
   if (addOk x55 v58)=true then
    Option.bind (getI a.L x56) fun v61=>
    Option.bind (ref06_num v61.next ({ data:=#[32] })) fun v63=>
    if (addOk (x55++v58) v63)=true then
     Option.bind (ref06_num v61.reset ({ data:=#[10] })) fun v66=>
     if (addOk (x55++v58++v63) v66)=true then
      some (.inl (((x55++v58++v63++v66),(iadd .i64 x56 1))))
     else
      none
    else
     none
   else
    none
  else
   some (.inr x55)
def ref06_Print_B2 (a:Aig)(p:ByteArray × Int):Option ((ByteArray × Int) ⊕ ByteArray):=match p with
 | (x105,x106)=>
  if (ilt x106 (lenI a.G))=true then
   Option.bind (ref06_num ((imul .i64 2 (iadd .i64 (iadd .i64 (iadd .i64 a.I (lenI a.L)) x106) 1))) ({ data:=#[32] })) fun v108=>
   if (addOk x105 v108)=true then
    Option.bind (getI a.G x106) fun v111=>
    Option.bind (ref06_num v111.a ({ data:=#[32] })) fun v113=>
    if (addOk (x105++v108) v113)=true then
     Option.bind (ref06_num v111.b ({ data:=#[10] })) fun v116=>
     if (addOk (x105++v108++v113) v116)=true then
      some (.inl (((x105++v108++v113++v116),(iadd .i64 x106 1))))
     else
      none
    else
     none
   else
    none
  else
   some (.inr x105)
def ref06_Print (a:Aig):Option (ByteArray × Int):=
 Option.bind (ref06_Right a) fun v0=>
 if v0=true then
  Option.bind (ref06_Head a) fun v3=>
  if (addOk { data:=#[97,97,103,32] } v3)=true then
   Option.bind (loopF (ref06_Print_B0 a) ((({ data:=#[97,97,103,32] }++v3),0))) fun y25=>
   Option.bind (loopF (ref06_Print_B1 a) (y25,0)) fun y69=>
   Option.bind (ref06_Row y69 a.outs) fun v70=>
   Option.bind (ref06_Row v70 a.bad) fun v72=>
   Option.bind (ref06_Row v72 a.con) fun v74=>
   Option.bind (loopF (ref06_Print_B2 a) (v74,0)) fun y119=>
   Option.bind (ref06_Names a y119) fun v120=>
   some (v120,0)
  else
   none
 else
  some ((({ data:=#[] }),1))
def ref03_Ints_B0 (a:List Int)(b:List Int)(p:Int):Option (Int ⊕ (Unit ⊕ Unit)):=match p with
 | x17=>
  if (ilt x17 (lenI a))=true then
   Option.bind (getI a x17) fun v19=>
   Option.bind (getI b x17) fun v21=>
   if (ieq v19 v21)=true then
    some (.inl (iadd .i64 x17 1))
   else
    some (.inr (.inl ()))
  else
   some (.inr (.inr ()))
def ref03_Ints (a:List Int)(b:List Int):Option Bool:=
 if (ieq (lenI a) (lenI b))=true then
  Option.bind (loopF (ref03_Ints_B0 a b) 0) fun r=>match r with
  | .inl ()=>
   some false
  | .inr ()=>
   some true
 else
  some false
def ref06_Same_B0 (a:Aig)(b:Aig)(p:Int):Option (Int ⊕ (Unit ⊕ Unit)):=match p with
 | x29=>
  if (ilt x29 (lenI a.L))=true then
   Option.bind (getI a.L x29) fun v31=>
   Option.bind (getI b.L x29) fun v33=>
   if (!ieq v31.next v33.next||!ieq v31.reset v33.reset)=true then
    some (.inr (.inl ()))
   else
    some (.inl (iadd .i64 x29 1))
  else
   some (.inr (.inr ()))
def ref06_Same_B1 (a:Aig)(b:Aig)(p:Int):Option (Int ⊕ (Unit ⊕ Unit)):=match p with
 | x52=>
  if (ilt x52 (lenI a.G))=true then
   Option.bind (getI a.G x52) fun v54=>
   Option.bind (getI b.G x52) fun v56=>
   if (!ieq v54.a v56.a||!ieq v54.b v56.b)=true then
    some (.inr (.inl ()))
   else
    some (.inl (iadd .i64 x52 1))
  else
   some (.inr (.inr ()))
def ref06_Same_B2 (a:Aig)(b:Aig)(p:Int):Option (Int ⊕ (Unit ⊕ Unit)):=match p with
 | x75=>
  if (ilt x75 (lenI a.names))=true then
   Option.bind (getI a.names x75) fun v77=>
   Option.bind (getI b.names x75) fun v79=>
   if (!ieq v77.kind v79.kind||(!ieq v77.pos v79.pos||!seq v77.s v79.s))=true then
    some (.inr (.inl ()))
   else
    some (.inl (iadd .i64 x75 1))
  else
   some (.inr (.inr ()))
def ref06_Same (a:Aig)(b:Aig):Option Bool:=
 Option.bind (ref03_Ints a.outs b.outs) fun v0=>
 Option.bind (ref03_Ints a.bad b.bad) fun v2=>
 Option.bind (ref03_Ints a.con b.con) fun v4=>
 if v0=true then
  if v2=true then
   if v4=true then
    if (ieq a.I b.I)=true then
     if (ieq (lenI a.L) (lenI b.L))=true then
      if (ieq (lenI a.G) (lenI b.G))=true then
       if (ieq (lenI a.names) (lenI b.names))=true then
        Option.bind (loopF (ref06_Same_B0 a b) 0) fun r=>match r with
        | .inl ()=>
         some false
        | .inr ()=>
         Option.bind (loopF (ref06_Same_B1 a b) 0) fun r=>match r with
         | .inl ()=>
          some false
         | .inr ()=>
          Option.bind (loopF (ref06_Same_B2 a b) 0) fun r=>match r with
          | .inl ()=>
           some false
          | .inr ()=>
           some true
       else
        some false
      else
       some false
     else
      some false
    else
     some false
   else
    some false
  else
   some false
 else
  some false
def vidimus_aig_reader_model_1 (i:Int):Option Int:=
 some ((imul .i64 2 (iadd .i64 i 1)))
def aig_reader_word (s:ByteArray)(q0:Reader_aig):Option ((Int × Int) ⊕ Reader_aig):=
 Option.bind (lex_Is q0.b q0.at' s) fun (v0,v1)=>
 if v1=true then
  some (.inr ({ b:=q0.b,at':=v0 }:Reader_aig))
 else
  some (.inl (q0.at',2))
def aig_reader_number (most:Int)(thn:ByteArray)(q0:Reader_aig):Option ((Int × Int) ⊕ (Int × Reader_aig)):=
 Option.bind (lex_Number q0.b q0.at' most) fun (v0,v1,v2)=>
 if (ieq v2 0)=true then
  Option.bind (aig_reader_word thn ({ b:=q0.b,at':=v1 }:Reader_aig)) fun r=>match r with
  | .inl (p8,p9)=>
   some (.inl (p8,p9))
  | .inr v5=>
   some (.inr (v0,v5))
 else
  some (.inl (q0.at',v2))
def aig_reader_lits_B0 (n:Int)(most:Int)(p:(List Int) × (List Int) × Int × Int):Option (((List Int) × (List Int) × Int × Int) ⊕ ((Int × Int) ⊕ ((List Int) × (List Int) × Int))):=match p with
 | (x26,x27,x28,x29)=>
  if (ilt x29 n)=true then
   Option.bind (aig_reader_number most ({ data:=#[10] }) ({ b:=x27,at':=x28 }:Reader_aig)) fun r=>match r with
   | .inl (p35,p36)=>
    some (.inr (.inl (p35,p36)))
   | .inr (v31,v32)=>
    if (capN (lenN (x26++[v31])) 8)=true then
     some (.inl (((x26++[v31]),v32.b,v32.at',(iadd .i64 x29 1))))
    else
     none
  else
   some (.inr (.inr ((x26,x27,x28))))
def aig_reader_lits (n:Int)(most:Int)(q0:Reader_aig):Option ((Int × Int) ⊕ ((List Int) × Reader_aig)):=
 Option.bind (loopF (aig_reader_lits_B0 n most) ([],q0.b,q0.at',0)) fun r=>match r with
 | .inl (y38,y39)=>
  some (.inl (y38,y39))
 | .inr ((y40,y41,y42))=>
  some (.inr ((y40,({ b:=y41,at':=y42 }:Reader_aig))))
def aig_reader_names_B0 (q1:Aig)(p:(List Name) × (List Int) × Int):Option (((List Name) × (List Int) × Int) ⊕ ((Int × Int) ⊕ ((List Name) × (List Int) × Int))):=match p with
 | (x80,x81,x82)=>
  if (ilt x82 (lenI x81))=true then
   Option.bind (getI x81 x82) fun v84=>
   if (ieq (lenI x80) 2000)=true then
    some (.inr (.inl (x82,3)))
   else
    Option.bind (strings_IndexByte ({ data:=#[105,108,111,98,99] }) v84) fun v87=>
    if (ilt v87 0)=true then
     some (.inr (.inl (x82,2)))
    else
     Option.bind (aig_many ({ I:=q1.I,L:=q1.L,G:=q1.G,outs:=q1.outs,bad:=q1.bad,con:=q1.con,names:=x80 }:Aig) v84) fun v90=>
     Option.bind (aig_reader_number (isub .i64 v90 1) ({ data:=#[32] }) (({ b:=x81,at':=(iadd .i64 x82 1) }:Reader_aig))) fun r=>match r with
     | .inl (p96,p97)=>
      some (.inr (.inl (p96,p97)))
     | .inr (v92,v93)=>
      Option.bind (lex_Name v93.b v93.at') fun (v98,v99,v100)=>
      if (ieq v100 0)=true then
       Option.bind (aig_reader_word ({ data:=#[10] }) ({ b:=v93.b,at':=v99 }:Reader_aig)) fun r=>match r with
       | .inl (p106,p107)=>
        some (.inr (.inl (p106,p107)))
       | .inr v103=>
        if (ilt 0 (lenI x80))=true then
         if (inI (lenN x80) (isub .i64 (lenI x80) 1))=true then
          Option.bind (nthI x80 (isub .i64 (lenI x80) 1)) fun v110=>
          Option.bind (aig_behind v110 ({ kind:=v84,pos:=v92,s:=v98 }:Name)) fun v112=>
          if v112=true then
           if (capN (lenN (x80++[{ kind:=v84,pos:=v92,s:=v98 }])) 32)=true then
            some (.inl (((x80++[{ kind:=v84,pos:=v92,s:=v98 }]),v103.b,v103.at')))
           else
            none
          else
           some (.inr (.inl (x82,2)))
         else
          none
        else
         if (capN (lenN (x80++[{ kind:=v84,pos:=v92,s:=v98 }])) 32)=true then
          some (.inl (((x80++[{ kind:=v84,pos:=v92,s:=v98 }]),v103.b,v103.at')))
         else
          none
      else
       some (.inr (.inl (v93.at',v100)))
  else
   some (.inr (.inr ((x80,x81,x82))))
def aig_reader_names (q0:Reader_aig)(q1:Aig):Option ((Int × Int) ⊕ (Reader_aig × Aig)):=
 Option.bind (loopF (aig_reader_names_B0 q1) (q1.names,q0.b,q0.at')) fun r=>match r with
 | .inl (y117,y118)=>
  some (.inl (y117,y118))
 | .inr ((y119,y120,y121))=>
  some (.inr ((({ b:=y120,at':=y121 }:Reader_aig),({ I:=q1.I,L:=q1.L,G:=q1.G,outs:=q1.outs,bad:=q1.bad,con:=q1.con,names:=y119 }:Aig))))
def aig_reader_model_B0 (v11:Int)(p:(List Int) × Int × Int):Option (((List Int) × Int × Int) ⊕ ((Int × Int) ⊕ ((List Int) × Int))):=match p with
 | (x85,x86,x87)=>
  if (ilt x87 v11)=true then
   Option.bind (vidimus_aig_reader_model_1 x87) fun v89=>
   Option.bind (aig_line [v89]) fun v91=>
   Option.bind (aig_reader_word v91 ({ b:=x85,at':=x86 }:Reader_aig)) fun r=>match r with
   | .inl (p96,p97)=>
    some (.inr (.inl (p96,p97)))
   | .inr v93=>
    some (.inl ((v93.b,v93.at',(iadd .i64 x87 1))))
  else
   some (.inr (.inr ((x85,x86))))
def aig_reader_model_B1 (v11:Int)(v17:Int)(v48:Int)(p:(List Latch) × (List Int) × Int × Int):Option (((List Latch) × (List Int) × Int × Int) ⊕ ((Int × Int) ⊕ ((List Latch) × (List Int) × Int))):=match p with
 | (x175,x176,x177,x178)=>
  if (ilt x178 v17)=true then
   Option.bind (vidimus_aig_reader_model_1 (iadd .i64 v11 x178)) fun v180=>
   Option.bind (strconv_Itoa v180) fun v182=>
   if (addOk v182 { data:=#[32] })=true then
    Option.bind (aig_reader_word (v182++{ data:=#[32] }) ({ b:=x176,at':=x177 }:Reader_aig)) fun r=>match r with
    | .inl (p188,p189)=>
     some (.inr (.inl (p188,p189)))
    | .inr v185=>
     Option.bind (aig_reader_number (isub .i64 v48 1) ({ data:=#[32] }) v185) fun r=>match r with
     | .inl (p194,p195)=>
      some (.inr (.inl (p194,p195)))
     | .inr (v190,v191)=>
      Option.bind (aig_reader_number (isub .i64 v48 1) ({ data:=#[10] }) v191) fun r=>match r with
      | .inl (p200,p201)=>
       some (.inr (.inl (p200,p201)))
      | .inr (v196,v197)=>
       if (ilt 1 v196)=true then
        if (ieq v196 v180)=true then
         if (capN (lenN (x175++[{ next:=v190,reset:=v196 }])) 16)=true then
          some (.inl (((x175++[{ next:=v190,reset:=v196 }]),v197.b,v197.at',(iadd .i64 x178 1))))
         else
          none
        else
         some (.inr (.inl (v191.at',2)))
       else
        if (capN (lenN (x175++[{ next:=v190,reset:=v196 }])) 16)=true then
         some (.inl (((x175++[{ next:=v190,reset:=v196 }]),v197.b,v197.at',(iadd .i64 x178 1))))
        else
         none
   else
    none
  else
   some (.inr (.inr ((x175,x176,x177))))
def aig_reader_model_B2 (v11:Int)(v17:Int)(v29:Int)(p:(List Vid.And) × (List Int) × Int × Int):Option (((List Vid.And) × (List Int) × Int × Int) ⊕ ((Int × Int) ⊕ ((List Vid.And) × (List Int) × Int))):=match p with
 | (x294,x295,x296,x297)=>
  if (ilt x297 v29)=true then
   Option.bind (vidimus_aig_reader_model_1 ((iadd .i64 (iadd .i64 v11 v17) x297))) fun v299=>
   Option.bind (strconv_Itoa v299) fun v301=>
   if (addOk v301 { data:=#[32] })=true then
    Option.bind (aig_reader_word (v301++{ data:=#[32] }) ({ b:=x295,at':=x296 }:Reader_aig)) fun r=>match r with
    | .inl (p307,p308)=>
     some (.inr (.inl (p307,p308)))
    | .inr v304=>
     Option.bind (aig_reader_number (isub .i64 v299 1) ({ data:=#[32] }) v304) fun r=>match r with
     | .inl (p313,p314)=>
      some (.inr (.inl (p313,p314)))
     | .inr (v309,v310)=>
      Option.bind (aig_reader_number v309 ({ data:=#[10] }) v310) fun r=>match r with
      | .inl (p319,p320)=>
       some (.inr (.inl (p319,p320)))
      | .inr (v315,v316)=>
       if (capN (lenN (x294++[{ a:=v309,b:=v315 }])) 16)=true then
        some (.inl (((x294++[{ a:=v309,b:=v315 }]),v316.b,v316.at',(iadd .i64 x297 1))))
       else
        none
   else
    none
  else
   some (.inr (.inr ((x294,x295,x296))))
def aig_reader_model (q0:Reader_aig):Option ((Int × Int) ⊕ (Aig × Reader_aig)):=
 Option.bind (aig_reader_word ({ data:=#[97,97,103,32] }) q0) fun r=>match r with
 | .inl (p3,p4)=>
  some (.inl (p3,p4))
 | .inr v0=>
  Option.bind (aig_reader_number 20000 ({ data:=#[32] }) v0) fun r=>match r with
  | .inl (p9,p10)=>
   some (.inl (p9,p10))
  | .inr (v5,v6)=>
   Option.bind (aig_reader_number 20000 ({ data:=#[32] }) v6) fun r=>match r with
   | .inl (p15,p16)=>
    some (.inl (p15,p16))
   | .inr (v11,v12)=>
    Option.bind (aig_reader_number 20000 ({ data:=#[32] }) v12) fun r=>match r with
    | .inl (p21,p22)=>
     some (.inl (p21,p22))
    | .inr (v17,v18)=>
     Option.bind (aig_reader_number 2000 ({ data:=#[32] }) v18) fun r=>match r with
     | .inl (p27,p28)=>
      some (.inl (p27,p28))
     | .inr (v23,v24)=>
      Option.bind (aig_reader_number 20000 ({ data:=#[32] }) v24) fun r=>match r with
      | .inl (p33,p34)=>
       some (.inl (p33,p34))
      | .inr (v29,v30)=>
       Option.bind (aig_reader_number 2000 ({ data:=#[32] }) v30) fun r=>match r with
       | .inl (p39,p40)=>
        some (.inl (p39,p40))
       | .inr (v35,v36)=>
        Option.bind (aig_reader_number 2000 ({ data:=#[10] }) v36) fun r=>match r with
        | .inl (p45,p46)=>
         some (.inl (p45,p46))
        | .inr (v41,v42)=>
         if (ieq v5 (iadd .i64 (iadd .i64 v11 v17) v29))=true then
          Option.bind (vidimus_aig_reader_model_1 v5) fun v48=>
          Option.bind (loopF (aig_reader_model_B0 v11) (v42.b,v42.at',0)) fun r=>match r with
          | .inl (y98,y99)=>
           some (.inl (y98,y99))
          | .inr ((y100,y101))=>
           Option.bind (loopF (aig_reader_model_B1 v11 v17 v48) ([],y100,y101,0)) fun r=>match r with
           | .inl (y206,y207)=>
            some (.inl (y206,y207))
           | .inr ((y208,y209,y210))=>
            Option.bind (aig_reader_lits v23 (isub .i64 v48 1) ({ b:=y209,at':=y210 }:Reader_aig)) fun r=>match r with
            | .inl (p215,p216)=>
             some (.inl (p215,p216))
            | .inr (v211,v212)=>
             Option.bind (aig_reader_lits v35 (isub .i64 v48 1) v212) fun r=>match r with
             | .inl (p221,p222)=>
              some (.inl (p221,p222))
             | .inr (v217,v218)=>
              Option.bind (aig_reader_lits v41 (isub .i64 v48 1) v218) fun r=>match r with
              | .inl (p227,p228)=>
               some (.inl (p227,p228))
              | .inr (v223,v224)=>
               Option.bind (loopF (aig_reader_model_B2 v11 v17 v29) ([],v224.b,v224.at',0)) fun r=>match r with
               | .inl (y322,y323)=>
                some (.inl (y322,y323))
               | .inr ((y324,y325,y326))=>
                Option.bind (aig_reader_names ({ b:=y325,at':=y326 }:Reader_aig) (({ I:=v11,L:=y208,G:=y324,outs:=v211,bad:=v217,con:=v223,names:=([]:List Name) }:Aig))) fun r=>match r with
                | .inl (p331,p332)=>
                 some (.inl (p331,p332))
                | .inr (v327,v328)=>
                 some (.inr (v328,v327))
         else
          some (.inl (v0.at',2))
def aig_Parse (b:List Int):Option (Aig × Int × Int):=
 if (ilt 100000 (lenI b))=true then
  some (⟨0,[],[],[],[],[],[]⟩,0,3)
 else
  Option.bind (aig_reader_model (⟨b,0⟩:Reader_aig)) fun r=>match r with
  | .inl (x,e)=>some (⟨0,[],[],[],[],[],[]⟩,x,e)
  | .inr (a,q)=>some (a,q.at',0)
def law06_shown:Option Bool:=
 Option.bind (aig_Print (({ I:=2,L:=([]:List Latch),G:=([{ a:=4,b:=2 }]),outs:=[6],bad:=([]:List Int),con:=([]:List Int),names:=([{ kind:=111,pos:=0,s:={ data:=#[120] } }]) }:Aig))) fun (v0,v1)=>
 Option.bind (aig_Parse (bytesOf v0)) fun (v3,v4,v5)=>
 if (ieq v1 0)=true then
  if (ieq v5 0)=true then
   if (seq v0 { data:=#[97,97,103,32,51,32,50,32,48,32,49,32,49,32,48,32,48,10,50,10,52,10,54,10,54,32,52,32,50,10,111,48,32,120,10] })=true then
    if (ieq v4 (sizI v0))=true then
     Option.bind (aig_Same (({ I:=2,L:=([]:List Latch),G:=([{ a:=4,b:=2 }]),outs:=[6],bad:=([]:List Int),con:=([]:List Int),names:=([{ kind:=111,pos:=0,s:={ data:=#[120] } }]) }:Aig)) v3) fun v11=>
     if v11=true then
      Option.bind (aig_Right (({ I:=2,L:=([]:List Latch),G:=([{ a:=4,b:=2 }]),outs:=[6],bad:=([]:List Int),con:=([]:List Int),names:=([{ kind:=111,pos:=0,s:={ data:=#[120] } }]) }:Aig))) fun v14=>
      if v14=true then
       Option.bind (aig_Vars (({ I:=2,L:=([]:List Latch),G:=([{ a:=4,b:=2 }]),outs:=[6],bad:=([]:List Int),con:=([]:List Int),names:=([{ kind:=111,pos:=0,s:={ data:=#[120] } }]) }:Aig))) fun v17=>
       if (ieq v17 3)=true then
        Option.bind (aig_Names (({ I:=2,L:=([]:List Latch),G:=([{ a:=4,b:=2 }]),outs:=[6],bad:=([]:List Int),con:=([]:List Int),names:=([{ kind:=111,pos:=0,s:={ data:=#[120] } }]) }:Aig)) ({ data:=#[121] })) fun v20=>
        some (seq v20 { data:=#[121,111,48,32,120,10] })
       else
        some false
      else
       some false
     else
      some false
    else
     some false
   else
    some false
  else
   some false
 else
  some false
end Go.Vid

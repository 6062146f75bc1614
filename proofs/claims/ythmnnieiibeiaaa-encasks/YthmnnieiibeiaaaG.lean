/- The seat's functions, plainly. No condition. -/
import Derived.Test.YthmnnieiibeiaaaS
import Derived.Test.YthmnnieiibeiaaaGl
set_option linter.unusedVariables false
namespace Go.Vid
open Go.Vabs
def ref01_Long_B0 (s : ByteArray) (at_ : Int) (p : Int × Int) : Option ((Int × Int) ⊕ (Unit ⊕ Int)) := match p with
 | (x24, x25) =>
  if (ilt x25 4) = true then
   if (ile (isub IntKind.i64 (sizI s) at_) x25) = true then
    some (.inr (.inl ()))
   else
    Option.bind (getB s (iadd IntKind.i64 at_ x25)) fun v28 =>
    if (ilt v28 128) = true then
     some (.inr (.inl ()))
    else
     if (ilt 191 v28) = true then
      some (.inr (.inl ()))
     else
      some (.inl (((isub IntKind.i64 (iadd IntKind.i64 (imul IntKind.i64 x24 64) (iconv IntKind.i64 v28)) 128), (iadd IntKind.i64 x25 1))))
  else
   some (.inr (.inr x24))
def ref01_Long_B1 (s : ByteArray) (at_ : Int) (p : Int × Int) : Option ((Int × Int) ⊕ (Unit ⊕ Int)) := match p with
 | (x61, x62) =>
  if (ilt x62 3) = true then
   if (ile (isub IntKind.i64 (sizI s) at_) x62) = true then
    some (.inr (.inl ()))
   else
    Option.bind (getB s (iadd IntKind.i64 at_ x62)) fun v65 =>
    if (ilt v65 128) = true then
     some (.inr (.inl ()))
    else
     if (ilt 191 v65) = true then
      some (.inr (.inl ()))
     else
      some (.inl (((isub IntKind.i64 (iadd IntKind.i64 (imul IntKind.i64 x61 64) (iconv IntKind.i64 v65)) 128), (iadd IntKind.i64 x62 1))))
  else
   some (.inr (.inr x61))
def ref01_Long_B2 (s : ByteArray) (at_ : Int) (p : Int × Int) : Option ((Int × Int) ⊕ (Unit ⊕ Int)) := match p with
 | (x98, x99) =>
  if (ilt x99 2) = true then
   if (ile (isub IntKind.i64 (sizI s) at_) x99) = true then
    some (.inr (.inl ()))
   else
    Option.bind (getB s (iadd IntKind.i64 at_ x99)) fun v102 =>
    if (ilt v102 128) = true then
     some (.inr (.inl ()))
    else
     if (ilt 191 v102) = true then
      some (.inr (.inl ()))
     else
      some (.inl (((isub IntKind.i64 (iadd IntKind.i64 (imul IntKind.i64 x98 64) (iconv IntKind.i64 v102)) 128), (iadd IntKind.i64 x99 1))))
  else
   some (.inr (.inr x98))
def ref01_Long_B3 (s : ByteArray) (at_ : Int) (p : Int × Int) : Option ((Int × Int) ⊕ (Unit ⊕ Int)) := match p with
 | (x134, x135) =>
  if (ilt x135 1) = true then
   if (ile (isub IntKind.i64 (sizI s) at_) x135) = true then
    some (.inr (.inl ()))
   else
    Option.bind (getB s (iadd IntKind.i64 at_ x135)) fun v138 =>
    if (ilt v138 128) = true then
     some (.inr (.inl ()))
    else
     if (ilt 191 v138) = true then
      some (.inr (.inl ()))
     else
      some (.inl (((isub IntKind.i64 (iadd IntKind.i64 (imul IntKind.i64 x134 64) (iconv IntKind.i64 v138)) 128), (iadd IntKind.i64 x135 1))))
  else
   some (.inr (.inr x134))
def ref01_Long_B4 (s : ByteArray) (at_ : Int) (p : Int × Int) : Option ((Int × Int) ⊕ (Unit ⊕ Int)) := match p with
 | (x170, x171) =>
  if (ilt x171 1) = true then
   if (ile (isub IntKind.i64 (sizI s) at_) x171) = true then
    some (.inr (.inl ()))
   else
    Option.bind (getB s (iadd IntKind.i64 at_ x171)) fun v174 =>
    if (ilt v174 128) = true then
     some (.inr (.inl ()))
    else
     if (ilt 191 v174) = true then
      some (.inr (.inl ()))
     else
      some (.inl (((isub IntKind.i64 (iadd IntKind.i64 (imul IntKind.i64 x170 64) (iconv IntKind.i64 v174)) 128), (iadd IntKind.i64 x171 1))))
  else
   some (.inr (.inr x170))
def ref01_Long_B5 (s : ByteArray) (at_ : Int) (p : Int × Int) : Option ((Int × Int) ⊕ (Unit ⊕ Int)) := match p with
 | (x207, x208) =>
  if (ilt x208 2) = true then
   if (ile (isub IntKind.i64 (sizI s) at_) x208) = true then
    some (.inr (.inl ()))
   else
    Option.bind (getB s (iadd IntKind.i64 at_ x208)) fun v211 =>
    if (ilt v211 128) = true then
     some (.inr (.inl ()))
    else
     if (ilt 191 v211) = true then
      some (.inr (.inl ()))
     else
      some (.inl (((isub IntKind.i64 (iadd IntKind.i64 (imul IntKind.i64 x207 64) (iconv IntKind.i64 v211)) 128), (iadd IntKind.i64 x208 1))))
  else
   some (.inr (.inr x207))
def ref01_Long_B6 (s : ByteArray) (at_ : Int) (p : Int × Int) : Option ((Int × Int) ⊕ (Unit ⊕ Int)) := match p with
 | (x243, x244) =>
  if (ilt x244 1) = true then
   if (ile (isub IntKind.i64 (sizI s) at_) x244) = true then
    some (.inr (.inl ()))
   else
    Option.bind (getB s (iadd IntKind.i64 at_ x244)) fun v247 =>
    if (ilt v247 128) = true then
     some (.inr (.inl ()))
    else
     if (ilt 191 v247) = true then
      some (.inr (.inl ()))
     else
      some (.inl (((isub IntKind.i64 (iadd IntKind.i64 (imul IntKind.i64 x243 64) (iconv IntKind.i64 v247)) 128), (iadd IntKind.i64 x244 1))))
  else
   some (.inr (.inr x243))
def ref01_Long_B7 (s : ByteArray) (at_ : Int) (p : Int × Int) : Option ((Int × Int) ⊕ (Unit ⊕ Int)) := match p with
 | (x279, x280) =>
  if (ilt x280 1) = true then
   if (ile (isub IntKind.i64 (sizI s) at_) x280) = true then
    some (.inr (.inl ()))
   else
    Option.bind (getB s (iadd IntKind.i64 at_ x280)) fun v283 =>
    if (ilt v283 128) = true then
     some (.inr (.inl ()))
    else
     if (ilt 191 v283) = true then
      some (.inr (.inl ()))
     else
      some (.inl (((isub IntKind.i64 (iadd IntKind.i64 (imul IntKind.i64 x279 64) (iconv IntKind.i64 v283)) 128), (iadd IntKind.i64 x280 1))))
  else
   some (.inr (.inr x279))
def ref01_Long_B8 (s : ByteArray) (at_ : Int) (p : Int × Int) : Option ((Int × Int) ⊕ (Unit ⊕ Int)) := match p with
 | (x316, x317) =>
  if (ilt x317 3) = true then
   if (ile (isub IntKind.i64 (sizI s) at_) x317) = true then
    some (.inr (.inl ()))
   else
    Option.bind (getB s (iadd IntKind.i64 at_ x317)) fun v320 =>
    if (ilt v320 128) = true then
     some (.inr (.inl ()))
    else
     if (ilt 191 v320) = true then
      some (.inr (.inl ()))
     else
      some (.inl (((isub IntKind.i64 (iadd IntKind.i64 (imul IntKind.i64 x316 64) (iconv IntKind.i64 v320)) 128), (iadd IntKind.i64 x317 1))))
  else
   some (.inr (.inr x316))
def ref01_Long_B9 (s : ByteArray) (at_ : Int) (p : Int × Int) : Option ((Int × Int) ⊕ (Unit ⊕ Int)) := match p with
 | (x353, x354) =>
  if (ilt x354 2) = true then
   if (ile (isub IntKind.i64 (sizI s) at_) x354) = true then
    some (.inr (.inl ()))
   else
    Option.bind (getB s (iadd IntKind.i64 at_ x354)) fun v357 =>
    if (ilt v357 128) = true then
     some (.inr (.inl ()))
    else
     if (ilt 191 v357) = true then
      some (.inr (.inl ()))
     else
      some (.inl (((isub IntKind.i64 (iadd IntKind.i64 (imul IntKind.i64 x353 64) (iconv IntKind.i64 v357)) 128), (iadd IntKind.i64 x354 1))))
  else
   some (.inr (.inr x353))
def ref01_Long_B10 (s : ByteArray) (at_ : Int) (p : Int × Int) : Option ((Int × Int) ⊕ (Unit ⊕ Int)) := match p with
 | (x389, x390) =>
  if (ilt x390 1) = true then
   if (ile (isub IntKind.i64 (sizI s) at_) x390) = true then
    some (.inr (.inl ()))
   else
    Option.bind (getB s (iadd IntKind.i64 at_ x390)) fun v393 =>
    if (ilt v393 128) = true then
     some (.inr (.inl ()))
    else
     if (ilt 191 v393) = true then
      some (.inr (.inl ()))
     else
      some (.inl (((isub IntKind.i64 (iadd IntKind.i64 (imul IntKind.i64 x389 64) (iconv IntKind.i64 v393)) 128), (iadd IntKind.i64 x390 1))))
  else
   some (.inr (.inr x389))
def ref01_Long_B11 (s : ByteArray) (at_ : Int) (p : Int × Int) : Option ((Int × Int) ⊕ (Unit ⊕ Int)) := match p with
 | (x425, x426) =>
  if (ilt x426 1) = true then
   if (ile (isub IntKind.i64 (sizI s) at_) x426) = true then
    some (.inr (.inl ()))
   else
    Option.bind (getB s (iadd IntKind.i64 at_ x426)) fun v429 =>
    if (ilt v429 128) = true then
     some (.inr (.inl ()))
    else
     if (ilt 191 v429) = true then
      some (.inr (.inl ()))
     else
      some (.inl (((isub IntKind.i64 (iadd IntKind.i64 (imul IntKind.i64 x425 64) (iconv IntKind.i64 v429)) 128), (iadd IntKind.i64 x426 1))))
  else
   some (.inr (.inr x425))
def ref01_Long_B12 (s : ByteArray) (at_ : Int) (p : Int × Int) : Option ((Int × Int) ⊕ (Unit ⊕ Int)) := match p with
 | (x462, x463) =>
  if (ilt x463 2) = true then
   if (ile (isub IntKind.i64 (sizI s) at_) x463) = true then
    some (.inr (.inl ()))
   else
    Option.bind (getB s (iadd IntKind.i64 at_ x463)) fun v466 =>
    if (ilt v466 128) = true then
     some (.inr (.inl ()))
    else
     if (ilt 191 v466) = true then
      some (.inr (.inl ()))
     else
      some (.inl (((isub IntKind.i64 (iadd IntKind.i64 (imul IntKind.i64 x462 64) (iconv IntKind.i64 v466)) 128), (iadd IntKind.i64 x463 1))))
  else
   some (.inr (.inr x462))
def ref01_Long_B13 (s : ByteArray) (at_ : Int) (p : Int × Int) : Option ((Int × Int) ⊕ (Unit ⊕ Int)) := match p with
 | (x498, x499) =>
  if (ilt x499 1) = true then
   if (ile (isub IntKind.i64 (sizI s) at_) x499) = true then
    some (.inr (.inl ()))
   else
    Option.bind (getB s (iadd IntKind.i64 at_ x499)) fun v502 =>
    if (ilt v502 128) = true then
     some (.inr (.inl ()))
    else
     if (ilt 191 v502) = true then
      some (.inr (.inl ()))
     else
      some (.inl (((isub IntKind.i64 (iadd IntKind.i64 (imul IntKind.i64 x498 64) (iconv IntKind.i64 v502)) 128), (iadd IntKind.i64 x499 1))))
  else
   some (.inr (.inr x498))
def ref01_Long_B14 (s : ByteArray) (at_ : Int) (p : Int × Int) : Option ((Int × Int) ⊕ (Unit ⊕ Int)) := match p with
 | (x534, x535) =>
  if (ilt x535 1) = true then
   if (ile (isub IntKind.i64 (sizI s) at_) x535) = true then
    some (.inr (.inl ()))
   else
    Option.bind (getB s (iadd IntKind.i64 at_ x535)) fun v538 =>
    if (ilt v538 128) = true then
     some (.inr (.inl ()))
    else
     if (ilt 191 v538) = true then
      some (.inr (.inl ()))
     else
      some (.inl (((isub IntKind.i64 (iadd IntKind.i64 (imul IntKind.i64 x534 64) (iconv IntKind.i64 v538)) 128), (iadd IntKind.i64 x535 1))))
  else
   some (.inr (.inr x534))
def ref01_Long (s : ByteArray) (at_ : Int) : Option Int :=
 Option.bind (getB s at_) fun v0 =>
 if (ile 240 (iconv IntKind.i64 v0)) = true then
  if (ilt (iconv IntKind.i64 v0) 248) = true then
   Option.bind (loopF (ref01_Long_B0 s at_) (((isub IntKind.i64 (iconv IntKind.i64 v0) 240), 1))) fun r => match r with
   | .inl () =>
    some 0
   | .inr y32 =>
    if (ilt y32 65536) = true then
     some 0
    else
     if (ilt 1114111 y32) = true then
      some 0
     else
      if (ile 55296 y32) = true then
       if (ilt y32 57344) = true then
        some 0
       else
        some 4
      else
       some 4
  else
   if (ile 224 (iconv IntKind.i64 v0)) = true then
    if (ilt (iconv IntKind.i64 v0) 240) = true then
     Option.bind (loopF (ref01_Long_B1 s at_) (((isub IntKind.i64 (iconv IntKind.i64 v0) 224), 1))) fun r => match r with
     | .inl () =>
      some 0
     | .inr y69 =>
      if (ilt y69 2048) = true then
       some 0
      else
       if (ilt 1114111 y69) = true then
        some 0
       else
        if (ile 55296 y69) = true then
         if (ilt y69 57344) = true then
          some 0
         else
          some 3
        else
         some 3
    else
     if (ile 192 (iconv IntKind.i64 v0)) = true then
      if (ilt (iconv IntKind.i64 v0) 224) = true then
       Option.bind (loopF (ref01_Long_B2 s at_) (((isub IntKind.i64 (iconv IntKind.i64 v0) 192), 1))) fun r => match r with
       | .inl () =>
        some 0
       | .inr y106 =>
        if (ilt y106 128) = true then
         some 0
        else
         if (ilt 1114111 y106) = true then
          some 0
         else
          if (ile 55296 y106) = true then
           if (ilt y106 57344) = true then
            some 0
           else
            some 2
          else
           some 2
      else
       if (ile 128 (iconv IntKind.i64 v0)) = true then
        some 0
       else
        Option.bind (loopF (ref01_Long_B3 s at_) (((iconv IntKind.i64 v0), 1))) fun r => match r with
        | .inl () =>
         some 0
        | .inr y142 =>
         if (ilt y142 0) = true then
          some 0
         else
          if (ilt 1114111 y142) = true then
           some 0
          else
           if (ile 55296 y142) = true then
            if (ilt y142 57344) = true then
             some 0
            else
             some 1
           else
            some 1
     else
      if (ile 128 (iconv IntKind.i64 v0)) = true then
       some 0
      else
       Option.bind (loopF (ref01_Long_B4 s at_) (((iconv IntKind.i64 v0), 1))) fun r => match r with
       | .inl () =>
        some 0
       | .inr y178 =>
        if (ilt y178 0) = true then
         some 0
        else
         if (ilt 1114111 y178) = true then
          some 0
         else
          if (ile 55296 y178) = true then
           if (ilt y178 57344) = true then
            some 0
           else
            some 1
          else
           some 1
   else
    if (ile 192 (iconv IntKind.i64 v0)) = true then
     if (ilt (iconv IntKind.i64 v0) 224) = true then
      Option.bind (loopF (ref01_Long_B5 s at_) (((isub IntKind.i64 (iconv IntKind.i64 v0) 192), 1))) fun r => match r with
      | .inl () =>
       some 0
      | .inr y215 =>
       if (ilt y215 128) = true then
        some 0
       else
        if (ilt 1114111 y215) = true then
         some 0
        else
         if (ile 55296 y215) = true then
          if (ilt y215 57344) = true then
           some 0
          else
           some 2
         else
          some 2
     else
      if (ile 128 (iconv IntKind.i64 v0)) = true then
       some 0
      else
       Option.bind (loopF (ref01_Long_B6 s at_) (((iconv IntKind.i64 v0), 1))) fun r => match r with
       | .inl () =>
        some 0
       | .inr y251 =>
        if (ilt y251 0) = true then
         some 0
        else
         if (ilt 1114111 y251) = true then
          some 0
         else
          if (ile 55296 y251) = true then
           if (ilt y251 57344) = true then
            some 0
           else
            some 1
          else
           some 1
    else
     if (ile 128 (iconv IntKind.i64 v0)) = true then
      some 0
     else
      Option.bind (loopF (ref01_Long_B7 s at_) (((iconv IntKind.i64 v0), 1))) fun r => match r with
      | .inl () =>
       some 0
      | .inr y287 =>
       if (ilt y287 0) = true then
        some 0
       else
        if (ilt 1114111 y287) = true then
         some 0
        else
         if (ile 55296 y287) = true then
          if (ilt y287 57344) = true then
           some 0
          else
           some 1
         else
          some 1
 else
  if (ile 224 (iconv IntKind.i64 v0)) = true then
   if (ilt (iconv IntKind.i64 v0) 240) = true then
    Option.bind (loopF (ref01_Long_B8 s at_) (((isub IntKind.i64 (iconv IntKind.i64 v0) 224), 1))) fun r => match r with
    | .inl () =>
     some 0
    | .inr y324 =>
     if (ilt y324 2048) = true then
      some 0
     else
      if (ilt 1114111 y324) = true then
       some 0
      else
       if (ile 55296 y324) = true then
        if (ilt y324 57344) = true then
         some 0
        else
         some 3
       else
        some 3
   else
    if (ile 192 (iconv IntKind.i64 v0)) = true then
     if (ilt (iconv IntKind.i64 v0) 224) = true then
      Option.bind (loopF (ref01_Long_B9 s at_) (((isub IntKind.i64 (iconv IntKind.i64 v0) 192), 1))) fun r => match r with
      | .inl () =>
       some 0
      | .inr y361 =>
       if (ilt y361 128) = true then
        some 0
       else
        if (ilt 1114111 y361) = true then
         some 0
        else
         if (ile 55296 y361) = true then
          if (ilt y361 57344) = true then
           some 0
          else
           some 2
         else
          some 2
     else
      if (ile 128 (iconv IntKind.i64 v0)) = true then
       some 0
      else
       Option.bind (loopF (ref01_Long_B10 s at_) (((iconv IntKind.i64 v0), 1))) fun r => match r with
       | .inl () =>
        some 0
       | .inr y397 =>
        if (ilt y397 0) = true then
         some 0
        else
         if (ilt 1114111 y397) = true then
          some 0
         else
          if (ile 55296 y397) = true then
           if (ilt y397 57344) = true then
            some 0
           else
            some 1
          else
           some 1
    else
     if (ile 128 (iconv IntKind.i64 v0)) = true then
      some 0
     else
      Option.bind (loopF (ref01_Long_B11 s at_) (((iconv IntKind.i64 v0), 1))) fun r => match r with
      | .inl () =>
       some 0
      | .inr y433 =>
       if (ilt y433 0) = true then
        some 0
       else
        if (ilt 1114111 y433) = true then
         some 0
        else
         if (ile 55296 y433) = true then
          if (ilt y433 57344) = true then
           some 0
          else
           some 1
         else
          some 1
  else
   if (ile 192 (iconv IntKind.i64 v0)) = true then
    if (ilt (iconv IntKind.i64 v0) 224) = true then
     Option.bind (loopF (ref01_Long_B12 s at_) (((isub IntKind.i64 (iconv IntKind.i64 v0) 192), 1))) fun r => match r with
     | .inl () =>
      some 0
     | .inr y470 =>
      if (ilt y470 128) = true then
       some 0
      else
       if (ilt 1114111 y470) = true then
        some 0
       else
        if (ile 55296 y470) = true then
         if (ilt y470 57344) = true then
          some 0
         else
          some 2
        else
         some 2
    else
     if (ile 128 (iconv IntKind.i64 v0)) = true then
      some 0
     else
      Option.bind (loopF (ref01_Long_B13 s at_) (((iconv IntKind.i64 v0), 1))) fun r => match r with
      | .inl () =>
       some 0
      | .inr y506 =>
       if (ilt y506 0) = true then
        some 0
       else
        if (ilt 1114111 y506) = true then
         some 0
        else
         if (ile 55296 y506) = true then
          if (ilt y506 57344) = true then
           some 0
          else
           some 1
         else
          some 1
   else
    if (ile 128 (iconv IntKind.i64 v0)) = true then
     some 0
    else
     Option.bind (loopF (ref01_Long_B14 s at_) (((iconv IntKind.i64 v0), 1))) fun r => match r with
     | .inl () =>
      some 0
     | .inr y542 =>
      if (ilt y542 0) = true then
       some 0
      else
       if (ilt 1114111 y542) = true then
        some 0
       else
        if (ile 55296 y542) = true then
         if (ilt y542 57344) = true then
          some 0
         else
          some 1
        else
         some 1
def ref01_IsName_B0 (s : ByteArray) (p : Int × Int) : Option ((Int × Int) ⊕ (Unit ⊕ Int)) := match p with
 | (x21, x22) =>
  if (ilt x22 (sizI s)) = true then
   Option.bind (ref01_Long s x22) fun v24 =>
   if (ieq v24 0) = true then
    some (.inr (.inl ()))
   else
    Option.bind (getB s x22) fun v27 =>
    if (ilt v27 32) = true then
     some (.inr (.inl ()))
    else
     if (ieq v27 127) = true then
      some (.inr (.inl ()))
     else
      some (.inl (((iadd IntKind.i64 x21 1), (iadd IntKind.i64 x22 v24))))
  else
   some (.inr (.inr x21))
def ref01_IsName (s : ByteArray) : Option Bool :=
 Option.bind (loopF (ref01_IsName_B0 s) (0, 0)) fun r => match r with
 | .inl () =>
  some false
 | .inr y31 =>
  if (ile 1 y31) = true then
   some (ile y31 40)
  else
   some false
def ref06_kind_B0 (c : Int) (p : Int) : Option (Int ⊕ (Int ⊕ Unit)) := match p with
 | x14 =>
  if (ilt x14 5) = true then
   if (inI 5 x14) = true then
    Option.bind (nthI [105, 108, 111, 98, 99] x14) fun v17 =>
    if (ieq v17 c) = true then
     some (.inr (.inl x14))
    else
     some (.inl (iadd IntKind.i64 x14 1))
   else
    none
  else
   some (.inr (.inr ()))
def ref06_kind (c : Int) : Option Int :=
 Option.bind (loopF (ref06_kind_B0 c) 0) fun r => match r with
 | .inl y20 =>
  some y20
 | .inr () =>
  some (-1)
def ref06_many (a : Aig) (k : Int) : Option Int :=
 if (ieq k 0) = true then
  some a.I
 else
  if (ieq k 1) = true then
   some (lenI a.L)
  else
   if (ieq k 2) = true then
    some (lenI a.outs)
   else
    if (ieq k 3) = true then
     some (lenI a.bad)
    else
     if (ieq k 4) = true then
      some (lenI a.con)
     else
      some 0
def ref06_Behind (x : Name) (y_ : Name) : Option Bool :=
 Option.bind (ref06_kind x.kind) fun v0 =>
 Option.bind (ref06_kind y_.kind) fun v2 =>
 if (ilt v0 v2) = true then
  some true
 else
  if (ieq v0 v2) = true then
   some (ilt x.pos y_.pos)
  else
   some false
def ref06_lits_B0 (l : List Int) (v : Int) (p : Int) : Option (Int ⊕ (Unit ⊕ Unit)) := match p with
 | x14 =>
  if (ilt x14 (lenI l)) = true then
   Option.bind (getI l x14) fun v16 =>
   if (ilt v16 0) = true then
    some (.inr (.inl ()))
   else
    if (ilt (iadd IntKind.i64 (imul IntKind.i64 2 v) 1) v16) = true then
     some (.inr (.inl ()))
    else
     some (.inl (iadd IntKind.i64 x14 1))
  else
   some (.inr (.inr ()))
def ref06_lits (l : List Int) (v : Int) : Option Bool :=
 Option.bind (loopF (ref06_lits_B0 l v) 0) fun r => match r with
 | .inl () =>
  some false
 | .inr () =>
  some ((ile (lenI l) 2000))
def ref06_Vars (a : Aig) : Option Int :=
 some ((iadd IntKind.i64 (iadd IntKind.i64 a.I (lenI a.L)) (lenI a.G)))
def ref06_Right_B0 (a : Aig) (v4 : Int) (p : Int) : Option (Int ⊕ (Unit ⊕ Unit)) := match p with
 | x37 =>
  if (ilt x37 (lenI a.L)) = true then
   Option.bind (getI a.L x37) fun v39 =>
   if (ilt v39.next 0) = true then
    some (.inr (.inl ()))
   else
    if (ilt (iadd IntKind.i64 (imul IntKind.i64 2 v4) 1) v39.next) = true then
     some (.inr (.inl ()))
    else
     if (ieq v39.reset 0) = true then
      some (.inl (iadd IntKind.i64 x37 1))
     else
      if (ieq v39.reset 1) = true then
       some (.inl (iadd IntKind.i64 x37 1))
      else
       if (ieq v39.reset (imul IntKind.i64 2 (iadd IntKind.i64 (iadd IntKind.i64 a.I x37) 1))) = true then
        some (.inl (iadd IntKind.i64 x37 1))
       else
        some (.inr (.inl ()))
  else
   some (.inr (.inr ()))
def ref06_Right_B1 (a : Aig) (p : Int) : Option (Int ⊕ (Unit ⊕ Unit)) := match p with
 | x61 =>
  if (ilt x61 (lenI a.G)) = true then
   Option.bind (getI a.G x61) fun v63 =>
   if (ilt v63.b 0) = true then
    some (.inr (.inl ()))
   else
    if (ilt v63.a v63.b) = true then
     some (.inr (.inl ()))
    else
     if (ile (imul IntKind.i64 2 (iadd IntKind.i64 (iadd IntKind.i64 (iadd IntKind.i64 a.I (lenI a.L)) x61) 1)) v63.a) = true then
      some (.inr (.inl ()))
     else
      some (.inl (iadd IntKind.i64 x61 1))
  else
   some (.inr (.inr ()))
def ref06_Right_B2 (a : Aig) (p : Int) : Option (Int ⊕ (Unit ⊕ Unit)) := match p with
 | x107 =>
  if (ilt x107 (lenI a.names)) = true then
   Option.bind (getI a.names x107) fun v109 =>
   Option.bind (ref01_IsName v109.s) fun v111 =>
   if v111 = true then
    if (ilt v109.pos 0) = true then
     some (.inr (.inl ()))
    else
     Option.bind (ref06_kind v109.kind) fun v115 =>
     Option.bind (ref06_many a v115) fun v117 =>
     if (ile v117 v109.pos) = true then
      some (.inr (.inl ()))
     else
      if (ilt 0 x107) = true then
       Option.bind (getI a.names (isub IntKind.i64 x107 1)) fun v121 =>
       Option.bind (ref06_Behind v121 v109) fun v123 =>
       if v123 = true then
        some (.inl (iadd IntKind.i64 x107 1))
       else
        some (.inr (.inl ()))
      else
       some (.inl (iadd IntKind.i64 x107 1))
   else
    some (.inr (.inl ()))
  else
   some (.inr (.inr ()))
def ref06_Right (a : Aig) : Option Bool :=
 if (ilt a.I 0) = true then
  some false
 else
  if (ilt 20000 a.I) = true then
   some false
  else
   if (ilt 20000 (lenI a.L)) = true then
    some false
   else
    if (ilt 20000 (lenI a.G)) = true then
     some false
    else
     Option.bind (ref06_Vars a) fun v4 =>
     if (ilt 20000 v4) = true then
      some false
     else
      if (ilt 2000 (lenI a.names)) = true then
       some false
      else
       Option.bind (ref06_lits a.outs v4) fun v8 =>
       Option.bind (ref06_lits a.bad v4) fun v10 =>
       Option.bind (ref06_lits a.con v4) fun v12 =>
       if v8 = true then
        if v10 = true then
         if v12 = true then
          Option.bind (loopF (ref06_Right_B0 a v4) 0) fun r => match r with
          | .inl () =>
           some false
          | .inr () =>
           Option.bind (loopF (ref06_Right_B1 a) 0) fun r => match r with
           | .inl () =>
            some false
           | .inr () =>
            Option.bind (loopF (ref06_Right_B2 a) 0) fun r => match r with
            | .inl () =>
             some false
            | .inr () =>
             some true
         else
          some false
        else
         some false
       else
        some false
def ref06_Small_B0 (a : Aig) (p : Int) : Option (Int ⊕ (Unit ⊕ Unit)) := match p with
 | x18 =>
  if (ilt x18 (lenI a.names)) = true then
   Option.bind (getI a.names x18) fun v20 =>
   if (ilt 200 (sizI v20.s)) = true then
    some (.inr (.inl ()))
   else
    some (.inl (iadd IntKind.i64 x18 1))
  else
   some (.inr (.inr ()))
def ref06_Small (a : Aig) (most : Int) : Option Bool :=
 if (ilt most a.I) = true then
  some false
 else
  if (ilt most (lenI a.L)) = true then
   some false
  else
   if (ilt most (lenI a.G)) = true then
    some false
   else
    if (ilt most (lenI a.outs)) = true then
     some false
    else
     if (ilt most (lenI a.bad)) = true then
      some false
     else
      if (ilt most (lenI a.con)) = true then
       some false
      else
       if (ilt most (lenI a.names)) = true then
        some false
       else
        Option.bind (loopF (ref06_Small_B0 a) 0) fun r => match r with
        | .inl () =>
         some false
        | .inr () =>
         some true
def ref08_May (a : Aig) : Option Bool :=
 Option.bind (ref06_Small a 40) fun v0 =>
 Option.bind (ref06_Right a) fun v2 =>
 if v0 = true then
  some v2
 else
  some false
def law19_may (a : Aig) (l : Int) : Option Bool :=
 Option.bind (ref08_May a) fun v0 =>
 if v0 = true then
  if (ile 0 l) = true then
   Option.bind (ref06_Vars a) fun v4 =>
   some ((ile l (iadd IntKind.i64 (imul IntKind.i64 2 v4) 1)))
  else
   some false
 else
  some false
def aig_Vars (a : Aig) : Option Int :=
 some ((iadd IntKind.i64 (iadd IntKind.i64 a.I (lenI a.L)) (lenI a.G)))
def enc_Vars (a : Aig) (frames : Int) : Option Int :=
 Option.bind (aig_Vars a) fun v0 =>
 some ((imul IntKind.i64 frames (iadd IntKind.i64 v0 1)))
def enc_Lit (a : Aig) (k : Int) (l : Int) : Option Int :=
 Option.bind (enc_Vars a k) fun v0 =>
 if (ieq (irem l 2) 1) = true then
  some ((ineg IntKind.i64 (iadd IntKind.i64 (iadd IntKind.i64 v0 (iquo IntKind.i64 l 2)) 1)))
 else
  some ((iadd IntKind.i64 (iadd IntKind.i64 v0 (iquo IntKind.i64 l 2)) 1))
def enc_clause_B0 (a : Aig) (k : Int) (l : List Int) (p : (List Int) × Int) : Option (((List Int) × Int) ⊕ (List Int)) := match p with
 | (x25, x26) =>
  if (ilt x26 (lenI l)) = true then
   Option.bind (getI l x26) fun v28 =>
   Option.bind (enc_Lit a k v28) fun v30 =>
   if (inI (lenN x25) x26) = true then
    Option.bind (nthI x25 x26) fun v33 =>
    some (.inl (((x25.set (natI x26) v30), (iadd IntKind.i64 x26 1))))
   else
    none
  else
   some (.inr x25)
def enc_clause (a : Aig) (k : Int) (l : List Int) : Option (List Int) :=
 if (mkOk 8 (lenI l) (lenI l)) = true then
  Option.bind (loopF (enc_clause_B0 a k l) (((List.replicate (lenN l) 0), 0))) fun y35 =>
  some y35
 else
  none
def slices_Grow'_nil0 (n : Int) : Option (List Int) :=
 if (ilt n 0) = true then
  none
 else
  if (ilt 0 (isub IntKind.i64 n (isub IntKind.i64 0 0))) = true then
   if (cutOk 0 0 0) = true then
    if (zOk (isub IntKind.i64 n (isub IntKind.i64 0 0)) 8) = true then
     if (cutOk (natI (isub IntKind.i64 n (isub IntKind.i64 0 0))) 0 0) = true then
      some ([] : List Int)
     else
      none
    else
     none
   else
    none
  else
   some ([] : List Int)
def slices_Concat'_B0 (slices : List (List Int)) (p : Int × Int) : Option ((Int × Int) ⊕ Int) := match p with
 | (x15, x16) =>
  if (ilt x16 (lenI slices)) = true then
   Option.bind (getI slices x16) fun v18 =>
   if (ilt (iadd IntKind.i64 x15 (lenI v18)) 0) = true then
    none
   else
    some (.inl (((iadd IntKind.i64 x15 (lenI v18)), (iadd IntKind.i64 x16 1))))
  else
   some (.inr x15)
def slices_Concat'_B1 (slices : List (List Int)) (p : (List Int) × Int) : Option (((List Int) × Int) ⊕ (List Int)) := match p with
 | (x38, x39) =>
  if (ilt x39 (lenI slices)) = true then
   Option.bind (getI slices x39) fun v41 =>
   if (capN (lenN (x38 ++ v41)) 8) = true then
    some (.inl (((x38 ++ v41), (iadd IntKind.i64 x39 1))))
   else
    none
  else
   some (.inr x38)
def slices_Concat' (slices : List (List Int)) : Option (List Int) :=
 Option.bind (loopF (slices_Concat'_B0 slices) (0, 0)) fun y21 =>
 Option.bind (slices_Grow'_nil0 y21) fun v22 =>
 Option.bind (loopF (slices_Concat'_B1 slices) (v22, 0)) fun y44 =>
 some y44
def slices_Grow_nil0 (n : Int) : Option (List (List Int)) :=
 if (ilt n 0) = true then
  none
 else
  if (ilt 0 (isub IntKind.i64 n (isub IntKind.i64 0 0))) = true then
   if (cutOk 0 0 0) = true then
    if (zOk (isub IntKind.i64 n (isub IntKind.i64 0 0)) 24) = true then
     if (cutOk (natI (isub IntKind.i64 n (isub IntKind.i64 0 0))) 0 0) = true then
      some (([] : List (List Int)))
     else
      none
    else
     none
   else
    none
  else
   some (([] : List (List Int)))
def slices_Concat_B0 (slices : List (List (List Int))) (p : Int × Int) : Option ((Int × Int) ⊕ Int) := match p with
 | (x15, x16) =>
  if (ilt x16 (lenI slices)) = true then
   Option.bind (getI slices x16) fun v18 =>
   if (ilt (iadd IntKind.i64 x15 (lenI v18)) 0) = true then
    none
   else
    some (.inl (((iadd IntKind.i64 x15 (lenI v18)), (iadd IntKind.i64 x16 1))))
  else
   some (.inr x15)
def slices_Concat_B1 (slices : List (List (List Int))) (p : ((List (List Int))) × Int) : Option ((((List (List Int))) × Int) ⊕ (((List (List Int))))) := match p with
 | (x38, x39) =>
  if (ilt x39 (lenI slices)) = true then
   Option.bind (getI slices x39) fun v41 =>
   if (capN (lenN (x38 ++ v41)) 24) = true then
    some (.inl (((x38 ++ v41), (iadd IntKind.i64 x39 1))))
   else
    none
  else
   some (.inr x38)
def slices_Concat (slices : List (List (List Int))) : Option (List (List Int)) :=
 Option.bind (loopF (slices_Concat_B0 slices) (0, 0)) fun y21 =>
 Option.bind (slices_Grow_nil0 y21) fun v22 =>
 Option.bind (loopF (slices_Concat_B1 slices) (v22, 0)) fun y44 =>
 some y44
def enc_Frame_B0 (a : Aig) (k : Int) (p : ((List (List Int))) × Int) : Option ((((List (List Int))) × Int) ⊕ (((List (List Int))))) := match p with
 | (x29, x30) =>
  if (ilt x30 (lenI a.G)) = true then
   Option.bind (getI a.G x30) fun v32 =>
   Option.bind (enc_clause a k (([bxor IntKind.i64 (imul IntKind.i64 2 (iadd IntKind.i64 (iadd IntKind.i64 (iadd IntKind.i64 a.I (lenI a.L)) 1) x30)) 1, v32.a]))) fun v34 =>
   Option.bind (enc_clause a k (([bxor IntKind.i64 (imul IntKind.i64 2 (iadd IntKind.i64 (iadd IntKind.i64 (iadd IntKind.i64 a.I (lenI a.L)) 1) x30)) 1, v32.b]))) fun v36 =>
   Option.bind (enc_clause a k (([imul IntKind.i64 2 (iadd IntKind.i64 (iadd IntKind.i64 (iadd IntKind.i64 a.I (lenI a.L)) 1) x30), bxor IntKind.i64 v32.a 1, bxor IntKind.i64 v32.b 1]))) fun v38 =>
   if (capN (lenN (x29 ++ [v34, v36, v38])) 24) = true then
    some (.inl (((x29 ++ [v34, v36, v38]), (iadd IntKind.i64 x30 1))))
   else
    none
  else
   some (.inr x29)
def enc_Frame (a : Aig) (k : Int) : Option (List (List Int)) :=
 Option.bind (enc_clause a k [1]) fun v0 =>
 Option.bind (loopF (enc_Frame_B0 a k) ([v0], 0)) fun y41 =>
 some y41
def enc_First_B0 (a : Aig) (p : ((List (List Int))) × Int) : Option ((((List (List Int))) × Int) ⊕ (((List (List Int))))) := match p with
 | (x21, x22) =>
  if (ilt x22 (lenI a.L)) = true then
   Option.bind (getI a.L x22) fun v24 =>
   if (ilt v24.reset 2) = true then
    Option.bind (enc_clause a 0 (([isub IntKind.i64 (iadd IntKind.i64 (imul IntKind.i64 2 (iadd IntKind.i64 (iadd IntKind.i64 a.I 1) x22)) 1) v24.reset]))) fun v27 =>
    if (capN (lenN (x21 ++ [v27])) 24) = true then
     some (.inl (((x21 ++ [v27]), (iadd IntKind.i64 x22 1))))
    else
     none
   else
    some (.inl ((x21, (iadd IntKind.i64 x22 1))))
  else
   some (.inr x21)
def enc_First (a : Aig) : Option (List (List Int)) :=
 Option.bind (loopF (enc_First_B0 a) ([], 0)) fun y30 =>
 some y30
def enc_Link_B0 (a : Aig) (p : ((List (List Int))) × Int) : Option ((((List (List Int))) × Int) ⊕ (((List (List Int))))) := match p with
 | (x23, x24) =>
  if (ilt x24 (lenI a.L)) = true then
   Option.bind (getI a.L x24) fun v26 =>
   Option.bind (enc_Lit a 1 ((imul IntKind.i64 2 (iadd IntKind.i64 (iadd IntKind.i64 a.I 1) x24)))) fun v28 =>
   Option.bind (enc_Lit a 0 v26.next) fun v30 =>
   if (capN (lenN (x23 ++ [[ineg IntKind.i64 v28, v30], [v28, ineg IntKind.i64 v30]])) 24) = true then
    some (.inl (((x23 ++ [[ineg IntKind.i64 v28, v30], [v28, ineg IntKind.i64 v30]]), (iadd IntKind.i64 x24 1))))
   else
    none
  else
   some (.inr x23)
def enc_Link (a : Aig) : Option (List (List Int)) :=
 Option.bind (loopF (enc_Link_B0 a) ([], 0)) fun y33 =>
 some y33
def enc_holds_B0 (a : Aig) (v0 : List Int) (p : ((List (List Int))) × Int) : Option ((((List (List Int))) × Int) ⊕ (((List (List Int))))) := match p with
 | (x23, x24) =>
  if (ilt x24 (lenI v0)) = true then
   if (inI (lenN v0) x24) = true then
    Option.bind (nthI v0 x24) fun v27 =>
    Option.bind (enc_clause a 0 [v27]) fun v29 =>
    if (capN (lenN (x23 ++ [v29])) 24) = true then
     some (.inl (((x23 ++ [v29]), (iadd IntKind.i64 x24 1))))
    else
     none
   else
    none
  else
   some (.inr x23)
def enc_holds (a : Aig) (more : List Int) : Option (List (List Int)) :=
 Option.bind (slices_Concat' ([a.con, more])) fun v0 =>
 Option.bind (loopF (enc_holds_B0 a v0) ([], 0)) fun y32 =>
 some y32
def enc_Starts (a : Aig) (inv : Int) : Option Cnf :=
 Option.bind (enc_Vars a 1) fun v0 =>
 Option.bind (enc_Frame a 0) fun v2 =>
 Option.bind (enc_First a) fun v4 =>
 Option.bind (enc_clause a 0 ([bxor IntKind.i64 inv 1])) fun v6 =>
 Option.bind (slices_Concat ([v2, v4, [v6]])) fun v8 =>
 some ({ N := v0, cs := v8 } : Cnf)
def enc_Stays (a : Aig) (inv : Int) : Option Cnf :=
 Option.bind (enc_clause a 1 ([bxor IntKind.i64 inv 1])) fun v0 =>
 Option.bind (enc_Vars a 2) fun v2 =>
 Option.bind (enc_Frame a 0) fun v4 =>
 Option.bind (enc_Frame a 1) fun v6 =>
 Option.bind (enc_Link a) fun v8 =>
 Option.bind (enc_holds a [inv]) fun v10 =>
 Option.bind (slices_Concat ([v4, v6, v8, v10, [v0]])) fun v12 =>
 some ({ N := v2, cs := v12 } : Cnf)
def enc_Safe (a : Aig) (inv : Int) (bad : Int) : Option Cnf :=
 Option.bind (enc_Vars a 1) fun v0 =>
 Option.bind (enc_Frame a 0) fun v2 =>
 Option.bind (enc_holds a ([inv, bad])) fun v4 =>
 Option.bind (slices_Concat ([v2, v4])) fun v6 =>
 some ({ N := v0, cs := v6 } : Cnf)
def ref03_Right_B0 (f_ : Cnf) (x76 : Int) (p : Int) : Option (Int ⊕ (Unit ⊕ Unit)) := match p with
 | x101 =>
  Option.bind (getI f_.cs x76) fun v102 =>
  if (ilt x101 (lenI v102)) = true then
   Option.bind (getI v102 x101) fun v105 =>
   if (ieq v105 0) = true then
    some (.inr (.inl ()))
   else
    if (ilt f_.N v105) = true then
     some (.inr (.inl ()))
    else
     if (ilt v105 (ineg IntKind.i64 f_.N)) = true then
      some (.inr (.inl ()))
     else
      some (.inl (iadd IntKind.i64 x101 1))
  else
   some (.inr (.inr ()))
def ref03_Right_B1 (f_ : Cnf) (p : Int) : Option (Int ⊕ (Unit ⊕ Unit)) := match p with
 | x76 =>
  if (ilt x76 (lenI f_.cs)) = true then
   Option.bind (getI f_.cs x76) fun v78 =>
   if (ilt 1000 (lenI v78)) = true then
    some (.inr (.inl ()))
   else
    Option.bind (loopF (ref03_Right_B0 f_ x76) 0) fun r => match r with
    | .inl () =>
     some (.inr (.inl ()))
    | .inr () =>
     some (.inl (iadd IntKind.i64 x76 1))
  else
   some (.inr (.inr ()))
def ref03_Right (f_ : Cnf) : Option Bool :=
 if (ilt f_.N 0) = true then
  some false
 else
  if (ilt 100000 f_.N) = true then
   some false
  else
   if (ilt 20000 (lenI f_.cs)) = true then
    some false
   else
    Option.bind (loopF (ref03_Right_B1 f_) 0) fun r => match r with
    | .inl () =>
     some false
    | .inr () =>
     some true
def ref03_Ints_B0 (a : List Int) (b : List Int) (p : Int) : Option (Int ⊕ (Unit ⊕ Unit)) := match p with
 | x17 =>
  if (ilt x17 (lenI a)) = true then
   Option.bind (getI a x17) fun v19 =>
   Option.bind (getI b x17) fun v21 =>
   if (ieq v19 v21) = true then
    some (.inl (iadd IntKind.i64 x17 1))
   else
    some (.inr (.inl ()))
  else
   some (.inr (.inr ()))
def ref03_Ints (a : List Int) (b : List Int) : Option Bool :=
 if (ieq (lenI a) (lenI b)) = true then
  Option.bind (loopF (ref03_Ints_B0 a b) 0) fun r => match r with
  | .inl () =>
   some false
  | .inr () =>
   some true
 else
  some false
def ref03_Same_B0 (a : Cnf) (b : Cnf) (p : Int) : Option (Int ⊕ (Unit ⊕ Unit)) := match p with
 | x22 =>
  if (ilt x22 (lenI a.cs)) = true then
   Option.bind (getI a.cs x22) fun v24 =>
   Option.bind (getI b.cs x22) fun v26 =>
   Option.bind (ref03_Ints v24 v26) fun v28 =>
   if v28 = true then
    some (.inl (iadd IntKind.i64 x22 1))
   else
    some (.inr (.inl ()))
  else
   some (.inr (.inr ()))
def ref03_Same (a : Cnf) (b : Cnf) : Option Bool :=
 if (ieq a.N b.N) = true then
  if (ieq (lenI a.cs) (lenI b.cs)) = true then
   Option.bind (loopF (ref03_Same_B0 a b) 0) fun r => match r with
   | .inl () =>
    some false
   | .inr () =>
    some true
  else
   some false
 else
  some false
def ref19_Lit (a : Aig) (k : Int) (l : Int) : Option Int :=
 Option.bind (ref06_Vars a) fun v0 =>
 if (ieq (irem l 2) 1) = true then
  some ((ineg IntKind.i64 (iadd IntKind.i64 (iadd IntKind.i64 (imul IntKind.i64 k (iadd IntKind.i64 v0 1)) (iquo IntKind.i64 l 2)) 1)))
 else
  some ((iadd IntKind.i64 (iadd IntKind.i64 (imul IntKind.i64 k (iadd IntKind.i64 v0 1)) (iquo IntKind.i64 l 2)) 1))
def ref19_Vars (a : Aig) (frames : Int) : Option Int :=
 Option.bind (ref06_Vars a) fun v0 =>
 some ((imul IntKind.i64 frames (iadd IntKind.i64 v0 1)))
def ref19_Frame_B0 (a : Aig) (k : Int) (p : ((List (List Int))) × Int) : Option ((((List (List Int))) × Int) ⊕ (((List (List Int))))) := match p with
 | (x28, x29) =>
  if (ilt x29 (lenI a.G)) = true then
   Option.bind (ref19_Lit a k ((imul IntKind.i64 2 (iadd IntKind.i64 (iadd IntKind.i64 (iadd IntKind.i64 a.I (lenI a.L)) 1) x29)))) fun v31 =>
   Option.bind (getI a.G x29) fun v33 =>
   Option.bind (ref19_Lit a k v33.a) fun v35 =>
   Option.bind (ref19_Lit a k v33.b) fun v37 =>
   if (capN (lenN (x28 ++ [[ineg IntKind.i64 v31, v35], [ineg IntKind.i64 v31, v37], [v31, ineg IntKind.i64 v35, ineg IntKind.i64 v37]])) 24) = true then
    some (.inl (((x28 ++ [[ineg IntKind.i64 v31, v35], [ineg IntKind.i64 v31, v37], [v31, ineg IntKind.i64 v35, ineg IntKind.i64 v37]]), (iadd IntKind.i64 x29 1))))
   else
    none
  else
   some (.inr x28)
def ref19_Frame (a : Aig) (k : Int) : Option (List (List Int)) :=
 Option.bind (ref19_Lit a k 0) fun v0 =>
 Option.bind (loopF (ref19_Frame_B0 a k) ((([[ineg IntKind.i64 v0]]), 0))) fun y40 =>
 some y40
def ref19_First_B0 (a : Aig) (p : ((List (List Int))) × Int) : Option ((((List (List Int))) × Int) ⊕ (((List (List Int))))) := match p with
 | (x23, x24) =>
  if (ilt x24 (lenI a.L)) = true then
   Option.bind (ref19_Lit a 0 ((imul IntKind.i64 2 (iadd IntKind.i64 (iadd IntKind.i64 a.I 1) x24)))) fun v26 =>
   Option.bind (getI a.L x24) fun v28 =>
   if (ieq v28.reset 0) = true then
    if (capN (lenN (x23 ++ [[ineg IntKind.i64 v26]])) 24) = true then
     some (.inl (((x23 ++ [[ineg IntKind.i64 v26]]), (iadd IntKind.i64 x24 1))))
    else
     none
   else
    if (ieq v28.reset 1) = true then
     if (capN (lenN (x23 ++ [[v26]])) 24) = true then
      some (.inl (((x23 ++ [[v26]]), (iadd IntKind.i64 x24 1))))
     else
      none
    else
     some (.inl ((x23, (iadd IntKind.i64 x24 1))))
  else
   some (.inr x23)
def ref19_First (a : Aig) : Option (List (List Int)) :=
 Option.bind (loopF (ref19_First_B0 a) ([], 0)) fun y34 =>
 some y34
def ref19_Link_B0 (a : Aig) (p : ((List (List Int))) × Int) : Option ((((List (List Int))) × Int) ⊕ (((List (List Int))))) := match p with
 | (x21, x22) =>
  if (ilt x22 (lenI a.L)) = true then
   Option.bind (ref19_Lit a 1 ((imul IntKind.i64 2 (iadd IntKind.i64 (iadd IntKind.i64 a.I 1) x22)))) fun v24 =>
   Option.bind (getI a.L x22) fun v26 =>
   Option.bind (ref19_Lit a 0 v26.next) fun v28 =>
   if (capN (lenN (x21 ++ [[ineg IntKind.i64 v24, v28], [v24, ineg IntKind.i64 v28]])) 24) = true then
    some (.inl (((x21 ++ [[ineg IntKind.i64 v24, v28], [v24, ineg IntKind.i64 v28]]), (iadd IntKind.i64 x22 1))))
   else
    none
  else
   some (.inr x21)
def ref19_Link (a : Aig) : Option (List (List Int)) :=
 Option.bind (loopF (ref19_Link_B0 a) ([], 0)) fun y31 =>
 some y31
def ref19_cons_B0 (a : Aig) (p : ((List (List Int))) × Int) : Option ((((List (List Int))) × Int) ⊕ (((List (List Int))))) := match p with
 | (x17, x18) =>
  if (ilt x18 (lenI a.con)) = true then
   Option.bind (getI a.con x18) fun v20 =>
   Option.bind (ref19_Lit a 0 v20) fun v22 =>
   if (capN (lenN (x17 ++ [[v22]])) 24) = true then
    some (.inl (((x17 ++ [[v22]]), (iadd IntKind.i64 x18 1))))
   else
    none
  else
   some (.inr x17)
def ref19_cons (a : Aig) (q0 : List (List Int)) : Option (List (List Int)) :=
 Option.bind (loopF (ref19_cons_B0 a) (q0, 0)) fun y25 =>
 some y25
def ref19_Starts (a : Aig) (inv : Int) : Option Cnf :=
 Option.bind (ref19_Frame a 0) fun v0 =>
 Option.bind (ref19_First a) fun v2 =>
 if (capN (lenN (v0 ++ v2)) 24) = true then
  Option.bind (ref19_Vars a 1) fun v5 =>
  Option.bind (ref19_Lit a 0 inv) fun v7 =>
  if (capN (lenN (v0 ++ (v2 ++ [[ineg IntKind.i64 v7]]))) 24) = true then
   some (({ N := v5, cs := (v0 ++ (v2 ++ [[ineg IntKind.i64 v7]])) } : Cnf))
  else
   none
 else
  none
def ref19_Stays (a : Aig) (inv : Int) : Option Cnf :=
 Option.bind (ref19_Frame a 0) fun v0 =>
 Option.bind (ref19_Frame a 1) fun v2 =>
 if (capN (lenN (v0 ++ v2)) 24) = true then
  Option.bind (ref19_Link a) fun v5 =>
  if (capN (lenN (v0 ++ (v2 ++ v5))) 24) = true then
   Option.bind (ref19_cons a ((v0 ++ (v2 ++ v5)))) fun v8 =>
   Option.bind (ref19_Vars a 2) fun v10 =>
   Option.bind (ref19_Lit a 0 inv) fun v12 =>
   Option.bind (ref19_Lit a 1 inv) fun v14 =>
   if (capN (lenN (v8 ++ [[v12], [ineg IntKind.i64 v14]])) 24) = true then
    some (({ N := v10, cs := (v8 ++ [[v12], [ineg IntKind.i64 v14]]) } : Cnf))
   else
    none
  else
   none
 else
  none
def ref19_Safe (a : Aig) (inv : Int) (bad : Int) : Option Cnf :=
 Option.bind (ref19_Frame a 0) fun v0 =>
 Option.bind (ref19_cons a v0) fun v2 =>
 Option.bind (ref19_Vars a 1) fun v4 =>
 Option.bind (ref19_Lit a 0 inv) fun v6 =>
 Option.bind (ref19_Lit a 0 bad) fun v8 =>
 if (capN (lenN (v2 ++ [[v6], [v8]])) 24) = true then
  some (({ N := v4, cs := (v2 ++ [[v6], [v8]]) } : Cnf))
 else
  none
def ref19_Clauses_B0 (a : List (List Int)) (b : List (List Int)) (x93 : Int) (p : Int) : Option (Int ⊕ (Unit ⊕ Unit)) := match p with
 | x125 =>
  Option.bind (getI a x93) fun v126 =>
  if (ilt x125 (lenI v126)) = true then
   Option.bind (getI v126 x125) fun v129 =>
   Option.bind (getI b x93) fun v131 =>
   Option.bind (getI v131 x125) fun v133 =>
   if (ieq v129 v133) = true then
    some (.inl (iadd IntKind.i64 x125 1))
   else
    some (.inr (.inl ()))
  else
   some (.inr (.inr ()))
def ref19_Clauses_B1 (a : List (List Int)) (b : List (List Int)) (p : Int) : Option (Int ⊕ (Unit ⊕ Unit)) := match p with
 | x93 =>
  if (ilt x93 (lenI a)) = true then
   Option.bind (getI a x93) fun v95 =>
   Option.bind (getI b x93) fun v97 =>
   if (ieq (lenI v95) (lenI v97)) = true then
    Option.bind (loopF (ref19_Clauses_B0 a b x93) 0) fun r => match r with
    | .inl () =>
     some (.inr (.inl ()))
    | .inr () =>
     some (.inl (iadd IntKind.i64 x93 1))
   else
    some (.inr (.inl ()))
  else
   some (.inr (.inr ()))
def ref19_Clauses (a : List (List Int)) (b : List (List Int)) : Option Bool :=
 if (ieq (lenI a) (lenI b)) = true then
  Option.bind (loopF (ref19_Clauses_B1 a b) 0) fun r => match r with
  | .inl () =>
   some false
  | .inr () =>
   some true
 else
  some false
def law19_shown : Option Bool :=
 Option.bind (enc_Starts (({ I := 2, L := ([] : List Latch), G := ([{ a := 4, b := 2 }]), outs := ([] : List Int), bad := ([] : List Int), con := ([] : List Int), names := ([] : List Name) } : Aig)) 6) fun v0 =>
 Option.bind (enc_Safe (({ I := 2, L := ([] : List Latch), G := ([{ a := 4, b := 2 }]), outs := ([] : List Int), bad := ([] : List Int), con := ([] : List Int), names := ([] : List Name) } : Aig)) 6 7) fun v2 =>
 Option.bind (enc_Frame (({ I := 2, L := ([] : List Latch), G := ([{ a := 4, b := 2 }]), outs := ([] : List Int), bad := ([] : List Int), con := ([] : List Int), names := ([] : List Name) } : Aig)) 0) fun v4 =>
 Option.bind (ref19_Clauses v4 ([[-1], [-4, 3], [-4, 2], [4, -3, -2]])) fun v6 =>
 if v6 = true then
  Option.bind (enc_Vars (({ I := 2, L := ([] : List Latch), G := ([{ a := 4, b := 2 }]), outs := ([] : List Int), bad := ([] : List Int), con := ([] : List Int), names := ([] : List Name) } : Aig)) 2) fun v9 =>
  if (ieq v9 8) = true then
   Option.bind (enc_Lit (({ I := 2, L := ([] : List Latch), G := ([{ a := 4, b := 2 }]), outs := ([] : List Int), bad := ([] : List Int), con := ([] : List Int), names := ([] : List Name) } : Aig)) 1 7) fun v12 =>
   if (ieq v12 (-8)) = true then
    if (ieq v0.N 4) = true then
     if (ieq (lenI v0.cs) 5) = true then
      some ((ieq (lenI v2.cs) 6))
     else
      some false
    else
     some false
   else
    some false
  else
   some false
 else
  some false
def law19_EncAsks (a : Aig) (inv : Int) (bad : Int) : Option Bool :=
 Option.bind (law19_shown) fun v0 =>
 Option.bind (law19_may a inv) fun v2 =>
 if v2 = true then
  Option.bind (law19_may a bad) fun v5 =>
  if v5 = true then
   Option.bind (enc_Starts a inv) fun v8 =>
   Option.bind (enc_Stays a inv) fun v10 =>
   Option.bind (enc_Safe a inv bad) fun v12 =>
   Option.bind (ref03_Right v8) fun v14 =>
   if v14 = true then
    Option.bind (ref03_Right v10) fun v17 =>
    if v17 = true then
     Option.bind (ref03_Right v12) fun v20 =>
     if v0 = true then
      if v20 = true then
       Option.bind (ref19_Starts a inv) fun v24 =>
       Option.bind (ref03_Same v8 v24) fun v26 =>
       if v26 = true then
        Option.bind (ref19_Stays a inv) fun v29 =>
        Option.bind (ref03_Same v10 v29) fun v31 =>
        if v31 = true then
         Option.bind (ref19_Safe a inv bad) fun v34 =>
         Option.bind (ref03_Same v12 v34) fun v36 =>
         some v36
        else
         some false
       else
        some false
      else
       some false
     else
      some false
    else
     if v0 = true then
      some false
     else
      some false
   else
    if v0 = true then
     some false
    else
     some false
  else
   some v0
 else
  some v0
end Go.Vid

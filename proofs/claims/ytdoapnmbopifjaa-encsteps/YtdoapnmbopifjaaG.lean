/- The seat's functions, plainly. No condition. -/
import Derived.Test.YtdoapnmbopifjaaS
set_option linter.unusedVariables false
namespace Go.Vid
open Go.Vabs
def aig_Vars (a : Aig) : Option Int :=
  some ((iadd IntKind.i64 (iadd IntKind.i64 a.I (lenI a.L)) (lenI a.G)))
def enc_Vars (a : Aig) (frames : Int) : Option Int :=
  Option.bind (aig_Vars a) fun v0 =>
  some ((imul IntKind.i64 frames (iadd IntKind.i64 v0 1)))
def enc_Lit (a : Aig) (k : Int) (l : Int) : Option Int :=
  Option.bind (enc_Vars a k) fun v0 =>
  if (ieq (irem l 2) 1) = true then
    some ((ineg IntKind.i64 (iadd IntKind.i64 (iadd IntKind.i64 v0 (iquo IntKind.i64 l 2)) 1)))
  else
    some ((iadd IntKind.i64 (iadd IntKind.i64 v0 (iquo IntKind.i64 l 2)) 1))
def enc_clause_B0 (a : Aig) (k : Int) (l : List Int) (p : (List Int) × Int) : Option (((List Int) × Int) ⊕ (List Int)) := match p with
  | (x25, x26) =>
    if (ilt x26 (lenI l)) = true then
      Option.bind (getI l x26) fun v28 =>
      Option.bind (enc_Lit a k v28) fun v30 =>
      if (inI (lenN x25) x26) = true then
        Option.bind (nthI x25 x26) fun v33 =>
        some (.inl (((x25.set (natI x26) v30), (iadd IntKind.i64 x26 1))))
      else
        none
    else
      some (.inr x25)
def enc_clause (a : Aig) (k : Int) (l : List Int) : Option (List Int) :=
  if (mkOk 8 (lenI l) (lenI l)) = true then
    Option.bind (loopF (enc_clause_B0 a k l) (((List.replicate (lenN l) 0), 0))) fun y35 =>
    some y35
  else
    none
def enc_Frame_B0 (a : Aig) (k : Int) (p : ((List (List Int))) × Int) : Option ((((List (List Int))) × Int) ⊕ (((List (List Int))))) := match p with
  | (x29, x30) =>
    if (ilt x30 (lenI a.G)) = true then
      Option.bind (getI a.G x30) fun v32 =>
      Option.bind (enc_clause a k (([bxor IntKind.i64 (imul IntKind.i64 2 (iadd IntKind.i64 (iadd IntKind.i64 (iadd IntKind.i64 a.I (lenI a.L)) 1) x30)) 1, v32.a]))) fun v34 =>
      Option.bind (enc_clause a k (([bxor IntKind.i64 (imul IntKind.i64 2 (iadd IntKind.i64 (iadd IntKind.i64 (iadd IntKind.i64 a.I (lenI a.L)) 1) x30)) 1, v32.b]))) fun v36 =>
      Option.bind (enc_clause a k (([imul IntKind.i64 2 (iadd IntKind.i64 (iadd IntKind.i64 (iadd IntKind.i64 a.I (lenI a.L)) 1) x30), bxor IntKind.i64 v32.a 1, bxor IntKind.i64 v32.b 1]))) fun v38 =>
      if (capN (lenN (x29 ++ [v34, v36, v38])) 24) = true then
        some (.inl (((x29 ++ [v34, v36, v38]), (iadd IntKind.i64 x30 1))))
      else
        none
    else
      some (.inr x29)
def enc_Frame (a : Aig) (k : Int) : Option (List (List Int)) :=
  Option.bind (enc_clause a k [1]) fun v0 =>
  Option.bind (loopF (enc_Frame_B0 a k) ([v0], 0)) fun y41 =>
  some y41
def enc_First_B0 (a : Aig) (p : ((List (List Int))) × Int) : Option ((((List (List Int))) × Int) ⊕ (((List (List Int))))) := match p with
  | (x21, x22) =>
    if (ilt x22 (lenI a.L)) = true then
      Option.bind (getI a.L x22) fun v24 =>
      if (ilt v24.reset 2) = true then
        Option.bind (enc_clause a 0 (([isub IntKind.i64 (iadd IntKind.i64 (imul IntKind.i64 2 (iadd IntKind.i64 (iadd IntKind.i64 a.I 1) x22)) 1) v24.reset]))) fun v27 =>
        if (capN (lenN (x21 ++ [v27])) 24) = true then
          some (.inl (((x21 ++ [v27]), (iadd IntKind.i64 x22 1))))
        else
          none
      else
        some (.inl ((x21, (iadd IntKind.i64 x22 1))))
    else
      some (.inr x21)
def enc_First (a : Aig) : Option (List (List Int)) :=
  Option.bind (loopF (enc_First_B0 a) ([], 0)) fun y30 =>
  some y30
def slices_Grow_nil0 (n : Int) : Option (List (List Int)) :=
  if (ilt n 0) = true then
    none
  else
    if (ilt 0 (isub IntKind.i64 n (isub IntKind.i64 0 0))) = true then
      if (cutOk 0 0 0) = true then
        if (zOk (isub IntKind.i64 n (isub IntKind.i64 0 0)) 24) = true then
          if (cutOk (natI (isub IntKind.i64 n (isub IntKind.i64 0 0))) 0 0) = true then
            some (([] : List (List Int)))
          else
            none
        else
          none
      else
        none
    else
      some (([] : List (List Int)))
def slices_Concat_B0 (slices : List (List (List Int))) (p : Int × Int) : Option ((Int × Int) ⊕ Int) := match p with
  | (x15, x16) =>
    if (ilt x16 (lenI slices)) = true then
      Option.bind (getI slices x16) fun v18 =>
      if (ilt (iadd IntKind.i64 x15 (lenI v18)) 0) = true then
        none
      else
        some (.inl (((iadd IntKind.i64 x15 (lenI v18)), (iadd IntKind.i64 x16 1))))
    else
      some (.inr x15)
def slices_Concat_B1 (slices : List (List (List Int))) (p : ((List (List Int))) × Int) : Option ((((List (List Int))) × Int) ⊕ (((List (List Int))))) := match p with
  | (x38, x39) =>
    if (ilt x39 (lenI slices)) = true then
      Option.bind (getI slices x39) fun v41 =>
      if (capN (lenN (x38 ++ v41)) 24) = true then
        some (.inl (((x38 ++ v41), (iadd IntKind.i64 x39 1))))
      else
        none
    else
      some (.inr x38)
def slices_Concat (slices : List (List (List Int))) : Option (List (List Int)) :=
  Option.bind (loopF (slices_Concat_B0 slices) (0, 0)) fun y21 =>
  Option.bind (slices_Grow_nil0 y21) fun v22 =>
  Option.bind (loopF (slices_Concat_B1 slices) (v22, 0)) fun y44 =>
  some y44
def enc_Starts (a : Aig) (inv : Int) : Option Cnf :=
  Option.bind (enc_Vars a 1) fun v0 =>
  Option.bind (enc_Frame a 0) fun v2 =>
  Option.bind (enc_First a) fun v4 =>
  Option.bind (enc_clause a 0 ([bxor IntKind.i64 inv 1])) fun v6 =>
  Option.bind (slices_Concat ([v2, v4, [v6]])) fun v8 =>
  some ({ N := v0, cs := v8 } : Cnf)
def ref19_Clauses_B0 (a : List (List Int)) (b : List (List Int)) (x93 : Int) (p : Int) : Option (Int ⊕ (Unit ⊕ Unit)) := match p with
  | x125 =>
    Option.bind (getI a x93) fun v126 =>
    if (ilt x125 (lenI v126)) = true then
      Option.bind (getI v126 x125) fun v129 =>
      Option.bind (getI b x93) fun v131 =>
      Option.bind (getI v131 x125) fun v133 =>
      if (ieq v129 v133) = true then
        some (.inl (iadd IntKind.i64 x125 1))
      else
        some (.inr (.inl ()))
    else
      some (.inr (.inr ()))
def ref19_Clauses_B1 (a : List (List Int)) (b : List (List Int)) (p : Int) : Option (Int ⊕ (Unit ⊕ Unit)) := match p with
  | x93 =>
    if (ilt x93 (lenI a)) = true then
      Option.bind (getI a x93) fun v95 =>
      Option.bind (getI b x93) fun v97 =>
      if (ieq (lenI v95) (lenI v97)) = true then
        Option.bind (loopF (ref19_Clauses_B0 a b x93) 0) fun r => match r with
        | .inl () =>
          some (.inr (.inl ()))
        | .inr () =>
          some (.inl (iadd IntKind.i64 x93 1))
      else
        some (.inr (.inl ()))
    else
      some (.inr (.inr ()))
def ref19_Clauses (a : List (List Int)) (b : List (List Int)) : Option Bool :=
  if (ieq (lenI a) (lenI b)) = true then
    Option.bind (loopF (ref19_Clauses_B1 a b) 0) fun r => match r with
    | .inl () =>
      some false
    | .inr () =>
      some true
  else
    some false
def slices_Grow'_nil0 (n : Int) : Option (List Int) :=
  if (ilt n 0) = true then
    none
  else
    if (ilt 0 (isub IntKind.i64 n (isub IntKind.i64 0 0))) = true then
      if (cutOk 0 0 0) = true then
        if (zOk (isub IntKind.i64 n (isub IntKind.i64 0 0)) 8) = true then
          if (cutOk (natI (isub IntKind.i64 n (isub IntKind.i64 0 0))) 0 0) = true then
            some ([] : List Int)
          else
            none
        else
          none
      else
        none
    else
      some ([] : List Int)
def slices_Concat'_B0 (slices : List (List Int)) (p : Int × Int) : Option ((Int × Int) ⊕ Int) := match p with
  | (x15, x16) =>
    if (ilt x16 (lenI slices)) = true then
      Option.bind (getI slices x16) fun v18 =>
      if (ilt (iadd IntKind.i64 x15 (lenI v18)) 0) = true then
        none
      else
        some (.inl (((iadd IntKind.i64 x15 (lenI v18)), (iadd IntKind.i64 x16 1))))
    else
      some (.inr x15)
def slices_Concat'_B1 (slices : List (List Int)) (p : (List Int) × Int) : Option (((List Int) × Int) ⊕ (List Int)) := match p with
  | (x38, x39) =>
    if (ilt x39 (lenI slices)) = true then
      Option.bind (getI slices x39) fun v41 =>
      if (capN (lenN (x38 ++ v41)) 8) = true then
        some (.inl (((x38 ++ v41), (iadd IntKind.i64 x39 1))))
      else
        none
    else
      some (.inr x38)
def slices_Concat' (slices : List (List Int)) : Option (List Int) :=
  Option.bind (loopF (slices_Concat'_B0 slices) (0, 0)) fun y21 =>
  Option.bind (slices_Grow'_nil0 y21) fun v22 =>
  Option.bind (loopF (slices_Concat'_B1 slices) (v22, 0)) fun y44 =>
  some y44
def enc_holds_B0 (a : Aig) (v0 : List Int) (p : ((List (List Int))) × Int) : Option ((((List (List Int))) × Int) ⊕ (((List (List Int))))) := match p with
  | (x23, x24) =>
    if (ilt x24 (lenI v0)) = true then
      if (inI (lenN v0) x24) = true then
        Option.bind (nthI v0 x24) fun v27 =>
        Option.bind (enc_clause a 0 [v27]) fun v29 =>
        if (capN (lenN (x23 ++ [v29])) 24) = true then
          some (.inl (((x23 ++ [v29]), (iadd IntKind.i64 x24 1))))
        else
          none
      else
        none
    else
      some (.inr x23)
def enc_holds (a : Aig) (more : List Int) : Option (List (List Int)) :=
  Option.bind (slices_Concat' ([a.con, more])) fun v0 =>
  Option.bind (loopF (enc_holds_B0 a v0) ([], 0)) fun y32 =>
  some y32
def enc_Safe (a : Aig) (inv : Int) (bad : Int) : Option Cnf :=
  Option.bind (enc_Vars a 1) fun v0 =>
  Option.bind (enc_Frame a 0) fun v2 =>
  Option.bind (enc_holds a ([inv, bad])) fun v4 =>
  Option.bind (slices_Concat ([v2, v4])) fun v6 =>
  some ({ N := v0, cs := v6 } : Cnf)
def law19_shown : Option Bool :=
  Option.bind (enc_Starts (({ I := 2, L := ([] : List Latch), G := ([{ a := 4, b := 2 }]), outs := ([] : List Int), bad := ([] : List Int), con := ([] : List Int), names := ([] : List Name) } : Aig)) 6) fun v0 =>
  Option.bind (enc_Safe (({ I := 2, L := ([] : List Latch), G := ([{ a := 4, b := 2 }]), outs := ([] : List Int), bad := ([] : List Int), con := ([] : List Int), names := ([] : List Name) } : Aig)) 6 7) fun v2 =>
  Option.bind (enc_Frame (({ I := 2, L := ([] : List Latch), G := ([{ a := 4, b := 2 }]), outs := ([] : List Int), bad := ([] : List Int), con := ([] : List Int), names := ([] : List Name) } : Aig)) 0) fun v4 =>
  Option.bind (ref19_Clauses v4 ([[-1], [-4, 3], [-4, 2], [4, -3, -2]])) fun v6 =>
  if v6 = true then
    Option.bind (enc_Vars (({ I := 2, L := ([] : List Latch), G := ([{ a := 4, b := 2 }]), outs := ([] : List Int), bad := ([] : List Int), con := ([] : List Int), names := ([] : List Name) } : Aig)) 2) fun v9 =>
    if (ieq v9 8) = true then
      Option.bind (enc_Lit (({ I := 2, L := ([] : List Latch), G := ([{ a := 4, b := 2 }]), outs := ([] : List Int), bad := ([] : List Int), con := ([] : List Int), names := ([] : List Name) } : Aig)) 1 7) fun v12 =>
      if (ieq v12 (-8)) = true then
        if (ieq v0.N 4) = true then
          if (ieq (lenI v0.cs) 5) = true then
            some ((ieq (lenI v2.cs) 6))
          else
            some false
        else
          some false
      else
        some false
    else
      some false
  else
    some false
def ref06_Vars (a : Aig) : Option Int :=
  some ((iadd IntKind.i64 (iadd IntKind.i64 a.I (lenI a.L)) (lenI a.G)))
def ref06_Small_B0 (a : Aig) (p : Int) : Option (Int ⊕ (Unit ⊕ Unit)) := match p with
  | x18 =>
    if (ilt x18 (lenI a.names)) = true then
      Option.bind (getI a.names x18) fun v20 =>
      if (ilt 200 (sizI v20.s)) = true then
        some (.inr (.inl ()))
      else
        some (.inl (iadd IntKind.i64 x18 1))
    else
      some (.inr (.inr ()))
def ref06_Small (a : Aig) (most : Int) : Option Bool :=
  if (ilt most a.I) = true then
    some false
  else
    if (ilt most (lenI a.L)) = true then
      some false
    else
      if (ilt most (lenI a.G)) = true then
        some false
      else
        if (ilt most (lenI a.outs)) = true then
          some false
        else
          if (ilt most (lenI a.bad)) = true then
            some false
          else
            if (ilt most (lenI a.con)) = true then
              some false
            else
              if (ilt most (lenI a.names)) = true then
                some false
              else
                Option.bind (loopF (ref06_Small_B0 a) 0) fun r => match r with
                | .inl () =>
                  some false
                | .inr () =>
                  some true
def ref06_lits_B0 (l : List Int) (v : Int) (p : Int) : Option (Int ⊕ (Unit ⊕ Unit)) := match p with
  | x14 =>
    if (ilt x14 (lenI l)) = true then
      Option.bind (getI l x14) fun v16 =>
      if (ilt v16 0) = true then
        some (.inr (.inl ()))
      else
        if (ilt (iadd IntKind.i64 (imul IntKind.i64 2 v) 1) v16) = true then
          some (.inr (.inl ()))
        else
          some (.inl (iadd IntKind.i64 x14 1))
    else
      some (.inr (.inr ()))
def ref06_lits (l : List Int) (v : Int) : Option Bool :=
  Option.bind (loopF (ref06_lits_B0 l v) 0) fun r => match r with
  | .inl () =>
    some false
  | .inr () =>
    some ((ile (lenI l) 2000))
def ref01_Long_B0 (s : ByteArray) (at_ : Int) (p : Int × Int) : Option ((Int × Int) ⊕ (Unit ⊕ Int)) := match p with
  | (x24, x25) =>
    if (ilt x25 4) = true then
      if (ile (isub IntKind.i64 (sizI s) at_) x25) = true then
        some (.inr (.inl ()))
      else
        Option.bind (getB s (iadd IntKind.i64 at_ x25)) fun v28 =>
        if (ilt v28 128) = true then
          some (.inr (.inl ()))
        else
          if (ilt 191 v28) = true then
            some (.inr (.inl ()))
          else
            some (.inl (((isub IntKind.i64 (iadd IntKind.i64 (imul IntKind.i64 x24 64) (iconv IntKind.i64 v28)) 128), (iadd IntKind.i64 x25 1))))
    else
      some (.inr (.inr x24))
def ref01_Long_B1 (s : ByteArray) (at_ : Int) (p : Int × Int) : Option ((Int × Int) ⊕ (Unit ⊕ Int)) := match p with
  | (x61, x62) =>
    if (ilt x62 3) = true then
      if (ile (isub IntKind.i64 (sizI s) at_) x62) = true then
        some (.inr (.inl ()))
      else
        Option.bind (getB s (iadd IntKind.i64 at_ x62)) fun v65 =>
        if (ilt v65 128) = true then
          some (.inr (.inl ()))
        else
          if (ilt 191 v65) = true then
            some (.inr (.inl ()))
          else
            some (.inl (((isub IntKind.i64 (iadd IntKind.i64 (imul IntKind.i64 x61 64) (iconv IntKind.i64 v65)) 128), (iadd IntKind.i64 x62 1))))
    else
      some (.inr (.inr x61))
def ref01_Long_B2 (s : ByteArray) (at_ : Int) (p : Int × Int) : Option ((Int × Int) ⊕ (Unit ⊕ Int)) := match p with
  | (x98, x99) =>
    if (ilt x99 2) = true then
      if (ile (isub IntKind.i64 (sizI s) at_) x99) = true then
        some (.inr (.inl ()))
      else
        Option.bind (getB s (iadd IntKind.i64 at_ x99)) fun v102 =>
        if (ilt v102 128) = true then
          some (.inr (.inl ()))
        else
          if (ilt 191 v102) = true then
            some (.inr (.inl ()))
          else
            some (.inl (((isub IntKind.i64 (iadd IntKind.i64 (imul IntKind.i64 x98 64) (iconv IntKind.i64 v102)) 128), (iadd IntKind.i64 x99 1))))
    else
      some (.inr (.inr x98))
def ref01_Long_B3 (s : ByteArray) (at_ : Int) (p : Int × Int) : Option ((Int × Int) ⊕ (Unit ⊕ Int)) := match p with
  | (x134, x135) =>
    if (ilt x135 1) = true then
      if (ile (isub IntKind.i64 (sizI s) at_) x135) = true then
        some (.inr (.inl ()))
      else
        Option.bind (getB s (iadd IntKind.i64 at_ x135)) fun v138 =>
        if (ilt v138 128) = true then
          some (.inr (.inl ()))
        else
          if (ilt 191 v138) = true then
            some (.inr (.inl ()))
          else
            some (.inl (((isub IntKind.i64 (iadd IntKind.i64 (imul IntKind.i64 x134 64) (iconv IntKind.i64 v138)) 128), (iadd IntKind.i64 x135 1))))
    else
      some (.inr (.inr x134))
def ref01_Long_B4 (s : ByteArray) (at_ : Int) (p : Int × Int) : Option ((Int × Int) ⊕ (Unit ⊕ Int)) := match p with
  | (x170, x171) =>
    if (ilt x171 1) = true then
      if (ile (isub IntKind.i64 (sizI s) at_) x171) = true then
        some (.inr (.inl ()))
      else
        Option.bind (getB s (iadd IntKind.i64 at_ x171)) fun v174 =>
        if (ilt v174 128) = true then
          some (.inr (.inl ()))
        else
          if (ilt 191 v174) = true then
            some (.inr (.inl ()))
          else
            some (.inl (((isub IntKind.i64 (iadd IntKind.i64 (imul IntKind.i64 x170 64) (iconv IntKind.i64 v174)) 128), (iadd IntKind.i64 x171 1))))
    else
      some (.inr (.inr x170))
def ref01_Long_B5 (s : ByteArray) (at_ : Int) (p : Int × Int) : Option ((Int × Int) ⊕ (Unit ⊕ Int)) := match p with
  | (x207, x208) =>
    if (ilt x208 2) = true then
      if (ile (isub IntKind.i64 (sizI s) at_) x208) = true then
        some (.inr (.inl ()))
      else
        Option.bind (getB s (iadd IntKind.i64 at_ x208)) fun v211 =>
        if (ilt v211 128) = true then
          some (.inr (.inl ()))
        else
          if (ilt 191 v211) = true then
            some (.inr (.inl ()))
          else
            some (.inl (((isub IntKind.i64 (iadd IntKind.i64 (imul IntKind.i64 x207 64) (iconv IntKind.i64 v211)) 128), (iadd IntKind.i64 x208 1))))
    else
      some (.inr (.inr x207))
def ref01_Long_B6 (s : ByteArray) (at_ : Int) (p : Int × Int) : Option ((Int × Int) ⊕ (Unit ⊕ Int)) := match p with
  | (x243, x244) =>
    if (ilt x244 1) = true then
      if (ile (isub IntKind.i64 (sizI s) at_) x244) = true then
        some (.inr (.inl ()))
      else
        Option.bind (getB s (iadd IntKind.i64 at_ x244)) fun v247 =>
        if (ilt v247 128) = true then
          some (.inr (.inl ()))
        else
          if (ilt 191 v247) = true then
            some (.inr (.inl ()))
          else
            some (.inl (((isub IntKind.i64 (iadd IntKind.i64 (imul IntKind.i64 x243 64) (iconv IntKind.i64 v247)) 128), (iadd IntKind.i64 x244 1))))
    else
      some (.inr (.inr x243))
def ref01_Long_B7 (s : ByteArray) (at_ : Int) (p : Int × Int) : Option ((Int × Int) ⊕ (Unit ⊕ Int)) := match p with
  | (x279, x280) =>
    if (ilt x280 1) = true then
      if (ile (isub IntKind.i64 (sizI s) at_) x280) = true then
        some (.inr (.inl ()))
      else
        Option.bind (getB s (iadd IntKind.i64 at_ x280)) fun v283 =>
        if (ilt v283 128) = true then
          some (.inr (.inl ()))
        else
          if (ilt 191 v283) = true then
            some (.inr (.inl ()))
          else
            some (.inl (((isub IntKind.i64 (iadd IntKind.i64 (imul IntKind.i64 x279 64) (iconv IntKind.i64 v283)) 128), (iadd IntKind.i64 x280 1))))
    else
      some (.inr (.inr x279))
def ref01_Long_B8 (s : ByteArray) (at_ : Int) (p : Int × Int) : Option ((Int × Int) ⊕ (Unit ⊕ Int)) := match p with
  | (x316, x317) =>
    if (ilt x317 3) = true then
      if (ile (isub IntKind.i64 (sizI s) at_) x317) = true then
        some (.inr (.inl ()))
      else
        Option.bind (getB s (iadd IntKind.i64 at_ x317)) fun v320 =>
        if (ilt v320 128) = true then
          some (.inr (.inl ()))
        else
          if (ilt 191 v320) = true then
            some (.inr (.inl ()))
          else
            some (.inl (((isub IntKind.i64 (iadd IntKind.i64 (imul IntKind.i64 x316 64) (iconv IntKind.i64 v320)) 128), (iadd IntKind.i64 x317 1))))
    else
      some (.inr (.inr x316))
def ref01_Long_B9 (s : ByteArray) (at_ : Int) (p : Int × Int) : Option ((Int × Int) ⊕ (Unit ⊕ Int)) := match p with
  | (x353, x354) =>
    if (ilt x354 2) = true then
      if (ile (isub IntKind.i64 (sizI s) at_) x354) = true then
        some (.inr (.inl ()))
      else
        Option.bind (getB s (iadd IntKind.i64 at_ x354)) fun v357 =>
        if (ilt v357 128) = true then
          some (.inr (.inl ()))
        else
          if (ilt 191 v357) = true then
            some (.inr (.inl ()))
          else
            some (.inl (((isub IntKind.i64 (iadd IntKind.i64 (imul IntKind.i64 x353 64) (iconv IntKind.i64 v357)) 128), (iadd IntKind.i64 x354 1))))
    else
      some (.inr (.inr x353))
def ref01_Long_B10 (s : ByteArray) (at_ : Int) (p : Int × Int) : Option ((Int × Int) ⊕ (Unit ⊕ Int)) := match p with
  | (x389, x390) =>
    if (ilt x390 1) = true then
      if (ile (isub IntKind.i64 (sizI s) at_) x390) = true then
        some (.inr (.inl ()))
      else
        Option.bind (getB s (iadd IntKind.i64 at_ x390)) fun v393 =>
        if (ilt v393 128) = true then
          some (.inr (.inl ()))
        else
          if (ilt 191 v393) = true then
            some (.inr (.inl ()))
          else
            some (.inl (((isub IntKind.i64 (iadd IntKind.i64 (imul IntKind.i64 x389 64) (iconv IntKind.i64 v393)) 128), (iadd IntKind.i64 x390 1))))
    else
      some (.inr (.inr x389))
def ref01_Long_B11 (s : ByteArray) (at_ : Int) (p : Int × Int) : Option ((Int × Int) ⊕ (Unit ⊕ Int)) := match p with
  | (x425, x426) =>
    if (ilt x426 1) = true then
      if (ile (isub IntKind.i64 (sizI s) at_) x426) = true then
        some (.inr (.inl ()))
      else
        Option.bind (getB s (iadd IntKind.i64 at_ x426)) fun v429 =>
        if (ilt v429 128) = true then
          some (.inr (.inl ()))
        else
          if (ilt 191 v429) = true then
            some (.inr (.inl ()))
          else
            some (.inl (((isub IntKind.i64 (iadd IntKind.i64 (imul IntKind.i64 x425 64) (iconv IntKind.i64 v429)) 128), (iadd IntKind.i64 x426 1))))
    else
      some (.inr (.inr x425))
def ref01_Long_B12 (s : ByteArray) (at_ : Int) (p : Int × Int) : Option ((Int × Int) ⊕ (Unit ⊕ Int)) := match p with
  | (x462, x463) =>
    if (ilt x463 2) = true then
      if (ile (isub IntKind.i64 (sizI s) at_) x463) = true then
        some (.inr (.inl ()))
      else
        Option.bind (getB s (iadd IntKind.i64 at_ x463)) fun v466 =>
        if (ilt v466 128) = true then
          some (.inr (.inl ()))
        else
          if (ilt 191 v466) = true then
            some (.inr (.inl ()))
          else
            some (.inl (((isub IntKind.i64 (iadd IntKind.i64 (imul IntKind.i64 x462 64) (iconv IntKind.i64 v466)) 128), (iadd IntKind.i64 x463 1))))
    else
      some (.inr (.inr x462))
def ref01_Long_B13 (s : ByteArray) (at_ : Int) (p : Int × Int) : Option ((Int × Int) ⊕ (Unit ⊕ Int)) := match p with
  | (x498, x499) =>
    if (ilt x499 1) = true then
      if (ile (isub IntKind.i64 (sizI s) at_) x499) = true then
        some (.inr (.inl ()))
      else
        Option.bind (getB s (iadd IntKind.i64 at_ x499)) fun v502 =>
        if (ilt v502 128) = true then
          some (.inr (.inl ()))
        else
          if (ilt 191 v502) = true then
            some (.inr (.inl ()))
          else
            some (.inl (((isub IntKind.i64 (iadd IntKind.i64 (imul IntKind.i64 x498 64) (iconv IntKind.i64 v502)) 128), (iadd IntKind.i64 x499 1))))
    else
      some (.inr (.inr x498))
def ref01_Long_B14 (s : ByteArray) (at_ : Int) (p : Int × Int) : Option ((Int × Int) ⊕ (Unit ⊕ Int)) := match p with
  | (x534, x535) =>
    if (ilt x535 1) = true then
      if (ile (isub IntKind.i64 (sizI s) at_) x535) = true then
        some (.inr (.inl ()))
      else
        Option.bind (getB s (iadd IntKind.i64 at_ x535)) fun v538 =>
        if (ilt v538 128) = true then
          some (.inr (.inl ()))
        else
          if (ilt 191 v538) = true then
            some (.inr (.inl ()))
          else
            some (.inl (((isub IntKind.i64 (iadd IntKind.i64 (imul IntKind.i64 x534 64) (iconv IntKind.i64 v538)) 128), (iadd IntKind.i64 x535 1))))
    else
      some (.inr (.inr x534))
def ref01_Long (s : ByteArray) (at_ : Int) : Option Int :=
  Option.bind (getB s at_) fun v0 =>
  if (ile 240 (iconv IntKind.i64 v0)) = true then
    if (ilt (iconv IntKind.i64 v0) 248) = true then
      Option.bind (loopF (ref01_Long_B0 s at_) (((isub IntKind.i64 (iconv IntKind.i64 v0) 240), 1))) fun r => match r with
      | .inl () =>
        some 0
      | .inr y32 =>
        if (ilt y32 65536) = true then
          some 0
        else
          if (ilt 1114111 y32) = true then
            some 0
          else
            if (ile 55296 y32) = true then
              if (ilt y32 57344) = true then
                some 0
              else
                some 4
            else
              some 4
    else
      if (ile 224 (iconv IntKind.i64 v0)) = true then
        if (ilt (iconv IntKind.i64 v0) 240) = true then
          Option.bind (loopF (ref01_Long_B1 s at_) (((isub IntKind.i64 (iconv IntKind.i64 v0) 224), 1))) fun r => match r with
          | .inl () =>
            some 0
          | .inr y69 =>
            if (ilt y69 2048) = true then
              some 0
            else
              if (ilt 1114111 y69) = true then
                some 0
              else
                if (ile 55296 y69) = true then
                  if (ilt y69 57344) = true then
                    some 0
                  else
                    some 3
                else
                  some 3
        else
          if (ile 192 (iconv IntKind.i64 v0)) = true then
            if (ilt (iconv IntKind.i64 v0) 224) = true then
              Option.bind (loopF (ref01_Long_B2 s at_) (((isub IntKind.i64 (iconv IntKind.i64 v0) 192), 1))) fun r => match r with
              | .inl () =>
                some 0
              | .inr y106 =>
                if (ilt y106 128) = true then
                  some 0
                else
                  if (ilt 1114111 y106) = true then
                    some 0
                  else
                    if (ile 55296 y106) = true then
                      if (ilt y106 57344) = true then
                        some 0
                      else
                        some 2
                    else
                      some 2
            else
              if (ile 128 (iconv IntKind.i64 v0)) = true then
                some 0
              else
                Option.bind (loopF (ref01_Long_B3 s at_) (((iconv IntKind.i64 v0), 1))) fun r => match r with
                | .inl () =>
                  some 0
                | .inr y142 =>
                  if (ilt y142 0) = true then
                    some 0
                  else
                    if (ilt 1114111 y142) = true then
                      some 0
                    else
                      if (ile 55296 y142) = true then
                        if (ilt y142 57344) = true then
                          some 0
                        else
                          some 1
                      else
                        some 1
          else
            if (ile 128 (iconv IntKind.i64 v0)) = true then
              some 0
            else
              Option.bind (loopF (ref01_Long_B4 s at_) (((iconv IntKind.i64 v0), 1))) fun r => match r with
              | .inl () =>
                some 0
              | .inr y178 =>
                if (ilt y178 0) = true then
                  some 0
                else
                  if (ilt 1114111 y178) = true then
                    some 0
                  else
                    if (ile 55296 y178) = true then
                      if (ilt y178 57344) = true then
                        some 0
                      else
                        some 1
                    else
                      some 1
      else
        if (ile 192 (iconv IntKind.i64 v0)) = true then
          if (ilt (iconv IntKind.i64 v0) 224) = true then
            Option.bind (loopF (ref01_Long_B5 s at_) (((isub IntKind.i64 (iconv IntKind.i64 v0) 192), 1))) fun r => match r with
            | .inl () =>
              some 0
            | .inr y215 =>
              if (ilt y215 128) = true then
                some 0
              else
                if (ilt 1114111 y215) = true then
                  some 0
                else
                  if (ile 55296 y215) = true then
                    if (ilt y215 57344) = true then
                      some 0
                    else
                      some 2
                  else
                    some 2
          else
            if (ile 128 (iconv IntKind.i64 v0)) = true then
              some 0
            else
              Option.bind (loopF (ref01_Long_B6 s at_) (((iconv IntKind.i64 v0), 1))) fun r => match r with
              | .inl () =>
                some 0
              | .inr y251 =>
                if (ilt y251 0) = true then
                  some 0
                else
                  if (ilt 1114111 y251) = true then
                    some 0
                  else
                    if (ile 55296 y251) = true then
                      if (ilt y251 57344) = true then
                        some 0
                      else
                        some 1
                    else
                      some 1
        else
          if (ile 128 (iconv IntKind.i64 v0)) = true then
            some 0
          else
            Option.bind (loopF (ref01_Long_B7 s at_) (((iconv IntKind.i64 v0), 1))) fun r => match r with
            | .inl () =>
              some 0
            | .inr y287 =>
              if (ilt y287 0) = true then
                some 0
              else
                if (ilt 1114111 y287) = true then
                  some 0
                else
                  if (ile 55296 y287) = true then
                    if (ilt y287 57344) = true then
                      some 0
                    else
                      some 1
                  else
                    some 1
  else
    if (ile 224 (iconv IntKind.i64 v0)) = true then
      if (ilt (iconv IntKind.i64 v0) 240) = true then
        Option.bind (loopF (ref01_Long_B8 s at_) (((isub IntKind.i64 (iconv IntKind.i64 v0) 224), 1))) fun r => match r with
        | .inl () =>
          some 0
        | .inr y324 =>
          if (ilt y324 2048) = true then
            some 0
          else
            if (ilt 1114111 y324) = true then
              some 0
            else
              if (ile 55296 y324) = true then
                if (ilt y324 57344) = true then
                  some 0
                else
                  some 3
              else
                some 3
      else
        if (ile 192 (iconv IntKind.i64 v0)) = true then
          if (ilt (iconv IntKind.i64 v0) 224) = true then
            Option.bind (loopF (ref01_Long_B9 s at_) (((isub IntKind.i64 (iconv IntKind.i64 v0) 192), 1))) fun r => match r with
            | .inl () =>
              some 0
            | .inr y361 =>
              if (ilt y361 128) = true then
                some 0
              else
                if (ilt 1114111 y361) = true then
                  some 0
                else
                  if (ile 55296 y361) = true then
                    if (ilt y361 57344) = true then
                      some 0
                    else
                      some 2
                  else
                    some 2
          else
            if (ile 128 (iconv IntKind.i64 v0)) = true then
              some 0
            else
              Option.bind (loopF (ref01_Long_B10 s at_) (((iconv IntKind.i64 v0), 1))) fun r => match r with
              | .inl () =>
                some 0
              | .inr y397 =>
                if (ilt y397 0) = true then
                  some 0
                else
                  if (ilt 1114111 y397) = true then
                    some 0
                  else
                    if (ile 55296 y397) = true then
                      if (ilt y397 57344) = true then
                        some 0
                      else
                        some 1
                    else
                      some 1
        else
          if (ile 128 (iconv IntKind.i64 v0)) = true then
            some 0
          else
            Option.bind (loopF (ref01_Long_B11 s at_) (((iconv IntKind.i64 v0), 1))) fun r => match r with
            | .inl () =>
              some 0
            | .inr y433 =>
              if (ilt y433 0) = true then
                some 0
              else
                if (ilt 1114111 y433) = true then
                  some 0
                else
                  if (ile 55296 y433) = true then
                    if (ilt y433 57344) = true then
                      some 0
                    else
                      some 1
                  else
                    some 1
    else
      if (ile 192 (iconv IntKind.i64 v0)) = true then
        if (ilt (iconv IntKind.i64 v0) 224) = true then
          Option.bind (loopF (ref01_Long_B12 s at_) (((isub IntKind.i64 (iconv IntKind.i64 v0) 192), 1))) fun r => match r with
          | .inl () =>
            some 0
          | .inr y470 =>
            if (ilt y470 128) = true then
              some 0
            else
              if (ilt 1114111 y470) = true then
                some 0
              else
                if (ile 55296 y470) = true then
                  if (ilt y470 57344) = true then
                    some 0
                  else
                    some 2
                else
                  some 2
        else
          if (ile 128 (iconv IntKind.i64 v0)) = true then
            some 0
          else
            Option.bind (loopF (ref01_Long_B13 s at_) (((iconv IntKind.i64 v0), 1))) fun r => match r with
            | .inl () =>
              some 0
            | .inr y506 =>
              if (ilt y506 0) = true then
                some 0
              else
                if (ilt 1114111 y506) = true then
                  some 0
                else
                  if (ile 55296 y506) = true then
                    if (ilt y506 57344) = true then
                      some 0
                    else
                      some 1
                  else
                    some 1
      else
        if (ile 128 (iconv IntKind.i64 v0)) = true then
          some 0
        else
          Option.bind (loopF (ref01_Long_B14 s at_) (((iconv IntKind.i64 v0), 1))) fun r => match r with
          | .inl () =>
            some 0
          | .inr y542 =>
            if (ilt y542 0) = true then
              some 0
            else
              if (ilt 1114111 y542) = true then
                some 0
              else
                if (ile 55296 y542) = true then
                  if (ilt y542 57344) = true then
                    some 0
                  else
                    some 1
                else
                  some 1
def ref01_IsName_B0 (s : ByteArray) (p : Int × Int) : Option ((Int × Int) ⊕ (Unit ⊕ Int)) := match p with
  | (x21, x22) =>
    if (ilt x22 (sizI s)) = true then
      Option.bind (ref01_Long s x22) fun v24 =>
      if (ieq v24 0) = true then
        some (.inr (.inl ()))
      else
        Option.bind (getB s x22) fun v27 =>
        if (ilt v27 32) = true then
          some (.inr (.inl ()))
        else
          if (ieq v27 127) = true then
            some (.inr (.inl ()))
          else
            some (.inl (((iadd IntKind.i64 x21 1), (iadd IntKind.i64 x22 v24))))
    else
      some (.inr (.inr x21))
def ref01_IsName (s : ByteArray) : Option Bool :=
  Option.bind (loopF (ref01_IsName_B0 s) (0, 0)) fun r => match r with
  | .inl () =>
    some false
  | .inr y31 =>
    if (ile 1 y31) = true then
      some (ile y31 40)
    else
      some false
def ref06_many (a : Aig) (k : Int) : Option Int :=
  if (ieq k 0) = true then
    some a.I
  else
    if (ieq k 1) = true then
      some (lenI a.L)
    else
      if (ieq k 2) = true then
        some (lenI a.outs)
      else
        if (ieq k 3) = true then
          some (lenI a.bad)
        else
          if (ieq k 4) = true then
            some (lenI a.con)
          else
            some 0
def ref06_kind_B0 (c : Int) (p : Int) : Option (Int ⊕ (Int ⊕ Unit)) := match p with
  | x14 =>
    if (ilt x14 5) = true then
      if (inI 5 x14) = true then
        Option.bind (nthI [105, 108, 111, 98, 99] x14) fun v17 =>
        if (ieq v17 c) = true then
          some (.inr (.inl x14))
        else
          some (.inl (iadd IntKind.i64 x14 1))
      else
        none
    else
      some (.inr (.inr ()))
def ref06_kind (c : Int) : Option Int :=
  Option.bind (loopF (ref06_kind_B0 c) 0) fun r => match r with
  | .inl y20 =>
    some y20
  | .inr () =>
    some (-1)
def ref06_Behind (x : Name) (y_ : Name) : Option Bool :=
  Option.bind (ref06_kind x.kind) fun v0 =>
  Option.bind (ref06_kind y_.kind) fun v2 =>
  if (ilt v0 v2) = true then
    some true
  else
    if (ieq v0 v2) = true then
      some (ilt x.pos y_.pos)
    else
      some false
def ref06_Right_B0 (a : Aig) (v4 : Int) (p : Int) : Option (Int ⊕ (Unit ⊕ Unit)) := match p with
  | x37 =>
    if (ilt x37 (lenI a.L)) = true then
      Option.bind (getI a.L x37) fun v39 =>
      if (ilt v39.next 0) = true then
        some (.inr (.inl ()))
      else
        if (ilt (iadd IntKind.i64 (imul IntKind.i64 2 v4) 1) v39.next) = true then
          some (.inr (.inl ()))
        else
          if (ieq v39.reset 0) = true then
            some (.inl (iadd IntKind.i64 x37 1))
          else
            if (ieq v39.reset 1) = true then
              some (.inl (iadd IntKind.i64 x37 1))
            else
              if (ieq v39.reset (imul IntKind.i64 2 (iadd IntKind.i64 (iadd IntKind.i64 a.I x37) 1))) = true then
                some (.inl (iadd IntKind.i64 x37 1))
              else
                some (.inr (.inl ()))
    else
      some (.inr (.inr ()))
def ref06_Right_B1 (a : Aig) (p : Int) : Option (Int ⊕ (Unit ⊕ Unit)) := match p with
  | x61 =>
    if (ilt x61 (lenI a.G)) = true then
      Option.bind (getI a.G x61) fun v63 =>
      if (ilt v63.b 0) = true then
        some (.inr (.inl ()))
      else
        if (ilt v63.a v63.b) = true then
          some (.inr (.inl ()))
        else
          if (ile (imul IntKind.i64 2 (iadd IntKind.i64 (iadd IntKind.i64 (iadd IntKind.i64 a.I (lenI a.L)) x61) 1)) v63.a) = true then
            some (.inr (.inl ()))
          else
            some (.inl (iadd IntKind.i64 x61 1))
    else
      some (.inr (.inr ()))
def ref06_Right_B2 (a : Aig) (p : Int) : Option (Int ⊕ (Unit ⊕ Unit)) := match p with
  | x107 =>
    if (ilt x107 (lenI a.names)) = true then
      Option.bind (getI a.names x107) fun v109 =>
      Option.bind (ref01_IsName v109.s) fun v111 =>
      if v111 = true then
        if (ilt v109.pos 0) = true then
          some (.inr (.inl ()))
        else
          Option.bind (ref06_kind v109.kind) fun v115 =>
          Option.bind (ref06_many a v115) fun v117 =>
          if (ile v117 v109.pos) = true then
            some (.inr (.inl ()))
          else
            if (ilt 0 x107) = true then
              Option.bind (getI a.names (isub IntKind.i64 x107 1)) fun v121 =>
              Option.bind (ref06_Behind v121 v109) fun v123 =>
              if v123 = true then
                some (.inl (iadd IntKind.i64 x107 1))
              else
                some (.inr (.inl ()))
            else
              some (.inl (iadd IntKind.i64 x107 1))
      else
        some (.inr (.inl ()))
    else
      some (.inr (.inr ()))
def ref06_Right (a : Aig) : Option Bool :=
  if (ilt a.I 0) = true then
    some false
  else
    if (ilt 20000 a.I) = true then
      some false
    else
      if (ilt 20000 (lenI a.L)) = true then
        some false
      else
        if (ilt 20000 (lenI a.G)) = true then
          some false
        else
          Option.bind (ref06_Vars a) fun v4 =>
          if (ilt 20000 v4) = true then
            some false
          else
            if (ilt 2000 (lenI a.names)) = true then
              some false
            else
              Option.bind (ref06_lits a.outs v4) fun v8 =>
              Option.bind (ref06_lits a.bad v4) fun v10 =>
              Option.bind (ref06_lits a.con v4) fun v12 =>
              if v8 = true then
                if v10 = true then
                  if v12 = true then
                    Option.bind (loopF (ref06_Right_B0 a v4) 0) fun r => match r with
                    | .inl () =>
                      some false
                    | .inr () =>
                      Option.bind (loopF (ref06_Right_B1 a) 0) fun r => match r with
                      | .inl () =>
                        some false
                      | .inr () =>
                        Option.bind (loopF (ref06_Right_B2 a) 0) fun r => match r with
                        | .inl () =>
                          some false
                        | .inr () =>
                          some true
                  else
                    some false
                else
                  some false
              else
                some false
def ref08_May (a : Aig) : Option Bool :=
  Option.bind (ref06_Small a 40) fun v0 =>
  Option.bind (ref06_Right a) fun v2 =>
  if v0 = true then
    some v2
  else
    some false
def law19_may (a : Aig) (l : Int) : Option Bool :=
  Option.bind (ref08_May a) fun v0 =>
  if v0 = true then
    if (ile 0 l) = true then
      Option.bind (ref06_Vars a) fun v4 =>
      some ((ile l (iadd IntKind.i64 (imul IntKind.i64 2 v4) 1)))
    else
      some false
  else
    some false
def ref08_Lit (v : List Bool) (l : Int) : Option Bool :=
  if (ilt l 0) = true then
    some false
  else
    if (ile (lenI v) (iquo IntKind.i64 l 2)) = true then
      some false
    else
      if (ieq (irem l 2) 1) = true then
        Option.bind (getI v (iquo IntKind.i64 l 2)) fun v3 =>
        some (bnot v3)
      else
        Option.bind (getI v (iquo IntKind.i64 l 2)) fun v5 =>
        some v5
def ref08_Values_B0 (a : Aig) (p : (List Bool) × Int) : Option (((List Bool) × Int) ⊕ (List Bool)) := match p with
  | (x29, x30) =>
    if (ilt x30 (lenI a.G)) = true then
      Option.bind (getI a.G x30) fun v32 =>
      Option.bind (ref08_Lit x29 v32.a) fun v34 =>
      Option.bind (ref08_Lit x29 v32.b) fun v36 =>
      if v34 = true then
        if (capN (lenN (x29 ++ [v36])) 1) = true then
          some (.inl (((x29 ++ [v36]), (iadd IntKind.i64 x30 1))))
        else
          none
      else
        if (capN (lenN (x29 ++ [false])) 1) = true then
          some (.inl (((x29 ++ [false]), (iadd IntKind.i64 x30 1))))
        else
          none
    else
      some (.inr x29)
def ref08_Values (a : Aig) (state : List Bool) (in_ : List Bool) : Option ((List Bool) × Int) :=
  if (ieq (lenI state) (lenI a.L)) = true then
    if (ieq (lenI in_) a.I) = true then
      if (capN (lenN in_ + 1) 1) = true then
        if (capN (lenN (in_ ++ state) + 1) 1) = true then
          Option.bind (loopF (ref08_Values_B0 a) (((false :: (in_ ++ state)), 0))) fun y41 =>
          some (y41, 0)
        else
          none
      else
        none
    else
      some ((([] : List Bool), 7))
  else
    some ((([] : List Bool), 7))
def ref03_Flags_B0 (a : List Bool) (b : List Bool) (p : Int) : Option (Int ⊕ (Unit ⊕ Unit)) := match p with
  | x17 =>
    if (ilt x17 (lenI a)) = true then
      Option.bind (getI a x17) fun v19 =>
      Option.bind (getI b x17) fun v21 =>
      if (beq2 v19 v21) = true then
        some (.inl (iadd IntKind.i64 x17 1))
      else
        some (.inr (.inl ()))
    else
      some (.inr (.inr ()))
def ref03_Flags (a : List Bool) (b : List Bool) : Option Bool :=
  if (ieq (lenI a) (lenI b)) = true then
    Option.bind (loopF (ref03_Flags_B0 a b) 0) fun r => match r with
    | .inl () =>
      some false
    | .inr () =>
      some true
  else
    some false
def ref03_Clause_B0 (c : List Int) (m : List Bool) (x82 : Int) (p : Int) : Option (Int ⊕ (Unit ⊕ Unit)) := match p with
  | x109 =>
    if (ilt x109 (lenI m)) = true then
      Option.bind (getI m x109) fun v111 =>
      if v111 = true then
        Option.bind (getI c x82) fun v114 =>
        if (ieq v114 (iadd IntKind.i64 x109 1)) = true then
          some (.inr (.inl ()))
        else
          some (.inl (iadd IntKind.i64 x109 1))
      else
        Option.bind (getI c x82) fun v117 =>
        if (ieq v117 (isub IntKind.i64 (ineg IntKind.i64 x109) 1)) = true then
          some (.inr (.inl ()))
        else
          some (.inl (iadd IntKind.i64 x109 1))
    else
      some (.inr (.inr ()))
def ref03_Clause_B1 (c : List Int) (m : List Bool) (p : Int) : Option (Int ⊕ (Unit ⊕ Unit)) := match p with
  | x82 =>
    if (ilt x82 (lenI c)) = true then
      Option.bind (loopF (ref03_Clause_B0 c m x82) 0) fun r => match r with
      | .inl () =>
        some (.inr (.inl ()))
      | .inr () =>
        some (.inl (iadd IntKind.i64 x82 1))
    else
      some (.inr (.inr ()))
def ref03_Clause (c : List Int) (m : List Bool) : Option Bool :=
  Option.bind (loopF (ref03_Clause_B1 c m) 0) fun r => match r with
  | .inl () =>
    some true
  | .inr () =>
    some false
def ref03_Holds_B0 (f_ : Cnf) (m : List Bool) (p : Int) : Option (Int ⊕ (Unit ⊕ Unit)) := match p with
  | x16 =>
    if (ilt x16 (lenI f_.cs)) = true then
      Option.bind (getI f_.cs x16) fun v18 =>
      Option.bind (ref03_Clause v18 m) fun v20 =>
      if v20 = true then
        some (.inl (iadd IntKind.i64 x16 1))
      else
        some (.inr (.inl ()))
    else
      some (.inr (.inr ()))
def ref03_Holds (f_ : Cnf) (m : List Bool) : Option Bool :=
  Option.bind (loopF (ref03_Holds_B0 f_ m) 0) fun r => match r with
  | .inl () =>
    some false
  | .inr () =>
    some true
def law19_EncModels (a : Aig) (v : List Bool) (l : Int) : Option Bool :=
  Option.bind (law19_shown) fun v0 =>
  Option.bind (law19_may a l) fun v2 =>
  if v2 = true then
    Option.bind (ref06_Vars a) fun v5 =>
    if (ieq (lenI v) (iadd IntKind.i64 v5 1)) = true then
      if (cutOk (lenN v) (iadd IntKind.i64 1 a.I) (iadd IntKind.i64 (iadd IntKind.i64 1 a.I) (lenI a.L))) = true then
        if (cutOk (lenN v) 1 (iadd IntKind.i64 1 a.I)) = true then
          Option.bind (ref08_Values a ((cut v (iadd IntKind.i64 1 a.I) (iadd IntKind.i64 (iadd IntKind.i64 1 a.I) (lenI a.L)))) ((cut v 1 (iadd IntKind.i64 1 a.I)))) fun (v10, v11) =>
          if (ieq v11 0) = true then
            Option.bind (ref03_Flags v10 v) fun v14 =>
            Option.bind (enc_Frame a 0) fun v16 =>
            Option.bind (ref03_Holds (({ N := (lenI v), cs := v16 } : Cnf)) v) fun v18 =>
            if v0 = true then
              if (beq2 v14 v18) = true then
                Option.bind (enc_Lit a 0 l) fun v22 =>
                Option.bind (ref03_Clause [v22] v) fun v24 =>
                Option.bind (ref08_Lit v l) fun v26 =>
                some (beq2 v24 v26)
              else
                some false
            else
              some false
          else
            Option.bind (enc_Frame a 0) fun v28 =>
            Option.bind (ref03_Holds (({ N := (lenI v), cs := v28 } : Cnf)) v) fun v30 =>
            if v0 = true then
              if (beq2 false v30) = true then
                Option.bind (enc_Lit a 0 l) fun v34 =>
                Option.bind (ref03_Clause [v34] v) fun v36 =>
                Option.bind (ref08_Lit v l) fun v38 =>
                some (beq2 v36 v38)
              else
                some false
            else
              some false
        else
          none
      else
        none
    else
      some v0
  else
    some v0
def ref08_Start_B0 (a : Aig) (free : List Bool) (p : (List Bool) × Int) : Option (((List Bool) × Int) ⊕ (List Bool)) := match p with
  | (x27, x28) =>
    if (ilt x28 (lenI a.L)) = true then
      Option.bind (getI a.L x28) fun v30 =>
      if (ieq v30.reset 0) = true then
        if (capN (lenN (x27 ++ [false])) 1) = true then
          some (.inl (((x27 ++ [false]), (iadd IntKind.i64 x28 1))))
        else
          none
      else
        if (ieq v30.reset 1) = true then
          if (capN (lenN (x27 ++ [true])) 1) = true then
            some (.inl (((x27 ++ [true]), (iadd IntKind.i64 x28 1))))
          else
            none
        else
          Option.bind (getI free x28) fun v36 =>
          if (capN (lenN (x27 ++ [v36])) 1) = true then
            some (.inl (((x27 ++ [v36]), (iadd IntKind.i64 x28 1))))
          else
            none
    else
      some (.inr x27)
def ref08_Start (a : Aig) (free : List Bool) : Option ((List Bool) × Int) :=
  if (ieq (lenI free) (lenI a.L)) = true then
    Option.bind (loopF (ref08_Start_B0 a free) ([], 0)) fun y39 =>
    some (y39, 0)
  else
    some ((([] : List Bool), 7))
def law19_EncFirst (a : Aig) (state : List Bool) (in_ : List Bool) : Option Bool :=
  Option.bind (law19_shown) fun v0 =>
  Option.bind (ref08_May a) fun v2 =>
  if v2 = true then
    if (ilt 60 (lenI state)) = true then
      some v0
    else
      Option.bind (ref08_Values a state in_) fun (v6, v7) =>
      Option.bind (ref08_Start a state) fun (v9, v10) =>
      if (ieq v7 0) = true then
        if (ieq v10 0) = true then
          if v0 = true then
            Option.bind (enc_First a) fun v15 =>
            Option.bind (ref03_Holds (({ N := (lenI v6), cs := v15 } : Cnf)) v6) fun v17 =>
            Option.bind (ref03_Flags v9 state) fun v19 =>
            some (beq2 v17 v19)
          else
            some false
        else
          some v0
      else
        some v0
  else
    some v0
def law19_EncStarts (with_ : EncStartsIn_law19) : Option Bool :=
  Option.bind (law19_shown) fun v0 =>
  Option.bind (law19_may with_.a with_.inv) fun v2 =>
  if v2 = true then
    if (ilt 60 (lenI with_.free)) = true then
      some v0
    else
      if (ilt 60 (lenI with_.in')) = true then
        some v0
      else
        Option.bind (ref08_Start with_.a with_.free) fun (v7, v8) =>
        Option.bind (ref08_Values with_.a v7 with_.in') fun (v10, v11) =>
        if (ieq v8 0) = true then
          if (ieq v11 0) = true then
            Option.bind (enc_Starts with_.a with_.inv) fun v15 =>
            if v0 = true then
              if (ieq v15.N (lenI v10)) = true then
                Option.bind (ref03_Holds v15 v10) fun v19 =>
                Option.bind (ref08_Lit v10 with_.inv) fun v21 =>
                some ((beq2 v19 (bnot v21)))
              else
                some false
            else
              some false
          else
            some v0
        else
          some v0
  else
    some v0
def ref19_Vars (a : Aig) (frames : Int) : Option Int :=
  Option.bind (ref06_Vars a) fun v0 =>
  some ((imul IntKind.i64 frames (iadd IntKind.i64 v0 1)))
def law19_EncLits (a : Aig) (l : Int) (m : Int) : Option Bool :=
  Option.bind (law19_shown) fun v0 =>
  Option.bind (law19_may a l) fun v2 =>
  if v2 = true then
    Option.bind (law19_may a m) fun v5 =>
    if v5 = true then
      Option.bind (enc_Lit a 0 l) fun v8 =>
      Option.bind (enc_Lit a 1 m) fun v10 =>
      Option.bind (enc_Vars a 1) fun v12 =>
      if v0 = true then
        if (ieq v8 v10) = true then
          some false
        else
          if (ieq v8 (ineg IntKind.i64 v10)) = true then
            some false
          else
            Option.bind (enc_Lit a 0 (bxor IntKind.i64 l 1)) fun v17 =>
            if (ieq v17 (ineg IntKind.i64 v8)) = true then
              if (ile 1 (imax v8 (ineg IntKind.i64 v8))) = true then
                if (ile (imax v8 (ineg IntKind.i64 v8)) v12) = true then
                  if (ilt v12 (imax v10 (ineg IntKind.i64 v10))) = true then
                    Option.bind (enc_Vars a 2) fun v23 =>
                    if (ile (imax v10 (ineg IntKind.i64 v10)) v23) = true then
                      Option.bind (enc_Lit a 0 m) fun v26 =>
                      if (beq2 (ieq v26 v8) (ieq l m)) = true then
                        Option.bind (ref06_Vars a) fun v29 =>
                        if (ieq v12 (iadd IntKind.i64 v29 1)) = true then
                          Option.bind (ref19_Vars a 1) fun v32 =>
                          some (ieq v32 v12)
                        else
                          some false
                      else
                        some false
                    else
                      some false
                  else
                    some false
                else
                  some false
              else
                some false
            else
              some false
      else
        some false
    else
      some v0
  else
    some v0
def ref19_Lit (a : Aig) (k : Int) (l : Int) : Option Int :=
  Option.bind (ref06_Vars a) fun v0 =>
  if (ieq (irem l 2) 1) = true then
    some ((ineg IntKind.i64 (iadd IntKind.i64 (iadd IntKind.i64 (imul IntKind.i64 k (iadd IntKind.i64 v0 1)) (iquo IntKind.i64 l 2)) 1)))
  else
    some ((iadd IntKind.i64 (iadd IntKind.i64 (imul IntKind.i64 k (iadd IntKind.i64 v0 1)) (iquo IntKind.i64 l 2)) 1))
def ref19_Frame_B0 (a : Aig) (k : Int) (p : ((List (List Int))) × Int) : Option ((((List (List Int))) × Int) ⊕ (((List (List Int))))) := match p with
  | (x28, x29) =>
    if (ilt x29 (lenI a.G)) = true then
      Option.bind (ref19_Lit a k ((imul IntKind.i64 2 (iadd IntKind.i64 (iadd IntKind.i64 (iadd IntKind.i64 a.I (lenI a.L)) 1) x29)))) fun v31 =>
      Option.bind (getI a.G x29) fun v33 =>
      Option.bind (ref19_Lit a k v33.a) fun v35 =>
      Option.bind (ref19_Lit a k v33.b) fun v37 =>
      if (capN (lenN (x28 ++ [[ineg IntKind.i64 v31, v35], [ineg IntKind.i64 v31, v37], [v31, ineg IntKind.i64 v35, ineg IntKind.i64 v37]])) 24) = true then
        some (.inl (((x28 ++ [[ineg IntKind.i64 v31, v35], [ineg IntKind.i64 v31, v37], [v31, ineg IntKind.i64 v35, ineg IntKind.i64 v37]]), (iadd IntKind.i64 x29 1))))
      else
        none
    else
      some (.inr x28)
def ref19_Frame (a : Aig) (k : Int) : Option (List (List Int)) :=
  Option.bind (ref19_Lit a k 0) fun v0 =>
  Option.bind (loopF (ref19_Frame_B0 a k) ((([[ineg IntKind.i64 v0]]), 0))) fun y40 =>
  some y40
def enc_Link_B0 (a : Aig) (p : ((List (List Int))) × Int) : Option ((((List (List Int))) × Int) ⊕ (((List (List Int))))) := match p with
  | (x23, x24) =>
    if (ilt x24 (lenI a.L)) = true then
      Option.bind (getI a.L x24) fun v26 =>
      Option.bind (enc_Lit a 1 ((imul IntKind.i64 2 (iadd IntKind.i64 (iadd IntKind.i64 a.I 1) x24)))) fun v28 =>
      Option.bind (enc_Lit a 0 v26.next) fun v30 =>
      if (capN (lenN (x23 ++ [[ineg IntKind.i64 v28, v30], [v28, ineg IntKind.i64 v30]])) 24) = true then
        some (.inl (((x23 ++ [[ineg IntKind.i64 v28, v30], [v28, ineg IntKind.i64 v30]]), (iadd IntKind.i64 x24 1))))
      else
        none
    else
      some (.inr x23)
def enc_Link (a : Aig) : Option (List (List Int)) :=
  Option.bind (loopF (enc_Link_B0 a) ([], 0)) fun y33 =>
  some y33
def ref19_Link_B0 (a : Aig) (p : ((List (List Int))) × Int) : Option ((((List (List Int))) × Int) ⊕ (((List (List Int))))) := match p with
  | (x21, x22) =>
    if (ilt x22 (lenI a.L)) = true then
      Option.bind (ref19_Lit a 1 ((imul IntKind.i64 2 (iadd IntKind.i64 (iadd IntKind.i64 a.I 1) x22)))) fun v24 =>
      Option.bind (getI a.L x22) fun v26 =>
      Option.bind (ref19_Lit a 0 v26.next) fun v28 =>
      if (capN (lenN (x21 ++ [[ineg IntKind.i64 v24, v28], [v24, ineg IntKind.i64 v28]])) 24) = true then
        some (.inl (((x21 ++ [[ineg IntKind.i64 v24, v28], [v24, ineg IntKind.i64 v28]]), (iadd IntKind.i64 x22 1))))
      else
        none
    else
      some (.inr x21)
def ref19_Link (a : Aig) : Option (List (List Int)) :=
  Option.bind (loopF (ref19_Link_B0 a) ([], 0)) fun y31 =>
  some y31
def ref19_First_B0 (a : Aig) (p : ((List (List Int))) × Int) : Option ((((List (List Int))) × Int) ⊕ (((List (List Int))))) := match p with
  | (x23, x24) =>
    if (ilt x24 (lenI a.L)) = true then
      Option.bind (ref19_Lit a 0 ((imul IntKind.i64 2 (iadd IntKind.i64 (iadd IntKind.i64 a.I 1) x24)))) fun v26 =>
      Option.bind (getI a.L x24) fun v28 =>
      if (ieq v28.reset 0) = true then
        if (capN (lenN (x23 ++ [[ineg IntKind.i64 v26]])) 24) = true then
          some (.inl (((x23 ++ [[ineg IntKind.i64 v26]]), (iadd IntKind.i64 x24 1))))
        else
          none
      else
        if (ieq v28.reset 1) = true then
          if (capN (lenN (x23 ++ [[v26]])) 24) = true then
            some (.inl (((x23 ++ [[v26]]), (iadd IntKind.i64 x24 1))))
          else
            none
        else
          some (.inl ((x23, (iadd IntKind.i64 x24 1))))
    else
      some (.inr x23)
def ref19_First (a : Aig) : Option (List (List Int)) :=
  Option.bind (loopF (ref19_First_B0 a) ([], 0)) fun y34 =>
  some y34
def law19_EncTells_B0 (a : Aig) (l : Int) (p : Int) : Option (Int ⊕ (Unit ⊕ Unit)) := match p with
  | x46 =>
    if (ilt x46 2) = true then
      Option.bind (enc_Lit a x46 l) fun v48 =>
      Option.bind (ref19_Lit a x46 l) fun v50 =>
      if (ieq v48 v50) = true then
        Option.bind (enc_Vars a x46) fun v53 =>
        Option.bind (ref19_Vars a x46) fun v55 =>
        if (ieq v53 v55) = true then
          Option.bind (enc_Frame a x46) fun v58 =>
          Option.bind (ref19_Frame a x46) fun v60 =>
          Option.bind (ref19_Clauses v58 v60) fun v62 =>
          if v62 = true then
            some (.inl (iadd IntKind.i64 x46 1))
          else
            some (.inr (.inl ()))
        else
          some (.inr (.inl ()))
      else
        some (.inr (.inl ()))
    else
      some (.inr (.inr ()))
def law19_EncTells (a : Aig) (l : Int) : Option Bool :=
  Option.bind (law19_shown) fun v0 =>
  Option.bind (law19_may a l) fun v2 =>
  if v2 = true then
    Option.bind (loopF (law19_EncTells_B0 a l) 0) fun r => match r with
    | .inl () =>
      some false
    | .inr () =>
      if v0 = true then
        Option.bind (enc_Link a) fun v66 =>
        Option.bind (ref19_Link a) fun v68 =>
        Option.bind (ref19_Clauses v66 v68) fun v70 =>
        if v70 = true then
          Option.bind (enc_First a) fun v73 =>
          Option.bind (ref19_First a) fun v75 =>
          Option.bind (ref19_Clauses v73 v75) fun v77 =>
          some v77
        else
          some false
      else
        some false
  else
    some v0
def ref08_lits_B0 (v : List Bool) (l : List Int) (p : (List Bool) × Int) : Option (((List Bool) × Int) ⊕ (List Bool)) := match p with
  | (x18, x19) =>
    if (ilt x19 (lenI l)) = true then
      Option.bind (getI l x19) fun v21 =>
      Option.bind (ref08_Lit v v21) fun v23 =>
      if (capN (lenN (x18 ++ [v23])) 1) = true then
        some (.inl (((x18 ++ [v23]), (iadd IntKind.i64 x19 1))))
      else
        none
    else
      some (.inr x18)
def ref08_lits (v : List Bool) (l : List Int) : Option (List Bool) :=
  Option.bind (loopF (ref08_lits_B0 v l) ([], 0)) fun y26 =>
  some y26
def ref08_Step_B0 (a : Aig) (v0 : List Bool) (p : (List Bool) × Int) : Option (((List Bool) × Int) ⊕ (List Bool)) := match p with
  | (x22, x23) =>
    if (ilt x23 (lenI a.L)) = true then
      Option.bind (getI a.L x23) fun v25 =>
      Option.bind (ref08_Lit v0 v25.next) fun v27 =>
      if (capN (lenN (x22 ++ [v27])) 1) = true then
        some (.inl (((x22 ++ [v27]), (iadd IntKind.i64 x23 1))))
      else
        none
    else
      some (.inr x22)
def ref08_Step (a : Aig) (state : List Bool) (in_ : List Bool) : Option ((List Bool) × (((List Bool) × (List Bool) × (List Bool))) × Int) :=
  Option.bind (ref08_Values a state in_) fun (v0, v1) =>
  if (ieq v1 0) = true then
    Option.bind (loopF (ref08_Step_B0 a v0) ([], 0)) fun y30 =>
    Option.bind (ref08_lits v0 a.outs) fun v31 =>
    Option.bind (ref08_lits v0 a.bad) fun v33 =>
    Option.bind (ref08_lits v0 a.con) fun v35 =>
    some ((y30, (v31, v33, v35), 0))
  else
    some ((([] : List Bool), (([] : List Bool), ([] : List Bool), ([] : List Bool)), v1))
def law19_EncSteps (with_ : EncStepsIn_law19) : Option Bool :=
  Option.bind (law19_shown) fun v0 =>
  Option.bind (ref08_May with_.a) fun v2 =>
  if v2 = true then
    if (ilt 60 (lenI with_.state)) = true then
      some v0
    else
      if (ilt 60 (lenI with_.other)) = true then
        some v0
      else
        if (inI 2 0) = true then
          Option.bind (ref08_Values with_.a with_.state with_.in'.fst) fun (v8, v9) =>
          Option.bind (ref08_Step with_.a with_.state with_.in'.fst) fun (v11, v12, v13) =>
          if (inI 2 1) = true then
            Option.bind (ref08_Values with_.a v11 with_.in'.snd) fun (v16, v17) =>
            Option.bind (ref08_Values with_.a with_.other with_.in'.snd) fun (v19, v20) =>
            if (ieq v9 0) = true then
              if (ieq v17 0) = true then
                if (ieq v20 0) = true then
                  Option.bind (enc_Frame with_.a 0) fun v25 =>
                  if (capN (lenN v25) 24) = true then
                    Option.bind (enc_Frame with_.a 1) fun v28 =>
                    if (capN (lenN (v25 ++ v28)) 24) = true then
                      Option.bind (enc_Link with_.a) fun v31 =>
                      if (capN (lenN (v25 ++ (v28 ++ v31))) 24) = true then
                        if (capN (lenN v8) 1) = true then
                          if (capN (lenN (v8 ++ v16)) 1) = true then
                            if (capN (lenN (v8 ++ v19)) 1) = true then
                              if v0 = true then
                                Option.bind (ref03_Holds (({ N := (imul IntKind.i64 2 (lenI v8)), cs := (v25 ++ (v28 ++ v31)) } : Cnf)) (v8 ++ v16)) fun v38 =>
                                if v38 = true then
                                  Option.bind (ref03_Holds (({ N := (imul IntKind.i64 2 (lenI v8)), cs := (v25 ++ (v28 ++ v31)) } : Cnf)) (v8 ++ v19)) fun v41 =>
                                  Option.bind (ref03_Flags v11 with_.other) fun v43 =>
                                  some (beq2 v41 v43)
                                else
                                  some false
                              else
                                some false
                            else
                              none
                          else
                            none
                        else
                          none
                      else
                        none
                    else
                      none
                  else
                    none
                else
                  some v0
              else
                some v0
            else
              some v0
          else
            none
        else
          none
  else
    some v0
def enc_Stays (a : Aig) (inv : Int) : Option Cnf :=
  Option.bind (enc_clause a 1 ([bxor IntKind.i64 inv 1])) fun v0 =>
  Option.bind (enc_Vars a 2) fun v2 =>
  Option.bind (enc_Frame a 0) fun v4 =>
  Option.bind (enc_Frame a 1) fun v6 =>
  Option.bind (enc_Link a) fun v8 =>
  Option.bind (enc_holds a [inv]) fun v10 =>
  Option.bind (slices_Concat ([v4, v6, v8, v10, [v0]])) fun v12 =>
  some ({ N := v2, cs := v12 } : Cnf)
def law19_EncStays_B0 (v14 : ((List Bool) × (List Bool) × (List Bool))) (p : Bool × Int) : Option ((Bool × Int) ⊕ Bool) := match p with
  | (x52, x53) =>
    if (inI 3 2) = true then
      if (ilt x53 (lenI v14.snd.snd)) = true then
        if x52 = true then
          if (inI (lenN v14.snd.snd) x53) = true then
            Option.bind (nthI v14.snd.snd x53) fun v58 =>
            some (.inl ((v58, (iadd IntKind.i64 x53 1))))
          else
            none
        else
          some (.inl ((false, (iadd IntKind.i64 x53 1))))
      else
        some (.inr x52)
    else
      none
def law19_EncStays (with_ : EncStaysIn_law19) : Option Bool :=
  Option.bind (law19_shown) fun v0 =>
  Option.bind (law19_may with_.a with_.inv) fun v2 =>
  if v2 = true then
    if (ilt 60 (lenI with_.state)) = true then
      some v0
    else
      if (inI 2 0) = true then
        if (ilt 60 (lenI with_.in'.fst)) = true then
          some v0
        else
          if (inI 2 1) = true then
            if (ilt 60 (lenI with_.in'.snd)) = true then
              some v0
            else
              Option.bind (ref08_Values with_.a with_.state with_.in'.fst) fun (v10, v11) =>
              Option.bind (ref08_Step with_.a with_.state with_.in'.fst) fun (v13, v14, v15) =>
              Option.bind (ref08_Values with_.a v13 with_.in'.snd) fun (v17, v18) =>
              if (ieq v11 0) = true then
                if (ieq v18 0) = true then
                  Option.bind (loopF (law19_EncStays_B0 v14) (true, 0)) fun y60 =>
                  Option.bind (enc_Stays with_.a with_.inv) fun v61 =>
                  Option.bind (enc_Safe with_.a with_.inv with_.inv) fun v63 =>
                  if (capN (lenN v10) 1) = true then
                    if (capN (lenN (v10 ++ v17)) 1) = true then
                      if y60 = true then
                        Option.bind (ref08_Lit v10 with_.inv) fun v68 =>
                        if v0 = true then
                          if (ieq v61.N (lenI (v10 ++ v17))) = true then
                            Option.bind (ref03_Holds v61 (v10 ++ v17)) fun v72 =>
                            if v68 = true then
                              Option.bind (ref08_Lit v17 with_.inv) fun v75 =>
                              if (beq2 v72 (bnot v75)) = true then
                                Option.bind (ref03_Holds v63 v10) fun v78 =>
                                some (beq2 v78 true)
                              else
                                some false
                            else
                              if (beq2 v72 false) = true then
                                Option.bind (ref03_Holds v63 v10) fun v81 =>
                                some (beq2 v81 false)
                              else
                                some false
                          else
                            some false
                        else
                          some false
                      else
                        if v0 = true then
                          if (ieq v61.N (lenI (v10 ++ v17))) = true then
                            Option.bind (ref03_Holds v61 (v10 ++ v17)) fun v85 =>
                            if (beq2 v85 false) = true then
                              Option.bind (ref03_Holds v63 v10) fun v88 =>
                              some (beq2 v88 false)
                            else
                              some false
                          else
                            some false
                        else
                          some false
                    else
                      none
                  else
                    none
                else
                  some v0
              else
                some v0
          else
            none
      else
        none
  else
    some v0
end Go.Vid

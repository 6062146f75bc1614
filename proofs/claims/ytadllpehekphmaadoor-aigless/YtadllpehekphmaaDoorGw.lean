/- The law's own functions, plainly. No condition. -/
import Derived.Test.YtadllpehekphmaaDoorG
set_option linter.unusedVariables false
namespace Go.Vid
open Go.Vabs
def law06_AigLess_B0 (a : Aig) (v0 : Bool) (p : Int) : Option (Int ⊕ (Bool ⊕ Unit)) := match p with
 | x44 =>
  if (ilt x44 (lenI a.L)) = true then
   Option.bind (getI a.L x44) fun v46 =>
   Option.bind (ref06_Vars a) fun v48 =>
   if (ile (imul IntKind.i64 2 v48) v46.next) = true then
    if v0 = true then
     Option.bind (aig_Right (({ I := a.I, L := a.L, G := a.G, outs := ([] : List Int), bad := ([] : List Int), con := ([] : List Int), names := ([] : List Name) } : Aig))) fun v52 =>
     some (.inr (.inl v52))
    else
     some (.inr (.inl false))
   else
    some (.inl (iadd IntKind.i64 x44 1))
  else
   some (.inr (.inr ()))
def law06_AigLess_B1 (a : Aig) (v0 : Bool) (p : Int) : Option (Int ⊕ (Bool ⊕ Unit)) := match p with
 | x90 =>
  if (ilt x90 (lenI a.L)) = true then
   Option.bind (getI a.L x90) fun v92 =>
   Option.bind (ref06_Vars a) fun v94 =>
   if (ile (imul IntKind.i64 2 v94) v92.next) = true then
    if v0 = true then
     Option.bind (aig_Right (({ I := a.I, L := a.L, G := a.G, outs := ([] : List Int), bad := ([] : List Int), con := ([] : List Int), names := ([] : List Name) } : Aig))) fun v98 =>
     some (.inr (.inl v98))
    else
     some (.inr (.inl false))
   else
    some (.inl (iadd IntKind.i64 x90 1))
  else
   some (.inr (.inr ()))
def law06_AigLess (a : Aig) : Option Bool :=
 Option.bind (law06_shown) fun v0 =>
 Option.bind (ref06_Small a 40) fun v2 =>
 if v2 = true then
  Option.bind (ref06_Right a) fun v5 =>
  if v5 = true then
   Option.bind (aig_Right (({ I := a.I, L := a.L, G := a.G, outs := a.outs, bad := a.bad, con := a.con, names := ([] : List Name) } : Aig))) fun v8 =>
   if v8 = true then
    Option.bind (aig_Vars (({ I := a.I, L := a.L, G := a.G, outs := a.outs, bad := a.bad, con := a.con, names := ([] : List Name) } : Aig))) fun v11 =>
    if (ieq v11 (iadd IntKind.i64 (iadd IntKind.i64 a.I (lenI a.L)) (lenI a.G))) = true then
     if (ilt 0 (lenI a.names)) = true then
      if (cutOk (lenN a.names) 0 (isub IntKind.i64 (lenI a.names) 1)) = true then
       Option.bind (aig_Right (({ I := a.I, L := a.L, G := a.G, outs := a.outs, bad := a.bad, con := a.con, names := (cut a.names 0 (isub IntKind.i64 (lenI a.names) 1)) } : Aig))) fun v16 =>
       if v16 = true then
        Option.bind (loopF (law06_AigLess_B0 a v0) 0) fun r => match r with
        | .inl y54 =>
         some y54
        | .inr () =>
         if (ilt 0 (lenI a.G)) = true then
          if (cutOk (lenN a.G) 0 (isub IntKind.i64 (lenI a.G) 1)) = true then
           if v0 = true then
            Option.bind (aig_Right (({ I := a.I, L := a.L, G := (cut a.G 0 (isub IntKind.i64 (lenI a.G) 1)), outs := ([] : List Int), bad := ([] : List Int), con := ([] : List Int), names := ([] : List Name) } : Aig))) fun v58 =>
            some v58
           else
            some false
          else
           none
         else
          if v0 = true then
           Option.bind (aig_Right (({ I := a.I, L := a.L, G := a.G, outs := ([] : List Int), bad := ([] : List Int), con := ([] : List Int), names := ([] : List Name) } : Aig))) fun v61 =>
           some v61
          else
           some false
       else
        some false
      else
       none
     else
      Option.bind (loopF (law06_AigLess_B1 a v0) 0) fun r => match r with
      | .inl y100 =>
       some y100
      | .inr () =>
       if (ilt 0 (lenI a.G)) = true then
        if (cutOk (lenN a.G) 0 (isub IntKind.i64 (lenI a.G) 1)) = true then
         if v0 = true then
          Option.bind (aig_Right (({ I := a.I, L := a.L, G := (cut a.G 0 (isub IntKind.i64 (lenI a.G) 1)), outs := ([] : List Int), bad := ([] : List Int), con := ([] : List Int), names := ([] : List Name) } : Aig))) fun v104 =>
          some v104
         else
          some false
        else
         none
       else
        if v0 = true then
         Option.bind (aig_Right (({ I := a.I, L := a.L, G := a.G, outs := ([] : List Int), bad := ([] : List Int), con := ([] : List Int), names := ([] : List Name) } : Aig))) fun v107 =>
         some v107
        else
         some false
    else
     some false
   else
    some false
  else
   some v0
 else
  some v0
end Go.Vid

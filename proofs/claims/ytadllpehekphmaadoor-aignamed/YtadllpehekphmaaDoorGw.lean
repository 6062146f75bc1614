/- The law's own functions, plainly. No condition. -/
import Derived.Test.YtadllpehekphmaaDoorG
set_option linter.unusedVariables false
namespace Go.Vid
open Go.Vabs
def law06_AigNamed (a : Aig) (n : Name) (s : ByteArray) : Option Bool :=
 Option.bind (law06_shown) fun v0 =>
 Option.bind (ref06_Small a 40) fun v2 =>
 if v2 = true then
  Option.bind (ref06_Right a) fun v5 =>
  if v5 = true then
   if (ilt 200 (sizI n.s)) = true then
    some v0
   else
    if (ilt 200 (sizI s)) = true then
     some v0
    else
     if (capN (lenN a.names) 32) = true then
      if (capN (lenN (a.names ++ [n])) 32) = true then
       if (ieq (lenI a.names) 0) = true then
        Option.bind (aig_Right (({ I := a.I, L := a.L, G := a.G, outs := a.outs, bad := a.bad, con := a.con, names := (a.names ++ [n]) } : Aig))) fun v13 =>
        Option.bind (aig_Right ({ I := a.I, L := a.L, G := a.G, outs := a.outs, bad := a.bad, con := a.con, names := [n] } : Aig)) fun v15 =>
        if v15 = true then
         if (beq2 v13 true) = true then
          if v0 = true then
           if v13 = true then
            Option.bind (aig_Names (({ I := a.I, L := a.L, G := a.G, outs := a.outs, bad := a.bad, con := a.con, names := (a.names ++ [n]) } : Aig)) s) fun v21 =>
            Option.bind (aig_Names a s) fun v23 =>
            Option.bind (aig_Names ({ I := a.I, L := a.L, G := a.G, outs := a.outs, bad := a.bad, con := a.con, names := [n] } : Aig) ({ data := #[] })) fun v25 =>
            if (addOk v23 v25) = true then
             some ((seq v21 (v23 ++ v25)))
            else
             none
           else
            some true
          else
           some false
         else
          some false
        else
         if (beq2 v13 false) = true then
          if v0 = true then
           if v13 = true then
            Option.bind (aig_Names (({ I := a.I, L := a.L, G := a.G, outs := a.outs, bad := a.bad, con := a.con, names := (a.names ++ [n]) } : Aig)) s) fun v31 =>
            Option.bind (aig_Names a s) fun v33 =>
            Option.bind (aig_Names ({ I := a.I, L := a.L, G := a.G, outs := a.outs, bad := a.bad, con := a.con, names := [n] } : Aig) ({ data := #[] })) fun v35 =>
            if (addOk v33 v35) = true then
             some ((seq v31 (v33 ++ v35)))
            else
             none
           else
            some true
          else
           some false
         else
          some false
       else
        Option.bind (getI a.names (isub IntKind.i64 (lenI a.names) 1)) fun v38 =>
        Option.bind (ref06_Behind v38 n) fun v40 =>
        Option.bind (aig_Right (({ I := a.I, L := a.L, G := a.G, outs := a.outs, bad := a.bad, con := a.con, names := (a.names ++ [n]) } : Aig))) fun v42 =>
        Option.bind (aig_Right ({ I := a.I, L := a.L, G := a.G, outs := a.outs, bad := a.bad, con := a.con, names := [n] } : Aig)) fun v44 =>
        if v44 = true then
         if (beq2 v42 v40) = true then
          if v0 = true then
           if v42 = true then
            Option.bind (aig_Names (({ I := a.I, L := a.L, G := a.G, outs := a.outs, bad := a.bad, con := a.con, names := (a.names ++ [n]) } : Aig)) s) fun v50 =>
            Option.bind (aig_Names a s) fun v52 =>
            Option.bind (aig_Names ({ I := a.I, L := a.L, G := a.G, outs := a.outs, bad := a.bad, con := a.con, names := [n] } : Aig) ({ data := #[] })) fun v54 =>
            if (addOk v52 v54) = true then
             some ((seq v50 (v52 ++ v54)))
            else
             none
           else
            some true
          else
           some false
         else
          some false
        else
         if (beq2 v42 false) = true then
          if v0 = true then
           if v42 = true then
            Option.bind (aig_Names (({ I := a.I, L := a.L, G := a.G, outs := a.outs, bad := a.bad, con := a.con, names := (a.names ++ [n]) } : Aig)) s) fun v60 =>
            Option.bind (aig_Names a s) fun v62 =>
            Option.bind (aig_Names ({ I := a.I, L := a.L, G := a.G, outs := a.outs, bad := a.bad, con := a.con, names := [n] } : Aig) ({ data := #[] })) fun v64 =>
            if (addOk v62 v64) = true then
             some ((seq v60 (v62 ++ v64)))
            else
             none
           else
            some true
          else
           some false
         else
          some false
      else
       none
     else
      none
  else
   some v0
 else
  some v0
end Go.Vid

/- The law's own functions, plainly. No condition. -/
import Derived.Test.YtadllpehekphmaaDoorG
set_option linter.unusedVariables false
namespace Go.Vid
open Go.Vabs
def law06_AigTells (a : Aig) (b : Aig) (s : ByteArray) : Option Bool :=
 Option.bind (law06_shown) fun v0 =>
 Option.bind (ref06_Small a 40) fun v2 =>
 if v2 = true then
  Option.bind (ref06_Small b 40) fun v5 =>
  if v5 = true then
   if (ilt 100 (sizI s)) = true then
    some v0
   else
    Option.bind (aig_Print a) fun (v9, v10) =>
    Option.bind (ref06_Print a) fun (v12, v13) =>
    Option.bind (ref06_Right a) fun v15 =>
    if v0 = true then
     Option.bind (aig_Right a) fun v18 =>
     if (beq2 v18 v15) = true then
      Option.bind (aig_Same a b) fun v21 =>
      Option.bind (ref06_Same a b) fun v23 =>
      if (beq2 v21 v23) = true then
       if (seq v9 v12) = true then
        if (ieq v10 v13) = true then
         if v15 = true then
          Option.bind (aig_Vars a) fun v29 =>
          Option.bind (ref06_Vars a) fun v31 =>
          if (ieq v29 v31) = true then
           Option.bind (aig_Names a s) fun v34 =>
           Option.bind (ref06_Names a s) fun v36 =>
           some (seq v34 v36)
          else
           some false
         else
          some true
        else
         some false
       else
        some false
      else
       some false
     else
      some false
    else
     some false
  else
   some v0
 else
  some v0
end Go.Vid

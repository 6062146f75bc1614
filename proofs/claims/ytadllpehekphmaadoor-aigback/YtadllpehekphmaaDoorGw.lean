/- The law's own functions, plainly. No condition. -/
import Derived.Test.YtadllpehekphmaaDoorG
set_option linter.unusedVariables false
namespace Go.Vid
open Go.Vabs
def law06_AigBack (a : Aig) (b : Aig) : Option Bool :=
 Option.bind (law06_shown) fun v0 =>
 Option.bind (ref06_Small a 40) fun v2 =>
 if v2 = true then
  Option.bind (ref06_Small b 40) fun v5 =>
  if v5 = true then
   Option.bind (ref06_Right a) fun v8 =>
   if v8 = true then
    Option.bind (ref06_Right b) fun v11 =>
    if v11 = true then
     Option.bind (aig_Print a) fun (v14, v15) =>
     Option.bind (aig_Print b) fun (v17, v18) =>
     Option.bind (aig_Parse (bytesOf v14)) fun (v20, v21, v22) =>
     if v0 = true then
      if (ieq v15 0) = true then
       if (ieq v18 0) = true then
        if (ieq v22 0) = true then
         if (ieq v21 (sizI v14)) = true then
          Option.bind (ref06_Same a v20) fun v29 =>
          if v29 = true then
           Option.bind (ref06_Same a b) fun v32 =>
           some ((beq2 (seq v14 v17) v32))
          else
           some false
         else
          some false
        else
         some false
       else
        some false
      else
       some false
     else
      some false
    else
     some v0
   else
    some v0
  else
   some v0
 else
  some v0
end Go.Vid

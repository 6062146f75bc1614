/- The law's own functions, plainly. No condition. -/
import Derived.Test.YtadllpehekphmaaDoorG
set_option linter.unusedVariables false
namespace Go.Vid
open Go.Vabs
def law06_AigForth (b : List Int) : Option Bool :=
 Option.bind (law06_shown) fun v0 =>
 if (ilt 2000 (lenI b)) = true then
  some v0
 else
  Option.bind (aig_Parse b) fun (v3, v4, v5) =>
  if (ilt v4 0) = true then
   some false
  else
   if (ilt (lenI b) v4) = true then
    some false
   else
    if (ieq v5 0) = true then
     Option.bind (aig_Print v3) fun (v10, v11) =>
     if v0 = true then
      if (ieq v11 0) = true then
       if (seq v10 (strOf b)) = true then
        if (ieq v4 (lenI b)) = true then
         Option.bind (ref06_Right v3) fun v17 =>
         some v17
        else
         some false
       else
        some false
      else
       some false
     else
      some false
    else
     if v0 = true then
      Option.bind (ref06_Same v3 (({ I := 0, L := ([] : List Latch), G := ([] : List And), outs := ([] : List Int), bad := ([] : List Int), con := ([] : List Int), names := ([] : List Name) } : Aig))) fun v20 =>
      if v20 = true then
       if (ieq v5 2) = true then
        some true
       else
        some (ieq v5 3)
      else
       some false
     else
      some false
end Go.Vid

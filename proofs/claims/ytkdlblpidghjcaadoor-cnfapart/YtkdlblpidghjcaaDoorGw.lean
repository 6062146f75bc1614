/- The law's own functions, plainly. No condition. -/
import Derived.Test.YtkdlblpidghjcaaDoorG
set_option linter.unusedVariables false
namespace Go.Vid
open Go.Vabs
def law03_CnfApart (with_ : CnfApartIn_law03) : Option Bool :=
 Option.bind (law03_shown) fun v0 =>
 Option.bind (ref03_Small with_.f 40) fun v2 =>
 if v2 = true then
  Option.bind (ref03_Small with_.g 40) fun v5 =>
  if v5 = true then
   if (ilt 100 (lenI with_.m)) = true then
    some v0
   else
    if (ilt 100 (lenI with_.n)) = true then
     some v0
    else
     Option.bind (ref03_Right with_.f) fun v10 =>
     if v10 = true then
      Option.bind (ref03_Right with_.g) fun v13 =>
      if v13 = true then
       Option.bind (cnf_Print with_.f) fun (v16, v17) =>
       Option.bind (cnf_Print with_.g) fun (v19, v20) =>
       if v0 = true then
        if (ieq v17 0) = true then
         if (ieq v20 0) = true then
          Option.bind (ref03_Same with_.f with_.g) fun v25 =>
          if (beq2 (seq v16 v19) v25) = true then
           Option.bind (cnf_PrintModel with_.m) fun v28 =>
           Option.bind (cnf_PrintModel with_.n) fun v30 =>
           Option.bind (ref03_Flags with_.m with_.n) fun v32 =>
           some ((beq2 (seq v28 v30) v32))
          else
           some false
         else
          some false
        else
         some false
       else
        some false
      else
       some v0
     else
      some v0
  else
   some v0
 else
  some v0
end Go.Vid

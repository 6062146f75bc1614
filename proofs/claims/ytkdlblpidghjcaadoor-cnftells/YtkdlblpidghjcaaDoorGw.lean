/- The law's own functions, plainly. No condition. -/
import Derived.Test.YtkdlblpidghjcaaDoorG
set_option linter.unusedVariables false
namespace Go.Vid
open Go.Vabs
def law03_CnfTells (f_ : Cnf) (g : Cnf) (b : List Int) : Option Bool :=
 Option.bind (law03_shown) fun v0 =>
 Option.bind (ref03_Small f_ 40) fun v2 =>
 if v2 = true then
  Option.bind (ref03_Small g 40) fun v5 =>
  if v5 = true then
   if (ilt 2000 (lenI b)) = true then
    some v0
   else
    Option.bind (cnf_Print f_) fun (v9, v10) =>
    Option.bind (ref03_Print f_) fun (v12, v13) =>
    Option.bind (cnf_Parse b) fun (v15, v16, v17) =>
    Option.bind (ref03_Parse b) fun (v19, v20, v21) =>
    if v0 = true then
     Option.bind (cnf_Right f_) fun v24 =>
     Option.bind (ref03_Right f_) fun v26 =>
     if (beq2 v24 v26) = true then
      Option.bind (cnf_Same f_ g) fun v29 =>
      Option.bind (ref03_Same f_ g) fun v31 =>
      if (beq2 v29 v31) = true then
       if (seq v9 v12) = true then
        if (ieq v10 v13) = true then
         Option.bind (ref03_Same v15 v19) fun v36 =>
         if v36 = true then
          if (ieq v16 v20) = true then
           some (ieq v17 v21)
          else
           some false
         else
          some false
        else
         some false
       else
        some false
      else
       some false
     else
      some false
    else
     some false
  else
   some v0
 else
  some v0
end Go.Vid

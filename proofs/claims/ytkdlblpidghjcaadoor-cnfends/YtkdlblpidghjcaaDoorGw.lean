/- The law's own functions, plainly. No condition. -/
import Derived.Test.YtkdlblpidghjcaaDoorG
set_option linter.unusedVariables false
namespace Go.Vid
open Go.Vabs
def law03_CnfEnds (f_ : Cnf) (more : List Int) (cut : Int) : Option Bool :=
 Option.bind (law03_shown) fun v0 =>
 Option.bind (ref03_Small f_ 40) fun v2 =>
 if v2 = true then
  if (ilt 100 (lenI more)) = true then
   some v0
  else
   if (ieq (lenI more) 0) = true then
    some v0
   else
    Option.bind (ref03_Right f_) fun v7 =>
    if v7 = true then
     Option.bind (cnf_Print f_) fun (v10, v11) =>
     if (ieq v11 0) = true then
      if (ieq (sizI v10) 0) = true then
       some false
      else
       if (capN (lenN (bytesOf v10 ++ more)) 1) = true then
        Option.bind (cnf_Parse (bytesOf v10 ++ more)) fun (v16, v17, v18) =>
        if (cutOk v10.size 0 (irem (iconv IntKind.i64 cut) (sizI v10))) = true then
         Option.bind (cnf_Parse ((bytesOf (cutB v10 0 (irem (iconv IntKind.i64 cut) (sizI v10)))))) fun (v21, v22, v23) =>
         if v0 = true then
          if (ieq v18 2) = true then
           if (ieq v17 (sizI v10)) = true then
            if (ieq v23 0) = true then
             some false
            else
             some ((ile v22 (irem (iconv IntKind.i64 cut) (sizI v10))))
           else
            some false
          else
           some false
         else
          some false
        else
         none
       else
        none
     else
      some false
    else
     some v0
 else
  some v0
end Go.Vid

/- The law's own functions, plainly. No condition. -/
import Derived.Test.YtadllpehekphmaaDoorG
set_option linter.unusedVariables false
namespace Go.Vid
open Go.Vabs
def law06_AigEnds (a : Aig) (c : Int) (cut : Int) : Option Bool :=
 Option.bind (law06_shown) fun v0 =>
 Option.bind (ref06_Small a 40) fun v2 =>
 if v2 = true then
  Option.bind (ref06_Right a) fun v5 =>
  if v5 = true then
   if (ieq c 105) = true then
    some v0
   else
    if (ieq c 108) = true then
     some v0
    else
     if (ieq c 111) = true then
      some v0
     else
      if (ieq c 98) = true then
       some v0
      else
       if (ieq c 99) = true then
        some v0
       else
        Option.bind (aig_Print a) fun (v13, v14) =>
        if (ieq v14 0) = true then
         if (ieq (sizI v13) 0) = true then
          some false
         else
          if (capN (lenN (bytesOf v13 ++ [c])) 1) = true then
           Option.bind (aig_Parse (bytesOf v13 ++ [c])) fun (v19, v20, v21) =>
           if (cutOk v13.size 0 (irem (iconv IntKind.i64 cut) (sizI v13))) = true then
            Option.bind (aig_Parse ((bytesOf (cutB v13 0 (irem (iconv IntKind.i64 cut) (sizI v13)))))) fun (v24, v25, v26) =>
            if (ieq v21 2) = true then
             if (ieq v20 (sizI v13)) = true then
              if (ilt (irem (iconv IntKind.i64 cut) (sizI v13)) v25) = true then
               some false
              else
               if (ilt v25 0) = true then
                some false
               else
                if v0 = true then
                 if (ieq v26 0) = true then
                  if (ilt (lenI v24.names) (lenI a.names)) = true then
                   if (ieq v24.I a.I) = true then
                    some ((ieq (lenI v24.G) (lenI a.G)))
                   else
                    some false
                  else
                   some false
                 else
                  some true
                else
                 some false
             else
              some false
            else
             some false
           else
            none
          else
           none
        else
         some false
  else
   some v0
 else
  some v0
end Go.Vid

/- The law's own functions, plainly. No condition. -/
import Derived.Test.YtkdlblpidghjcaaDoorG
set_option linter.unusedVariables false
namespace Go.Vid
open Go.Vabs
def law03_CnfBack (f_ : Cnf) (b : List Int) (m : List Bool) : Option Bool :=
 Option.bind (law03_shown) fun v0 =>
 Option.bind (ref03_Small f_ 40) fun v2 =>
 if v2 = true then
  if (ilt 2000 (lenI b)) = true then
   some v0
  else
   if (ilt 100 (lenI m)) = true then
    some v0
   else
    Option.bind (cnf_Print f_) fun (v7, v8) =>
    Option.bind (ref03_Right f_) fun v10 =>
    if (beq2 (ieq v8 0) v10) = true then
     if (ieq v8 0) = true then
      Option.bind (cnf_Parse (bytesOf v7)) fun (v14, v15, v16) =>
      if (ieq v16 0) = true then
       if (ieq v15 (sizI v7)) = true then
        Option.bind (ref03_Same f_ v14) fun v20 =>
        if v20 = true then
         Option.bind (cnf_PrintModel m) fun v23 =>
         Option.bind (cnf_ParseModel (bytesOf v23) (lenI m)) fun (v25, v26, v27) =>
         if (ieq v27 0) = true then
          if (ieq v26 (sizI v23)) = true then
           Option.bind (ref03_Flags m v25) fun v31 =>
           if v31 = true then
            Option.bind (cnf_Parse b) fun (v34, v35, v36) =>
            if (ilt v35 0) = true then
             some false
            else
             if (ilt (lenI b) v35) = true then
              some false
             else
              if (ieq v36 0) = true then
               Option.bind (cnf_Print v34) fun (v41, v42) =>
               if v0 = true then
                if (ieq v42 0) = true then
                 if (seq v41 (strOf b)) = true then
                  if (ieq v35 (lenI b)) = true then
                   Option.bind (ref03_Right v34) fun v48 =>
                   some v48
                  else
                   some false
                 else
                  some false
                else
                 some false
               else
                some false
              else
               if v0 = true then
                Option.bind (ref03_Same v34 (({ N := 0, cs := ([] : List (List Int)) } : Cnf))) fun v51 =>
                some v51
               else
                some false
           else
            some false
          else
           some false
         else
          some false
        else
         some false
       else
        some false
      else
       some false
     else
      Option.bind (cnf_PrintModel m) fun v53 =>
      Option.bind (cnf_ParseModel (bytesOf v53) (lenI m)) fun (v55, v56, v57) =>
      if (ieq v57 0) = true then
       if (ieq v56 (sizI v53)) = true then
        Option.bind (ref03_Flags m v55) fun v61 =>
        if v61 = true then
         Option.bind (cnf_Parse b) fun (v64, v65, v66) =>
         if (ilt v65 0) = true then
          some false
         else
          if (ilt (lenI b) v65) = true then
           some false
          else
           if (ieq v66 0) = true then
            Option.bind (cnf_Print v64) fun (v71, v72) =>
            if v0 = true then
             if (ieq v72 0) = true then
              if (seq v71 (strOf b)) = true then
               if (ieq v65 (lenI b)) = true then
                Option.bind (ref03_Right v64) fun v78 =>
                some v78
               else
                some false
              else
               some false
             else
              some false
            else
             some false
           else
            if v0 = true then
             Option.bind (ref03_Same v64 (({ N := 0, cs := ([] : List (List Int)) } : Cnf))) fun v81 =>
             some v81
            else
             some false
        else
         some false
       else
        some false
      else
       some false
    else
     some false
 else
  some v0
end Go.Vid

/- The law's own functions, plainly. No condition. -/
import Derived.Test.YtkdlblpidghjcaaDoorG
set_option linter.unusedVariables false
namespace Go.Vid
open Go.Vabs
def law03_CnfHolds (with_ : CnfHoldsIn_law03) : Option Bool :=
 Option.bind (law03_shown) fun v0 =>
 Option.bind (ref03_Small with_.f 40) fun v2 =>
 if v2 = true then
  if (ilt 100 (lenI with_.m)) = true then
   some v0
  else
   if (ilt 40 (lenI with_.c)) = true then
    some v0
   else
    if (ilt with_.l (-100)) = true then
     some v0
    else
     if (ilt 100 with_.l) = true then
      some v0
     else
      if (capN (lenN with_.f.cs) 24) = true then
       if (capN (lenN (with_.f.cs ++ [with_.c])) 24) = true then
        if (capN (lenN with_.c) 8) = true then
         if (capN (lenN (with_.c ++ [with_.l])) 8) = true then
          Option.bind (cnf_Clause [with_.l] with_.m) fun v13 =>
          Option.bind (cnf_Clause ([ineg IntKind.i64 with_.l]) with_.m) fun v15 =>
          if (ieq with_.l 0) = true then
           if v0 = true then
            Option.bind (cnf_Holds (({ N := with_.f.N, cs := (with_.f.cs ++ [with_.c]) } : Cnf)) with_.m) fun v19 =>
            Option.bind (cnf_Holds with_.f with_.m) fun v21 =>
            if v21 = true then
             Option.bind (cnf_Clause with_.c with_.m) fun v24 =>
             if (beq2 v19 v24) = true then
              Option.bind (cnf_Clause (with_.c ++ [with_.l]) with_.m) fun v27 =>
              if v24 = true then
               if (beq2 v27 true) = true then
                if v13 = true then
                 if v15 = true then
                  some false
                 else
                  if (beq2 true false) = true then
                   Option.bind (cnf_Holds (({ N := 0, cs := ([] : List (List Int)) } : Cnf)) with_.m) fun v34 =>
                   if v34 = true then
                    Option.bind (cnf_Clause_nil with_.m) fun v37 =>
                    some (bnot v37)
                   else
                    some false
                  else
                   some false
                else
                 if (beq2 v15 false) = true then
                  Option.bind (cnf_Holds (({ N := 0, cs := ([] : List (List Int)) } : Cnf)) with_.m) fun v40 =>
                  if v40 = true then
                   Option.bind (cnf_Clause_nil with_.m) fun v43 =>
                   some (bnot v43)
                  else
                   some false
                 else
                  some false
               else
                some false
              else
               if (beq2 v27 v13) = true then
                if v13 = true then
                 if v15 = true then
                  some false
                 else
                  if (beq2 true false) = true then
                   Option.bind (cnf_Holds (({ N := 0, cs := ([] : List (List Int)) } : Cnf)) with_.m) fun v49 =>
                   if v49 = true then
                    Option.bind (cnf_Clause_nil with_.m) fun v52 =>
                    some (bnot v52)
                   else
                    some false
                  else
                   some false
                else
                 if (beq2 v15 false) = true then
                  Option.bind (cnf_Holds (({ N := 0, cs := ([] : List (List Int)) } : Cnf)) with_.m) fun v55 =>
                  if v55 = true then
                   Option.bind (cnf_Clause_nil with_.m) fun v58 =>
                   some (bnot v58)
                  else
                   some false
                 else
                  some false
               else
                some false
             else
              some false
            else
             if (beq2 v19 false) = true then
              Option.bind (cnf_Clause (with_.c ++ [with_.l]) with_.m) fun v61 =>
              Option.bind (cnf_Clause with_.c with_.m) fun v63 =>
              if v63 = true then
               if (beq2 v61 true) = true then
                if v13 = true then
                 if v15 = true then
                  some false
                 else
                  if (beq2 true false) = true then
                   Option.bind (cnf_Holds (({ N := 0, cs := ([] : List (List Int)) } : Cnf)) with_.m) fun v70 =>
                   if v70 = true then
                    Option.bind (cnf_Clause_nil with_.m) fun v73 =>
                    some (bnot v73)
                   else
                    some false
                  else
                   some false
                else
                 if (beq2 v15 false) = true then
                  Option.bind (cnf_Holds (({ N := 0, cs := ([] : List (List Int)) } : Cnf)) with_.m) fun v76 =>
                  if v76 = true then
                   Option.bind (cnf_Clause_nil with_.m) fun v79 =>
                   some (bnot v79)
                  else
                   some false
                 else
                  some false
               else
                some false
              else
               if (beq2 v61 v13) = true then
                if v13 = true then
                 if v15 = true then
                  some false
                 else
                  if (beq2 true false) = true then
                   Option.bind (cnf_Holds (({ N := 0, cs := ([] : List (List Int)) } : Cnf)) with_.m) fun v85 =>
                   if v85 = true then
                    Option.bind (cnf_Clause_nil with_.m) fun v88 =>
                    some (bnot v88)
                   else
                    some false
                  else
                   some false
                else
                 if (beq2 v15 false) = true then
                  Option.bind (cnf_Holds (({ N := 0, cs := ([] : List (List Int)) } : Cnf)) with_.m) fun v91 =>
                  if v91 = true then
                   Option.bind (cnf_Clause_nil with_.m) fun v94 =>
                   some (bnot v94)
                  else
                   some false
                 else
                  some false
               else
                some false
             else
              some false
           else
            some false
          else
           if v0 = true then
            Option.bind (cnf_Holds (({ N := with_.f.N, cs := (with_.f.cs ++ [with_.c]) } : Cnf)) with_.m) fun v97 =>
            Option.bind (cnf_Holds with_.f with_.m) fun v99 =>
            if v99 = true then
             Option.bind (cnf_Clause with_.c with_.m) fun v102 =>
             if (beq2 v97 v102) = true then
              Option.bind (cnf_Clause (with_.c ++ [with_.l]) with_.m) fun v105 =>
              if v102 = true then
               if (beq2 v105 true) = true then
                if v13 = true then
                 if v15 = true then
                  some false
                 else
                  if (beq2 true (ile (imax with_.l (ineg IntKind.i64 with_.l)) (lenI with_.m))) = true then
                   Option.bind (cnf_Holds (({ N := 0, cs := ([] : List (List Int)) } : Cnf)) with_.m) fun v112 =>
                   if v112 = true then
                    Option.bind (cnf_Clause_nil with_.m) fun v115 =>
                    some (bnot v115)
                   else
                    some false
                  else
                   some false
                else
                 if (beq2 v15 (ile (imax with_.l (ineg IntKind.i64 with_.l)) (lenI with_.m))) = true then
                  Option.bind (cnf_Holds (({ N := 0, cs := ([] : List (List Int)) } : Cnf)) with_.m) fun v118 =>
                  if v118 = true then
                   Option.bind (cnf_Clause_nil with_.m) fun v121 =>
                   some (bnot v121)
                  else
                   some false
                 else
                  some false
               else
                some false
              else
               if (beq2 v105 v13) = true then
                if v13 = true then
                 if v15 = true then
                  some false
                 else
                  if (beq2 true (ile (imax with_.l (ineg IntKind.i64 with_.l)) (lenI with_.m))) = true then
                   Option.bind (cnf_Holds (({ N := 0, cs := ([] : List (List Int)) } : Cnf)) with_.m) fun v127 =>
                   if v127 = true then
                    Option.bind (cnf_Clause_nil with_.m) fun v130 =>
                    some (bnot v130)
                   else
                    some false
                  else
                   some false
                else
                 if (beq2 v15 (ile (imax with_.l (ineg IntKind.i64 with_.l)) (lenI with_.m))) = true then
                  Option.bind (cnf_Holds (({ N := 0, cs := ([] : List (List Int)) } : Cnf)) with_.m) fun v133 =>
                  if v133 = true then
                   Option.bind (cnf_Clause_nil with_.m) fun v136 =>
                   some (bnot v136)
                  else
                   some false
                 else
                  some false
               else
                some false
             else
              some false
            else
             if (beq2 v97 false) = true then
              Option.bind (cnf_Clause (with_.c ++ [with_.l]) with_.m) fun v139 =>
              Option.bind (cnf_Clause with_.c with_.m) fun v141 =>
              if v141 = true then
               if (beq2 v139 true) = true then
                if v13 = true then
                 if v15 = true then
                  some false
                 else
                  if (beq2 true (ile (imax with_.l (ineg IntKind.i64 with_.l)) (lenI with_.m))) = true then
                   Option.bind (cnf_Holds (({ N := 0, cs := ([] : List (List Int)) } : Cnf)) with_.m) fun v148 =>
                   if v148 = true then
                    Option.bind (cnf_Clause_nil with_.m) fun v151 =>
                    some (bnot v151)
                   else
                    some false
                  else
                   some false
                else
                 if (beq2 v15 (ile (imax with_.l (ineg IntKind.i64 with_.l)) (lenI with_.m))) = true then
                  Option.bind (cnf_Holds (({ N := 0, cs := ([] : List (List Int)) } : Cnf)) with_.m) fun v154 =>
                  if v154 = true then
                   Option.bind (cnf_Clause_nil with_.m) fun v157 =>
                   some (bnot v157)
                  else
                   some false
                 else
                  some false
               else
                some false
              else
               if (beq2 v139 v13) = true then
                if v13 = true then
                 if v15 = true then
                  some false
                 else
                  if (beq2 true (ile (imax with_.l (ineg IntKind.i64 with_.l)) (lenI with_.m))) = true then
                   Option.bind (cnf_Holds (({ N := 0, cs := ([] : List (List Int)) } : Cnf)) with_.m) fun v163 =>
                   if v163 = true then
                    Option.bind (cnf_Clause_nil with_.m) fun v166 =>
                    some (bnot v166)
                   else
                    some false
                  else
                   some false
                else
                 if (beq2 v15 (ile (imax with_.l (ineg IntKind.i64 with_.l)) (lenI with_.m))) = true then
                  Option.bind (cnf_Holds (({ N := 0, cs := ([] : List (List Int)) } : Cnf)) with_.m) fun v169 =>
                  if v169 = true then
                   Option.bind (cnf_Clause_nil with_.m) fun v172 =>
                   some (bnot v172)
                  else
                   some false
                 else
                  some false
               else
                some false
             else
              some false
           else
            some false
         else
          none
        else
         none
       else
        none
      else
       none
 else
  some v0
end Go.Vid

/- The law's own functions, plainly. No condition. -/
import Derived.Test.YtkdlblpidghjcaaDoorG
set_option linter.unusedVariables false
namespace Go.Vid
open Go.Vabs
def law03_CnfModels_B0 (with_ : CnfModelsIn_law03) (p : Int) : Option (Int ⊕ (Unit ⊕ Unit)) := match p with
 | x49 =>
  if (ilt x49 (lenI with_.f.cs)) = true then
   Option.bind (getI with_.f.cs x49) fun v51 =>
   Option.bind (cnf_Clause v51 with_.m) fun v53 =>
   Option.bind (ref03_Clause v51 with_.m) fun v55 =>
   if (beq2 v53 v55) = true then
    some (.inl (iadd IntKind.i64 x49 1))
   else
    some (.inr (.inl ()))
  else
   some (.inr (.inr ()))
def law03_CnfModels (with_ : CnfModelsIn_law03) : Option Bool :=
 Option.bind (law03_shown) fun v0 =>
 if (ilt 100 (lenI with_.m)) = true then
  some v0
 else
  if (ilt 2000 (lenI with_.b)) = true then
   some v0
  else
   if (ilt with_.n 0) = true then
    some v0
   else
    if (ilt 1000 with_.n) = true then
     some v0
    else
     Option.bind (ref03_Small with_.f 40) fun v6 =>
     if v6 = true then
      Option.bind (cnf_ParseModel with_.b with_.n) fun (v9, v10, v11) =>
      Option.bind (ref03_ParseModel with_.b with_.n) fun (v13, v14, v15) =>
      Option.bind (cnf_PrintModel with_.m) fun v17 =>
      Option.bind (ref03_PrintModel with_.m) fun v19 =>
      if (seq v17 v19) = true then
       Option.bind (ref03_Flags v9 v13) fun v22 =>
       if v22 = true then
        if (ieq v10 v14) = true then
         if (ieq v11 v15) = true then
          Option.bind (loopF (law03_CnfModels_B0 with_) 0) fun r => match r with
          | .inl () =>
           some false
          | .inr () =>
           if v0 = true then
            Option.bind (cnf_Holds with_.f with_.m) fun v59 =>
            Option.bind (ref03_Holds with_.f with_.m) fun v61 =>
            some (beq2 v59 v61)
           else
            some false
         else
          some false
        else
         some false
       else
        some false
      else
       some false
     else
      some v0
end Go.Vid

/- The law's own functions, plainly. No condition. -/
import Derived.Test.YtkdlblpidghjcaaDoorG
set_option linter.unusedVariables false
namespace Go.Vid
open Go.Vabs
def law03_CnfTurned_B0 (f_ : Cnf) (p : (List Int) × Int) : Option (((List Int) × Int) ⊕ (List Int)) := match p with
 | (x70, x71) =>
  Option.bind (getI f_.cs 0) fun v72 =>
  if (ilt x71 (lenI v72)) = true then
   Option.bind (getI v72 x71) fun v75 =>
   if (capN (lenN (x70 ++ [ineg IntKind.i64 v75])) 8) = true then
    some (.inl (((x70 ++ [ineg IntKind.i64 v75]), (iadd IntKind.i64 x71 1))))
   else
    none
  else
   some (.inr x70)
def law03_CnfTurned_B1 (f_ : Cnf) (x159 : Int) (p : (List Int) × Int) : Option (((List Int) × Int) ⊕ (List Int)) := match p with
 | (x183, x184) =>
  Option.bind (getI f_.cs x159) fun v185 =>
  if (ilt x184 (lenI v185)) = true then
   Option.bind (getI v185 x184) fun v188 =>
   if (capN (lenN (x183 ++ [ineg IntKind.i64 v188])) 8) = true then
    some (.inl (((x183 ++ [ineg IntKind.i64 v188]), (iadd IntKind.i64 x184 1))))
   else
    none
  else
   some (.inr x183)
def law03_CnfTurned_B2 (f_ : Cnf) (p : ((List (List Int))) × Int) : Option ((((List (List Int))) × Int) ⊕ (((List (List Int))))) := match p with
 | (x158, x159) =>
  if (ilt x159 (lenI f_.cs)) = true then
   Option.bind (loopF (law03_CnfTurned_B1 f_ x159) ([], 0)) fun y191 =>
   if (capN (lenN (x158 ++ [y191])) 24) = true then
    some (.inl (((x158 ++ [y191]), (iadd IntKind.i64 x159 1))))
   else
    none
  else
   some (.inr x158)
def law03_CnfTurned_B3 (m : List Bool) (p : (List Bool) × Int) : Option (((List Bool) × Int) ⊕ (List Bool)) := match p with
 | (x213, x214) =>
  if (ilt x214 (lenI m)) = true then
   Option.bind (getI m x214) fun v216 =>
   if (capN (lenN (x213 ++ [bnot v216])) 1) = true then
    some (.inl (((x213 ++ [bnot v216]), (iadd IntKind.i64 x214 1))))
   else
    none
  else
   some (.inr x213)
def law03_CnfTurned_B4 (m : List Bool) (p : (List Bool) × Int) : Option (((List Bool) × Int) ⊕ (List Bool)) := match p with
 | (x250, x251) =>
  if (ilt x251 (lenI m)) = true then
   Option.bind (getI m x251) fun v253 =>
   if (capN (lenN (x250 ++ [bnot v253])) 1) = true then
    some (.inl (((x250 ++ [bnot v253]), (iadd IntKind.i64 x251 1))))
   else
    none
  else
   some (.inr x250)
def law03_CnfTurned (f_ : Cnf) (m : List Bool) : Option Bool :=
 Option.bind (law03_shown) fun v0 =>
 Option.bind (ref03_Small f_ 40) fun v2 =>
 if v2 = true then
  if (ilt 100 (lenI m)) = true then
   some v0
  else
   Option.bind (ref03_Right f_) fun v6 =>
   if v6 = true then
    if (ilt 0 (lenI f_.cs)) = true then
     Option.bind (loopF (law03_CnfTurned_B0 f_) ([], 0)) fun y78 =>
     if (capN 1 24) = true then
      Option.bind (loopF (law03_CnfTurned_B2 f_) (([y78], (iadd IntKind.i64 0 1)))) fun y195 =>
      Option.bind (loopF (law03_CnfTurned_B3 m) ([], 0)) fun y219 =>
      if v0 = true then
       Option.bind (cnf_Holds f_ m) fun v221 =>
       Option.bind (cnf_Holds ({ N := f_.N, cs := y195 } : Cnf) y219) fun v223 =>
       if (beq2 v221 v223) = true then
        Option.bind (cnf_Right ({ N := f_.N, cs := y195 } : Cnf)) fun v226 =>
        some v226
       else
        some false
      else
       some false
     else
      none
    else
     Option.bind (loopF (law03_CnfTurned_B4 m) ([], 0)) fun y256 =>
     if v0 = true then
      Option.bind (cnf_Holds f_ m) fun v258 =>
      Option.bind (cnf_Holds (({ N := f_.N, cs := ([] : List (List Int)) } : Cnf)) y256) fun v260 =>
      if (beq2 v258 v260) = true then
       Option.bind (cnf_Right (({ N := f_.N, cs := ([] : List (List Int)) } : Cnf))) fun v263 =>
       some v263
      else
       some false
     else
      some false
   else
    some v0
 else
  some v0
end Go.Vid

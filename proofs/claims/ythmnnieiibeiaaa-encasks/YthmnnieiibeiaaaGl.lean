/- Which of the program's functions are lent something. No condition. -/
import Derived.Test.YthmnnieiibeiaaaVW
namespace Go.Vid
open Go.Vabs
instance glob : Globals where
 gl _ := none
 ix _ := false
 ld f := match f with
  | 30 => some true
  | _ => none
 pn _ := false
 pr _ _ := none
def ldT (f : Nat) : Option Bool := match f with
 | 30 => some true
 | _ => none
@[simp] theorem ld_eq (f : FuncId) : Globals.ld f = ldT f := rfl
@[simp] theorem ix_eq (f : FuncId) : Globals.ix f = false := rfl
@[simp] theorem pn_eq (f : FuncId) : Globals.pn f = false := rfl
attribute [simp] ldT
end Go.Vid

/- What the program's listed variables hold, which of its functions are lent something, and what those come to whose contracts are known. No condition. -/
import Derived.Test.YtkdlblpidghjcaaDoorVidB
import Derived.Test.YtkdlblpidghjcaaDoorTy
import GoSem.PinnedTables
namespace Go.Vid
open Go.Vabs
def first : List Int := Go.Pinned.utf8FirstZ.map fun (n : Nat) => (n : Int)
def ranges : List (Int × Int) := [(128, 191), (160, 191), (128, 159), (144, 191), (128, 143)] ++ List.replicate 11 (0, 0)
def ref03_Figures (n : Int) : Option ByteArray := if -9223372036854775807 ≤ n ∧ n ≤ 9223372036854775807 then some (numeral n) else none
instance glob : Globals where
 gl g := match g with
  | 1 => some (Go.Lib.pow10Tab.map fun (n : Int) => Value.int .u64 n)
  | 2 => some (tabBV first)
  | 3 => some (tabPV ranges)
  | _ => none
 ix _ := false
 ld f := match f with
  | 33 => some false
  | 34 => some false
  | 36 => some false
  | 37 => some false
  | 54 => some false
  | 55 => some false
  | 68 => some false
  | _ => none
 pr f args := match f with
  | 50 => prItoa args
  | 31 => prJoin args
  | 30 => prClone 3 args
  | 68 => prCheck 92 5 args
  | 55 => prStr 92 5 args
  | _ => none
def ldT (f : Nat) : Option Bool := match f with
 | 33 => some false
 | 34 => some false
 | 36 => some false
 | 37 => some false
 | 54 => some false
 | 55 => some false
 | 68 => some false
 | _ => none
@[simp] theorem ld_eq (f : FuncId) : Globals.ld f = ldT f := rfl
@[simp] theorem ix_eq (f : FuncId) : Globals.ix f = false := rfl
attribute [simp] ldT
@[simp] theorem opd_first (tm : List T) : opd tm (.global 2) = .c (.fptr (tabBC first) 0) := opd_tabBV rfl
@[simp] theorem opd_ranges (tm : List T) : opd tm (.global 3) = .c (.fptr (tabPC ranges) 0) := opd_tabPV rfl
@[simp high] theorem load_first (i : Int) : loadAt Go.Proofs.YtkdlblpidghjcaaDoor.tyTab 5 (tabBC first) (natI i) = (tabI first i).map fun x => .c (.lit (.int .u8 x)) := loadAt_tabBC Go.Proofs.YtkdlblpidghjcaaDoor.ty5 rfl _ _
@[simp high] theorem load_ranges (i : Int) : loadAt Go.Proofs.YtkdlblpidghjcaaDoor.tyTab 134 (tabPC ranges) (natI i * 2) = (tabI ranges i).map fun p => .agg [.lit (.int .u8 p.1), .lit (.int .u8 p.2)] := loadAt_tabPC Go.Proofs.YtkdlblpidghjcaaDoor.ty134 rfl rfl _ _
end Go.Vid

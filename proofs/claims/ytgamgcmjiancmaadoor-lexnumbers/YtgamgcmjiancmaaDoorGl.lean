/- What the program's listed variables hold, and which of its functions is a byte's search. No condition. -/
import Derived.Test.YtgamgcmjiancmaaDoorVV
import Derived.Test.YtgamgcmjiancmaaDoorTy
import GoSem.PinnedTables
namespace Go.Vid
open Go.Vabs
def first : List Int := Go.Pinned.utf8FirstZ.map fun (n : Nat) => (n : Int)
def ranges : List (Int × Int) := [(128, 191), (160, 191), (128, 159), (144, 191), (128, 143)] ++ List.replicate 11 (0, 0)
instance glob : Globals where
  gl g := match g with
    | 0 => some (tabBV first)
    | 1 => some (tabPV ranges)
    | _ => none
  ix f := f == 44
@[simp] theorem ix_eq (f : FuncId) : Globals.ix f = (f == 44) := rfl
@[simp] theorem opd_first (tm : List T) : opd tm (.global 0) = .c (.fptr (tabBC first) 0) := opd_tabBV rfl
@[simp] theorem opd_ranges (tm : List T) : opd tm (.global 1) = .c (.fptr (tabPC ranges) 0) := opd_tabPV rfl
@[simp high] theorem load_first (i : Int) : loadAt Go.Proofs.YtgamgcmjiancmaaDoor.tyTab 5 (tabBC first) (natI i) = (tabI first i).map fun x => .c (.lit (.int .u8 x)) := loadAt_tabBC Go.Proofs.YtgamgcmjiancmaaDoor.ty5 rfl _ _
@[simp high] theorem load_ranges (i : Int) : loadAt Go.Proofs.YtgamgcmjiancmaaDoor.tyTab 69 (tabPC ranges) (natI i * 2) = (tabI ranges i).map fun p => .agg [.lit (.int .u8 p.1), .lit (.int .u8 p.2)] := loadAt_tabPC Go.Proofs.YtgamgcmjiancmaaDoor.ty69 rfl rfl _ _
@[simp] theorem ieq_10 : ieq 1 0 = false := rfl
@[simp] theorem ieq_11 : ieq 1 1 = true := rfl
end Go.Vid

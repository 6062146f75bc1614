/- Tables, and what is known plainly of functions that aren't walked. No condition. -/
import Derived.Test.YtadllpehekphmaaDoorVidB
import GoSem.PinnedTables
import Derived.Test.YtadllpehekphmaaDoorTy
namespace Go.Vid
open Go.Vabs
def first:List Int:=Go.Pinned.utf8FirstZ.map fun (n:Nat)=>(n:Int)
def ranges:List (Int × Int):=[(128,191),(160,191),(128,159),(144,191),(128,143)]++List.replicate 11 (0,0)
def ref03_Figures (n:Int):Option ByteArray:=if -9223372036854775807≤n∧n≤9223372036854775807 then some (numeral n) else none
@[simp] theorem ieq_10:ieq 1 0=false:=rfl
@[simp] theorem ieq_11:ieq 1 1=true:=rfl
end Go.Vid
namespace Go.Vid
open Go.Vabs
instance glob:Globals where
 gl g:=match g with
  | 0=>some (tabBV first)
  | 1=>some (tabPV ranges)
  | 2=>some (Go.Lib.pow10Tab.map fun (n:Int)=>Value.int .u64 n)
  | _=>none
 ix f:=f==81
 ld f:=match f with
  | 23=>some false
  | 26=>some false
  | 44=>some false
  | 45=>some false
  | 55=>some false
  | 56=>some false
  | 58=>some false
  | 59=>some false
  | _=>none
 pn f:=match f with
  | 44=>true
  | 55=>true
  | 56=>true
  | 58=>true
  | 59=>true
  | _=>false
 eq t:=match t with
  | 47=>true
  | 49=>true
  | 53=>true
  | _=>false
instance prims0:Prims where
 pr f args:=match f with
  | 42=>prItoa args
  | 46=>prJoin args
  | 45=>prCheck 56 5 args
  | 26=>prStr 56 5 args
  | _=>none
def ldT (f:Nat):Option Bool:=match f with
 | 23=>some false
 | 26=>some false
 | 44=>some false
 | 45=>some false
 | 55=>some false
 | 56=>some false
 | 58=>some false
 | 59=>some false
 | _=>none
def pnT (f:Nat):Bool:=match f with
 | 44=>true
 | 55=>true
 | 56=>true
 | 58=>true
 | 59=>true
 | _=>false
@[simp] theorem ld_eq (f:FuncId):Globals.ld f=ldT f:=rfl
@[simp] theorem pn_eq (f:FuncId):Globals.pn f=pnT f:=rfl
@[simp] theorem ix_eq (f:FuncId):Globals.ix f=(f==81):=rfl
def eqT (t:Nat):Bool:=match t with
 | 47=>true
 | 49=>true
 | 53=>true
 | _=>false
@[simp] theorem eq_eq (t:TypeId):Globals.eq t=eqT t:=rfl
attribute [simp] ldT pnT eqT
@[simp] theorem opd_first (tm:List T):opd tm (.global 0)=.c (.fptr (tabBC first) 0):=opd_tabBV rfl
@[simp] theorem opd_ranges (tm:List T):opd tm (.global 1)=.c (.fptr (tabPC ranges) 0):=opd_tabPV rfl
@[simp high] theorem load_first (i:Int):loadAt Go.Proofs.YtadllpehekphmaaDoor.tyTab 5 (tabBC first) (natI i)=(tabI first i).map fun x=>.c (.lit (.int .u8 x)):=loadAt_tabBC Go.Proofs.YtadllpehekphmaaDoor.ty5 rfl _ _
@[simp high] theorem load_ranges (i:Int):loadAt Go.Proofs.YtadllpehekphmaaDoor.tyTab 128 (tabPC ranges) (natI i*2)=(tabI ranges i).map fun p=>.agg [.lit (.int .u8 p.1),.lit (.int .u8 p.2)]:=loadAt_tabPC Go.Proofs.YtadllpehekphmaaDoor.ty128 rfl rfl _ _
end Go.Vid

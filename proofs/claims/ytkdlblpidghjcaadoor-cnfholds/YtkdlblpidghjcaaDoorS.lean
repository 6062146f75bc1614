/- Data of a seat's own kinds. No condition. -/
import Derived.Test.YtkdlblpidghjcaaDoorVW
set_option linter.unusedSimpArgs false
namespace Go.Vid
open Go.Vabs
structure At_ref03 where
 b : List (Int)
 n : Int
 bad : Int
@[simp] def At_ref03.cells (x : At_ref03) : List C := [sls 1 byteF x.b, C.lit (.int .i64 x.n), C.lit (.int .i64 x.bad)]
structure CnfModelsIn_law03 where
 m : List (Bool)
 b : List (Int)
 n : Int
 f : Cnf
@[simp] def CnfModelsIn_law03.cells (x : CnfModelsIn_law03) : List C := [sls 1 boolF x.m, sls 1 byteF x.b, C.lit (.int .i64 x.n), C.lit (.int .i64 x.f.N), sls 1 rowF x.f.cs]
structure CnfHoldsIn_law03 where
 f : Cnf
 m : List (Bool)
 c : List (Int)
 l : Int
@[simp] def CnfHoldsIn_law03.cells (x : CnfHoldsIn_law03) : List C := [C.lit (.int .i64 x.f.N), sls 1 rowF x.f.cs, sls 1 boolF x.m, sls 1 intF x.c, C.lit (.int .i64 x.l)]
structure CnfApartIn_law03 where
 f : Cnf
 g : Cnf
 m : List (Bool)
 n : List (Bool)
@[simp] def CnfApartIn_law03.cells (x : CnfApartIn_law03) : List C := [C.lit (.int .i64 x.f.N), sls 1 rowF x.f.cs, C.lit (.int .i64 x.g.N), sls 1 rowF x.g.cs, sls 1 boolF x.m, sls 1 boolF x.n]
structure Reader_cnf where
 b : List (Int)
 at' : Int
 e : Int
@[simp] def Reader_cnf.cells (x : Reader_cnf) : List C := [sls 1 byteF x.b, C.lit (.int .i64 x.at'), C.lit (.int .i64 x.e)]
end Go.Vid

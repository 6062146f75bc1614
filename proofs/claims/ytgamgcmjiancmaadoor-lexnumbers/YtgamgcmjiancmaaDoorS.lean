/- Data of a seat's own kinds. No condition. -/
import Derived.Test.YtgamgcmjiancmaaDoorVV
set_option linter.unusedSimpArgs false
namespace Go.Vid
open Go.Vabs
structure LexNamesIn_law01 where
  b : List (Int)
  at' : Int
  s : ByteArray
  n : Int
@[simp] def LexNamesIn_law01.cells (x : LexNamesIn_law01) : List C := [sls 1 byteF x.b, C.lit (.int .i64 x.at'), C.lit (.string x.s), C.lit (.int .i64 x.n)]
structure LexAheadIn_law01 where
  a : List (Int)
  b : List (Int)
  at' : Int
  most : Int
@[simp] def LexAheadIn_law01.cells (x : LexAheadIn_law01) : List C := [sls 1 byteF x.a, sls 1 byteF x.b, C.lit (.int .i64 x.at'), C.lit (.int .i64 x.most)]
structure LexNumbersIn_law01 where
  n : Int
  most : Int
  a : List (Int)
  b : List (Int)
@[simp] def LexNumbersIn_law01.cells (x : LexNumbersIn_law01) : List C := [C.lit (.int .u32 x.n), C.lit (.int .i64 x.most), sls 1 byteF x.a, sls 1 byteF x.b]
structure LexWordsIn_law01 where
  b : List (Int)
  at' : Int
  s : ByteArray
  t : ByteArray
@[simp] def LexWordsIn_law01.cells (x : LexWordsIn_law01) : List C := [sls 1 byteF x.b, C.lit (.int .i64 x.at'), C.lit (.string x.s), C.lit (.string x.t)]
end Go.Vid

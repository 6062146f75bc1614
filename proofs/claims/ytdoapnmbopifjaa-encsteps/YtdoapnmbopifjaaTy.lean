/- The types that a seat's functions use, held against the program. No condition. -/
import Derived.Test.YtdoapnmbopifjaaProg
import Derived.KernelRfl
import Derived.Test.YtdoapnmbopifjaaVU
namespace Go.Proofs.Ytdoapnmbopifjaa
open Go.Vabs
def row2 : Ty := { k := .int .i64, size := 1, bytes := 8, zero := some [.int .i64 0], fields := [] }
def row3 : Ty := { k := .int .i64, size := 1, bytes := 8, zero := some [.int .i64 0], fields := [] }
def row4 : Ty := { k := .bool, size := 1, bytes := 1, zero := some [.bool false], fields := [] }
def row5 : Ty := { k := .int .u8, size := 1, bytes := 1, zero := some [.int .u8 0], fields := [] }
def row9 : Ty := { k := .str, size := 1, bytes := 16, zero := some [.string ⟨#[]⟩], fields := [] }
def row12 : Ty := { k := .int .u64, size := 1, bytes := 8, zero := some [.int .u64 0], fields := [] }
def row13 : Ty := { k := .struct, size := 2, bytes := 24, zero := some [.string ⟨#[]⟩, .int .u64 0], fields := [(0, 9), (1, 12)] }
def row21 : Ty := { k := .int .i32, size := 1, bytes := 4, zero := some [.int .i32 0], fields := [] }
def row22 : Ty := { k := .slice 72, size := 1, bytes := 24, zero := some [.slice none 0 0], fields := [] }
def row23 : Ty := { k := .slice 69, size := 1, bytes := 24, zero := some [.slice none 0 0], fields := [] }
def row24 : Ty := { k := .slice 3, size := 1, bytes := 24, zero := some [.slice none 0 0], fields := [] }
def row25 : Ty := { k := .slice 79, size := 1, bytes := 24, zero := some [.slice none 0 0], fields := [] }
def row26 : Ty := { k := .struct, size := 7, bytes := 152, zero := some [.int .i64 0, .slice none 0 0, .slice none 0 0, .slice none 0 0, .slice none 0 0, .slice none 0 0, .slice none 0 0], fields := [(0, 3), (1, 22), (2, 23), (3, 24), (4, 24), (5, 24), (6, 25)] }
def row27 : Ty := { k := .struct, size := 7, bytes := 152, zero := some [.int .i64 0, .slice none 0 0, .slice none 0 0, .slice none 0 0, .slice none 0 0, .slice none 0 0, .slice none 0 0], fields := [(0, 3), (1, 22), (2, 23), (3, 24), (4, 24), (5, 24), (6, 25)] }
def row28 : Ty := { k := .slice 4, size := 1, bytes := 24, zero := some [.slice none 0 0], fields := [] }
def row36 : Ty := { k := .slice 24, size := 1, bytes := 24, zero := some [.slice none 0 0], fields := [] }
def row38 : Ty := { k := .struct, size := 2, bytes := 32, zero := some [.int .i64 0, .slice none 0 0], fields := [(0, 3), (1, 36)] }
def row39 : Ty := { k := .struct, size := 2, bytes := 32, zero := some [.int .i64 0, .slice none 0 0], fields := [(0, 3), (1, 36)] }
def row48 : Ty := { k := .struct, size := 10, bytes := 208, zero := some [.int .i64 0, .slice none 0 0, .slice none 0 0, .slice none 0 0, .slice none 0 0, .slice none 0 0, .slice none 0 0, .slice none 0 0, .slice none 0 0, .int .i64 0], fields := [(0, 27), (7, 28), (8, 28), (9, 3)] }
def row49 : Ty := { k := .struct, size := 10, bytes := 208, zero := some [.int .i64 0, .slice none 0 0, .slice none 0 0, .slice none 0 0, .slice none 0 0, .slice none 0 0, .slice none 0 0, .slice none 0 0, .slice none 0 0, .int .i64 0], fields := [(0, 27), (7, 28), (8, 28), (9, 3)] }
def row55 : Ty := { k := .array 2 28, size := 2, bytes := 48, zero := some [.slice none 0 0, .slice none 0 0], fields := [] }
def row56 : Ty := { k := .struct, size := 11, bytes := 248, zero := some [.int .i64 0, .slice none 0 0, .slice none 0 0, .slice none 0 0, .slice none 0 0, .slice none 0 0, .slice none 0 0, .slice none 0 0, .slice none 0 0, .slice none 0 0, .slice none 0 0], fields := [(0, 27), (7, 28), (8, 55), (10, 28)] }
def row57 : Ty := { k := .struct, size := 11, bytes := 248, zero := some [.int .i64 0, .slice none 0 0, .slice none 0 0, .slice none 0 0, .slice none 0 0, .slice none 0 0, .slice none 0 0, .slice none 0 0, .slice none 0 0, .slice none 0 0, .slice none 0 0], fields := [(0, 27), (7, 28), (8, 55), (10, 28)] }
def row58 : Ty := { k := .array 3 28, size := 3, bytes := 72, zero := some [.slice none 0 0, .slice none 0 0, .slice none 0 0], fields := [] }
def row65 : Ty := { k := .struct, size := 11, bytes := 232, zero := some [.int .i64 0, .slice none 0 0, .slice none 0 0, .slice none 0 0, .slice none 0 0, .slice none 0 0, .slice none 0 0, .slice none 0 0, .slice none 0 0, .slice none 0 0, .int .i64 0], fields := [(0, 27), (7, 28), (8, 55), (10, 3)] }
def row66 : Ty := { k := .struct, size := 11, bytes := 232, zero := some [.int .i64 0, .slice none 0 0, .slice none 0 0, .slice none 0 0, .slice none 0 0, .slice none 0 0, .slice none 0 0, .slice none 0 0, .slice none 0 0, .slice none 0 0, .int .i64 0], fields := [(0, 27), (7, 28), (8, 55), (10, 3)] }
def row68 : Ty := { k := .struct, size := 2, bytes := 16, zero := some [.int .i64 0, .int .i64 0], fields := [(0, 3), (1, 3)] }
def row69 : Ty := { k := .struct, size := 2, bytes := 16, zero := some [.int .i64 0, .int .i64 0], fields := [(0, 3), (1, 3)] }
def row71 : Ty := { k := .struct, size := 2, bytes := 16, zero := some [.int .i64 0, .int .i64 0], fields := [(0, 3), (1, 3)] }
def row72 : Ty := { k := .struct, size := 2, bytes := 16, zero := some [.int .i64 0, .int .i64 0], fields := [(0, 3), (1, 3)] }
def row78 : Ty := { k := .struct, size := 3, bytes := 32, zero := some [.int .u8 0, .int .i64 0, .string ⟨#[]⟩], fields := [(0, 5), (1, 3), (2, 9)] }
def row79 : Ty := { k := .struct, size := 3, bytes := 32, zero := some [.int .u8 0, .int .i64 0, .string ⟨#[]⟩], fields := [(0, 5), (1, 3), (2, 9)] }
def row84 : Ty := { k := .slice 36, size := 1, bytes := 24, zero := some [.slice none 0 0], fields := [] }
def row88 : Ty := { k := .slice 5, size := 1, bytes := 24, zero := some [.slice none 0 0], fields := [] }
def row97 : Ty := { k := .int .u32, size := 1, bytes := 4, zero := some [.int .u32 0], fields := [] }
def row101 : Ty := { k := .other, size := 1, bytes := 8, zero := some [.pointer none], fields := [] }
def tyTab : Nat → Option Ty
  | 2 => some row2
  | 3 => some row3
  | 4 => some row4
  | 5 => some row5
  | 9 => some row9
  | 12 => some row12
  | 13 => some row13
  | 21 => some row21
  | 22 => some row22
  | 23 => some row23
  | 24 => some row24
  | 25 => some row25
  | 26 => some row26
  | 27 => some row27
  | 28 => some row28
  | 36 => some row36
  | 38 => some row38
  | 39 => some row39
  | 48 => some row48
  | 49 => some row49
  | 55 => some row55
  | 56 => some row56
  | 57 => some row57
  | 58 => some row58
  | 65 => some row65
  | 66 => some row66
  | 68 => some row68
  | 69 => some row69
  | 71 => some row71
  | 72 => some row72
  | 78 => some row78
  | 79 => some row79
  | 84 => some row84
  | 88 => some row88
  | 97 => some row97
  | 101 => some row101
  | _ => none
section
@[simp] theorem tyK2 : (tyTab 2).map Ty.k = some (.int .i64) := rfl
@[simp] theorem tyB2 : (tyTab 2).map (fun y => (y.bytes, y.zero.map List.length)) = some (8, some 1) := rfl
@[simp] theorem tyY2 : (tyTab 2).map Ty.bytes = some 8 := rfl
@[simp] theorem tyS2 : (tyTab 2).map Ty.size = some 1 := rfl
@[simp] theorem tyE2 : Vabs.elemOf tyTab 2 = none := rfl
@[simp] theorem tyA2 : arrOf tyTab 2 = none := rfl
@[simp] theorem tyL2 (cs : List C) (off : Nat) : loadAt tyTab 2 cs off = (cs[off]?).map .c := rfl
@[simp] theorem tyZ2 : ((tyTab 2).bind Ty.zero).bind lits = some [.lit (.int .i64 0)] := rfl
@[simp] theorem tyK3 : (tyTab 3).map Ty.k = some (.int .i64) := rfl
@[simp] theorem tyB3 : (tyTab 3).map (fun y => (y.bytes, y.zero.map List.length)) = some (8, some 1) := rfl
@[simp] theorem tyY3 : (tyTab 3).map Ty.bytes = some 8 := rfl
@[simp] theorem tyS3 : (tyTab 3).map Ty.size = some 1 := rfl
@[simp] theorem tyE3 : Vabs.elemOf tyTab 3 = none := rfl
@[simp] theorem tyA3 : arrOf tyTab 3 = none := rfl
@[simp] theorem tyL3 (cs : List C) (off : Nat) : loadAt tyTab 3 cs off = (cs[off]?).map .c := rfl
@[simp] theorem tyZ3 : ((tyTab 3).bind Ty.zero).bind lits = some [.lit (.int .i64 0)] := rfl
@[simp] theorem tyK4 : (tyTab 4).map Ty.k = some (.bool) := rfl
@[simp] theorem tyB4 : (tyTab 4).map (fun y => (y.bytes, y.zero.map List.length)) = some (1, some 1) := rfl
@[simp] theorem tyY4 : (tyTab 4).map Ty.bytes = some 1 := rfl
@[simp] theorem tyS4 : (tyTab 4).map Ty.size = some 1 := rfl
@[simp] theorem tyE4 : Vabs.elemOf tyTab 4 = none := rfl
@[simp] theorem tyA4 : arrOf tyTab 4 = none := rfl
@[simp] theorem tyL4 (cs : List C) (off : Nat) : loadAt tyTab 4 cs off = (cs[off]?).map .c := rfl
@[simp] theorem tyZ4 : ((tyTab 4).bind Ty.zero).bind lits = some [.lit (.bool false)] := rfl
@[simp] theorem tyK5 : (tyTab 5).map Ty.k = some (.int .u8) := rfl
@[simp] theorem tyB5 : (tyTab 5).map (fun y => (y.bytes, y.zero.map List.length)) = some (1, some 1) := rfl
@[simp] theorem tyY5 : (tyTab 5).map Ty.bytes = some 1 := rfl
@[simp] theorem tyS5 : (tyTab 5).map Ty.size = some 1 := rfl
@[simp] theorem tyE5 : Vabs.elemOf tyTab 5 = none := rfl
@[simp] theorem tyA5 : arrOf tyTab 5 = none := rfl
@[simp] theorem tyL5 (cs : List C) (off : Nat) : loadAt tyTab 5 cs off = (cs[off]?).map .c := rfl
@[simp] theorem tyZ5 : ((tyTab 5).bind Ty.zero).bind lits = some [.lit (.int .u8 0)] := rfl
@[simp] theorem tyK9 : (tyTab 9).map Ty.k = some (.str) := rfl
@[simp] theorem tyB9 : (tyTab 9).map (fun y => (y.bytes, y.zero.map List.length)) = some (16, some 1) := rfl
@[simp] theorem tyY9 : (tyTab 9).map Ty.bytes = some 16 := rfl
@[simp] theorem tyS9 : (tyTab 9).map Ty.size = some 1 := rfl
@[simp] theorem tyE9 : Vabs.elemOf tyTab 9 = none := rfl
@[simp] theorem tyA9 : arrOf tyTab 9 = none := rfl
@[simp] theorem tyL9 (cs : List C) (off : Nat) : loadAt tyTab 9 cs off = (cs[off]?).map .c := rfl
@[simp] theorem tyZ9 : ((tyTab 9).bind Ty.zero).bind lits = some [.lit (.string ⟨#[]⟩)] := rfl
@[simp] theorem tyK12 : (tyTab 12).map Ty.k = some (.int .u64) := rfl
@[simp] theorem tyB12 : (tyTab 12).map (fun y => (y.bytes, y.zero.map List.length)) = some (8, some 1) := rfl
@[simp] theorem tyY12 : (tyTab 12).map Ty.bytes = some 8 := rfl
@[simp] theorem tyS12 : (tyTab 12).map Ty.size = some 1 := rfl
@[simp] theorem tyE12 : Vabs.elemOf tyTab 12 = none := rfl
@[simp] theorem tyA12 : arrOf tyTab 12 = none := rfl
@[simp] theorem tyL12 (cs : List C) (off : Nat) : loadAt tyTab 12 cs off = (cs[off]?).map .c := rfl
@[simp] theorem tyZ12 : ((tyTab 12).bind Ty.zero).bind lits = some [.lit (.int .u64 0)] := rfl
@[simp] theorem tyK13 : (tyTab 13).map Ty.k = some (.struct) := rfl
@[simp] theorem tyB13 : (tyTab 13).map (fun y => (y.bytes, y.zero.map List.length)) = some (24, some 2) := rfl
@[simp] theorem tyY13 : (tyTab 13).map Ty.bytes = some 24 := rfl
@[simp] theorem tyD13 (parts : List (Nat × T)) : ((tyTab 13).bind fun y => buildT tyTab y parts) = fills (placeOf tyTab row13) [.lit (.string ⟨#[]⟩), .lit (.int .u64 0)] parts := rfl
@[simp] theorem tyP13_0 : placeOf tyTab row13 0 = some (0, 1) := rfl
@[simp] theorem tyP13_1 : placeOf tyTab row13 1 = some (1, 1) := rfl
@[simp] theorem tyS13 : (tyTab 13).map Ty.size = some 2 := rfl
@[simp] theorem tyE13 : Vabs.elemOf tyTab 13 = none := rfl
@[simp] theorem tyA13 : arrOf tyTab 13 = none := rfl
@[simp] theorem tyL13 (cs : List C) (off : Nat) : loadAt tyTab 13 cs off = if off + 2 ≤ cs.length then some (.agg ((cs.drop off).take 2)) else none := rfl
@[simp] theorem tyZ13 : ((tyTab 13).bind Ty.zero).bind lits = some [.lit (.string ⟨#[]⟩), .lit (.int .u64 0)] := rfl
@[simp] theorem tyF13_0 : fieldOf tyTab 13 0 = some (0, 9) := rfl
@[simp] theorem tyF13_1 : fieldOf tyTab 13 1 = some (1, 12) := rfl
@[simp] theorem tyK21 : (tyTab 21).map Ty.k = some (.int .i32) := rfl
@[simp] theorem tyB21 : (tyTab 21).map (fun y => (y.bytes, y.zero.map List.length)) = some (4, some 1) := rfl
@[simp] theorem tyY21 : (tyTab 21).map Ty.bytes = some 4 := rfl
@[simp] theorem tyS21 : (tyTab 21).map Ty.size = some 1 := rfl
@[simp] theorem tyE21 : Vabs.elemOf tyTab 21 = none := rfl
@[simp] theorem tyA21 : arrOf tyTab 21 = none := rfl
@[simp] theorem tyL21 (cs : List C) (off : Nat) : loadAt tyTab 21 cs off = (cs[off]?).map .c := rfl
@[simp] theorem tyZ21 : ((tyTab 21).bind Ty.zero).bind lits = some [.lit (.int .i32 0)] := rfl
@[simp] theorem tyK22 : (tyTab 22).map Ty.k = some (.slice 72) := rfl
@[simp] theorem tyB22 : (tyTab 22).map (fun y => (y.bytes, y.zero.map List.length)) = some (24, some 1) := rfl
@[simp] theorem tyY22 : (tyTab 22).map Ty.bytes = some 24 := rfl
@[simp] theorem tyS22 : (tyTab 22).map Ty.size = some 1 := rfl
@[simp] theorem tyE22 : Vabs.elemOf tyTab 22 = some (72, 2) := rfl
@[simp] theorem tyA22 : arrOf tyTab 22 = none := rfl
@[simp] theorem tyL22 (cs : List C) (off : Nat) : loadAt tyTab 22 cs off = (cs[off]?).map .c := rfl
@[simp] theorem tyZ22 : ((tyTab 22).bind Ty.zero).bind lits = some [.lit (.slice none 0 0)] := rfl
@[simp] theorem tyK23 : (tyTab 23).map Ty.k = some (.slice 69) := rfl
@[simp] theorem tyB23 : (tyTab 23).map (fun y => (y.bytes, y.zero.map List.length)) = some (24, some 1) := rfl
@[simp] theorem tyY23 : (tyTab 23).map Ty.bytes = some 24 := rfl
@[simp] theorem tyS23 : (tyTab 23).map Ty.size = some 1 := rfl
@[simp] theorem tyE23 : Vabs.elemOf tyTab 23 = some (69, 2) := rfl
@[simp] theorem tyA23 : arrOf tyTab 23 = none := rfl
@[simp] theorem tyL23 (cs : List C) (off : Nat) : loadAt tyTab 23 cs off = (cs[off]?).map .c := rfl
@[simp] theorem tyZ23 : ((tyTab 23).bind Ty.zero).bind lits = some [.lit (.slice none 0 0)] := rfl
@[simp] theorem tyK24 : (tyTab 24).map Ty.k = some (.slice 3) := rfl
@[simp] theorem tyB24 : (tyTab 24).map (fun y => (y.bytes, y.zero.map List.length)) = some (24, some 1) := rfl
@[simp] theorem tyY24 : (tyTab 24).map Ty.bytes = some 24 := rfl
@[simp] theorem tyS24 : (tyTab 24).map Ty.size = some 1 := rfl
@[simp] theorem tyE24 : Vabs.elemOf tyTab 24 = some (3, 1) := rfl
@[simp] theorem tyA24 : arrOf tyTab 24 = none := rfl
@[simp] theorem tyL24 (cs : List C) (off : Nat) : loadAt tyTab 24 cs off = (cs[off]?).map .c := rfl
@[simp] theorem tyZ24 : ((tyTab 24).bind Ty.zero).bind lits = some [.lit (.slice none 0 0)] := rfl
@[simp] theorem tyK25 : (tyTab 25).map Ty.k = some (.slice 79) := rfl
@[simp] theorem tyB25 : (tyTab 25).map (fun y => (y.bytes, y.zero.map List.length)) = some (24, some 1) := rfl
@[simp] theorem tyY25 : (tyTab 25).map Ty.bytes = some 24 := rfl
@[simp] theorem tyS25 : (tyTab 25).map Ty.size = some 1 := rfl
@[simp] theorem tyE25 : Vabs.elemOf tyTab 25 = some (79, 3) := rfl
@[simp] theorem tyA25 : arrOf tyTab 25 = none := rfl
@[simp] theorem tyL25 (cs : List C) (off : Nat) : loadAt tyTab 25 cs off = (cs[off]?).map .c := rfl
@[simp] theorem tyZ25 : ((tyTab 25).bind Ty.zero).bind lits = some [.lit (.slice none 0 0)] := rfl
@[simp] theorem tyK26 : (tyTab 26).map Ty.k = some (.struct) := rfl
@[simp] theorem tyB26 : (tyTab 26).map (fun y => (y.bytes, y.zero.map List.length)) = some (152, some 7) := rfl
@[simp] theorem tyY26 : (tyTab 26).map Ty.bytes = some 152 := rfl
@[simp] theorem tyD26 (parts : List (Nat × T)) : ((tyTab 26).bind fun y => buildT tyTab y parts) = fills (placeOf tyTab row26) [.lit (.int .i64 0), .lit (.slice none 0 0), .lit (.slice none 0 0), .lit (.slice none 0 0), .lit (.slice none 0 0), .lit (.slice none 0 0), .lit (.slice none 0 0)] parts := rfl
@[simp] theorem tyP26_0 : placeOf tyTab row26 0 = some (0, 1) := rfl
@[simp] theorem tyP26_1 : placeOf tyTab row26 1 = some (1, 1) := rfl
@[simp] theorem tyP26_2 : placeOf tyTab row26 2 = some (2, 1) := rfl
@[simp] theorem tyP26_3 : placeOf tyTab row26 3 = some (3, 1) := rfl
@[simp] theorem tyP26_4 : placeOf tyTab row26 4 = some (4, 1) := rfl
@[simp] theorem tyP26_5 : placeOf tyTab row26 5 = some (5, 1) := rfl
@[simp] theorem tyP26_6 : placeOf tyTab row26 6 = some (6, 1) := rfl
@[simp] theorem tyS26 : (tyTab 26).map Ty.size = some 7 := rfl
@[simp] theorem tyE26 : Vabs.elemOf tyTab 26 = none := rfl
@[simp] theorem tyA26 : arrOf tyTab 26 = none := rfl
@[simp] theorem tyL26 (cs : List C) (off : Nat) : loadAt tyTab 26 cs off = if off + 7 ≤ cs.length then some (.agg ((cs.drop off).take 7)) else none := rfl
@[simp] theorem tyZ26 : ((tyTab 26).bind Ty.zero).bind lits = some [.lit (.int .i64 0), .lit (.slice none 0 0), .lit (.slice none 0 0), .lit (.slice none 0 0), .lit (.slice none 0 0), .lit (.slice none 0 0), .lit (.slice none 0 0)] := rfl
@[simp] theorem tyF26_0 : fieldOf tyTab 26 0 = some (0, 3) := rfl
@[simp] theorem tyF26_1 : fieldOf tyTab 26 1 = some (1, 22) := rfl
@[simp] theorem tyF26_2 : fieldOf tyTab 26 2 = some (2, 23) := rfl
@[simp] theorem tyF26_3 : fieldOf tyTab 26 3 = some (3, 24) := rfl
@[simp] theorem tyF26_4 : fieldOf tyTab 26 4 = some (4, 24) := rfl
@[simp] theorem tyF26_5 : fieldOf tyTab 26 5 = some (5, 24) := rfl
@[simp] theorem tyF26_6 : fieldOf tyTab 26 6 = some (6, 25) := rfl
@[simp] theorem tyK27 : (tyTab 27).map Ty.k = some (.struct) := rfl
@[simp] theorem tyB27 : (tyTab 27).map (fun y => (y.bytes, y.zero.map List.length)) = some (152, some 7) := rfl
@[simp] theorem tyY27 : (tyTab 27).map Ty.bytes = some 152 := rfl
@[simp] theorem tyD27 (parts : List (Nat × T)) : ((tyTab 27).bind fun y => buildT tyTab y parts) = fills (placeOf tyTab row27) [.lit (.int .i64 0), .lit (.slice none 0 0), .lit (.slice none 0 0), .lit (.slice none 0 0), .lit (.slice none 0 0), .lit (.slice none 0 0), .lit (.slice none 0 0)] parts := rfl
@[simp] theorem tyP27_0 : placeOf tyTab row27 0 = some (0, 1) := rfl
@[simp] theorem tyP27_1 : placeOf tyTab row27 1 = some (1, 1) := rfl
@[simp] theorem tyP27_2 : placeOf tyTab row27 2 = some (2, 1) := rfl
@[simp] theorem tyP27_3 : placeOf tyTab row27 3 = some (3, 1) := rfl
@[simp] theorem tyP27_4 : placeOf tyTab row27 4 = some (4, 1) := rfl
@[simp] theorem tyP27_5 : placeOf tyTab row27 5 = some (5, 1) := rfl
@[simp] theorem tyP27_6 : placeOf tyTab row27 6 = some (6, 1) := rfl
@[simp] theorem tyS27 : (tyTab 27).map Ty.size = some 7 := rfl
@[simp] theorem tyE27 : Vabs.elemOf tyTab 27 = none := rfl
@[simp] theorem tyA27 : arrOf tyTab 27 = none := rfl
@[simp] theorem tyL27 (cs : List C) (off : Nat) : loadAt tyTab 27 cs off = if off + 7 ≤ cs.length then some (.agg ((cs.drop off).take 7)) else none := rfl
@[simp] theorem tyZ27 : ((tyTab 27).bind Ty.zero).bind lits = some [.lit (.int .i64 0), .lit (.slice none 0 0), .lit (.slice none 0 0), .lit (.slice none 0 0), .lit (.slice none 0 0), .lit (.slice none 0 0), .lit (.slice none 0 0)] := rfl
@[simp] theorem tyF27_0 : fieldOf tyTab 27 0 = some (0, 3) := rfl
@[simp] theorem tyF27_1 : fieldOf tyTab 27 1 = some (1, 22) := rfl
@[simp] theorem tyF27_2 : fieldOf tyTab 27 2 = some (2, 23) := rfl
@[simp] theorem tyF27_3 : fieldOf tyTab 27 3 = some (3, 24) := rfl
@[simp] theorem tyF27_4 : fieldOf tyTab 27 4 = some (4, 24) := rfl
@[simp] theorem tyF27_5 : fieldOf tyTab 27 5 = some (5, 24) := rfl
@[simp] theorem tyF27_6 : fieldOf tyTab 27 6 = some (6, 25) := rfl
@[simp] theorem tyK28 : (tyTab 28).map Ty.k = some (.slice 4) := rfl
@[simp] theorem tyB28 : (tyTab 28).map (fun y => (y.bytes, y.zero.map List.length)) = some (24, some 1) := rfl
@[simp] theorem tyY28 : (tyTab 28).map Ty.bytes = some 24 := rfl
@[simp] theorem tyS28 : (tyTab 28).map Ty.size = some 1 := rfl
@[simp] theorem tyE28 : Vabs.elemOf tyTab 28 = some (4, 1) := rfl
@[simp] theorem tyA28 : arrOf tyTab 28 = none := rfl
@[simp] theorem tyL28 (cs : List C) (off : Nat) : loadAt tyTab 28 cs off = (cs[off]?).map .c := rfl
@[simp] theorem tyZ28 : ((tyTab 28).bind Ty.zero).bind lits = some [.lit (.slice none 0 0)] := rfl
@[simp] theorem tyK36 : (tyTab 36).map Ty.k = some (.slice 24) := rfl
@[simp] theorem tyB36 : (tyTab 36).map (fun y => (y.bytes, y.zero.map List.length)) = some (24, some 1) := rfl
@[simp] theorem tyY36 : (tyTab 36).map Ty.bytes = some 24 := rfl
@[simp] theorem tyS36 : (tyTab 36).map Ty.size = some 1 := rfl
@[simp] theorem tyE36 : Vabs.elemOf tyTab 36 = some (24, 1) := rfl
@[simp] theorem tyA36 : arrOf tyTab 36 = none := rfl
@[simp] theorem tyL36 (cs : List C) (off : Nat) : loadAt tyTab 36 cs off = (cs[off]?).map .c := rfl
@[simp] theorem tyZ36 : ((tyTab 36).bind Ty.zero).bind lits = some [.lit (.slice none 0 0)] := rfl
@[simp] theorem tyK38 : (tyTab 38).map Ty.k = some (.struct) := rfl
@[simp] theorem tyB38 : (tyTab 38).map (fun y => (y.bytes, y.zero.map List.length)) = some (32, some 2) := rfl
@[simp] theorem tyY38 : (tyTab 38).map Ty.bytes = some 32 := rfl
@[simp] theorem tyD38 (parts : List (Nat × T)) : ((tyTab 38).bind fun y => buildT tyTab y parts) = fills (placeOf tyTab row38) [.lit (.int .i64 0), .lit (.slice none 0 0)] parts := rfl
@[simp] theorem tyP38_0 : placeOf tyTab row38 0 = some (0, 1) := rfl
@[simp] theorem tyP38_1 : placeOf tyTab row38 1 = some (1, 1) := rfl
@[simp] theorem tyS38 : (tyTab 38).map Ty.size = some 2 := rfl
@[simp] theorem tyE38 : Vabs.elemOf tyTab 38 = none := rfl
@[simp] theorem tyA38 : arrOf tyTab 38 = none := rfl
@[simp] theorem tyL38 (cs : List C) (off : Nat) : loadAt tyTab 38 cs off = if off + 2 ≤ cs.length then some (.agg ((cs.drop off).take 2)) else none := rfl
@[simp] theorem tyZ38 : ((tyTab 38).bind Ty.zero).bind lits = some [.lit (.int .i64 0), .lit (.slice none 0 0)] := rfl
@[simp] theorem tyF38_0 : fieldOf tyTab 38 0 = some (0, 3) := rfl
@[simp] theorem tyF38_1 : fieldOf tyTab 38 1 = some (1, 36) := rfl
@[simp] theorem tyK39 : (tyTab 39).map Ty.k = some (.struct) := rfl
@[simp] theorem tyB39 : (tyTab 39).map (fun y => (y.bytes, y.zero.map List.length)) = some (32, some 2) := rfl
@[simp] theorem tyY39 : (tyTab 39).map Ty.bytes = some 32 := rfl
@[simp] theorem tyD39 (parts : List (Nat × T)) : ((tyTab 39).bind fun y => buildT tyTab y parts) = fills (placeOf tyTab row39) [.lit (.int .i64 0), .lit (.slice none 0 0)] parts := rfl
@[simp] theorem tyP39_0 : placeOf tyTab row39 0 = some (0, 1) := rfl
@[simp] theorem tyP39_1 : placeOf tyTab row39 1 = some (1, 1) := rfl
@[simp] theorem tyS39 : (tyTab 39).map Ty.size = some 2 := rfl
@[simp] theorem tyE39 : Vabs.elemOf tyTab 39 = none := rfl
@[simp] theorem tyA39 : arrOf tyTab 39 = none := rfl
@[simp] theorem tyL39 (cs : List C) (off : Nat) : loadAt tyTab 39 cs off = if off + 2 ≤ cs.length then some (.agg ((cs.drop off).take 2)) else none := rfl
@[simp] theorem tyZ39 : ((tyTab 39).bind Ty.zero).bind lits = some [.lit (.int .i64 0), .lit (.slice none 0 0)] := rfl
@[simp] theorem tyF39_0 : fieldOf tyTab 39 0 = some (0, 3) := rfl
@[simp] theorem tyF39_1 : fieldOf tyTab 39 1 = some (1, 36) := rfl
@[simp] theorem tyK48 : (tyTab 48).map Ty.k = some (.struct) := rfl
@[simp] theorem tyB48 : (tyTab 48).map (fun y => (y.bytes, y.zero.map List.length)) = some (208, some 10) := rfl
@[simp] theorem tyY48 : (tyTab 48).map Ty.bytes = some 208 := rfl
@[simp] theorem tyD48 (parts : List (Nat × T)) : ((tyTab 48).bind fun y => buildT tyTab y parts) = fills (placeOf tyTab row48) [.lit (.int .i64 0), .lit (.slice none 0 0), .lit (.slice none 0 0), .lit (.slice none 0 0), .lit (.slice none 0 0), .lit (.slice none 0 0), .lit (.slice none 0 0), .lit (.slice none 0 0), .lit (.slice none 0 0), .lit (.int .i64 0)] parts := rfl
@[simp] theorem tyP48_0 : placeOf tyTab row48 0 = some (0, 7) := rfl
@[simp] theorem tyP48_1 : placeOf tyTab row48 1 = some (7, 1) := rfl
@[simp] theorem tyP48_2 : placeOf tyTab row48 2 = some (8, 1) := rfl
@[simp] theorem tyP48_3 : placeOf tyTab row48 3 = some (9, 1) := rfl
@[simp] theorem tyS48 : (tyTab 48).map Ty.size = some 10 := rfl
@[simp] theorem tyE48 : Vabs.elemOf tyTab 48 = none := rfl
@[simp] theorem tyA48 : arrOf tyTab 48 = none := rfl
@[simp] theorem tyL48 (cs : List C) (off : Nat) : loadAt tyTab 48 cs off = if off + 10 ≤ cs.length then some (.agg ((cs.drop off).take 10)) else none := rfl
@[simp] theorem tyZ48 : ((tyTab 48).bind Ty.zero).bind lits = some [.lit (.int .i64 0), .lit (.slice none 0 0), .lit (.slice none 0 0), .lit (.slice none 0 0), .lit (.slice none 0 0), .lit (.slice none 0 0), .lit (.slice none 0 0), .lit (.slice none 0 0), .lit (.slice none 0 0), .lit (.int .i64 0)] := rfl
@[simp] theorem tyF48_0 : fieldOf tyTab 48 0 = some (0, 27) := rfl
@[simp] theorem tyF48_1 : fieldOf tyTab 48 1 = some (7, 28) := rfl
@[simp] theorem tyF48_2 : fieldOf tyTab 48 2 = some (8, 28) := rfl
@[simp] theorem tyF48_3 : fieldOf tyTab 48 3 = some (9, 3) := rfl
@[simp] theorem tyK49 : (tyTab 49).map Ty.k = some (.struct) := rfl
@[simp] theorem tyB49 : (tyTab 49).map (fun y => (y.bytes, y.zero.map List.length)) = some (208, some 10) := rfl
@[simp] theorem tyY49 : (tyTab 49).map Ty.bytes = some 208 := rfl
@[simp] theorem tyD49 (parts : List (Nat × T)) : ((tyTab 49).bind fun y => buildT tyTab y parts) = fills (placeOf tyTab row49) [.lit (.int .i64 0), .lit (.slice none 0 0), .lit (.slice none 0 0), .lit (.slice none 0 0), .lit (.slice none 0 0), .lit (.slice none 0 0), .lit (.slice none 0 0), .lit (.slice none 0 0), .lit (.slice none 0 0), .lit (.int .i64 0)] parts := rfl
@[simp] theorem tyP49_0 : placeOf tyTab row49 0 = some (0, 7) := rfl
@[simp] theorem tyP49_1 : placeOf tyTab row49 1 = some (7, 1) := rfl
@[simp] theorem tyP49_2 : placeOf tyTab row49 2 = some (8, 1) := rfl
@[simp] theorem tyP49_3 : placeOf tyTab row49 3 = some (9, 1) := rfl
@[simp] theorem tyS49 : (tyTab 49).map Ty.size = some 10 := rfl
@[simp] theorem tyE49 : Vabs.elemOf tyTab 49 = none := rfl
@[simp] theorem tyA49 : arrOf tyTab 49 = none := rfl
@[simp] theorem tyL49 (cs : List C) (off : Nat) : loadAt tyTab 49 cs off = if off + 10 ≤ cs.length then some (.agg ((cs.drop off).take 10)) else none := rfl
@[simp] theorem tyZ49 : ((tyTab 49).bind Ty.zero).bind lits = some [.lit (.int .i64 0), .lit (.slice none 0 0), .lit (.slice none 0 0), .lit (.slice none 0 0), .lit (.slice none 0 0), .lit (.slice none 0 0), .lit (.slice none 0 0), .lit (.slice none 0 0), .lit (.slice none 0 0), .lit (.int .i64 0)] := rfl
@[simp] theorem tyF49_0 : fieldOf tyTab 49 0 = some (0, 27) := rfl
@[simp] theorem tyF49_1 : fieldOf tyTab 49 1 = some (7, 28) := rfl
@[simp] theorem tyF49_2 : fieldOf tyTab 49 2 = some (8, 28) := rfl
@[simp] theorem tyF49_3 : fieldOf tyTab 49 3 = some (9, 3) := rfl
@[simp] theorem tyK55 : (tyTab 55).map Ty.k = some (.array 2 28) := rfl
@[simp] theorem tyB55 : (tyTab 55).map (fun y => (y.bytes, y.zero.map List.length)) = some (48, some 2) := rfl
@[simp] theorem tyY55 : (tyTab 55).map Ty.bytes = some 48 := rfl
@[simp] theorem tyD55 (parts : List (Nat × T)) : ((tyTab 55).bind fun y => buildT tyTab y parts) = fills (fun i => some (i * 1, 1)) [.lit (.slice none 0 0), .lit (.slice none 0 0)] parts := rfl
@[simp] theorem tyS55 : (tyTab 55).map Ty.size = some 2 := rfl
@[simp] theorem tyE55 : Vabs.elemOf tyTab 55 = none := rfl
@[simp] theorem tyA55 : arrOf tyTab 55 = some (2, 1) := rfl
@[simp] theorem tyL55 (cs : List C) (off : Nat) : loadAt tyTab 55 cs off = if off + 2 ≤ cs.length then some (.agg ((cs.drop off).take 2)) else none := rfl
@[simp] theorem tyZ55 : ((tyTab 55).bind Ty.zero).bind lits = some [.lit (.slice none 0 0), .lit (.slice none 0 0)] := rfl
@[simp] theorem tyK56 : (tyTab 56).map Ty.k = some (.struct) := rfl
@[simp] theorem tyB56 : (tyTab 56).map (fun y => (y.bytes, y.zero.map List.length)) = some (248, some 11) := rfl
@[simp] theorem tyY56 : (tyTab 56).map Ty.bytes = some 248 := rfl
@[simp] theorem tyD56 (parts : List (Nat × T)) : ((tyTab 56).bind fun y => buildT tyTab y parts) = fills (placeOf tyTab row56) [.lit (.int .i64 0), .lit (.slice none 0 0), .lit (.slice none 0 0), .lit (.slice none 0 0), .lit (.slice none 0 0), .lit (.slice none 0 0), .lit (.slice none 0 0), .lit (.slice none 0 0), .lit (.slice none 0 0), .lit (.slice none 0 0), .lit (.slice none 0 0)] parts := rfl
@[simp] theorem tyP56_0 : placeOf tyTab row56 0 = some (0, 7) := rfl
@[simp] theorem tyP56_1 : placeOf tyTab row56 1 = some (7, 1) := rfl
@[simp] theorem tyP56_2 : placeOf tyTab row56 2 = some (8, 2) := rfl
@[simp] theorem tyP56_3 : placeOf tyTab row56 3 = some (10, 1) := rfl
@[simp] theorem tyS56 : (tyTab 56).map Ty.size = some 11 := rfl
@[simp] theorem tyE56 : Vabs.elemOf tyTab 56 = none := rfl
@[simp] theorem tyA56 : arrOf tyTab 56 = none := rfl
@[simp] theorem tyL56 (cs : List C) (off : Nat) : loadAt tyTab 56 cs off = if off + 11 ≤ cs.length then some (.agg ((cs.drop off).take 11)) else none := rfl
@[simp] theorem tyZ56 : ((tyTab 56).bind Ty.zero).bind lits = some [.lit (.int .i64 0), .lit (.slice none 0 0), .lit (.slice none 0 0), .lit (.slice none 0 0), .lit (.slice none 0 0), .lit (.slice none 0 0), .lit (.slice none 0 0), .lit (.slice none 0 0), .lit (.slice none 0 0), .lit (.slice none 0 0), .lit (.slice none 0 0)] := rfl
@[simp] theorem tyF56_0 : fieldOf tyTab 56 0 = some (0, 27) := rfl
@[simp] theorem tyF56_1 : fieldOf tyTab 56 1 = some (7, 28) := rfl
@[simp] theorem tyF56_2 : fieldOf tyTab 56 2 = some (8, 55) := rfl
@[simp] theorem tyF56_3 : fieldOf tyTab 56 3 = some (10, 28) := rfl
@[simp] theorem tyK57 : (tyTab 57).map Ty.k = some (.struct) := rfl
@[simp] theorem tyB57 : (tyTab 57).map (fun y => (y.bytes, y.zero.map List.length)) = some (248, some 11) := rfl
@[simp] theorem tyY57 : (tyTab 57).map Ty.bytes = some 248 := rfl
@[simp] theorem tyD57 (parts : List (Nat × T)) : ((tyTab 57).bind fun y => buildT tyTab y parts) = fills (placeOf tyTab row57) [.lit (.int .i64 0), .lit (.slice none 0 0), .lit (.slice none 0 0), .lit (.slice none 0 0), .lit (.slice none 0 0), .lit (.slice none 0 0), .lit (.slice none 0 0), .lit (.slice none 0 0), .lit (.slice none 0 0), .lit (.slice none 0 0), .lit (.slice none 0 0)] parts := rfl
@[simp] theorem tyP57_0 : placeOf tyTab row57 0 = some (0, 7) := rfl
@[simp] theorem tyP57_1 : placeOf tyTab row57 1 = some (7, 1) := rfl
@[simp] theorem tyP57_2 : placeOf tyTab row57 2 = some (8, 2) := rfl
@[simp] theorem tyP57_3 : placeOf tyTab row57 3 = some (10, 1) := rfl
@[simp] theorem tyS57 : (tyTab 57).map Ty.size = some 11 := rfl
@[simp] theorem tyE57 : Vabs.elemOf tyTab 57 = none := rfl
@[simp] theorem tyA57 : arrOf tyTab 57 = none := rfl
@[simp] theorem tyL57 (cs : List C) (off : Nat) : loadAt tyTab 57 cs off = if off + 11 ≤ cs.length then some (.agg ((cs.drop off).take 11)) else none := rfl
@[simp] theorem tyZ57 : ((tyTab 57).bind Ty.zero).bind lits = some [.lit (.int .i64 0), .lit (.slice none 0 0), .lit (.slice none 0 0), .lit (.slice none 0 0), .lit (.slice none 0 0), .lit (.slice none 0 0), .lit (.slice none 0 0), .lit (.slice none 0 0), .lit (.slice none 0 0), .lit (.slice none 0 0), .lit (.slice none 0 0)] := rfl
@[simp] theorem tyF57_0 : fieldOf tyTab 57 0 = some (0, 27) := rfl
@[simp] theorem tyF57_1 : fieldOf tyTab 57 1 = some (7, 28) := rfl
@[simp] theorem tyF57_2 : fieldOf tyTab 57 2 = some (8, 55) := rfl
@[simp] theorem tyF57_3 : fieldOf tyTab 57 3 = some (10, 28) := rfl
@[simp] theorem tyK58 : (tyTab 58).map Ty.k = some (.array 3 28) := rfl
@[simp] theorem tyB58 : (tyTab 58).map (fun y => (y.bytes, y.zero.map List.length)) = some (72, some 3) := rfl
@[simp] theorem tyY58 : (tyTab 58).map Ty.bytes = some 72 := rfl
@[simp] theorem tyD58 (parts : List (Nat × T)) : ((tyTab 58).bind fun y => buildT tyTab y parts) = fills (fun i => some (i * 1, 1)) [.lit (.slice none 0 0), .lit (.slice none 0 0), .lit (.slice none 0 0)] parts := rfl
@[simp] theorem tyS58 : (tyTab 58).map Ty.size = some 3 := rfl
@[simp] theorem tyE58 : Vabs.elemOf tyTab 58 = none := rfl
@[simp] theorem tyA58 : arrOf tyTab 58 = some (3, 1) := rfl
@[simp] theorem tyL58 (cs : List C) (off : Nat) : loadAt tyTab 58 cs off = if off + 3 ≤ cs.length then some (.agg ((cs.drop off).take 3)) else none := rfl
@[simp] theorem tyZ58 : ((tyTab 58).bind Ty.zero).bind lits = some [.lit (.slice none 0 0), .lit (.slice none 0 0), .lit (.slice none 0 0)] := rfl
@[simp] theorem tyK65 : (tyTab 65).map Ty.k = some (.struct) := rfl
@[simp] theorem tyB65 : (tyTab 65).map (fun y => (y.bytes, y.zero.map List.length)) = some (232, some 11) := rfl
@[simp] theorem tyY65 : (tyTab 65).map Ty.bytes = some 232 := rfl
@[simp] theorem tyD65 (parts : List (Nat × T)) : ((tyTab 65).bind fun y => buildT tyTab y parts) = fills (placeOf tyTab row65) [.lit (.int .i64 0), .lit (.slice none 0 0), .lit (.slice none 0 0), .lit (.slice none 0 0), .lit (.slice none 0 0), .lit (.slice none 0 0), .lit (.slice none 0 0), .lit (.slice none 0 0), .lit (.slice none 0 0), .lit (.slice none 0 0), .lit (.int .i64 0)] parts := rfl
@[simp] theorem tyP65_0 : placeOf tyTab row65 0 = some (0, 7) := rfl
@[simp] theorem tyP65_1 : placeOf tyTab row65 1 = some (7, 1) := rfl
@[simp] theorem tyP65_2 : placeOf tyTab row65 2 = some (8, 2) := rfl
@[simp] theorem tyP65_3 : placeOf tyTab row65 3 = some (10, 1) := rfl
@[simp] theorem tyS65 : (tyTab 65).map Ty.size = some 11 := rfl
@[simp] theorem tyE65 : Vabs.elemOf tyTab 65 = none := rfl
@[simp] theorem tyA65 : arrOf tyTab 65 = none := rfl
@[simp] theorem tyL65 (cs : List C) (off : Nat) : loadAt tyTab 65 cs off = if off + 11 ≤ cs.length then some (.agg ((cs.drop off).take 11)) else none := rfl
@[simp] theorem tyZ65 : ((tyTab 65).bind Ty.zero).bind lits = some [.lit (.int .i64 0), .lit (.slice none 0 0), .lit (.slice none 0 0), .lit (.slice none 0 0), .lit (.slice none 0 0), .lit (.slice none 0 0), .lit (.slice none 0 0), .lit (.slice none 0 0), .lit (.slice none 0 0), .lit (.slice none 0 0), .lit (.int .i64 0)] := rfl
@[simp] theorem tyF65_0 : fieldOf tyTab 65 0 = some (0, 27) := rfl
@[simp] theorem tyF65_1 : fieldOf tyTab 65 1 = some (7, 28) := rfl
@[simp] theorem tyF65_2 : fieldOf tyTab 65 2 = some (8, 55) := rfl
@[simp] theorem tyF65_3 : fieldOf tyTab 65 3 = some (10, 3) := rfl
@[simp] theorem tyK66 : (tyTab 66).map Ty.k = some (.struct) := rfl
@[simp] theorem tyB66 : (tyTab 66).map (fun y => (y.bytes, y.zero.map List.length)) = some (232, some 11) := rfl
@[simp] theorem tyY66 : (tyTab 66).map Ty.bytes = some 232 := rfl
@[simp] theorem tyD66 (parts : List (Nat × T)) : ((tyTab 66).bind fun y => buildT tyTab y parts) = fills (placeOf tyTab row66) [.lit (.int .i64 0), .lit (.slice none 0 0), .lit (.slice none 0 0), .lit (.slice none 0 0), .lit (.slice none 0 0), .lit (.slice none 0 0), .lit (.slice none 0 0), .lit (.slice none 0 0), .lit (.slice none 0 0), .lit (.slice none 0 0), .lit (.int .i64 0)] parts := rfl
@[simp] theorem tyP66_0 : placeOf tyTab row66 0 = some (0, 7) := rfl
@[simp] theorem tyP66_1 : placeOf tyTab row66 1 = some (7, 1) := rfl
@[simp] theorem tyP66_2 : placeOf tyTab row66 2 = some (8, 2) := rfl
@[simp] theorem tyP66_3 : placeOf tyTab row66 3 = some (10, 1) := rfl
@[simp] theorem tyS66 : (tyTab 66).map Ty.size = some 11 := rfl
@[simp] theorem tyE66 : Vabs.elemOf tyTab 66 = none := rfl
@[simp] theorem tyA66 : arrOf tyTab 66 = none := rfl
@[simp] theorem tyL66 (cs : List C) (off : Nat) : loadAt tyTab 66 cs off = if off + 11 ≤ cs.length then some (.agg ((cs.drop off).take 11)) else none := rfl
@[simp] theorem tyZ66 : ((tyTab 66).bind Ty.zero).bind lits = some [.lit (.int .i64 0), .lit (.slice none 0 0), .lit (.slice none 0 0), .lit (.slice none 0 0), .lit (.slice none 0 0), .lit (.slice none 0 0), .lit (.slice none 0 0), .lit (.slice none 0 0), .lit (.slice none 0 0), .lit (.slice none 0 0), .lit (.int .i64 0)] := rfl
@[simp] theorem tyF66_0 : fieldOf tyTab 66 0 = some (0, 27) := rfl
@[simp] theorem tyF66_1 : fieldOf tyTab 66 1 = some (7, 28) := rfl
@[simp] theorem tyF66_2 : fieldOf tyTab 66 2 = some (8, 55) := rfl
@[simp] theorem tyF66_3 : fieldOf tyTab 66 3 = some (10, 3) := rfl
@[simp] theorem tyK68 : (tyTab 68).map Ty.k = some (.struct) := rfl
@[simp] theorem tyB68 : (tyTab 68).map (fun y => (y.bytes, y.zero.map List.length)) = some (16, some 2) := rfl
@[simp] theorem tyY68 : (tyTab 68).map Ty.bytes = some 16 := rfl
@[simp] theorem tyD68 (parts : List (Nat × T)) : ((tyTab 68).bind fun y => buildT tyTab y parts) = fills (placeOf tyTab row68) [.lit (.int .i64 0), .lit (.int .i64 0)] parts := rfl
@[simp] theorem tyP68_0 : placeOf tyTab row68 0 = some (0, 1) := rfl
@[simp] theorem tyP68_1 : placeOf tyTab row68 1 = some (1, 1) := rfl
@[simp] theorem tyS68 : (tyTab 68).map Ty.size = some 2 := rfl
@[simp] theorem tyE68 : Vabs.elemOf tyTab 68 = none := rfl
@[simp] theorem tyA68 : arrOf tyTab 68 = none := rfl
@[simp] theorem tyL68 (cs : List C) (off : Nat) : loadAt tyTab 68 cs off = if off + 2 ≤ cs.length then some (.agg ((cs.drop off).take 2)) else none := rfl
@[simp] theorem tyZ68 : ((tyTab 68).bind Ty.zero).bind lits = some [.lit (.int .i64 0), .lit (.int .i64 0)] := rfl
@[simp] theorem tyF68_0 : fieldOf tyTab 68 0 = some (0, 3) := rfl
@[simp] theorem tyF68_1 : fieldOf tyTab 68 1 = some (1, 3) := rfl
@[simp] theorem tyK69 : (tyTab 69).map Ty.k = some (.struct) := rfl
@[simp] theorem tyB69 : (tyTab 69).map (fun y => (y.bytes, y.zero.map List.length)) = some (16, some 2) := rfl
@[simp] theorem tyY69 : (tyTab 69).map Ty.bytes = some 16 := rfl
@[simp] theorem tyD69 (parts : List (Nat × T)) : ((tyTab 69).bind fun y => buildT tyTab y parts) = fills (placeOf tyTab row69) [.lit (.int .i64 0), .lit (.int .i64 0)] parts := rfl
@[simp] theorem tyP69_0 : placeOf tyTab row69 0 = some (0, 1) := rfl
@[simp] theorem tyP69_1 : placeOf tyTab row69 1 = some (1, 1) := rfl
@[simp] theorem tyS69 : (tyTab 69).map Ty.size = some 2 := rfl
@[simp] theorem tyE69 : Vabs.elemOf tyTab 69 = none := rfl
@[simp] theorem tyA69 : arrOf tyTab 69 = none := rfl
@[simp] theorem tyL69 (cs : List C) (off : Nat) : loadAt tyTab 69 cs off = if off + 2 ≤ cs.length then some (.agg ((cs.drop off).take 2)) else none := rfl
@[simp] theorem tyZ69 : ((tyTab 69).bind Ty.zero).bind lits = some [.lit (.int .i64 0), .lit (.int .i64 0)] := rfl
@[simp] theorem tyF69_0 : fieldOf tyTab 69 0 = some (0, 3) := rfl
@[simp] theorem tyF69_1 : fieldOf tyTab 69 1 = some (1, 3) := rfl
@[simp] theorem tyK71 : (tyTab 71).map Ty.k = some (.struct) := rfl
@[simp] theorem tyB71 : (tyTab 71).map (fun y => (y.bytes, y.zero.map List.length)) = some (16, some 2) := rfl
@[simp] theorem tyY71 : (tyTab 71).map Ty.bytes = some 16 := rfl
@[simp] theorem tyD71 (parts : List (Nat × T)) : ((tyTab 71).bind fun y => buildT tyTab y parts) = fills (placeOf tyTab row71) [.lit (.int .i64 0), .lit (.int .i64 0)] parts := rfl
@[simp] theorem tyP71_0 : placeOf tyTab row71 0 = some (0, 1) := rfl
@[simp] theorem tyP71_1 : placeOf tyTab row71 1 = some (1, 1) := rfl
@[simp] theorem tyS71 : (tyTab 71).map Ty.size = some 2 := rfl
@[simp] theorem tyE71 : Vabs.elemOf tyTab 71 = none := rfl
@[simp] theorem tyA71 : arrOf tyTab 71 = none := rfl
@[simp] theorem tyL71 (cs : List C) (off : Nat) : loadAt tyTab 71 cs off = if off + 2 ≤ cs.length then some (.agg ((cs.drop off).take 2)) else none := rfl
@[simp] theorem tyZ71 : ((tyTab 71).bind Ty.zero).bind lits = some [.lit (.int .i64 0), .lit (.int .i64 0)] := rfl
@[simp] theorem tyF71_0 : fieldOf tyTab 71 0 = some (0, 3) := rfl
@[simp] theorem tyF71_1 : fieldOf tyTab 71 1 = some (1, 3) := rfl
@[simp] theorem tyK72 : (tyTab 72).map Ty.k = some (.struct) := rfl
@[simp] theorem tyB72 : (tyTab 72).map (fun y => (y.bytes, y.zero.map List.length)) = some (16, some 2) := rfl
@[simp] theorem tyY72 : (tyTab 72).map Ty.bytes = some 16 := rfl
@[simp] theorem tyD72 (parts : List (Nat × T)) : ((tyTab 72).bind fun y => buildT tyTab y parts) = fills (placeOf tyTab row72) [.lit (.int .i64 0), .lit (.int .i64 0)] parts := rfl
@[simp] theorem tyP72_0 : placeOf tyTab row72 0 = some (0, 1) := rfl
@[simp] theorem tyP72_1 : placeOf tyTab row72 1 = some (1, 1) := rfl
@[simp] theorem tyS72 : (tyTab 72).map Ty.size = some 2 := rfl
@[simp] theorem tyE72 : Vabs.elemOf tyTab 72 = none := rfl
@[simp] theorem tyA72 : arrOf tyTab 72 = none := rfl
@[simp] theorem tyL72 (cs : List C) (off : Nat) : loadAt tyTab 72 cs off = if off + 2 ≤ cs.length then some (.agg ((cs.drop off).take 2)) else none := rfl
@[simp] theorem tyZ72 : ((tyTab 72).bind Ty.zero).bind lits = some [.lit (.int .i64 0), .lit (.int .i64 0)] := rfl
@[simp] theorem tyF72_0 : fieldOf tyTab 72 0 = some (0, 3) := rfl
@[simp] theorem tyF72_1 : fieldOf tyTab 72 1 = some (1, 3) := rfl
@[simp] theorem tyK78 : (tyTab 78).map Ty.k = some (.struct) := rfl
@[simp] theorem tyB78 : (tyTab 78).map (fun y => (y.bytes, y.zero.map List.length)) = some (32, some 3) := rfl
@[simp] theorem tyY78 : (tyTab 78).map Ty.bytes = some 32 := rfl
@[simp] theorem tyD78 (parts : List (Nat × T)) : ((tyTab 78).bind fun y => buildT tyTab y parts) = fills (placeOf tyTab row78) [.lit (.int .u8 0), .lit (.int .i64 0), .lit (.string ⟨#[]⟩)] parts := rfl
@[simp] theorem tyP78_0 : placeOf tyTab row78 0 = some (0, 1) := rfl
@[simp] theorem tyP78_1 : placeOf tyTab row78 1 = some (1, 1) := rfl
@[simp] theorem tyP78_2 : placeOf tyTab row78 2 = some (2, 1) := rfl
@[simp] theorem tyS78 : (tyTab 78).map Ty.size = some 3 := rfl
@[simp] theorem tyE78 : Vabs.elemOf tyTab 78 = none := rfl
@[simp] theorem tyA78 : arrOf tyTab 78 = none := rfl
@[simp] theorem tyL78 (cs : List C) (off : Nat) : loadAt tyTab 78 cs off = if off + 3 ≤ cs.length then some (.agg ((cs.drop off).take 3)) else none := rfl
@[simp] theorem tyZ78 : ((tyTab 78).bind Ty.zero).bind lits = some [.lit (.int .u8 0), .lit (.int .i64 0), .lit (.string ⟨#[]⟩)] := rfl
@[simp] theorem tyF78_0 : fieldOf tyTab 78 0 = some (0, 5) := rfl
@[simp] theorem tyF78_1 : fieldOf tyTab 78 1 = some (1, 3) := rfl
@[simp] theorem tyF78_2 : fieldOf tyTab 78 2 = some (2, 9) := rfl
@[simp] theorem tyK79 : (tyTab 79).map Ty.k = some (.struct) := rfl
@[simp] theorem tyB79 : (tyTab 79).map (fun y => (y.bytes, y.zero.map List.length)) = some (32, some 3) := rfl
@[simp] theorem tyY79 : (tyTab 79).map Ty.bytes = some 32 := rfl
@[simp] theorem tyD79 (parts : List (Nat × T)) : ((tyTab 79).bind fun y => buildT tyTab y parts) = fills (placeOf tyTab row79) [.lit (.int .u8 0), .lit (.int .i64 0), .lit (.string ⟨#[]⟩)] parts := rfl
@[simp] theorem tyP79_0 : placeOf tyTab row79 0 = some (0, 1) := rfl
@[simp] theorem tyP79_1 : placeOf tyTab row79 1 = some (1, 1) := rfl
@[simp] theorem tyP79_2 : placeOf tyTab row79 2 = some (2, 1) := rfl
@[simp] theorem tyS79 : (tyTab 79).map Ty.size = some 3 := rfl
@[simp] theorem tyE79 : Vabs.elemOf tyTab 79 = none := rfl
@[simp] theorem tyA79 : arrOf tyTab 79 = none := rfl
@[simp] theorem tyL79 (cs : List C) (off : Nat) : loadAt tyTab 79 cs off = if off + 3 ≤ cs.length then some (.agg ((cs.drop off).take 3)) else none := rfl
@[simp] theorem tyZ79 : ((tyTab 79).bind Ty.zero).bind lits = some [.lit (.int .u8 0), .lit (.int .i64 0), .lit (.string ⟨#[]⟩)] := rfl
@[simp] theorem tyF79_0 : fieldOf tyTab 79 0 = some (0, 5) := rfl
@[simp] theorem tyF79_1 : fieldOf tyTab 79 1 = some (1, 3) := rfl
@[simp] theorem tyF79_2 : fieldOf tyTab 79 2 = some (2, 9) := rfl
@[simp] theorem tyK84 : (tyTab 84).map Ty.k = some (.slice 36) := rfl
@[simp] theorem tyB84 : (tyTab 84).map (fun y => (y.bytes, y.zero.map List.length)) = some (24, some 1) := rfl
@[simp] theorem tyY84 : (tyTab 84).map Ty.bytes = some 24 := rfl
@[simp] theorem tyS84 : (tyTab 84).map Ty.size = some 1 := rfl
@[simp] theorem tyE84 : Vabs.elemOf tyTab 84 = some (36, 1) := rfl
@[simp] theorem tyA84 : arrOf tyTab 84 = none := rfl
@[simp] theorem tyL84 (cs : List C) (off : Nat) : loadAt tyTab 84 cs off = (cs[off]?).map .c := rfl
@[simp] theorem tyZ84 : ((tyTab 84).bind Ty.zero).bind lits = some [.lit (.slice none 0 0)] := rfl
@[simp] theorem tyK88 : (tyTab 88).map Ty.k = some (.slice 5) := rfl
@[simp] theorem tyB88 : (tyTab 88).map (fun y => (y.bytes, y.zero.map List.length)) = some (24, some 1) := rfl
@[simp] theorem tyY88 : (tyTab 88).map Ty.bytes = some 24 := rfl
@[simp] theorem tyS88 : (tyTab 88).map Ty.size = some 1 := rfl
@[simp] theorem tyE88 : Vabs.elemOf tyTab 88 = some (5, 1) := rfl
@[simp] theorem tyA88 : arrOf tyTab 88 = none := rfl
@[simp] theorem tyL88 (cs : List C) (off : Nat) : loadAt tyTab 88 cs off = (cs[off]?).map .c := rfl
@[simp] theorem tyZ88 : ((tyTab 88).bind Ty.zero).bind lits = some [.lit (.slice none 0 0)] := rfl
@[simp] theorem tyK97 : (tyTab 97).map Ty.k = some (.int .u32) := rfl
@[simp] theorem tyB97 : (tyTab 97).map (fun y => (y.bytes, y.zero.map List.length)) = some (4, some 1) := rfl
@[simp] theorem tyY97 : (tyTab 97).map Ty.bytes = some 4 := rfl
@[simp] theorem tyS97 : (tyTab 97).map Ty.size = some 1 := rfl
@[simp] theorem tyE97 : Vabs.elemOf tyTab 97 = none := rfl
@[simp] theorem tyA97 : arrOf tyTab 97 = none := rfl
@[simp] theorem tyL97 (cs : List C) (off : Nat) : loadAt tyTab 97 cs off = (cs[off]?).map .c := rfl
@[simp] theorem tyZ97 : ((tyTab 97).bind Ty.zero).bind lits = some [.lit (.int .u32 0)] := rfl
@[simp] theorem tyK101 : (tyTab 101).map Ty.k = some (.other) := rfl
@[simp] theorem tyB101 : (tyTab 101).map (fun y => (y.bytes, y.zero.map List.length)) = some (8, some 1) := rfl
@[simp] theorem tyY101 : (tyTab 101).map Ty.bytes = some 8 := rfl
@[simp] theorem tyS101 : (tyTab 101).map Ty.size = some 1 := rfl
@[simp] theorem tyE101 : Vabs.elemOf tyTab 101 = none := rfl
@[simp] theorem tyA101 : arrOf tyTab 101 = none := rfl
@[simp] theorem tyL101 (cs : List C) (off : Nat) : loadAt tyTab 101 cs off = (cs[off]?).map .c := rfl
@[simp] theorem tyZ101 : ((tyTab 101).bind Ty.zero).bind lits = some [.lit (.pointer none)] := rfl
@[simp] theorem tyN2 : layOf tyTab 5 2 = [none] := rfl
@[simp] theorem tyN3 : layOf tyTab 5 3 = [none] := rfl
@[simp] theorem tyN4 : layOf tyTab 5 4 = [none] := rfl
@[simp] theorem tyN5 : layOf tyTab 5 5 = [none] := rfl
@[simp] theorem tyN9 : layOf tyTab 5 9 = [none] := rfl
@[simp] theorem tyN12 : layOf tyTab 5 12 = [none] := rfl
@[simp] theorem tyN13 : layOf tyTab 5 13 = [none, none] := rfl
@[simp] theorem tyN21 : layOf tyTab 5 21 = [none] := rfl
@[simp] theorem tyN22 : layOf tyTab 5 22 = [some 2] := rfl
@[simp] theorem tyN23 : layOf tyTab 5 23 = [some 2] := rfl
@[simp] theorem tyN24 : layOf tyTab 5 24 = [some 1] := rfl
@[simp] theorem tyN25 : layOf tyTab 5 25 = [some 3] := rfl
@[simp] theorem tyN26 : layOf tyTab 5 26 = [none, some 2, some 2, some 1, some 1, some 1, some 3] := rfl
@[simp] theorem tyN27 : layOf tyTab 5 27 = [none, some 2, some 2, some 1, some 1, some 1, some 3] := rfl
@[simp] theorem tyN28 : layOf tyTab 5 28 = [some 1] := rfl
@[simp] theorem tyN36 : layOf tyTab 5 36 = [some 1] := rfl
@[simp] theorem tyN38 : layOf tyTab 5 38 = [none, some 1] := rfl
@[simp] theorem tyN39 : layOf tyTab 5 39 = [none, some 1] := rfl
@[simp] theorem tyN48 : layOf tyTab 5 48 = [none, some 2, some 2, some 1, some 1, some 1, some 3, some 1, some 1, none] := rfl
@[simp] theorem tyN49 : layOf tyTab 5 49 = [none, some 2, some 2, some 1, some 1, some 1, some 3, some 1, some 1, none] := rfl
@[simp] theorem tyN55 : layOf tyTab 5 55 = [some 1, some 1] := rfl
@[simp] theorem tyN56 : layOf tyTab 5 56 = [none, some 2, some 2, some 1, some 1, some 1, some 3, some 1, some 1, some 1, some 1] := rfl
@[simp] theorem tyN57 : layOf tyTab 5 57 = [none, some 2, some 2, some 1, some 1, some 1, some 3, some 1, some 1, some 1, some 1] := rfl
@[simp] theorem tyN58 : layOf tyTab 5 58 = [some 1, some 1, some 1] := rfl
@[simp] theorem tyN65 : layOf tyTab 5 65 = [none, some 2, some 2, some 1, some 1, some 1, some 3, some 1, some 1, some 1, none] := rfl
@[simp] theorem tyN66 : layOf tyTab 5 66 = [none, some 2, some 2, some 1, some 1, some 1, some 3, some 1, some 1, some 1, none] := rfl
@[simp] theorem tyN68 : layOf tyTab 5 68 = [none, none] := rfl
@[simp] theorem tyN69 : layOf tyTab 5 69 = [none, none] := rfl
@[simp] theorem tyN71 : layOf tyTab 5 71 = [none, none] := rfl
@[simp] theorem tyN72 : layOf tyTab 5 72 = [none, none] := rfl
@[simp] theorem tyN78 : layOf tyTab 5 78 = [none, none, none] := rfl
@[simp] theorem tyN79 : layOf tyTab 5 79 = [none, none, none] := rfl
@[simp] theorem tyN84 : layOf tyTab 5 84 = [some 1] := rfl
@[simp] theorem tyN88 : layOf tyTab 5 88 = [some 1] := rfl
@[simp] theorem tyN97 : layOf tyTab 5 97 = [none] := rfl
@[simp] theorem tyN101 : layOf tyTab 5 101 = [none] := rfl
@[simp] theorem tyM2 : layE tyTab 5 2 = [none] := rfl
@[simp] theorem tyM3 : layE tyTab 5 3 = [none] := rfl
@[simp] theorem tyM4 : layE tyTab 5 4 = [none] := rfl
@[simp] theorem tyM5 : layE tyTab 5 5 = [none] := rfl
@[simp] theorem tyM9 : layE tyTab 5 9 = [none] := rfl
@[simp] theorem tyM12 : layE tyTab 5 12 = [none] := rfl
@[simp] theorem tyM13 : layE tyTab 5 13 = [none, none] := rfl
@[simp] theorem tyM21 : layE tyTab 5 21 = [none] := rfl
@[simp] theorem tyM22 : layE tyTab 5 22 = [some (72, 2)] := rfl
@[simp] theorem tyM23 : layE tyTab 5 23 = [some (69, 2)] := rfl
@[simp] theorem tyM24 : layE tyTab 5 24 = [some (3, 1)] := rfl
@[simp] theorem tyM25 : layE tyTab 5 25 = [some (79, 3)] := rfl
@[simp] theorem tyM26 : layE tyTab 5 26 = [none, some (72, 2), some (69, 2), some (3, 1), some (3, 1), some (3, 1), some (79, 3)] := rfl
@[simp] theorem tyM27 : layE tyTab 5 27 = [none, some (72, 2), some (69, 2), some (3, 1), some (3, 1), some (3, 1), some (79, 3)] := rfl
@[simp] theorem tyM28 : layE tyTab 5 28 = [some (4, 1)] := rfl
@[simp] theorem tyM36 : layE tyTab 5 36 = [some (24, 1)] := rfl
@[simp] theorem tyM38 : layE tyTab 5 38 = [none, some (24, 1)] := rfl
@[simp] theorem tyM39 : layE tyTab 5 39 = [none, some (24, 1)] := rfl
@[simp] theorem tyM48 : layE tyTab 5 48 = [none, some (72, 2), some (69, 2), some (3, 1), some (3, 1), some (3, 1), some (79, 3), some (4, 1), some (4, 1), none] := rfl
@[simp] theorem tyM49 : layE tyTab 5 49 = [none, some (72, 2), some (69, 2), some (3, 1), some (3, 1), some (3, 1), some (79, 3), some (4, 1), some (4, 1), none] := rfl
@[simp] theorem tyM55 : layE tyTab 5 55 = [some (4, 1), some (4, 1)] := rfl
@[simp] theorem tyM56 : layE tyTab 5 56 = [none, some (72, 2), some (69, 2), some (3, 1), some (3, 1), some (3, 1), some (79, 3), some (4, 1), some (4, 1), some (4, 1), some (4, 1)] := rfl
@[simp] theorem tyM57 : layE tyTab 5 57 = [none, some (72, 2), some (69, 2), some (3, 1), some (3, 1), some (3, 1), some (79, 3), some (4, 1), some (4, 1), some (4, 1), some (4, 1)] := rfl
@[simp] theorem tyM58 : layE tyTab 5 58 = [some (4, 1), some (4, 1), some (4, 1)] := rfl
@[simp] theorem tyM65 : layE tyTab 5 65 = [none, some (72, 2), some (69, 2), some (3, 1), some (3, 1), some (3, 1), some (79, 3), some (4, 1), some (4, 1), some (4, 1), none] := rfl
@[simp] theorem tyM66 : layE tyTab 5 66 = [none, some (72, 2), some (69, 2), some (3, 1), some (3, 1), some (3, 1), some (79, 3), some (4, 1), some (4, 1), some (4, 1), none] := rfl
@[simp] theorem tyM68 : layE tyTab 5 68 = [none, none] := rfl
@[simp] theorem tyM69 : layE tyTab 5 69 = [none, none] := rfl
@[simp] theorem tyM71 : layE tyTab 5 71 = [none, none] := rfl
@[simp] theorem tyM72 : layE tyTab 5 72 = [none, none] := rfl
@[simp] theorem tyM78 : layE tyTab 5 78 = [none, none, none] := rfl
@[simp] theorem tyM79 : layE tyTab 5 79 = [none, none, none] := rfl
@[simp] theorem tyM84 : layE tyTab 5 84 = [some (36, 1)] := rfl
@[simp] theorem tyM88 : layE tyTab 5 88 = [some (5, 1)] := rfl
@[simp] theorem tyM97 : layE tyTab 5 97 = [none] := rfl
@[simp] theorem tyM101 : layE tyTab 5 101 = [none] := rfl
end
theorem ty2 : tyTab 2 = some row2 := rfl
theorem ty3 : tyTab 3 = some row3 := rfl
theorem ty4 : tyTab 4 = some row4 := rfl
theorem ty5 : tyTab 5 = some row5 := rfl
theorem ty9 : tyTab 9 = some row9 := rfl
theorem ty12 : tyTab 12 = some row12 := rfl
theorem ty13 : tyTab 13 = some row13 := rfl
theorem ty21 : tyTab 21 = some row21 := rfl
theorem ty22 : tyTab 22 = some row22 := rfl
theorem ty23 : tyTab 23 = some row23 := rfl
theorem ty24 : tyTab 24 = some row24 := rfl
theorem ty25 : tyTab 25 = some row25 := rfl
theorem ty26 : tyTab 26 = some row26 := rfl
theorem ty27 : tyTab 27 = some row27 := rfl
theorem ty28 : tyTab 28 = some row28 := rfl
theorem ty36 : tyTab 36 = some row36 := rfl
theorem ty38 : tyTab 38 = some row38 := rfl
theorem ty39 : tyTab 39 = some row39 := rfl
theorem ty48 : tyTab 48 = some row48 := rfl
theorem ty49 : tyTab 49 = some row49 := rfl
theorem ty55 : tyTab 55 = some row55 := rfl
theorem ty56 : tyTab 56 = some row56 := rfl
theorem ty57 : tyTab 57 = some row57 := rfl
theorem ty58 : tyTab 58 = some row58 := rfl
theorem ty65 : tyTab 65 = some row65 := rfl
theorem ty66 : tyTab 66 = some row66 := rfl
theorem ty68 : tyTab 68 = some row68 := rfl
theorem ty69 : tyTab 69 = some row69 := rfl
theorem ty71 : tyTab 71 = some row71 := rfl
theorem ty72 : tyTab 72 = some row72 := rfl
theorem ty78 : tyTab 78 = some row78 := rfl
theorem ty79 : tyTab 79 = some row79 := rfl
theorem ty84 : tyTab 84 = some row84 := rfl
theorem ty88 : tyTab 88 = some row88 := rfl
theorem ty97 : tyTab 97 = some row97 := rfl
theorem ty101 : tyTab 101 = some row101 := rfl
theorem tyOk2 : Ty.of Try.prog 2 = tyTab 2 := by kernel_rfl
theorem tyOk3 : Ty.of Try.prog 3 = tyTab 3 := by kernel_rfl
theorem tyOk4 : Ty.of Try.prog 4 = tyTab 4 := by kernel_rfl
theorem tyOk5 : Ty.of Try.prog 5 = tyTab 5 := by kernel_rfl
theorem tyOk9 : Ty.of Try.prog 9 = tyTab 9 := by kernel_rfl
theorem tyOk12 : Ty.of Try.prog 12 = tyTab 12 := by kernel_rfl
theorem tyOk13 : Ty.of Try.prog 13 = tyTab 13 := by kernel_rfl
theorem tyOk21 : Ty.of Try.prog 21 = tyTab 21 := by kernel_rfl
theorem tyOk22 : Ty.of Try.prog 22 = tyTab 22 := by kernel_rfl
theorem tyOk23 : Ty.of Try.prog 23 = tyTab 23 := by kernel_rfl
theorem tyOk24 : Ty.of Try.prog 24 = tyTab 24 := by kernel_rfl
theorem tyOk25 : Ty.of Try.prog 25 = tyTab 25 := by kernel_rfl
theorem tyOk26 : Ty.of Try.prog 26 = tyTab 26 := by kernel_rfl
theorem tyOk27 : Ty.of Try.prog 27 = tyTab 27 := by kernel_rfl
theorem tyOk28 : Ty.of Try.prog 28 = tyTab 28 := by kernel_rfl
theorem tyOk36 : Ty.of Try.prog 36 = tyTab 36 := by kernel_rfl
theorem tyOk38 : Ty.of Try.prog 38 = tyTab 38 := by kernel_rfl
theorem tyOk39 : Ty.of Try.prog 39 = tyTab 39 := by kernel_rfl
theorem tyOk48 : Ty.of Try.prog 48 = tyTab 48 := by kernel_rfl
theorem tyOk49 : Ty.of Try.prog 49 = tyTab 49 := by kernel_rfl
theorem tyOk55 : Ty.of Try.prog 55 = tyTab 55 := by kernel_rfl
theorem tyOk56 : Ty.of Try.prog 56 = tyTab 56 := by kernel_rfl
theorem tyOk57 : Ty.of Try.prog 57 = tyTab 57 := by kernel_rfl
theorem tyOk58 : Ty.of Try.prog 58 = tyTab 58 := by kernel_rfl
theorem tyOk65 : Ty.of Try.prog 65 = tyTab 65 := by kernel_rfl
theorem tyOk66 : Ty.of Try.prog 66 = tyTab 66 := by kernel_rfl
theorem tyOk68 : Ty.of Try.prog 68 = tyTab 68 := by kernel_rfl
theorem tyOk69 : Ty.of Try.prog 69 = tyTab 69 := by kernel_rfl
theorem tyOk71 : Ty.of Try.prog 71 = tyTab 71 := by kernel_rfl
theorem tyOk72 : Ty.of Try.prog 72 = tyTab 72 := by kernel_rfl
theorem tyOk78 : Ty.of Try.prog 78 = tyTab 78 := by kernel_rfl
theorem tyOk79 : Ty.of Try.prog 79 = tyTab 79 := by kernel_rfl
theorem tyOk84 : Ty.of Try.prog 84 = tyTab 84 := by kernel_rfl
theorem tyOk88 : Ty.of Try.prog 88 = tyTab 88 := by kernel_rfl
theorem tyOk97 : Ty.of Try.prog 97 = tyTab 97 := by kernel_rfl
theorem tyOk101 : Ty.of Try.prog 101 = tyTab 101 := by kernel_rfl
theorem tyOk : ∀ t y, tyTab t = some y → Ty.of Try.prog t = some y := by
  intro t y h
  rw [← h]
  unfold tyTab at h
  split at h
  · exact tyOk2
  · exact tyOk3
  · exact tyOk4
  · exact tyOk5
  · exact tyOk9
  · exact tyOk12
  · exact tyOk13
  · exact tyOk21
  · exact tyOk22
  · exact tyOk23
  · exact tyOk24
  · exact tyOk25
  · exact tyOk26
  · exact tyOk27
  · exact tyOk28
  · exact tyOk36
  · exact tyOk38
  · exact tyOk39
  · exact tyOk48
  · exact tyOk49
  · exact tyOk55
  · exact tyOk56
  · exact tyOk57
  · exact tyOk58
  · exact tyOk65
  · exact tyOk66
  · exact tyOk68
  · exact tyOk69
  · exact tyOk71
  · exact tyOk72
  · exact tyOk78
  · exact tyOk79
  · exact tyOk84
  · exact tyOk88
  · exact tyOk97
  · exact tyOk101
  · cases h
end Go.Proofs.Ytdoapnmbopifjaa

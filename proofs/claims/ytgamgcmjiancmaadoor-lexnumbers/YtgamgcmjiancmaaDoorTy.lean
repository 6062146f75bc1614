/- The types that a seat's functions use, held against the program. No condition. -/
import Derived.Test.YtgamgcmjiancmaaDoorProg
import Derived.KernelRfl
import Derived.Test.YtgamgcmjiancmaaDoorVU
namespace Go.Proofs.YtgamgcmjiancmaaDoor
open Go.Vabs
def row1 : Ty := { k := .other, size := 1, bytes := 8, zero := some [.nilFunc], fields := [] }
def row2 : Ty := { k := .int .i64, size := 1, bytes := 8, zero := some [.int .i64 0], fields := [] }
def row3 : Ty := { k := .int .i64, size := 1, bytes := 8, zero := some [.int .i64 0], fields := [] }
def row4 : Ty := { k := .bool, size := 1, bytes := 1, zero := some [.bool false], fields := [] }
def row5 : Ty := { k := .int .u8, size := 1, bytes := 1, zero := some [.int .u8 0], fields := [] }
def row9 : Ty := { k := .str, size := 1, bytes := 16, zero := some [.string ⟨#[]⟩], fields := [] }
def row12 : Ty := { k := .int .u64, size := 1, bytes := 8, zero := some [.int .u64 0], fields := [] }
def row13 : Ty := { k := .struct, size := 2, bytes := 24, zero := some [.string ⟨#[]⟩, .int .u64 0], fields := [(0, 9), (1, 12)] }
def row21 : Ty := { k := .int .i32, size := 1, bytes := 4, zero := some [.int .i32 0], fields := [] }
def row22 : Ty := { k := .slice 5, size := 1, bytes := 24, zero := some [.slice none 0 0], fields := [] }
def row23 : Ty := { k := .struct, size := 4, bytes := 56, zero := some [.slice none 0 0, .int .i64 0, .string ⟨#[]⟩, .int .i64 0], fields := [(0, 22), (1, 3), (2, 9), (3, 3)] }
def row24 : Ty := { k := .struct, size := 4, bytes := 56, zero := some [.slice none 0 0, .int .i64 0, .string ⟨#[]⟩, .int .i64 0], fields := [(0, 22), (1, 3), (2, 9), (3, 3)] }
def row25 : Ty := { k := .other, size := 1, bytes := 8, zero := some [.nilFunc], fields := [] }
def row26 : Ty := { k := .int .i64, size := 1, bytes := 8, zero := some [.int .i64 0], fields := [] }
def row28 : Ty := { k := .other, size := 1, bytes := 8, zero := some [.nilFunc], fields := [] }
def row30 : Ty := { k := .other, size := 1, bytes := 8, zero := some [.nilFunc], fields := [] }
def row32 : Ty := { k := .other, size := 1, bytes := 8, zero := some [.nilFunc], fields := [] }
def row34 : Ty := { k := .other, size := 1, bytes := 8, zero := some [.nilFunc], fields := [] }
def row35 : Ty := { k := .other, size := 1, bytes := 8, zero := some [.nilFunc], fields := [] }
def row36 : Ty := { k := .other, size := 1, bytes := 8, zero := some [.nilFunc], fields := [] }
def row37 : Ty := { k := .other, size := 1, bytes := 8, zero := some [.nilFunc], fields := [] }
def row38 : Ty := { k := .other, size := 1, bytes := 8, zero := some [.nilFunc], fields := [] }
def row39 : Ty := { k := .struct, size := 4, bytes := 64, zero := some [.slice none 0 0, .slice none 0 0, .int .i64 0, .int .i64 0], fields := [(0, 22), (1, 22), (2, 3), (3, 3)] }
def row40 : Ty := { k := .struct, size := 4, bytes := 64, zero := some [.slice none 0 0, .slice none 0 0, .int .i64 0, .int .i64 0], fields := [(0, 22), (1, 22), (2, 3), (3, 3)] }
def row41 : Ty := { k := .other, size := 1, bytes := 8, zero := some [.nilFunc], fields := [] }
def row42 : Ty := { k := .other, size := 1, bytes := 8, zero := some [.nilFunc], fields := [] }
def row43 : Ty := { k := .other, size := 1, bytes := 8, zero := some [.nilFunc], fields := [] }
def row44 : Ty := { k := .other, size := 1, bytes := 8, zero := some [.nilFunc], fields := [] }
def row45 : Ty := { k := .int .u32, size := 1, bytes := 4, zero := some [.int .u32 0], fields := [] }
def row46 : Ty := { k := .struct, size := 4, bytes := 64, zero := some [.int .u32 0, .int .i64 0, .slice none 0 0, .slice none 0 0], fields := [(0, 45), (1, 3), (2, 22), (3, 22)] }
def row47 : Ty := { k := .struct, size := 4, bytes := 64, zero := some [.int .u32 0, .int .i64 0, .slice none 0 0, .slice none 0 0], fields := [(0, 45), (1, 3), (2, 22), (3, 22)] }
def row48 : Ty := { k := .other, size := 1, bytes := 8, zero := some [.nilFunc], fields := [] }
def row49 : Ty := { k := .struct, size := 4, bytes := 64, zero := some [.slice none 0 0, .int .i64 0, .string ⟨#[]⟩, .string ⟨#[]⟩], fields := [(0, 22), (1, 3), (2, 9), (3, 9)] }
def row50 : Ty := { k := .struct, size := 4, bytes := 64, zero := some [.slice none 0 0, .int .i64 0, .string ⟨#[]⟩, .string ⟨#[]⟩], fields := [(0, 22), (1, 3), (2, 9), (3, 9)] }
def row52 : Ty := { k := .other, size := 1, bytes := 8, zero := some [.nilFunc], fields := [] }
def row53 : Ty := { k := .other, size := 1, bytes := 8, zero := some [.nilFunc], fields := [] }
def row54 : Ty := { k := .other, size := 1, bytes := 8, zero := some [.nilFunc], fields := [] }
def row55 : Ty := { k := .other, size := 1, bytes := 8, zero := some [.nilFunc], fields := [] }
def row57 : Ty := { k := .other, size := 1, bytes := 8, zero := some [.nilFunc], fields := [] }
def row59 : Ty := { k := .other, size := 1, bytes := 8, zero := some [.nilFunc], fields := [] }
def row60 : Ty := { k := .other, size := 1, bytes := 8, zero := some [.nilFunc], fields := [] }
def row61 : Ty := { k := .int .u64, size := 1, bytes := 8, zero := some [.int .u64 0], fields := [] }
def row62 : Ty := { k := .other, size := 1, bytes := 8, zero := some [.nilFunc], fields := [] }
def row63 : Ty := { k := .other, size := 1, bytes := 8, zero := some [.nilFunc], fields := [] }
def row64 : Ty := { k := .other, size := 1, bytes := 8, zero := some [.nilFunc], fields := [] }
def row65 : Ty := { k := .other, size := 1, bytes := 8, zero := some [.nilFunc], fields := [] }
def row66 : Ty := { k := .other, size := 1, bytes := 8, zero := some [.nilFunc], fields := [] }
def row67 : Ty := { k := .array 256 5, size := 256, bytes := 256, zero := some (List.replicate 256 (.int .u8 0)), fields := [] }
def row68 : Ty := { k := .struct, size := 2, bytes := 2, zero := some [.int .u8 0, .int .u8 0], fields := [(0, 5), (1, 5)] }
def row69 : Ty := { k := .struct, size := 2, bytes := 2, zero := some [.int .u8 0, .int .u8 0], fields := [(0, 5), (1, 5)] }
def row70 : Ty := { k := .array 16 69, size := 32, bytes := 32, zero := some [.int .u8 0, .int .u8 0, .int .u8 0, .int .u8 0, .int .u8 0, .int .u8 0, .int .u8 0, .int .u8 0, .int .u8 0, .int .u8 0, .int .u8 0, .int .u8 0, .int .u8 0, .int .u8 0, .int .u8 0, .int .u8 0, .int .u8 0, .int .u8 0, .int .u8 0, .int .u8 0, .int .u8 0, .int .u8 0, .int .u8 0, .int .u8 0, .int .u8 0, .int .u8 0, .int .u8 0, .int .u8 0, .int .u8 0, .int .u8 0, .int .u8 0, .int .u8 0], fields := [] }
def row71 : Ty := { k := .other, size := 1, bytes := 8, zero := some [.nilFunc], fields := [] }
def row72 : Ty := { k := .other, size := 1, bytes := 8, zero := some [.nilFunc], fields := [] }
def row73 : Ty := { k := .other, size := 1, bytes := 8, zero := some [.nilFunc], fields := [] }
def row74 : Ty := { k := .other, size := 1, bytes := 8, zero := some [.nilFunc], fields := [] }
def row76 : Ty := { k := .other, size := 1, bytes := 8, zero := some [.nilFunc], fields := [] }
def row77 : Ty := { k := .other, size := 1, bytes := 8, zero := some [.nilFunc], fields := [] }
def row83 : Ty := { k := .other, size := 1, bytes := 8, zero := some [.nilFunc], fields := [] }
def row86 : Ty := { k := .other, size := 1, bytes := 8, zero := some [.nilFunc], fields := [] }
def row87 : Ty := { k := .other, size := 1, bytes := 8, zero := some [.pointer none], fields := [] }
def tyTab : Nat → Option Ty
  | 1 => some row1
  | 2 => some row2
  | 3 => some row3
  | 4 => some row4
  | 5 => some row5
  | 9 => some row9
  | 12 => some row12
  | 13 => some row13
  | 21 => some row21
  | 22 => some row22
  | 23 => some row23
  | 24 => some row24
  | 25 => some row25
  | 26 => some row26
  | 28 => some row28
  | 30 => some row30
  | 32 => some row32
  | 34 => some row34
  | 35 => some row35
  | 36 => some row36
  | 37 => some row37
  | 38 => some row38
  | 39 => some row39
  | 40 => some row40
  | 41 => some row41
  | 42 => some row42
  | 43 => some row43
  | 44 => some row44
  | 45 => some row45
  | 46 => some row46
  | 47 => some row47
  | 48 => some row48
  | 49 => some row49
  | 50 => some row50
  | 52 => some row52
  | 53 => some row53
  | 54 => some row54
  | 55 => some row55
  | 57 => some row57
  | 59 => some row59
  | 60 => some row60
  | 61 => some row61
  | 62 => some row62
  | 63 => some row63
  | 64 => some row64
  | 65 => some row65
  | 66 => some row66
  | 67 => some row67
  | 68 => some row68
  | 69 => some row69
  | 70 => some row70
  | 71 => some row71
  | 72 => some row72
  | 73 => some row73
  | 74 => some row74
  | 76 => some row76
  | 77 => some row77
  | 83 => some row83
  | 86 => some row86
  | 87 => some row87
  | _ => none
section
@[simp] theorem tyK1 : (tyTab 1).map Ty.k = some (.other) := rfl
@[simp] theorem tyB1 : (tyTab 1).map (fun y => (y.bytes, y.zero.map List.length)) = some (8, some 1) := rfl
@[simp] theorem tyY1 : (tyTab 1).map Ty.bytes = some 8 := rfl
@[simp] theorem tyS1 : (tyTab 1).map Ty.size = some 1 := rfl
@[simp] theorem tyE1 : Vabs.elemOf tyTab 1 = none := rfl
@[simp] theorem tyA1 : arrOf tyTab 1 = none := rfl
@[simp] theorem tyL1 (cs : List C) (off : Nat) : loadAt tyTab 1 cs off = (cs[off]?).map .c := rfl
@[simp] theorem tyZ1 : ((tyTab 1).bind Ty.zero).bind lits = some [.lit (.nilFunc)] := rfl
@[simp] theorem tyK2 : (tyTab 2).map Ty.k = some (.int .i64) := rfl
@[simp] theorem tyB2 : (tyTab 2).map (fun y => (y.bytes, y.zero.map List.length)) = some (8, some 1) := rfl
@[simp] theorem tyY2 : (tyTab 2).map Ty.bytes = some 8 := rfl
@[simp] theorem tyS2 : (tyTab 2).map Ty.size = some 1 := rfl
@[simp] theorem tyE2 : Vabs.elemOf tyTab 2 = none := rfl
@[simp] theorem tyA2 : arrOf tyTab 2 = none := rfl
@[simp] theorem tyL2 (cs : List C) (off : Nat) : loadAt tyTab 2 cs off = (cs[off]?).map .c := rfl
@[simp] theorem tyZ2 : ((tyTab 2).bind Ty.zero).bind lits = some [.lit (.int .i64 0)] := rfl
@[simp] theorem tyK3 : (tyTab 3).map Ty.k = some (.int .i64) := rfl
@[simp] theorem tyB3 : (tyTab 3).map (fun y => (y.bytes, y.zero.map List.length)) = some (8, some 1) := rfl
@[simp] theorem tyY3 : (tyTab 3).map Ty.bytes = some 8 := rfl
@[simp] theorem tyS3 : (tyTab 3).map Ty.size = some 1 := rfl
@[simp] theorem tyE3 : Vabs.elemOf tyTab 3 = none := rfl
@[simp] theorem tyA3 : arrOf tyTab 3 = none := rfl
@[simp] theorem tyL3 (cs : List C) (off : Nat) : loadAt tyTab 3 cs off = (cs[off]?).map .c := rfl
@[simp] theorem tyZ3 : ((tyTab 3).bind Ty.zero).bind lits = some [.lit (.int .i64 0)] := rfl
@[simp] theorem tyK4 : (tyTab 4).map Ty.k = some (.bool) := rfl
@[simp] theorem tyB4 : (tyTab 4).map (fun y => (y.bytes, y.zero.map List.length)) = some (1, some 1) := rfl
@[simp] theorem tyY4 : (tyTab 4).map Ty.bytes = some 1 := rfl
@[simp] theorem tyS4 : (tyTab 4).map Ty.size = some 1 := rfl
@[simp] theorem tyE4 : Vabs.elemOf tyTab 4 = none := rfl
@[simp] theorem tyA4 : arrOf tyTab 4 = none := rfl
@[simp] theorem tyL4 (cs : List C) (off : Nat) : loadAt tyTab 4 cs off = (cs[off]?).map .c := rfl
@[simp] theorem tyZ4 : ((tyTab 4).bind Ty.zero).bind lits = some [.lit (.bool false)] := rfl
@[simp] theorem tyK5 : (tyTab 5).map Ty.k = some (.int .u8) := rfl
@[simp] theorem tyB5 : (tyTab 5).map (fun y => (y.bytes, y.zero.map List.length)) = some (1, some 1) := rfl
@[simp] theorem tyY5 : (tyTab 5).map Ty.bytes = some 1 := rfl
@[simp] theorem tyS5 : (tyTab 5).map Ty.size = some 1 := rfl
@[simp] theorem tyE5 : Vabs.elemOf tyTab 5 = none := rfl
@[simp] theorem tyA5 : arrOf tyTab 5 = none := rfl
@[simp] theorem tyL5 (cs : List C) (off : Nat) : loadAt tyTab 5 cs off = (cs[off]?).map .c := rfl
@[simp] theorem tyZ5 : ((tyTab 5).bind Ty.zero).bind lits = some [.lit (.int .u8 0)] := rfl
@[simp] theorem tyK9 : (tyTab 9).map Ty.k = some (.str) := rfl
@[simp] theorem tyB9 : (tyTab 9).map (fun y => (y.bytes, y.zero.map List.length)) = some (16, some 1) := rfl
@[simp] theorem tyY9 : (tyTab 9).map Ty.bytes = some 16 := rfl
@[simp] theorem tyS9 : (tyTab 9).map Ty.size = some 1 := rfl
@[simp] theorem tyE9 : Vabs.elemOf tyTab 9 = none := rfl
@[simp] theorem tyA9 : arrOf tyTab 9 = none := rfl
@[simp] theorem tyL9 (cs : List C) (off : Nat) : loadAt tyTab 9 cs off = (cs[off]?).map .c := rfl
@[simp] theorem tyZ9 : ((tyTab 9).bind Ty.zero).bind lits = some [.lit (.string ⟨#[]⟩)] := rfl
@[simp] theorem tyK12 : (tyTab 12).map Ty.k = some (.int .u64) := rfl
@[simp] theorem tyB12 : (tyTab 12).map (fun y => (y.bytes, y.zero.map List.length)) = some (8, some 1) := rfl
@[simp] theorem tyY12 : (tyTab 12).map Ty.bytes = some 8 := rfl
@[simp] theorem tyS12 : (tyTab 12).map Ty.size = some 1 := rfl
@[simp] theorem tyE12 : Vabs.elemOf tyTab 12 = none := rfl
@[simp] theorem tyA12 : arrOf tyTab 12 = none := rfl
@[simp] theorem tyL12 (cs : List C) (off : Nat) : loadAt tyTab 12 cs off = (cs[off]?).map .c := rfl
@[simp] theorem tyZ12 : ((tyTab 12).bind Ty.zero).bind lits = some [.lit (.int .u64 0)] := rfl
@[simp] theorem tyK13 : (tyTab 13).map Ty.k = some (.struct) := rfl
@[simp] theorem tyB13 : (tyTab 13).map (fun y => (y.bytes, y.zero.map List.length)) = some (24, some 2) := rfl
@[simp] theorem tyY13 : (tyTab 13).map Ty.bytes = some 24 := rfl
@[simp] theorem tyD13 (parts : List (Nat × T)) : ((tyTab 13).bind fun y => buildT tyTab y parts) = fills (placeOf tyTab row13) [.lit (.string ⟨#[]⟩), .lit (.int .u64 0)] parts := rfl
@[simp] theorem tyP13_0 : placeOf tyTab row13 0 = some (0, 1) := rfl
@[simp] theorem tyP13_1 : placeOf tyTab row13 1 = some (1, 1) := rfl
@[simp] theorem tyS13 : (tyTab 13).map Ty.size = some 2 := rfl
@[simp] theorem tyE13 : Vabs.elemOf tyTab 13 = none := rfl
@[simp] theorem tyA13 : arrOf tyTab 13 = none := rfl
@[simp] theorem tyL13 (cs : List C) (off : Nat) : loadAt tyTab 13 cs off = if off + 2 ≤ cs.length then some (.agg ((cs.drop off).take 2)) else none := rfl
@[simp] theorem tyZ13 : ((tyTab 13).bind Ty.zero).bind lits = some [.lit (.string ⟨#[]⟩), .lit (.int .u64 0)] := rfl
@[simp] theorem tyF13_0 : fieldOf tyTab 13 0 = some (0, 9) := rfl
@[simp] theorem tyF13_1 : fieldOf tyTab 13 1 = some (1, 12) := rfl
@[simp] theorem tyK21 : (tyTab 21).map Ty.k = some (.int .i32) := rfl
@[simp] theorem tyB21 : (tyTab 21).map (fun y => (y.bytes, y.zero.map List.length)) = some (4, some 1) := rfl
@[simp] theorem tyY21 : (tyTab 21).map Ty.bytes = some 4 := rfl
@[simp] theorem tyS21 : (tyTab 21).map Ty.size = some 1 := rfl
@[simp] theorem tyE21 : Vabs.elemOf tyTab 21 = none := rfl
@[simp] theorem tyA21 : arrOf tyTab 21 = none := rfl
@[simp] theorem tyL21 (cs : List C) (off : Nat) : loadAt tyTab 21 cs off = (cs[off]?).map .c := rfl
@[simp] theorem tyZ21 : ((tyTab 21).bind Ty.zero).bind lits = some [.lit (.int .i32 0)] := rfl
@[simp] theorem tyK22 : (tyTab 22).map Ty.k = some (.slice 5) := rfl
@[simp] theorem tyB22 : (tyTab 22).map (fun y => (y.bytes, y.zero.map List.length)) = some (24, some 1) := rfl
@[simp] theorem tyY22 : (tyTab 22).map Ty.bytes = some 24 := rfl
@[simp] theorem tyS22 : (tyTab 22).map Ty.size = some 1 := rfl
@[simp] theorem tyE22 : Vabs.elemOf tyTab 22 = some (5, 1) := rfl
@[simp] theorem tyA22 : arrOf tyTab 22 = none := rfl
@[simp] theorem tyL22 (cs : List C) (off : Nat) : loadAt tyTab 22 cs off = (cs[off]?).map .c := rfl
@[simp] theorem tyZ22 : ((tyTab 22).bind Ty.zero).bind lits = some [.lit (.slice none 0 0)] := rfl
@[simp] theorem tyK23 : (tyTab 23).map Ty.k = some (.struct) := rfl
@[simp] theorem tyB23 : (tyTab 23).map (fun y => (y.bytes, y.zero.map List.length)) = some (56, some 4) := rfl
@[simp] theorem tyY23 : (tyTab 23).map Ty.bytes = some 56 := rfl
@[simp] theorem tyD23 (parts : List (Nat × T)) : ((tyTab 23).bind fun y => buildT tyTab y parts) = fills (placeOf tyTab row23) [.lit (.slice none 0 0), .lit (.int .i64 0), .lit (.string ⟨#[]⟩), .lit (.int .i64 0)] parts := rfl
@[simp] theorem tyP23_0 : placeOf tyTab row23 0 = some (0, 1) := rfl
@[simp] theorem tyP23_1 : placeOf tyTab row23 1 = some (1, 1) := rfl
@[simp] theorem tyP23_2 : placeOf tyTab row23 2 = some (2, 1) := rfl
@[simp] theorem tyP23_3 : placeOf tyTab row23 3 = some (3, 1) := rfl
@[simp] theorem tyS23 : (tyTab 23).map Ty.size = some 4 := rfl
@[simp] theorem tyE23 : Vabs.elemOf tyTab 23 = none := rfl
@[simp] theorem tyA23 : arrOf tyTab 23 = none := rfl
@[simp] theorem tyL23 (cs : List C) (off : Nat) : loadAt tyTab 23 cs off = if off + 4 ≤ cs.length then some (.agg ((cs.drop off).take 4)) else none := rfl
@[simp] theorem tyZ23 : ((tyTab 23).bind Ty.zero).bind lits = some [.lit (.slice none 0 0), .lit (.int .i64 0), .lit (.string ⟨#[]⟩), .lit (.int .i64 0)] := rfl
@[simp] theorem tyF23_0 : fieldOf tyTab 23 0 = some (0, 22) := rfl
@[simp] theorem tyF23_1 : fieldOf tyTab 23 1 = some (1, 3) := rfl
@[simp] theorem tyF23_2 : fieldOf tyTab 23 2 = some (2, 9) := rfl
@[simp] theorem tyF23_3 : fieldOf tyTab 23 3 = some (3, 3) := rfl
@[simp] theorem tyK24 : (tyTab 24).map Ty.k = some (.struct) := rfl
@[simp] theorem tyB24 : (tyTab 24).map (fun y => (y.bytes, y.zero.map List.length)) = some (56, some 4) := rfl
@[simp] theorem tyY24 : (tyTab 24).map Ty.bytes = some 56 := rfl
@[simp] theorem tyD24 (parts : List (Nat × T)) : ((tyTab 24).bind fun y => buildT tyTab y parts) = fills (placeOf tyTab row24) [.lit (.slice none 0 0), .lit (.int .i64 0), .lit (.string ⟨#[]⟩), .lit (.int .i64 0)] parts := rfl
@[simp] theorem tyP24_0 : placeOf tyTab row24 0 = some (0, 1) := rfl
@[simp] theorem tyP24_1 : placeOf tyTab row24 1 = some (1, 1) := rfl
@[simp] theorem tyP24_2 : placeOf tyTab row24 2 = some (2, 1) := rfl
@[simp] theorem tyP24_3 : placeOf tyTab row24 3 = some (3, 1) := rfl
@[simp] theorem tyS24 : (tyTab 24).map Ty.size = some 4 := rfl
@[simp] theorem tyE24 : Vabs.elemOf tyTab 24 = none := rfl
@[simp] theorem tyA24 : arrOf tyTab 24 = none := rfl
@[simp] theorem tyL24 (cs : List C) (off : Nat) : loadAt tyTab 24 cs off = if off + 4 ≤ cs.length then some (.agg ((cs.drop off).take 4)) else none := rfl
@[simp] theorem tyZ24 : ((tyTab 24).bind Ty.zero).bind lits = some [.lit (.slice none 0 0), .lit (.int .i64 0), .lit (.string ⟨#[]⟩), .lit (.int .i64 0)] := rfl
@[simp] theorem tyF24_0 : fieldOf tyTab 24 0 = some (0, 22) := rfl
@[simp] theorem tyF24_1 : fieldOf tyTab 24 1 = some (1, 3) := rfl
@[simp] theorem tyF24_2 : fieldOf tyTab 24 2 = some (2, 9) := rfl
@[simp] theorem tyF24_3 : fieldOf tyTab 24 3 = some (3, 3) := rfl
@[simp] theorem tyK25 : (tyTab 25).map Ty.k = some (.other) := rfl
@[simp] theorem tyB25 : (tyTab 25).map (fun y => (y.bytes, y.zero.map List.length)) = some (8, some 1) := rfl
@[simp] theorem tyY25 : (tyTab 25).map Ty.bytes = some 8 := rfl
@[simp] theorem tyS25 : (tyTab 25).map Ty.size = some 1 := rfl
@[simp] theorem tyE25 : Vabs.elemOf tyTab 25 = none := rfl
@[simp] theorem tyA25 : arrOf tyTab 25 = none := rfl
@[simp] theorem tyL25 (cs : List C) (off : Nat) : loadAt tyTab 25 cs off = (cs[off]?).map .c := rfl
@[simp] theorem tyZ25 : ((tyTab 25).bind Ty.zero).bind lits = some [.lit (.nilFunc)] := rfl
@[simp] theorem tyK26 : (tyTab 26).map Ty.k = some (.int .i64) := rfl
@[simp] theorem tyB26 : (tyTab 26).map (fun y => (y.bytes, y.zero.map List.length)) = some (8, some 1) := rfl
@[simp] theorem tyY26 : (tyTab 26).map Ty.bytes = some 8 := rfl
@[simp] theorem tyS26 : (tyTab 26).map Ty.size = some 1 := rfl
@[simp] theorem tyE26 : Vabs.elemOf tyTab 26 = none := rfl
@[simp] theorem tyA26 : arrOf tyTab 26 = none := rfl
@[simp] theorem tyL26 (cs : List C) (off : Nat) : loadAt tyTab 26 cs off = (cs[off]?).map .c := rfl
@[simp] theorem tyZ26 : ((tyTab 26).bind Ty.zero).bind lits = some [.lit (.int .i64 0)] := rfl
@[simp] theorem tyK28 : (tyTab 28).map Ty.k = some (.other) := rfl
@[simp] theorem tyB28 : (tyTab 28).map (fun y => (y.bytes, y.zero.map List.length)) = some (8, some 1) := rfl
@[simp] theorem tyY28 : (tyTab 28).map Ty.bytes = some 8 := rfl
@[simp] theorem tyS28 : (tyTab 28).map Ty.size = some 1 := rfl
@[simp] theorem tyE28 : Vabs.elemOf tyTab 28 = none := rfl
@[simp] theorem tyA28 : arrOf tyTab 28 = none := rfl
@[simp] theorem tyL28 (cs : List C) (off : Nat) : loadAt tyTab 28 cs off = (cs[off]?).map .c := rfl
@[simp] theorem tyZ28 : ((tyTab 28).bind Ty.zero).bind lits = some [.lit (.nilFunc)] := rfl
@[simp] theorem tyK30 : (tyTab 30).map Ty.k = some (.other) := rfl
@[simp] theorem tyB30 : (tyTab 30).map (fun y => (y.bytes, y.zero.map List.length)) = some (8, some 1) := rfl
@[simp] theorem tyY30 : (tyTab 30).map Ty.bytes = some 8 := rfl
@[simp] theorem tyS30 : (tyTab 30).map Ty.size = some 1 := rfl
@[simp] theorem tyE30 : Vabs.elemOf tyTab 30 = none := rfl
@[simp] theorem tyA30 : arrOf tyTab 30 = none := rfl
@[simp] theorem tyL30 (cs : List C) (off : Nat) : loadAt tyTab 30 cs off = (cs[off]?).map .c := rfl
@[simp] theorem tyZ30 : ((tyTab 30).bind Ty.zero).bind lits = some [.lit (.nilFunc)] := rfl
@[simp] theorem tyK32 : (tyTab 32).map Ty.k = some (.other) := rfl
@[simp] theorem tyB32 : (tyTab 32).map (fun y => (y.bytes, y.zero.map List.length)) = some (8, some 1) := rfl
@[simp] theorem tyY32 : (tyTab 32).map Ty.bytes = some 8 := rfl
@[simp] theorem tyS32 : (tyTab 32).map Ty.size = some 1 := rfl
@[simp] theorem tyE32 : Vabs.elemOf tyTab 32 = none := rfl
@[simp] theorem tyA32 : arrOf tyTab 32 = none := rfl
@[simp] theorem tyL32 (cs : List C) (off : Nat) : loadAt tyTab 32 cs off = (cs[off]?).map .c := rfl
@[simp] theorem tyZ32 : ((tyTab 32).bind Ty.zero).bind lits = some [.lit (.nilFunc)] := rfl
@[simp] theorem tyK34 : (tyTab 34).map Ty.k = some (.other) := rfl
@[simp] theorem tyB34 : (tyTab 34).map (fun y => (y.bytes, y.zero.map List.length)) = some (8, some 1) := rfl
@[simp] theorem tyY34 : (tyTab 34).map Ty.bytes = some 8 := rfl
@[simp] theorem tyS34 : (tyTab 34).map Ty.size = some 1 := rfl
@[simp] theorem tyE34 : Vabs.elemOf tyTab 34 = none := rfl
@[simp] theorem tyA34 : arrOf tyTab 34 = none := rfl
@[simp] theorem tyL34 (cs : List C) (off : Nat) : loadAt tyTab 34 cs off = (cs[off]?).map .c := rfl
@[simp] theorem tyZ34 : ((tyTab 34).bind Ty.zero).bind lits = some [.lit (.nilFunc)] := rfl
@[simp] theorem tyK35 : (tyTab 35).map Ty.k = some (.other) := rfl
@[simp] theorem tyB35 : (tyTab 35).map (fun y => (y.bytes, y.zero.map List.length)) = some (8, some 1) := rfl
@[simp] theorem tyY35 : (tyTab 35).map Ty.bytes = some 8 := rfl
@[simp] theorem tyS35 : (tyTab 35).map Ty.size = some 1 := rfl
@[simp] theorem tyE35 : Vabs.elemOf tyTab 35 = none := rfl
@[simp] theorem tyA35 : arrOf tyTab 35 = none := rfl
@[simp] theorem tyL35 (cs : List C) (off : Nat) : loadAt tyTab 35 cs off = (cs[off]?).map .c := rfl
@[simp] theorem tyZ35 : ((tyTab 35).bind Ty.zero).bind lits = some [.lit (.nilFunc)] := rfl
@[simp] theorem tyK36 : (tyTab 36).map Ty.k = some (.other) := rfl
@[simp] theorem tyB36 : (tyTab 36).map (fun y => (y.bytes, y.zero.map List.length)) = some (8, some 1) := rfl
@[simp] theorem tyY36 : (tyTab 36).map Ty.bytes = some 8 := rfl
@[simp] theorem tyS36 : (tyTab 36).map Ty.size = some 1 := rfl
@[simp] theorem tyE36 : Vabs.elemOf tyTab 36 = none := rfl
@[simp] theorem tyA36 : arrOf tyTab 36 = none := rfl
@[simp] theorem tyL36 (cs : List C) (off : Nat) : loadAt tyTab 36 cs off = (cs[off]?).map .c := rfl
@[simp] theorem tyZ36 : ((tyTab 36).bind Ty.zero).bind lits = some [.lit (.nilFunc)] := rfl
@[simp] theorem tyK37 : (tyTab 37).map Ty.k = some (.other) := rfl
@[simp] theorem tyB37 : (tyTab 37).map (fun y => (y.bytes, y.zero.map List.length)) = some (8, some 1) := rfl
@[simp] theorem tyY37 : (tyTab 37).map Ty.bytes = some 8 := rfl
@[simp] theorem tyS37 : (tyTab 37).map Ty.size = some 1 := rfl
@[simp] theorem tyE37 : Vabs.elemOf tyTab 37 = none := rfl
@[simp] theorem tyA37 : arrOf tyTab 37 = none := rfl
@[simp] theorem tyL37 (cs : List C) (off : Nat) : loadAt tyTab 37 cs off = (cs[off]?).map .c := rfl
@[simp] theorem tyZ37 : ((tyTab 37).bind Ty.zero).bind lits = some [.lit (.nilFunc)] := rfl
@[simp] theorem tyK38 : (tyTab 38).map Ty.k = some (.other) := rfl
@[simp] theorem tyB38 : (tyTab 38).map (fun y => (y.bytes, y.zero.map List.length)) = some (8, some 1) := rfl
@[simp] theorem tyY38 : (tyTab 38).map Ty.bytes = some 8 := rfl
@[simp] theorem tyS38 : (tyTab 38).map Ty.size = some 1 := rfl
@[simp] theorem tyE38 : Vabs.elemOf tyTab 38 = none := rfl
@[simp] theorem tyA38 : arrOf tyTab 38 = none := rfl
@[simp] theorem tyL38 (cs : List C) (off : Nat) : loadAt tyTab 38 cs off = (cs[off]?).map .c := rfl
@[simp] theorem tyZ38 : ((tyTab 38).bind Ty.zero).bind lits = some [.lit (.nilFunc)] := rfl
@[simp] theorem tyK39 : (tyTab 39).map Ty.k = some (.struct) := rfl
@[simp] theorem tyB39 : (tyTab 39).map (fun y => (y.bytes, y.zero.map List.length)) = some (64, some 4) := rfl
@[simp] theorem tyY39 : (tyTab 39).map Ty.bytes = some 64 := rfl
@[simp] theorem tyD39 (parts : List (Nat × T)) : ((tyTab 39).bind fun y => buildT tyTab y parts) = fills (placeOf tyTab row39) [.lit (.slice none 0 0), .lit (.slice none 0 0), .lit (.int .i64 0), .lit (.int .i64 0)] parts := rfl
@[simp] theorem tyP39_0 : placeOf tyTab row39 0 = some (0, 1) := rfl
@[simp] theorem tyP39_1 : placeOf tyTab row39 1 = some (1, 1) := rfl
@[simp] theorem tyP39_2 : placeOf tyTab row39 2 = some (2, 1) := rfl
@[simp] theorem tyP39_3 : placeOf tyTab row39 3 = some (3, 1) := rfl
@[simp] theorem tyS39 : (tyTab 39).map Ty.size = some 4 := rfl
@[simp] theorem tyE39 : Vabs.elemOf tyTab 39 = none := rfl
@[simp] theorem tyA39 : arrOf tyTab 39 = none := rfl
@[simp] theorem tyL39 (cs : List C) (off : Nat) : loadAt tyTab 39 cs off = if off + 4 ≤ cs.length then some (.agg ((cs.drop off).take 4)) else none := rfl
@[simp] theorem tyZ39 : ((tyTab 39).bind Ty.zero).bind lits = some [.lit (.slice none 0 0), .lit (.slice none 0 0), .lit (.int .i64 0), .lit (.int .i64 0)] := rfl
@[simp] theorem tyF39_0 : fieldOf tyTab 39 0 = some (0, 22) := rfl
@[simp] theorem tyF39_1 : fieldOf tyTab 39 1 = some (1, 22) := rfl
@[simp] theorem tyF39_2 : fieldOf tyTab 39 2 = some (2, 3) := rfl
@[simp] theorem tyF39_3 : fieldOf tyTab 39 3 = some (3, 3) := rfl
@[simp] theorem tyK40 : (tyTab 40).map Ty.k = some (.struct) := rfl
@[simp] theorem tyB40 : (tyTab 40).map (fun y => (y.bytes, y.zero.map List.length)) = some (64, some 4) := rfl
@[simp] theorem tyY40 : (tyTab 40).map Ty.bytes = some 64 := rfl
@[simp] theorem tyD40 (parts : List (Nat × T)) : ((tyTab 40).bind fun y => buildT tyTab y parts) = fills (placeOf tyTab row40) [.lit (.slice none 0 0), .lit (.slice none 0 0), .lit (.int .i64 0), .lit (.int .i64 0)] parts := rfl
@[simp] theorem tyP40_0 : placeOf tyTab row40 0 = some (0, 1) := rfl
@[simp] theorem tyP40_1 : placeOf tyTab row40 1 = some (1, 1) := rfl
@[simp] theorem tyP40_2 : placeOf tyTab row40 2 = some (2, 1) := rfl
@[simp] theorem tyP40_3 : placeOf tyTab row40 3 = some (3, 1) := rfl
@[simp] theorem tyS40 : (tyTab 40).map Ty.size = some 4 := rfl
@[simp] theorem tyE40 : Vabs.elemOf tyTab 40 = none := rfl
@[simp] theorem tyA40 : arrOf tyTab 40 = none := rfl
@[simp] theorem tyL40 (cs : List C) (off : Nat) : loadAt tyTab 40 cs off = if off + 4 ≤ cs.length then some (.agg ((cs.drop off).take 4)) else none := rfl
@[simp] theorem tyZ40 : ((tyTab 40).bind Ty.zero).bind lits = some [.lit (.slice none 0 0), .lit (.slice none 0 0), .lit (.int .i64 0), .lit (.int .i64 0)] := rfl
@[simp] theorem tyF40_0 : fieldOf tyTab 40 0 = some (0, 22) := rfl
@[simp] theorem tyF40_1 : fieldOf tyTab 40 1 = some (1, 22) := rfl
@[simp] theorem tyF40_2 : fieldOf tyTab 40 2 = some (2, 3) := rfl
@[simp] theorem tyF40_3 : fieldOf tyTab 40 3 = some (3, 3) := rfl
@[simp] theorem tyK41 : (tyTab 41).map Ty.k = some (.other) := rfl
@[simp] theorem tyB41 : (tyTab 41).map (fun y => (y.bytes, y.zero.map List.length)) = some (8, some 1) := rfl
@[simp] theorem tyY41 : (tyTab 41).map Ty.bytes = some 8 := rfl
@[simp] theorem tyS41 : (tyTab 41).map Ty.size = some 1 := rfl
@[simp] theorem tyE41 : Vabs.elemOf tyTab 41 = none := rfl
@[simp] theorem tyA41 : arrOf tyTab 41 = none := rfl
@[simp] theorem tyL41 (cs : List C) (off : Nat) : loadAt tyTab 41 cs off = (cs[off]?).map .c := rfl
@[simp] theorem tyZ41 : ((tyTab 41).bind Ty.zero).bind lits = some [.lit (.nilFunc)] := rfl
@[simp] theorem tyK42 : (tyTab 42).map Ty.k = some (.other) := rfl
@[simp] theorem tyB42 : (tyTab 42).map (fun y => (y.bytes, y.zero.map List.length)) = some (8, some 1) := rfl
@[simp] theorem tyY42 : (tyTab 42).map Ty.bytes = some 8 := rfl
@[simp] theorem tyS42 : (tyTab 42).map Ty.size = some 1 := rfl
@[simp] theorem tyE42 : Vabs.elemOf tyTab 42 = none := rfl
@[simp] theorem tyA42 : arrOf tyTab 42 = none := rfl
@[simp] theorem tyL42 (cs : List C) (off : Nat) : loadAt tyTab 42 cs off = (cs[off]?).map .c := rfl
@[simp] theorem tyZ42 : ((tyTab 42).bind Ty.zero).bind lits = some [.lit (.nilFunc)] := rfl
@[simp] theorem tyK43 : (tyTab 43).map Ty.k = some (.other) := rfl
@[simp] theorem tyB43 : (tyTab 43).map (fun y => (y.bytes, y.zero.map List.length)) = some (8, some 1) := rfl
@[simp] theorem tyY43 : (tyTab 43).map Ty.bytes = some 8 := rfl
@[simp] theorem tyS43 : (tyTab 43).map Ty.size = some 1 := rfl
@[simp] theorem tyE43 : Vabs.elemOf tyTab 43 = none := rfl
@[simp] theorem tyA43 : arrOf tyTab 43 = none := rfl
@[simp] theorem tyL43 (cs : List C) (off : Nat) : loadAt tyTab 43 cs off = (cs[off]?).map .c := rfl
@[simp] theorem tyZ43 : ((tyTab 43).bind Ty.zero).bind lits = some [.lit (.nilFunc)] := rfl
@[simp] theorem tyK44 : (tyTab 44).map Ty.k = some (.other) := rfl
@[simp] theorem tyB44 : (tyTab 44).map (fun y => (y.bytes, y.zero.map List.length)) = some (8, some 1) := rfl
@[simp] theorem tyY44 : (tyTab 44).map Ty.bytes = some 8 := rfl
@[simp] theorem tyS44 : (tyTab 44).map Ty.size = some 1 := rfl
@[simp] theorem tyE44 : Vabs.elemOf tyTab 44 = none := rfl
@[simp] theorem tyA44 : arrOf tyTab 44 = none := rfl
@[simp] theorem tyL44 (cs : List C) (off : Nat) : loadAt tyTab 44 cs off = (cs[off]?).map .c := rfl
@[simp] theorem tyZ44 : ((tyTab 44).bind Ty.zero).bind lits = some [.lit (.nilFunc)] := rfl
@[simp] theorem tyK45 : (tyTab 45).map Ty.k = some (.int .u32) := rfl
@[simp] theorem tyB45 : (tyTab 45).map (fun y => (y.bytes, y.zero.map List.length)) = some (4, some 1) := rfl
@[simp] theorem tyY45 : (tyTab 45).map Ty.bytes = some 4 := rfl
@[simp] theorem tyS45 : (tyTab 45).map Ty.size = some 1 := rfl
@[simp] theorem tyE45 : Vabs.elemOf tyTab 45 = none := rfl
@[simp] theorem tyA45 : arrOf tyTab 45 = none := rfl
@[simp] theorem tyL45 (cs : List C) (off : Nat) : loadAt tyTab 45 cs off = (cs[off]?).map .c := rfl
@[simp] theorem tyZ45 : ((tyTab 45).bind Ty.zero).bind lits = some [.lit (.int .u32 0)] := rfl
@[simp] theorem tyK46 : (tyTab 46).map Ty.k = some (.struct) := rfl
@[simp] theorem tyB46 : (tyTab 46).map (fun y => (y.bytes, y.zero.map List.length)) = some (64, some 4) := rfl
@[simp] theorem tyY46 : (tyTab 46).map Ty.bytes = some 64 := rfl
@[simp] theorem tyD46 (parts : List (Nat × T)) : ((tyTab 46).bind fun y => buildT tyTab y parts) = fills (placeOf tyTab row46) [.lit (.int .u32 0), .lit (.int .i64 0), .lit (.slice none 0 0), .lit (.slice none 0 0)] parts := rfl
@[simp] theorem tyP46_0 : placeOf tyTab row46 0 = some (0, 1) := rfl
@[simp] theorem tyP46_1 : placeOf tyTab row46 1 = some (1, 1) := rfl
@[simp] theorem tyP46_2 : placeOf tyTab row46 2 = some (2, 1) := rfl
@[simp] theorem tyP46_3 : placeOf tyTab row46 3 = some (3, 1) := rfl
@[simp] theorem tyS46 : (tyTab 46).map Ty.size = some 4 := rfl
@[simp] theorem tyE46 : Vabs.elemOf tyTab 46 = none := rfl
@[simp] theorem tyA46 : arrOf tyTab 46 = none := rfl
@[simp] theorem tyL46 (cs : List C) (off : Nat) : loadAt tyTab 46 cs off = if off + 4 ≤ cs.length then some (.agg ((cs.drop off).take 4)) else none := rfl
@[simp] theorem tyZ46 : ((tyTab 46).bind Ty.zero).bind lits = some [.lit (.int .u32 0), .lit (.int .i64 0), .lit (.slice none 0 0), .lit (.slice none 0 0)] := rfl
@[simp] theorem tyF46_0 : fieldOf tyTab 46 0 = some (0, 45) := rfl
@[simp] theorem tyF46_1 : fieldOf tyTab 46 1 = some (1, 3) := rfl
@[simp] theorem tyF46_2 : fieldOf tyTab 46 2 = some (2, 22) := rfl
@[simp] theorem tyF46_3 : fieldOf tyTab 46 3 = some (3, 22) := rfl
@[simp] theorem tyK47 : (tyTab 47).map Ty.k = some (.struct) := rfl
@[simp] theorem tyB47 : (tyTab 47).map (fun y => (y.bytes, y.zero.map List.length)) = some (64, some 4) := rfl
@[simp] theorem tyY47 : (tyTab 47).map Ty.bytes = some 64 := rfl
@[simp] theorem tyD47 (parts : List (Nat × T)) : ((tyTab 47).bind fun y => buildT tyTab y parts) = fills (placeOf tyTab row47) [.lit (.int .u32 0), .lit (.int .i64 0), .lit (.slice none 0 0), .lit (.slice none 0 0)] parts := rfl
@[simp] theorem tyP47_0 : placeOf tyTab row47 0 = some (0, 1) := rfl
@[simp] theorem tyP47_1 : placeOf tyTab row47 1 = some (1, 1) := rfl
@[simp] theorem tyP47_2 : placeOf tyTab row47 2 = some (2, 1) := rfl
@[simp] theorem tyP47_3 : placeOf tyTab row47 3 = some (3, 1) := rfl
@[simp] theorem tyS47 : (tyTab 47).map Ty.size = some 4 := rfl
@[simp] theorem tyE47 : Vabs.elemOf tyTab 47 = none := rfl
@[simp] theorem tyA47 : arrOf tyTab 47 = none := rfl
@[simp] theorem tyL47 (cs : List C) (off : Nat) : loadAt tyTab 47 cs off = if off + 4 ≤ cs.length then some (.agg ((cs.drop off).take 4)) else none := rfl
@[simp] theorem tyZ47 : ((tyTab 47).bind Ty.zero).bind lits = some [.lit (.int .u32 0), .lit (.int .i64 0), .lit (.slice none 0 0), .lit (.slice none 0 0)] := rfl
@[simp] theorem tyF47_0 : fieldOf tyTab 47 0 = some (0, 45) := rfl
@[simp] theorem tyF47_1 : fieldOf tyTab 47 1 = some (1, 3) := rfl
@[simp] theorem tyF47_2 : fieldOf tyTab 47 2 = some (2, 22) := rfl
@[simp] theorem tyF47_3 : fieldOf tyTab 47 3 = some (3, 22) := rfl
@[simp] theorem tyK48 : (tyTab 48).map Ty.k = some (.other) := rfl
@[simp] theorem tyB48 : (tyTab 48).map (fun y => (y.bytes, y.zero.map List.length)) = some (8, some 1) := rfl
@[simp] theorem tyY48 : (tyTab 48).map Ty.bytes = some 8 := rfl
@[simp] theorem tyS48 : (tyTab 48).map Ty.size = some 1 := rfl
@[simp] theorem tyE48 : Vabs.elemOf tyTab 48 = none := rfl
@[simp] theorem tyA48 : arrOf tyTab 48 = none := rfl
@[simp] theorem tyL48 (cs : List C) (off : Nat) : loadAt tyTab 48 cs off = (cs[off]?).map .c := rfl
@[simp] theorem tyZ48 : ((tyTab 48).bind Ty.zero).bind lits = some [.lit (.nilFunc)] := rfl
@[simp] theorem tyK49 : (tyTab 49).map Ty.k = some (.struct) := rfl
@[simp] theorem tyB49 : (tyTab 49).map (fun y => (y.bytes, y.zero.map List.length)) = some (64, some 4) := rfl
@[simp] theorem tyY49 : (tyTab 49).map Ty.bytes = some 64 := rfl
@[simp] theorem tyD49 (parts : List (Nat × T)) : ((tyTab 49).bind fun y => buildT tyTab y parts) = fills (placeOf tyTab row49) [.lit (.slice none 0 0), .lit (.int .i64 0), .lit (.string ⟨#[]⟩), .lit (.string ⟨#[]⟩)] parts := rfl
@[simp] theorem tyP49_0 : placeOf tyTab row49 0 = some (0, 1) := rfl
@[simp] theorem tyP49_1 : placeOf tyTab row49 1 = some (1, 1) := rfl
@[simp] theorem tyP49_2 : placeOf tyTab row49 2 = some (2, 1) := rfl
@[simp] theorem tyP49_3 : placeOf tyTab row49 3 = some (3, 1) := rfl
@[simp] theorem tyS49 : (tyTab 49).map Ty.size = some 4 := rfl
@[simp] theorem tyE49 : Vabs.elemOf tyTab 49 = none := rfl
@[simp] theorem tyA49 : arrOf tyTab 49 = none := rfl
@[simp] theorem tyL49 (cs : List C) (off : Nat) : loadAt tyTab 49 cs off = if off + 4 ≤ cs.length then some (.agg ((cs.drop off).take 4)) else none := rfl
@[simp] theorem tyZ49 : ((tyTab 49).bind Ty.zero).bind lits = some [.lit (.slice none 0 0), .lit (.int .i64 0), .lit (.string ⟨#[]⟩), .lit (.string ⟨#[]⟩)] := rfl
@[simp] theorem tyF49_0 : fieldOf tyTab 49 0 = some (0, 22) := rfl
@[simp] theorem tyF49_1 : fieldOf tyTab 49 1 = some (1, 3) := rfl
@[simp] theorem tyF49_2 : fieldOf tyTab 49 2 = some (2, 9) := rfl
@[simp] theorem tyF49_3 : fieldOf tyTab 49 3 = some (3, 9) := rfl
@[simp] theorem tyK50 : (tyTab 50).map Ty.k = some (.struct) := rfl
@[simp] theorem tyB50 : (tyTab 50).map (fun y => (y.bytes, y.zero.map List.length)) = some (64, some 4) := rfl
@[simp] theorem tyY50 : (tyTab 50).map Ty.bytes = some 64 := rfl
@[simp] theorem tyD50 (parts : List (Nat × T)) : ((tyTab 50).bind fun y => buildT tyTab y parts) = fills (placeOf tyTab row50) [.lit (.slice none 0 0), .lit (.int .i64 0), .lit (.string ⟨#[]⟩), .lit (.string ⟨#[]⟩)] parts := rfl
@[simp] theorem tyP50_0 : placeOf tyTab row50 0 = some (0, 1) := rfl
@[simp] theorem tyP50_1 : placeOf tyTab row50 1 = some (1, 1) := rfl
@[simp] theorem tyP50_2 : placeOf tyTab row50 2 = some (2, 1) := rfl
@[simp] theorem tyP50_3 : placeOf tyTab row50 3 = some (3, 1) := rfl
@[simp] theorem tyS50 : (tyTab 50).map Ty.size = some 4 := rfl
@[simp] theorem tyE50 : Vabs.elemOf tyTab 50 = none := rfl
@[simp] theorem tyA50 : arrOf tyTab 50 = none := rfl
@[simp] theorem tyL50 (cs : List C) (off : Nat) : loadAt tyTab 50 cs off = if off + 4 ≤ cs.length then some (.agg ((cs.drop off).take 4)) else none := rfl
@[simp] theorem tyZ50 : ((tyTab 50).bind Ty.zero).bind lits = some [.lit (.slice none 0 0), .lit (.int .i64 0), .lit (.string ⟨#[]⟩), .lit (.string ⟨#[]⟩)] := rfl
@[simp] theorem tyF50_0 : fieldOf tyTab 50 0 = some (0, 22) := rfl
@[simp] theorem tyF50_1 : fieldOf tyTab 50 1 = some (1, 3) := rfl
@[simp] theorem tyF50_2 : fieldOf tyTab 50 2 = some (2, 9) := rfl
@[simp] theorem tyF50_3 : fieldOf tyTab 50 3 = some (3, 9) := rfl
@[simp] theorem tyK52 : (tyTab 52).map Ty.k = some (.other) := rfl
@[simp] theorem tyB52 : (tyTab 52).map (fun y => (y.bytes, y.zero.map List.length)) = some (8, some 1) := rfl
@[simp] theorem tyY52 : (tyTab 52).map Ty.bytes = some 8 := rfl
@[simp] theorem tyS52 : (tyTab 52).map Ty.size = some 1 := rfl
@[simp] theorem tyE52 : Vabs.elemOf tyTab 52 = none := rfl
@[simp] theorem tyA52 : arrOf tyTab 52 = none := rfl
@[simp] theorem tyL52 (cs : List C) (off : Nat) : loadAt tyTab 52 cs off = (cs[off]?).map .c := rfl
@[simp] theorem tyZ52 : ((tyTab 52).bind Ty.zero).bind lits = some [.lit (.nilFunc)] := rfl
@[simp] theorem tyK53 : (tyTab 53).map Ty.k = some (.other) := rfl
@[simp] theorem tyB53 : (tyTab 53).map (fun y => (y.bytes, y.zero.map List.length)) = some (8, some 1) := rfl
@[simp] theorem tyY53 : (tyTab 53).map Ty.bytes = some 8 := rfl
@[simp] theorem tyS53 : (tyTab 53).map Ty.size = some 1 := rfl
@[simp] theorem tyE53 : Vabs.elemOf tyTab 53 = none := rfl
@[simp] theorem tyA53 : arrOf tyTab 53 = none := rfl
@[simp] theorem tyL53 (cs : List C) (off : Nat) : loadAt tyTab 53 cs off = (cs[off]?).map .c := rfl
@[simp] theorem tyZ53 : ((tyTab 53).bind Ty.zero).bind lits = some [.lit (.nilFunc)] := rfl
@[simp] theorem tyK54 : (tyTab 54).map Ty.k = some (.other) := rfl
@[simp] theorem tyB54 : (tyTab 54).map (fun y => (y.bytes, y.zero.map List.length)) = some (8, some 1) := rfl
@[simp] theorem tyY54 : (tyTab 54).map Ty.bytes = some 8 := rfl
@[simp] theorem tyS54 : (tyTab 54).map Ty.size = some 1 := rfl
@[simp] theorem tyE54 : Vabs.elemOf tyTab 54 = none := rfl
@[simp] theorem tyA54 : arrOf tyTab 54 = none := rfl
@[simp] theorem tyL54 (cs : List C) (off : Nat) : loadAt tyTab 54 cs off = (cs[off]?).map .c := rfl
@[simp] theorem tyZ54 : ((tyTab 54).bind Ty.zero).bind lits = some [.lit (.nilFunc)] := rfl
@[simp] theorem tyK55 : (tyTab 55).map Ty.k = some (.other) := rfl
@[simp] theorem tyB55 : (tyTab 55).map (fun y => (y.bytes, y.zero.map List.length)) = some (8, some 1) := rfl
@[simp] theorem tyY55 : (tyTab 55).map Ty.bytes = some 8 := rfl
@[simp] theorem tyS55 : (tyTab 55).map Ty.size = some 1 := rfl
@[simp] theorem tyE55 : Vabs.elemOf tyTab 55 = none := rfl
@[simp] theorem tyA55 : arrOf tyTab 55 = none := rfl
@[simp] theorem tyL55 (cs : List C) (off : Nat) : loadAt tyTab 55 cs off = (cs[off]?).map .c := rfl
@[simp] theorem tyZ55 : ((tyTab 55).bind Ty.zero).bind lits = some [.lit (.nilFunc)] := rfl
@[simp] theorem tyK57 : (tyTab 57).map Ty.k = some (.other) := rfl
@[simp] theorem tyB57 : (tyTab 57).map (fun y => (y.bytes, y.zero.map List.length)) = some (8, some 1) := rfl
@[simp] theorem tyY57 : (tyTab 57).map Ty.bytes = some 8 := rfl
@[simp] theorem tyS57 : (tyTab 57).map Ty.size = some 1 := rfl
@[simp] theorem tyE57 : Vabs.elemOf tyTab 57 = none := rfl
@[simp] theorem tyA57 : arrOf tyTab 57 = none := rfl
@[simp] theorem tyL57 (cs : List C) (off : Nat) : loadAt tyTab 57 cs off = (cs[off]?).map .c := rfl
@[simp] theorem tyZ57 : ((tyTab 57).bind Ty.zero).bind lits = some [.lit (.nilFunc)] := rfl
@[simp] theorem tyK59 : (tyTab 59).map Ty.k = some (.other) := rfl
@[simp] theorem tyB59 : (tyTab 59).map (fun y => (y.bytes, y.zero.map List.length)) = some (8, some 1) := rfl
@[simp] theorem tyY59 : (tyTab 59).map Ty.bytes = some 8 := rfl
@[simp] theorem tyS59 : (tyTab 59).map Ty.size = some 1 := rfl
@[simp] theorem tyE59 : Vabs.elemOf tyTab 59 = none := rfl
@[simp] theorem tyA59 : arrOf tyTab 59 = none := rfl
@[simp] theorem tyL59 (cs : List C) (off : Nat) : loadAt tyTab 59 cs off = (cs[off]?).map .c := rfl
@[simp] theorem tyZ59 : ((tyTab 59).bind Ty.zero).bind lits = some [.lit (.nilFunc)] := rfl
@[simp] theorem tyK60 : (tyTab 60).map Ty.k = some (.other) := rfl
@[simp] theorem tyB60 : (tyTab 60).map (fun y => (y.bytes, y.zero.map List.length)) = some (8, some 1) := rfl
@[simp] theorem tyY60 : (tyTab 60).map Ty.bytes = some 8 := rfl
@[simp] theorem tyS60 : (tyTab 60).map Ty.size = some 1 := rfl
@[simp] theorem tyE60 : Vabs.elemOf tyTab 60 = none := rfl
@[simp] theorem tyA60 : arrOf tyTab 60 = none := rfl
@[simp] theorem tyL60 (cs : List C) (off : Nat) : loadAt tyTab 60 cs off = (cs[off]?).map .c := rfl
@[simp] theorem tyZ60 : ((tyTab 60).bind Ty.zero).bind lits = some [.lit (.nilFunc)] := rfl
@[simp] theorem tyK61 : (tyTab 61).map Ty.k = some (.int .u64) := rfl
@[simp] theorem tyB61 : (tyTab 61).map (fun y => (y.bytes, y.zero.map List.length)) = some (8, some 1) := rfl
@[simp] theorem tyY61 : (tyTab 61).map Ty.bytes = some 8 := rfl
@[simp] theorem tyS61 : (tyTab 61).map Ty.size = some 1 := rfl
@[simp] theorem tyE61 : Vabs.elemOf tyTab 61 = none := rfl
@[simp] theorem tyA61 : arrOf tyTab 61 = none := rfl
@[simp] theorem tyL61 (cs : List C) (off : Nat) : loadAt tyTab 61 cs off = (cs[off]?).map .c := rfl
@[simp] theorem tyZ61 : ((tyTab 61).bind Ty.zero).bind lits = some [.lit (.int .u64 0)] := rfl
@[simp] theorem tyK62 : (tyTab 62).map Ty.k = some (.other) := rfl
@[simp] theorem tyB62 : (tyTab 62).map (fun y => (y.bytes, y.zero.map List.length)) = some (8, some 1) := rfl
@[simp] theorem tyY62 : (tyTab 62).map Ty.bytes = some 8 := rfl
@[simp] theorem tyS62 : (tyTab 62).map Ty.size = some 1 := rfl
@[simp] theorem tyE62 : Vabs.elemOf tyTab 62 = none := rfl
@[simp] theorem tyA62 : arrOf tyTab 62 = none := rfl
@[simp] theorem tyL62 (cs : List C) (off : Nat) : loadAt tyTab 62 cs off = (cs[off]?).map .c := rfl
@[simp] theorem tyZ62 : ((tyTab 62).bind Ty.zero).bind lits = some [.lit (.nilFunc)] := rfl
@[simp] theorem tyK63 : (tyTab 63).map Ty.k = some (.other) := rfl
@[simp] theorem tyB63 : (tyTab 63).map (fun y => (y.bytes, y.zero.map List.length)) = some (8, some 1) := rfl
@[simp] theorem tyY63 : (tyTab 63).map Ty.bytes = some 8 := rfl
@[simp] theorem tyS63 : (tyTab 63).map Ty.size = some 1 := rfl
@[simp] theorem tyE63 : Vabs.elemOf tyTab 63 = none := rfl
@[simp] theorem tyA63 : arrOf tyTab 63 = none := rfl
@[simp] theorem tyL63 (cs : List C) (off : Nat) : loadAt tyTab 63 cs off = (cs[off]?).map .c := rfl
@[simp] theorem tyZ63 : ((tyTab 63).bind Ty.zero).bind lits = some [.lit (.nilFunc)] := rfl
@[simp] theorem tyK64 : (tyTab 64).map Ty.k = some (.other) := rfl
@[simp] theorem tyB64 : (tyTab 64).map (fun y => (y.bytes, y.zero.map List.length)) = some (8, some 1) := rfl
@[simp] theorem tyY64 : (tyTab 64).map Ty.bytes = some 8 := rfl
@[simp] theorem tyS64 : (tyTab 64).map Ty.size = some 1 := rfl
@[simp] theorem tyE64 : Vabs.elemOf tyTab 64 = none := rfl
@[simp] theorem tyA64 : arrOf tyTab 64 = none := rfl
@[simp] theorem tyL64 (cs : List C) (off : Nat) : loadAt tyTab 64 cs off = (cs[off]?).map .c := rfl
@[simp] theorem tyZ64 : ((tyTab 64).bind Ty.zero).bind lits = some [.lit (.nilFunc)] := rfl
@[simp] theorem tyK65 : (tyTab 65).map Ty.k = some (.other) := rfl
@[simp] theorem tyB65 : (tyTab 65).map (fun y => (y.bytes, y.zero.map List.length)) = some (8, some 1) := rfl
@[simp] theorem tyY65 : (tyTab 65).map Ty.bytes = some 8 := rfl
@[simp] theorem tyS65 : (tyTab 65).map Ty.size = some 1 := rfl
@[simp] theorem tyE65 : Vabs.elemOf tyTab 65 = none := rfl
@[simp] theorem tyA65 : arrOf tyTab 65 = none := rfl
@[simp] theorem tyL65 (cs : List C) (off : Nat) : loadAt tyTab 65 cs off = (cs[off]?).map .c := rfl
@[simp] theorem tyZ65 : ((tyTab 65).bind Ty.zero).bind lits = some [.lit (.nilFunc)] := rfl
@[simp] theorem tyK66 : (tyTab 66).map Ty.k = some (.other) := rfl
@[simp] theorem tyB66 : (tyTab 66).map (fun y => (y.bytes, y.zero.map List.length)) = some (8, some 1) := rfl
@[simp] theorem tyY66 : (tyTab 66).map Ty.bytes = some 8 := rfl
@[simp] theorem tyS66 : (tyTab 66).map Ty.size = some 1 := rfl
@[simp] theorem tyE66 : Vabs.elemOf tyTab 66 = none := rfl
@[simp] theorem tyA66 : arrOf tyTab 66 = none := rfl
@[simp] theorem tyL66 (cs : List C) (off : Nat) : loadAt tyTab 66 cs off = (cs[off]?).map .c := rfl
@[simp] theorem tyZ66 : ((tyTab 66).bind Ty.zero).bind lits = some [.lit (.nilFunc)] := rfl
@[simp] theorem tyK67 : (tyTab 67).map Ty.k = some (.array 256 5) := rfl
@[simp] theorem tyB67 : (tyTab 67).map (fun y => (y.bytes, y.zero.map List.length)) = some (256, some 256) := by
  show some (256, (some (List.replicate 256 (Value.int .u8 0))).map List.length) = _
  rw [Option.map_some, List.length_replicate]
@[simp] theorem tyY67 : (tyTab 67).map Ty.bytes = some 256 := rfl
@[simp] theorem tyS67 : (tyTab 67).map Ty.size = some 256 := rfl
@[simp] theorem tyE67 : Vabs.elemOf tyTab 67 = none := rfl
@[simp] theorem tyA67 : arrOf tyTab 67 = some (256, 1) := rfl
@[simp] theorem tyL67 (cs : List C) (off : Nat) : loadAt tyTab 67 cs off = if off + 256 ≤ cs.length then some (.agg ((cs.drop off).take 256)) else none := rfl
@[simp] theorem tyK68 : (tyTab 68).map Ty.k = some (.struct) := rfl
@[simp] theorem tyB68 : (tyTab 68).map (fun y => (y.bytes, y.zero.map List.length)) = some (2, some 2) := rfl
@[simp] theorem tyY68 : (tyTab 68).map Ty.bytes = some 2 := rfl
@[simp] theorem tyD68 (parts : List (Nat × T)) : ((tyTab 68).bind fun y => buildT tyTab y parts) = fills (placeOf tyTab row68) [.lit (.int .u8 0), .lit (.int .u8 0)] parts := rfl
@[simp] theorem tyP68_0 : placeOf tyTab row68 0 = some (0, 1) := rfl
@[simp] theorem tyP68_1 : placeOf tyTab row68 1 = some (1, 1) := rfl
@[simp] theorem tyS68 : (tyTab 68).map Ty.size = some 2 := rfl
@[simp] theorem tyE68 : Vabs.elemOf tyTab 68 = none := rfl
@[simp] theorem tyA68 : arrOf tyTab 68 = none := rfl
@[simp] theorem tyL68 (cs : List C) (off : Nat) : loadAt tyTab 68 cs off = if off + 2 ≤ cs.length then some (.agg ((cs.drop off).take 2)) else none := rfl
@[simp] theorem tyZ68 : ((tyTab 68).bind Ty.zero).bind lits = some [.lit (.int .u8 0), .lit (.int .u8 0)] := rfl
@[simp] theorem tyF68_0 : fieldOf tyTab 68 0 = some (0, 5) := rfl
@[simp] theorem tyF68_1 : fieldOf tyTab 68 1 = some (1, 5) := rfl
@[simp] theorem tyK69 : (tyTab 69).map Ty.k = some (.struct) := rfl
@[simp] theorem tyB69 : (tyTab 69).map (fun y => (y.bytes, y.zero.map List.length)) = some (2, some 2) := rfl
@[simp] theorem tyY69 : (tyTab 69).map Ty.bytes = some 2 := rfl
@[simp] theorem tyD69 (parts : List (Nat × T)) : ((tyTab 69).bind fun y => buildT tyTab y parts) = fills (placeOf tyTab row69) [.lit (.int .u8 0), .lit (.int .u8 0)] parts := rfl
@[simp] theorem tyP69_0 : placeOf tyTab row69 0 = some (0, 1) := rfl
@[simp] theorem tyP69_1 : placeOf tyTab row69 1 = some (1, 1) := rfl
@[simp] theorem tyS69 : (tyTab 69).map Ty.size = some 2 := rfl
@[simp] theorem tyE69 : Vabs.elemOf tyTab 69 = none := rfl
@[simp] theorem tyA69 : arrOf tyTab 69 = none := rfl
@[simp] theorem tyL69 (cs : List C) (off : Nat) : loadAt tyTab 69 cs off = if off + 2 ≤ cs.length then some (.agg ((cs.drop off).take 2)) else none := rfl
@[simp] theorem tyZ69 : ((tyTab 69).bind Ty.zero).bind lits = some [.lit (.int .u8 0), .lit (.int .u8 0)] := rfl
@[simp] theorem tyF69_0 : fieldOf tyTab 69 0 = some (0, 5) := rfl
@[simp] theorem tyF69_1 : fieldOf tyTab 69 1 = some (1, 5) := rfl
@[simp] theorem tyK70 : (tyTab 70).map Ty.k = some (.array 16 69) := rfl
@[simp] theorem tyB70 : (tyTab 70).map (fun y => (y.bytes, y.zero.map List.length)) = some (32, some 32) := rfl
@[simp] theorem tyY70 : (tyTab 70).map Ty.bytes = some 32 := rfl
@[simp] theorem tyD70 (parts : List (Nat × T)) : ((tyTab 70).bind fun y => buildT tyTab y parts) = fills (fun i => some (i * 2, 2)) [.lit (.int .u8 0), .lit (.int .u8 0), .lit (.int .u8 0), .lit (.int .u8 0), .lit (.int .u8 0), .lit (.int .u8 0), .lit (.int .u8 0), .lit (.int .u8 0), .lit (.int .u8 0), .lit (.int .u8 0), .lit (.int .u8 0), .lit (.int .u8 0), .lit (.int .u8 0), .lit (.int .u8 0), .lit (.int .u8 0), .lit (.int .u8 0), .lit (.int .u8 0), .lit (.int .u8 0), .lit (.int .u8 0), .lit (.int .u8 0), .lit (.int .u8 0), .lit (.int .u8 0), .lit (.int .u8 0), .lit (.int .u8 0), .lit (.int .u8 0), .lit (.int .u8 0), .lit (.int .u8 0), .lit (.int .u8 0), .lit (.int .u8 0), .lit (.int .u8 0), .lit (.int .u8 0), .lit (.int .u8 0)] parts := rfl
@[simp] theorem tyS70 : (tyTab 70).map Ty.size = some 32 := rfl
@[simp] theorem tyE70 : Vabs.elemOf tyTab 70 = none := rfl
@[simp] theorem tyA70 : arrOf tyTab 70 = some (16, 2) := rfl
@[simp] theorem tyL70 (cs : List C) (off : Nat) : loadAt tyTab 70 cs off = if off + 32 ≤ cs.length then some (.agg ((cs.drop off).take 32)) else none := rfl
@[simp] theorem tyZ70 : ((tyTab 70).bind Ty.zero).bind lits = some [.lit (.int .u8 0), .lit (.int .u8 0), .lit (.int .u8 0), .lit (.int .u8 0), .lit (.int .u8 0), .lit (.int .u8 0), .lit (.int .u8 0), .lit (.int .u8 0), .lit (.int .u8 0), .lit (.int .u8 0), .lit (.int .u8 0), .lit (.int .u8 0), .lit (.int .u8 0), .lit (.int .u8 0), .lit (.int .u8 0), .lit (.int .u8 0), .lit (.int .u8 0), .lit (.int .u8 0), .lit (.int .u8 0), .lit (.int .u8 0), .lit (.int .u8 0), .lit (.int .u8 0), .lit (.int .u8 0), .lit (.int .u8 0), .lit (.int .u8 0), .lit (.int .u8 0), .lit (.int .u8 0), .lit (.int .u8 0), .lit (.int .u8 0), .lit (.int .u8 0), .lit (.int .u8 0), .lit (.int .u8 0)] := rfl
@[simp] theorem tyK71 : (tyTab 71).map Ty.k = some (.other) := rfl
@[simp] theorem tyB71 : (tyTab 71).map (fun y => (y.bytes, y.zero.map List.length)) = some (8, some 1) := rfl
@[simp] theorem tyY71 : (tyTab 71).map Ty.bytes = some 8 := rfl
@[simp] theorem tyS71 : (tyTab 71).map Ty.size = some 1 := rfl
@[simp] theorem tyE71 : Vabs.elemOf tyTab 71 = none := rfl
@[simp] theorem tyA71 : arrOf tyTab 71 = none := rfl
@[simp] theorem tyL71 (cs : List C) (off : Nat) : loadAt tyTab 71 cs off = (cs[off]?).map .c := rfl
@[simp] theorem tyZ71 : ((tyTab 71).bind Ty.zero).bind lits = some [.lit (.nilFunc)] := rfl
@[simp] theorem tyK72 : (tyTab 72).map Ty.k = some (.other) := rfl
@[simp] theorem tyB72 : (tyTab 72).map (fun y => (y.bytes, y.zero.map List.length)) = some (8, some 1) := rfl
@[simp] theorem tyY72 : (tyTab 72).map Ty.bytes = some 8 := rfl
@[simp] theorem tyS72 : (tyTab 72).map Ty.size = some 1 := rfl
@[simp] theorem tyE72 : Vabs.elemOf tyTab 72 = none := rfl
@[simp] theorem tyA72 : arrOf tyTab 72 = none := rfl
@[simp] theorem tyL72 (cs : List C) (off : Nat) : loadAt tyTab 72 cs off = (cs[off]?).map .c := rfl
@[simp] theorem tyZ72 : ((tyTab 72).bind Ty.zero).bind lits = some [.lit (.nilFunc)] := rfl
@[simp] theorem tyK73 : (tyTab 73).map Ty.k = some (.other) := rfl
@[simp] theorem tyB73 : (tyTab 73).map (fun y => (y.bytes, y.zero.map List.length)) = some (8, some 1) := rfl
@[simp] theorem tyY73 : (tyTab 73).map Ty.bytes = some 8 := rfl
@[simp] theorem tyS73 : (tyTab 73).map Ty.size = some 1 := rfl
@[simp] theorem tyE73 : Vabs.elemOf tyTab 73 = none := rfl
@[simp] theorem tyA73 : arrOf tyTab 73 = none := rfl
@[simp] theorem tyL73 (cs : List C) (off : Nat) : loadAt tyTab 73 cs off = (cs[off]?).map .c := rfl
@[simp] theorem tyZ73 : ((tyTab 73).bind Ty.zero).bind lits = some [.lit (.nilFunc)] := rfl
@[simp] theorem tyK74 : (tyTab 74).map Ty.k = some (.other) := rfl
@[simp] theorem tyB74 : (tyTab 74).map (fun y => (y.bytes, y.zero.map List.length)) = some (8, some 1) := rfl
@[simp] theorem tyY74 : (tyTab 74).map Ty.bytes = some 8 := rfl
@[simp] theorem tyS74 : (tyTab 74).map Ty.size = some 1 := rfl
@[simp] theorem tyE74 : Vabs.elemOf tyTab 74 = none := rfl
@[simp] theorem tyA74 : arrOf tyTab 74 = none := rfl
@[simp] theorem tyL74 (cs : List C) (off : Nat) : loadAt tyTab 74 cs off = (cs[off]?).map .c := rfl
@[simp] theorem tyZ74 : ((tyTab 74).bind Ty.zero).bind lits = some [.lit (.nilFunc)] := rfl
@[simp] theorem tyK76 : (tyTab 76).map Ty.k = some (.other) := rfl
@[simp] theorem tyB76 : (tyTab 76).map (fun y => (y.bytes, y.zero.map List.length)) = some (8, some 1) := rfl
@[simp] theorem tyY76 : (tyTab 76).map Ty.bytes = some 8 := rfl
@[simp] theorem tyS76 : (tyTab 76).map Ty.size = some 1 := rfl
@[simp] theorem tyE76 : Vabs.elemOf tyTab 76 = none := rfl
@[simp] theorem tyA76 : arrOf tyTab 76 = none := rfl
@[simp] theorem tyL76 (cs : List C) (off : Nat) : loadAt tyTab 76 cs off = (cs[off]?).map .c := rfl
@[simp] theorem tyZ76 : ((tyTab 76).bind Ty.zero).bind lits = some [.lit (.nilFunc)] := rfl
@[simp] theorem tyK77 : (tyTab 77).map Ty.k = some (.other) := rfl
@[simp] theorem tyB77 : (tyTab 77).map (fun y => (y.bytes, y.zero.map List.length)) = some (8, some 1) := rfl
@[simp] theorem tyY77 : (tyTab 77).map Ty.bytes = some 8 := rfl
@[simp] theorem tyS77 : (tyTab 77).map Ty.size = some 1 := rfl
@[simp] theorem tyE77 : Vabs.elemOf tyTab 77 = none := rfl
@[simp] theorem tyA77 : arrOf tyTab 77 = none := rfl
@[simp] theorem tyL77 (cs : List C) (off : Nat) : loadAt tyTab 77 cs off = (cs[off]?).map .c := rfl
@[simp] theorem tyZ77 : ((tyTab 77).bind Ty.zero).bind lits = some [.lit (.nilFunc)] := rfl
@[simp] theorem tyK83 : (tyTab 83).map Ty.k = some (.other) := rfl
@[simp] theorem tyB83 : (tyTab 83).map (fun y => (y.bytes, y.zero.map List.length)) = some (8, some 1) := rfl
@[simp] theorem tyY83 : (tyTab 83).map Ty.bytes = some 8 := rfl
@[simp] theorem tyS83 : (tyTab 83).map Ty.size = some 1 := rfl
@[simp] theorem tyE83 : Vabs.elemOf tyTab 83 = none := rfl
@[simp] theorem tyA83 : arrOf tyTab 83 = none := rfl
@[simp] theorem tyL83 (cs : List C) (off : Nat) : loadAt tyTab 83 cs off = (cs[off]?).map .c := rfl
@[simp] theorem tyZ83 : ((tyTab 83).bind Ty.zero).bind lits = some [.lit (.nilFunc)] := rfl
@[simp] theorem tyK86 : (tyTab 86).map Ty.k = some (.other) := rfl
@[simp] theorem tyB86 : (tyTab 86).map (fun y => (y.bytes, y.zero.map List.length)) = some (8, some 1) := rfl
@[simp] theorem tyY86 : (tyTab 86).map Ty.bytes = some 8 := rfl
@[simp] theorem tyS86 : (tyTab 86).map Ty.size = some 1 := rfl
@[simp] theorem tyE86 : Vabs.elemOf tyTab 86 = none := rfl
@[simp] theorem tyA86 : arrOf tyTab 86 = none := rfl
@[simp] theorem tyL86 (cs : List C) (off : Nat) : loadAt tyTab 86 cs off = (cs[off]?).map .c := rfl
@[simp] theorem tyZ86 : ((tyTab 86).bind Ty.zero).bind lits = some [.lit (.nilFunc)] := rfl
@[simp] theorem tyK87 : (tyTab 87).map Ty.k = some (.other) := rfl
@[simp] theorem tyB87 : (tyTab 87).map (fun y => (y.bytes, y.zero.map List.length)) = some (8, some 1) := rfl
@[simp] theorem tyY87 : (tyTab 87).map Ty.bytes = some 8 := rfl
@[simp] theorem tyS87 : (tyTab 87).map Ty.size = some 1 := rfl
@[simp] theorem tyE87 : Vabs.elemOf tyTab 87 = none := rfl
@[simp] theorem tyA87 : arrOf tyTab 87 = none := rfl
@[simp] theorem tyL87 (cs : List C) (off : Nat) : loadAt tyTab 87 cs off = (cs[off]?).map .c := rfl
@[simp] theorem tyZ87 : ((tyTab 87).bind Ty.zero).bind lits = some [.lit (.pointer none)] := rfl
@[simp] theorem tyN1 : layOf tyTab 5 1 = [none] := rfl
@[simp] theorem tyN2 : layOf tyTab 5 2 = [none] := rfl
@[simp] theorem tyN3 : layOf tyTab 5 3 = [none] := rfl
@[simp] theorem tyN4 : layOf tyTab 5 4 = [none] := rfl
@[simp] theorem tyN5 : layOf tyTab 5 5 = [none] := rfl
@[simp] theorem tyN9 : layOf tyTab 5 9 = [none] := rfl
@[simp] theorem tyN12 : layOf tyTab 5 12 = [none] := rfl
@[simp] theorem tyN13 : layOf tyTab 5 13 = [none, none] := rfl
@[simp] theorem tyN21 : layOf tyTab 5 21 = [none] := rfl
@[simp] theorem tyN22 : layOf tyTab 5 22 = [some 1] := rfl
@[simp] theorem tyN23 : layOf tyTab 5 23 = [some 1, none, none, none] := rfl
@[simp] theorem tyN24 : layOf tyTab 5 24 = [some 1, none, none, none] := rfl
@[simp] theorem tyN25 : layOf tyTab 5 25 = [none] := rfl
@[simp] theorem tyN26 : layOf tyTab 5 26 = [none] := rfl
@[simp] theorem tyN28 : layOf tyTab 5 28 = [none] := rfl
@[simp] theorem tyN30 : layOf tyTab 5 30 = [none] := rfl
@[simp] theorem tyN32 : layOf tyTab 5 32 = [none] := rfl
@[simp] theorem tyN34 : layOf tyTab 5 34 = [none] := rfl
@[simp] theorem tyN35 : layOf tyTab 5 35 = [none] := rfl
@[simp] theorem tyN36 : layOf tyTab 5 36 = [none] := rfl
@[simp] theorem tyN37 : layOf tyTab 5 37 = [none] := rfl
@[simp] theorem tyN38 : layOf tyTab 5 38 = [none] := rfl
@[simp] theorem tyN39 : layOf tyTab 5 39 = [some 1, some 1, none, none] := rfl
@[simp] theorem tyN40 : layOf tyTab 5 40 = [some 1, some 1, none, none] := rfl
@[simp] theorem tyN41 : layOf tyTab 5 41 = [none] := rfl
@[simp] theorem tyN42 : layOf tyTab 5 42 = [none] := rfl
@[simp] theorem tyN43 : layOf tyTab 5 43 = [none] := rfl
@[simp] theorem tyN44 : layOf tyTab 5 44 = [none] := rfl
@[simp] theorem tyN45 : layOf tyTab 5 45 = [none] := rfl
@[simp] theorem tyN46 : layOf tyTab 5 46 = [none, none, some 1, some 1] := rfl
@[simp] theorem tyN47 : layOf tyTab 5 47 = [none, none, some 1, some 1] := rfl
@[simp] theorem tyN48 : layOf tyTab 5 48 = [none] := rfl
@[simp] theorem tyN49 : layOf tyTab 5 49 = [some 1, none, none, none] := rfl
@[simp] theorem tyN50 : layOf tyTab 5 50 = [some 1, none, none, none] := rfl
@[simp] theorem tyN52 : layOf tyTab 5 52 = [none] := rfl
@[simp] theorem tyN53 : layOf tyTab 5 53 = [none] := rfl
@[simp] theorem tyN54 : layOf tyTab 5 54 = [none] := rfl
@[simp] theorem tyN55 : layOf tyTab 5 55 = [none] := rfl
@[simp] theorem tyN57 : layOf tyTab 5 57 = [none] := rfl
@[simp] theorem tyN59 : layOf tyTab 5 59 = [none] := rfl
@[simp] theorem tyN60 : layOf tyTab 5 60 = [none] := rfl
@[simp] theorem tyN61 : layOf tyTab 5 61 = [none] := rfl
@[simp] theorem tyN62 : layOf tyTab 5 62 = [none] := rfl
@[simp] theorem tyN63 : layOf tyTab 5 63 = [none] := rfl
@[simp] theorem tyN64 : layOf tyTab 5 64 = [none] := rfl
@[simp] theorem tyN65 : layOf tyTab 5 65 = [none] := rfl
@[simp] theorem tyN66 : layOf tyTab 5 66 = [none] := rfl
@[simp] theorem tyN68 : layOf tyTab 5 68 = [none, none] := rfl
@[simp] theorem tyN69 : layOf tyTab 5 69 = [none, none] := rfl
@[simp] theorem tyN70 : layOf tyTab 5 70 = [none, none, none, none, none, none, none, none, none, none, none, none, none, none, none, none, none, none, none, none, none, none, none, none, none, none, none, none, none, none, none, none] := rfl
@[simp] theorem tyN71 : layOf tyTab 5 71 = [none] := rfl
@[simp] theorem tyN72 : layOf tyTab 5 72 = [none] := rfl
@[simp] theorem tyN73 : layOf tyTab 5 73 = [none] := rfl
@[simp] theorem tyN74 : layOf tyTab 5 74 = [none] := rfl
@[simp] theorem tyN76 : layOf tyTab 5 76 = [none] := rfl
@[simp] theorem tyN77 : layOf tyTab 5 77 = [none] := rfl
@[simp] theorem tyN83 : layOf tyTab 5 83 = [none] := rfl
@[simp] theorem tyN86 : layOf tyTab 5 86 = [none] := rfl
@[simp] theorem tyN87 : layOf tyTab 5 87 = [none] := rfl
@[simp] theorem tyM1 : layE tyTab 5 1 = [none] := rfl
@[simp] theorem tyM2 : layE tyTab 5 2 = [none] := rfl
@[simp] theorem tyM3 : layE tyTab 5 3 = [none] := rfl
@[simp] theorem tyM4 : layE tyTab 5 4 = [none] := rfl
@[simp] theorem tyM5 : layE tyTab 5 5 = [none] := rfl
@[simp] theorem tyM9 : layE tyTab 5 9 = [none] := rfl
@[simp] theorem tyM12 : layE tyTab 5 12 = [none] := rfl
@[simp] theorem tyM13 : layE tyTab 5 13 = [none, none] := rfl
@[simp] theorem tyM21 : layE tyTab 5 21 = [none] := rfl
@[simp] theorem tyM22 : layE tyTab 5 22 = [some (5, 1)] := rfl
@[simp] theorem tyM23 : layE tyTab 5 23 = [some (5, 1), none, none, none] := rfl
@[simp] theorem tyM24 : layE tyTab 5 24 = [some (5, 1), none, none, none] := rfl
@[simp] theorem tyM25 : layE tyTab 5 25 = [none] := rfl
@[simp] theorem tyM26 : layE tyTab 5 26 = [none] := rfl
@[simp] theorem tyM28 : layE tyTab 5 28 = [none] := rfl
@[simp] theorem tyM30 : layE tyTab 5 30 = [none] := rfl
@[simp] theorem tyM32 : layE tyTab 5 32 = [none] := rfl
@[simp] theorem tyM34 : layE tyTab 5 34 = [none] := rfl
@[simp] theorem tyM35 : layE tyTab 5 35 = [none] := rfl
@[simp] theorem tyM36 : layE tyTab 5 36 = [none] := rfl
@[simp] theorem tyM37 : layE tyTab 5 37 = [none] := rfl
@[simp] theorem tyM38 : layE tyTab 5 38 = [none] := rfl
@[simp] theorem tyM39 : layE tyTab 5 39 = [some (5, 1), some (5, 1), none, none] := rfl
@[simp] theorem tyM40 : layE tyTab 5 40 = [some (5, 1), some (5, 1), none, none] := rfl
@[simp] theorem tyM41 : layE tyTab 5 41 = [none] := rfl
@[simp] theorem tyM42 : layE tyTab 5 42 = [none] := rfl
@[simp] theorem tyM43 : layE tyTab 5 43 = [none] := rfl
@[simp] theorem tyM44 : layE tyTab 5 44 = [none] := rfl
@[simp] theorem tyM45 : layE tyTab 5 45 = [none] := rfl
@[simp] theorem tyM46 : layE tyTab 5 46 = [none, none, some (5, 1), some (5, 1)] := rfl
@[simp] theorem tyM47 : layE tyTab 5 47 = [none, none, some (5, 1), some (5, 1)] := rfl
@[simp] theorem tyM48 : layE tyTab 5 48 = [none] := rfl
@[simp] theorem tyM49 : layE tyTab 5 49 = [some (5, 1), none, none, none] := rfl
@[simp] theorem tyM50 : layE tyTab 5 50 = [some (5, 1), none, none, none] := rfl
@[simp] theorem tyM52 : layE tyTab 5 52 = [none] := rfl
@[simp] theorem tyM53 : layE tyTab 5 53 = [none] := rfl
@[simp] theorem tyM54 : layE tyTab 5 54 = [none] := rfl
@[simp] theorem tyM55 : layE tyTab 5 55 = [none] := rfl
@[simp] theorem tyM57 : layE tyTab 5 57 = [none] := rfl
@[simp] theorem tyM59 : layE tyTab 5 59 = [none] := rfl
@[simp] theorem tyM60 : layE tyTab 5 60 = [none] := rfl
@[simp] theorem tyM61 : layE tyTab 5 61 = [none] := rfl
@[simp] theorem tyM62 : layE tyTab 5 62 = [none] := rfl
@[simp] theorem tyM63 : layE tyTab 5 63 = [none] := rfl
@[simp] theorem tyM64 : layE tyTab 5 64 = [none] := rfl
@[simp] theorem tyM65 : layE tyTab 5 65 = [none] := rfl
@[simp] theorem tyM66 : layE tyTab 5 66 = [none] := rfl
@[simp] theorem tyM68 : layE tyTab 5 68 = [none, none] := rfl
@[simp] theorem tyM69 : layE tyTab 5 69 = [none, none] := rfl
@[simp] theorem tyM70 : layE tyTab 5 70 = [none, none, none, none, none, none, none, none, none, none, none, none, none, none, none, none, none, none, none, none, none, none, none, none, none, none, none, none, none, none, none, none] := rfl
@[simp] theorem tyM71 : layE tyTab 5 71 = [none] := rfl
@[simp] theorem tyM72 : layE tyTab 5 72 = [none] := rfl
@[simp] theorem tyM73 : layE tyTab 5 73 = [none] := rfl
@[simp] theorem tyM74 : layE tyTab 5 74 = [none] := rfl
@[simp] theorem tyM76 : layE tyTab 5 76 = [none] := rfl
@[simp] theorem tyM77 : layE tyTab 5 77 = [none] := rfl
@[simp] theorem tyM83 : layE tyTab 5 83 = [none] := rfl
@[simp] theorem tyM86 : layE tyTab 5 86 = [none] := rfl
@[simp] theorem tyM87 : layE tyTab 5 87 = [none] := rfl
end
theorem ty1 : tyTab 1 = some row1 := rfl
theorem ty2 : tyTab 2 = some row2 := rfl
theorem ty3 : tyTab 3 = some row3 := rfl
theorem ty4 : tyTab 4 = some row4 := rfl
theorem ty5 : tyTab 5 = some row5 := rfl
theorem ty9 : tyTab 9 = some row9 := rfl
theorem ty12 : tyTab 12 = some row12 := rfl
theorem ty13 : tyTab 13 = some row13 := rfl
theorem ty21 : tyTab 21 = some row21 := rfl
theorem ty22 : tyTab 22 = some row22 := rfl
theorem ty23 : tyTab 23 = some row23 := rfl
theorem ty24 : tyTab 24 = some row24 := rfl
theorem ty25 : tyTab 25 = some row25 := rfl
theorem ty26 : tyTab 26 = some row26 := rfl
theorem ty28 : tyTab 28 = some row28 := rfl
theorem ty30 : tyTab 30 = some row30 := rfl
theorem ty32 : tyTab 32 = some row32 := rfl
theorem ty34 : tyTab 34 = some row34 := rfl
theorem ty35 : tyTab 35 = some row35 := rfl
theorem ty36 : tyTab 36 = some row36 := rfl
theorem ty37 : tyTab 37 = some row37 := rfl
theorem ty38 : tyTab 38 = some row38 := rfl
theorem ty39 : tyTab 39 = some row39 := rfl
theorem ty40 : tyTab 40 = some row40 := rfl
theorem ty41 : tyTab 41 = some row41 := rfl
theorem ty42 : tyTab 42 = some row42 := rfl
theorem ty43 : tyTab 43 = some row43 := rfl
theorem ty44 : tyTab 44 = some row44 := rfl
theorem ty45 : tyTab 45 = some row45 := rfl
theorem ty46 : tyTab 46 = some row46 := rfl
theorem ty47 : tyTab 47 = some row47 := rfl
theorem ty48 : tyTab 48 = some row48 := rfl
theorem ty49 : tyTab 49 = some row49 := rfl
theorem ty50 : tyTab 50 = some row50 := rfl
theorem ty52 : tyTab 52 = some row52 := rfl
theorem ty53 : tyTab 53 = some row53 := rfl
theorem ty54 : tyTab 54 = some row54 := rfl
theorem ty55 : tyTab 55 = some row55 := rfl
theorem ty57 : tyTab 57 = some row57 := rfl
theorem ty59 : tyTab 59 = some row59 := rfl
theorem ty60 : tyTab 60 = some row60 := rfl
theorem ty61 : tyTab 61 = some row61 := rfl
theorem ty62 : tyTab 62 = some row62 := rfl
theorem ty63 : tyTab 63 = some row63 := rfl
theorem ty64 : tyTab 64 = some row64 := rfl
theorem ty65 : tyTab 65 = some row65 := rfl
theorem ty66 : tyTab 66 = some row66 := rfl
theorem ty67 : tyTab 67 = some row67 := rfl
theorem ty68 : tyTab 68 = some row68 := rfl
theorem ty69 : tyTab 69 = some row69 := rfl
theorem ty70 : tyTab 70 = some row70 := rfl
theorem ty71 : tyTab 71 = some row71 := rfl
theorem ty72 : tyTab 72 = some row72 := rfl
theorem ty73 : tyTab 73 = some row73 := rfl
theorem ty74 : tyTab 74 = some row74 := rfl
theorem ty76 : tyTab 76 = some row76 := rfl
theorem ty77 : tyTab 77 = some row77 := rfl
theorem ty83 : tyTab 83 = some row83 := rfl
theorem ty86 : tyTab 86 = some row86 := rfl
theorem ty87 : tyTab 87 = some row87 := rfl
theorem tyOk1 : Ty.of Tryd.prog 1 = tyTab 1 := by kernel_rfl
theorem tyOk2 : Ty.of Tryd.prog 2 = tyTab 2 := by kernel_rfl
theorem tyOk3 : Ty.of Tryd.prog 3 = tyTab 3 := by kernel_rfl
theorem tyOk4 : Ty.of Tryd.prog 4 = tyTab 4 := by kernel_rfl
theorem tyOk5 : Ty.of Tryd.prog 5 = tyTab 5 := by kernel_rfl
theorem tyOk9 : Ty.of Tryd.prog 9 = tyTab 9 := by kernel_rfl
theorem tyOk12 : Ty.of Tryd.prog 12 = tyTab 12 := by kernel_rfl
theorem tyOk13 : Ty.of Tryd.prog 13 = tyTab 13 := by kernel_rfl
theorem tyOk21 : Ty.of Tryd.prog 21 = tyTab 21 := by kernel_rfl
theorem tyOk22 : Ty.of Tryd.prog 22 = tyTab 22 := by kernel_rfl
theorem tyOk23 : Ty.of Tryd.prog 23 = tyTab 23 := by kernel_rfl
theorem tyOk24 : Ty.of Tryd.prog 24 = tyTab 24 := by kernel_rfl
theorem tyOk25 : Ty.of Tryd.prog 25 = tyTab 25 := by kernel_rfl
theorem tyOk26 : Ty.of Tryd.prog 26 = tyTab 26 := by kernel_rfl
theorem tyOk28 : Ty.of Tryd.prog 28 = tyTab 28 := by kernel_rfl
theorem tyOk30 : Ty.of Tryd.prog 30 = tyTab 30 := by kernel_rfl
theorem tyOk32 : Ty.of Tryd.prog 32 = tyTab 32 := by kernel_rfl
theorem tyOk34 : Ty.of Tryd.prog 34 = tyTab 34 := by kernel_rfl
theorem tyOk35 : Ty.of Tryd.prog 35 = tyTab 35 := by kernel_rfl
theorem tyOk36 : Ty.of Tryd.prog 36 = tyTab 36 := by kernel_rfl
theorem tyOk37 : Ty.of Tryd.prog 37 = tyTab 37 := by kernel_rfl
theorem tyOk38 : Ty.of Tryd.prog 38 = tyTab 38 := by kernel_rfl
theorem tyOk39 : Ty.of Tryd.prog 39 = tyTab 39 := by kernel_rfl
theorem tyOk40 : Ty.of Tryd.prog 40 = tyTab 40 := by kernel_rfl
theorem tyOk41 : Ty.of Tryd.prog 41 = tyTab 41 := by kernel_rfl
theorem tyOk42 : Ty.of Tryd.prog 42 = tyTab 42 := by kernel_rfl
theorem tyOk43 : Ty.of Tryd.prog 43 = tyTab 43 := by kernel_rfl
theorem tyOk44 : Ty.of Tryd.prog 44 = tyTab 44 := by kernel_rfl
theorem tyOk45 : Ty.of Tryd.prog 45 = tyTab 45 := by kernel_rfl
theorem tyOk46 : Ty.of Tryd.prog 46 = tyTab 46 := by kernel_rfl
theorem tyOk47 : Ty.of Tryd.prog 47 = tyTab 47 := by kernel_rfl
theorem tyOk48 : Ty.of Tryd.prog 48 = tyTab 48 := by kernel_rfl
theorem tyOk49 : Ty.of Tryd.prog 49 = tyTab 49 := by kernel_rfl
theorem tyOk50 : Ty.of Tryd.prog 50 = tyTab 50 := by kernel_rfl
theorem tyOk52 : Ty.of Tryd.prog 52 = tyTab 52 := by kernel_rfl
theorem tyOk53 : Ty.of Tryd.prog 53 = tyTab 53 := by kernel_rfl
theorem tyOk54 : Ty.of Tryd.prog 54 = tyTab 54 := by kernel_rfl
theorem tyOk55 : Ty.of Tryd.prog 55 = tyTab 55 := by kernel_rfl
theorem tyOk57 : Ty.of Tryd.prog 57 = tyTab 57 := by kernel_rfl
theorem tyOk59 : Ty.of Tryd.prog 59 = tyTab 59 := by kernel_rfl
theorem tyOk60 : Ty.of Tryd.prog 60 = tyTab 60 := by kernel_rfl
theorem tyOk61 : Ty.of Tryd.prog 61 = tyTab 61 := by kernel_rfl
theorem tyOk62 : Ty.of Tryd.prog 62 = tyTab 62 := by kernel_rfl
theorem tyOk63 : Ty.of Tryd.prog 63 = tyTab 63 := by kernel_rfl
theorem tyOk64 : Ty.of Tryd.prog 64 = tyTab 64 := by kernel_rfl
theorem tyOk65 : Ty.of Tryd.prog 65 = tyTab 65 := by kernel_rfl
theorem tyOk66 : Ty.of Tryd.prog 66 = tyTab 66 := by kernel_rfl
theorem tyOk67 : Ty.of Tryd.prog 67 = tyTab 67 := by kernel_rfl
theorem tyOk68 : Ty.of Tryd.prog 68 = tyTab 68 := by kernel_rfl
theorem tyOk69 : Ty.of Tryd.prog 69 = tyTab 69 := by kernel_rfl
theorem tyOk70 : Ty.of Tryd.prog 70 = tyTab 70 := by kernel_rfl
theorem tyOk71 : Ty.of Tryd.prog 71 = tyTab 71 := by kernel_rfl
theorem tyOk72 : Ty.of Tryd.prog 72 = tyTab 72 := by kernel_rfl
theorem tyOk73 : Ty.of Tryd.prog 73 = tyTab 73 := by kernel_rfl
theorem tyOk74 : Ty.of Tryd.prog 74 = tyTab 74 := by kernel_rfl
theorem tyOk76 : Ty.of Tryd.prog 76 = tyTab 76 := by kernel_rfl
theorem tyOk77 : Ty.of Tryd.prog 77 = tyTab 77 := by kernel_rfl
theorem tyOk83 : Ty.of Tryd.prog 83 = tyTab 83 := by kernel_rfl
theorem tyOk86 : Ty.of Tryd.prog 86 = tyTab 86 := by kernel_rfl
theorem tyOk87 : Ty.of Tryd.prog 87 = tyTab 87 := by kernel_rfl
theorem tyOk : ∀ t y, tyTab t = some y → Ty.of Tryd.prog t = some y := by
  intro t y h
  rw [← h]
  unfold tyTab at h
  split at h
  · exact tyOk1
  · exact tyOk2
  · exact tyOk3
  · exact tyOk4
  · exact tyOk5
  · exact tyOk9
  · exact tyOk12
  · exact tyOk13
  · exact tyOk21
  · exact tyOk22
  · exact tyOk23
  · exact tyOk24
  · exact tyOk25
  · exact tyOk26
  · exact tyOk28
  · exact tyOk30
  · exact tyOk32
  · exact tyOk34
  · exact tyOk35
  · exact tyOk36
  · exact tyOk37
  · exact tyOk38
  · exact tyOk39
  · exact tyOk40
  · exact tyOk41
  · exact tyOk42
  · exact tyOk43
  · exact tyOk44
  · exact tyOk45
  · exact tyOk46
  · exact tyOk47
  · exact tyOk48
  · exact tyOk49
  · exact tyOk50
  · exact tyOk52
  · exact tyOk53
  · exact tyOk54
  · exact tyOk55
  · exact tyOk57
  · exact tyOk59
  · exact tyOk60
  · exact tyOk61
  · exact tyOk62
  · exact tyOk63
  · exact tyOk64
  · exact tyOk65
  · exact tyOk66
  · exact tyOk67
  · exact tyOk68
  · exact tyOk69
  · exact tyOk70
  · exact tyOk71
  · exact tyOk72
  · exact tyOk73
  · exact tyOk74
  · exact tyOk76
  · exact tyOk77
  · exact tyOk83
  · exact tyOk86
  · exact tyOk87
  · cases h
end Go.Proofs.YtgamgcmjiancmaaDoor

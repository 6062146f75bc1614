/- The types that a seat's functions use, held against the program. No condition. -/
import Derived.Test.YtkdlblpidghjcaaDoorProg
import Derived.KernelRfl
import Derived.Test.YtkdlblpidghjcaaDoorVU
namespace Go.Proofs.YtkdlblpidghjcaaDoor
open Go.Vabs
def row1 : Ty := { k := .other, size := 1, bytes := 8, zero := some [.nilFunc], fields := [] }
def row2 : Ty := { k := .int .i64, size := 1, bytes := 8, zero := some [.int .i64 0], fields := [] }
def row3 : Ty := { k := .int .i64, size := 1, bytes := 8, zero := some [.int .i64 0], fields := [] }
def row4 : Ty := { k := .bool, size := 1, bytes := 1, zero := some [.bool false], fields := [] }
def row5 : Ty := { k := .int .u8, size := 1, bytes := 1, zero := some [.int .u8 0], fields := [] }
def row9 : Ty := { k := .str, size := 1, bytes := 16, zero := some [.string ⟨#[]⟩], fields := [] }
def row21 : Ty := { k := .int .i32, size := 1, bytes := 4, zero := some [.int .i32 0], fields := [] }
def row22 : Ty := { k := .slice 50, size := 1, bytes := 24, zero := some [.slice none 0 0], fields := [] }
def row23 : Ty := { k := .struct, size := 2, bytes := 32, zero := some [.int .i64 0, .slice none 0 0], fields := [(0, 3), (1, 22)] }
def row24 : Ty := { k := .struct, size := 2, bytes := 32, zero := some [.int .i64 0, .slice none 0 0], fields := [(0, 3), (1, 22)] }
def row25 : Ty := { k := .slice 5, size := 1, bytes := 24, zero := some [.slice none 0 0], fields := [] }
def row28 : Ty := { k := .int .i64, size := 1, bytes := 8, zero := some [.int .i64 0], fields := [] }
def row32 : Ty := { k := .other, size := 1, bytes := 8, zero := some [.nilFunc], fields := [] }
def row40 : Ty := { k := .slice 4, size := 1, bytes := 24, zero := some [.slice none 0 0], fields := [] }
def row41 : Ty := { k := .struct, size := 5, bytes := 88, zero := some [.slice none 0 0, .slice none 0 0, .int .i64 0, .int .i64 0, .slice none 0 0], fields := [(0, 40), (1, 25), (2, 3), (3, 24)] }
def row42 : Ty := { k := .struct, size := 5, bytes := 88, zero := some [.slice none 0 0, .slice none 0 0, .int .i64 0, .int .i64 0, .slice none 0 0], fields := [(0, 40), (1, 25), (2, 3), (3, 24)] }
def row48 : Ty := { k := .other, size := 1, bytes := 8, zero := some [.nilFunc], fields := [] }
def row49 : Ty := { k := .other, size := 1, bytes := 8, zero := some [.nilFunc], fields := [] }
def row50 : Ty := { k := .slice 3, size := 1, bytes := 24, zero := some [.slice none 0 0], fields := [] }
def row54 : Ty := { k := .struct, size := 5, bytes := 88, zero := some [.int .i64 0, .slice none 0 0, .slice none 0 0, .slice none 0 0, .int .i64 0], fields := [(0, 24), (2, 40), (3, 50), (4, 3)] }
def row55 : Ty := { k := .struct, size := 5, bytes := 88, zero := some [.int .i64 0, .slice none 0 0, .slice none 0 0, .slice none 0 0, .int .i64 0], fields := [(0, 24), (2, 40), (3, 50), (4, 3)] }
def row57 : Ty := { k := .struct, size := 6, bytes := 112, zero := some [.int .i64 0, .slice none 0 0, .int .i64 0, .slice none 0 0, .slice none 0 0, .slice none 0 0], fields := [(0, 24), (2, 24), (4, 40), (5, 40)] }
def row58 : Ty := { k := .struct, size := 6, bytes := 112, zero := some [.int .i64 0, .slice none 0 0, .int .i64 0, .slice none 0 0, .slice none 0 0, .slice none 0 0], fields := [(0, 24), (2, 24), (4, 40), (5, 40)] }
def row60 : Ty := { k := .int .u16, size := 1, bytes := 2, zero := some [.int .u16 0], fields := [] }
def row63 : Ty := { k := .slice 9, size := 1, bytes := 24, zero := some [.slice none 0 0], fields := [] }
def row67 : Ty := { k := .other, size := 1, bytes := 8, zero := some [.pointer none], fields := [] }
def row68 : Ty := { k := .struct, size := 3, bytes := 40, zero := some [.slice none 0 0, .int .i64 0, .int .i64 0], fields := [(0, 25), (1, 3), (2, 28)] }
def row69 : Ty := { k := .struct, size := 3, bytes := 40, zero := some [.slice none 0 0, .int .i64 0, .int .i64 0], fields := [(0, 25), (1, 3), (2, 28)] }
def row72 : Ty := { k := .other, size := 1, bytes := 8, zero := some [.nilFunc], fields := [] }
def row74 : Ty := { k := .struct, size := 3, bytes := 40, zero := some [.slice none 0 0, .int .i64 0, .int .i64 0], fields := [(0, 25), (1, 3), (2, 3)] }
def row75 : Ty := { k := .struct, size := 3, bytes := 40, zero := some [.slice none 0 0, .int .i64 0, .int .i64 0], fields := [(0, 25), (1, 3), (2, 3)] }
def row82 : Ty := { k := .other, size := 1, bytes := 8, zero := some [.nilFunc], fields := [] }
def row84 : Ty := { k := .other, size := 1, bytes := 8, zero := some [.nilFunc], fields := [] }
def row87 : Ty := { k := .other, size := 1, bytes := 8, zero := some [.nilFunc], fields := [] }
def row90 : Ty := { k := .other, size := 1, bytes := 8, zero := some [.pointer none], fields := [] }
def row91 : Ty := { k := .struct, size := 2, bytes := 32, zero := some [.pointer none, .slice none 0 0], fields := [(0, 90), (1, 25)] }
def row92 : Ty := { k := .struct, size := 2, bytes := 32, zero := some [.pointer none, .slice none 0 0], fields := [(0, 90), (1, 25)] }
def row102 : Ty := { k := .other, size := 1, bytes := 8, zero := some [.nilFunc], fields := [] }
def row110 : Ty := { k := .other, size := 1, bytes := 8, zero := some [.nilFunc], fields := [] }
def row118 : Ty := { k := .other, size := 1, bytes := 8, zero := some [.nilFunc], fields := [] }
def row132 : Ty := { k := .array 256 5, size := 256, bytes := 256, zero := some (List.replicate 256 (.int .u8 0)), fields := [] }
def row133 : Ty := { k := .struct, size := 2, bytes := 2, zero := some [.int .u8 0, .int .u8 0], fields := [(0, 5), (1, 5)] }
def row134 : Ty := { k := .struct, size := 2, bytes := 2, zero := some [.int .u8 0, .int .u8 0], fields := [(0, 5), (1, 5)] }
def row135 : Ty := { k := .array 16 134, size := 32, bytes := 32, zero := some [.int .u8 0, .int .u8 0, .int .u8 0, .int .u8 0, .int .u8 0, .int .u8 0, .int .u8 0, .int .u8 0, .int .u8 0, .int .u8 0, .int .u8 0, .int .u8 0, .int .u8 0, .int .u8 0, .int .u8 0, .int .u8 0, .int .u8 0, .int .u8 0, .int .u8 0, .int .u8 0, .int .u8 0, .int .u8 0, .int .u8 0, .int .u8 0, .int .u8 0, .int .u8 0, .int .u8 0, .int .u8 0, .int .u8 0, .int .u8 0, .int .u8 0, .int .u8 0], fields := [] }
def tyTab : Nat → Option Ty
 | 1 => some row1
 | 2 => some row2
 | 3 => some row3
 | 4 => some row4
 | 5 => some row5
 | 9 => some row9
 | 21 => some row21
 | 22 => some row22
 | 23 => some row23
 | 24 => some row24
 | 25 => some row25
 | 28 => some row28
 | 32 => some row32
 | 40 => some row40
 | 41 => some row41
 | 42 => some row42
 | 48 => some row48
 | 49 => some row49
 | 50 => some row50
 | 54 => some row54
 | 55 => some row55
 | 57 => some row57
 | 58 => some row58
 | 60 => some row60
 | 63 => some row63
 | 67 => some row67
 | 68 => some row68
 | 69 => some row69
 | 72 => some row72
 | 74 => some row74
 | 75 => some row75
 | 82 => some row82
 | 84 => some row84
 | 87 => some row87
 | 90 => some row90
 | 91 => some row91
 | 92 => some row92
 | 102 => some row102
 | 110 => some row110
 | 118 => some row118
 | 132 => some row132
 | 133 => some row133
 | 134 => some row134
 | 135 => some row135
 | _ => none
section
@[simp] theorem tyK1 : (tyTab 1).map Ty.k = some (.other) := rfl
@[simp] theorem tyB1 : (tyTab 1).map (fun y => (y.bytes, y.zero.map List.length)) = some (8, some 1) := rfl
@[simp] theorem tyY1 : (tyTab 1).map Ty.bytes = some 8 := rfl
@[simp] theorem tyS1 : (tyTab 1).map Ty.size = some 1 := rfl
@[simp] theorem tyE1 : Vabs.elemOf tyTab 1 = none := rfl
@[simp] theorem tyA1 : arrOf tyTab 1 = none := rfl
@[simp] theorem tyL1 (cs : List C) (off : Nat) : loadAt tyTab 1 cs off = (cs[off]?).map .c := rfl
@[simp] theorem tyZ1 : ((tyTab 1).bind Ty.zero).bind lits = some [.lit (.nilFunc)] := rfl
@[simp] theorem tyK2 : (tyTab 2).map Ty.k = some (.int .i64) := rfl
@[simp] theorem tyB2 : (tyTab 2).map (fun y => (y.bytes, y.zero.map List.length)) = some (8, some 1) := rfl
@[simp] theorem tyY2 : (tyTab 2).map Ty.bytes = some 8 := rfl
@[simp] theorem tyS2 : (tyTab 2).map Ty.size = some 1 := rfl
@[simp] theorem tyE2 : Vabs.elemOf tyTab 2 = none := rfl
@[simp] theorem tyA2 : arrOf tyTab 2 = none := rfl
@[simp] theorem tyL2 (cs : List C) (off : Nat) : loadAt tyTab 2 cs off = (cs[off]?).map .c := rfl
@[simp] theorem tyZ2 : ((tyTab 2).bind Ty.zero).bind lits = some [.lit (.int .i64 0)] := rfl
@[simp] theorem tyK3 : (tyTab 3).map Ty.k = some (.int .i64) := rfl
@[simp] theorem tyB3 : (tyTab 3).map (fun y => (y.bytes, y.zero.map List.length)) = some (8, some 1) := rfl
@[simp] theorem tyY3 : (tyTab 3).map Ty.bytes = some 8 := rfl
@[simp] theorem tyS3 : (tyTab 3).map Ty.size = some 1 := rfl
@[simp] theorem tyE3 : Vabs.elemOf tyTab 3 = none := rfl
@[simp] theorem tyA3 : arrOf tyTab 3 = none := rfl
@[simp] theorem tyL3 (cs : List C) (off : Nat) : loadAt tyTab 3 cs off = (cs[off]?).map .c := rfl
@[simp] theorem tyZ3 : ((tyTab 3).bind Ty.zero).bind lits = some [.lit (.int .i64 0)] := rfl
@[simp] theorem tyK4 : (tyTab 4).map Ty.k = some (.bool) := rfl
@[simp] theorem tyB4 : (tyTab 4).map (fun y => (y.bytes, y.zero.map List.length)) = some (1, some 1) := rfl
@[simp] theorem tyY4 : (tyTab 4).map Ty.bytes = some 1 := rfl
@[simp] theorem tyS4 : (tyTab 4).map Ty.size = some 1 := rfl
@[simp] theorem tyE4 : Vabs.elemOf tyTab 4 = none := rfl
@[simp] theorem tyA4 : arrOf tyTab 4 = none := rfl
@[simp] theorem tyL4 (cs : List C) (off : Nat) : loadAt tyTab 4 cs off = (cs[off]?).map .c := rfl
@[simp] theorem tyZ4 : ((tyTab 4).bind Ty.zero).bind lits = some [.lit (.bool false)] := rfl
@[simp] theorem tyK5 : (tyTab 5).map Ty.k = some (.int .u8) := rfl
@[simp] theorem tyB5 : (tyTab 5).map (fun y => (y.bytes, y.zero.map List.length)) = some (1, some 1) := rfl
@[simp] theorem tyY5 : (tyTab 5).map Ty.bytes = some 1 := rfl
@[simp] theorem tyS5 : (tyTab 5).map Ty.size = some 1 := rfl
@[simp] theorem tyE5 : Vabs.elemOf tyTab 5 = none := rfl
@[simp] theorem tyA5 : arrOf tyTab 5 = none := rfl
@[simp] theorem tyL5 (cs : List C) (off : Nat) : loadAt tyTab 5 cs off = (cs[off]?).map .c := rfl
@[simp] theorem tyZ5 : ((tyTab 5).bind Ty.zero).bind lits = some [.lit (.int .u8 0)] := rfl
@[simp] theorem tyK9 : (tyTab 9).map Ty.k = some (.str) := rfl
@[simp] theorem tyB9 : (tyTab 9).map (fun y => (y.bytes, y.zero.map List.length)) = some (16, some 1) := rfl
@[simp] theorem tyY9 : (tyTab 9).map Ty.bytes = some 16 := rfl
@[simp] theorem tyS9 : (tyTab 9).map Ty.size = some 1 := rfl
@[simp] theorem tyE9 : Vabs.elemOf tyTab 9 = none := rfl
@[simp] theorem tyA9 : arrOf tyTab 9 = none := rfl
@[simp] theorem tyL9 (cs : List C) (off : Nat) : loadAt tyTab 9 cs off = (cs[off]?).map .c := rfl
@[simp] theorem tyZ9 : ((tyTab 9).bind Ty.zero).bind lits = some [.lit (.string ⟨#[]⟩)] := rfl
@[simp] theorem tyK21 : (tyTab 21).map Ty.k = some (.int .i32) := rfl
@[simp] theorem tyB21 : (tyTab 21).map (fun y => (y.bytes, y.zero.map List.length)) = some (4, some 1) := rfl
@[simp] theorem tyY21 : (tyTab 21).map Ty.bytes = some 4 := rfl
@[simp] theorem tyS21 : (tyTab 21).map Ty.size = some 1 := rfl
@[simp] theorem tyE21 : Vabs.elemOf tyTab 21 = none := rfl
@[simp] theorem tyA21 : arrOf tyTab 21 = none := rfl
@[simp] theorem tyL21 (cs : List C) (off : Nat) : loadAt tyTab 21 cs off = (cs[off]?).map .c := rfl
@[simp] theorem tyZ21 : ((tyTab 21).bind Ty.zero).bind lits = some [.lit (.int .i32 0)] := rfl
@[simp] theorem tyK22 : (tyTab 22).map Ty.k = some (.slice 50) := rfl
@[simp] theorem tyB22 : (tyTab 22).map (fun y => (y.bytes, y.zero.map List.length)) = some (24, some 1) := rfl
@[simp] theorem tyY22 : (tyTab 22).map Ty.bytes = some 24 := rfl
@[simp] theorem tyS22 : (tyTab 22).map Ty.size = some 1 := rfl
@[simp] theorem tyE22 : Vabs.elemOf tyTab 22 = some (50, 1) := rfl
@[simp] theorem tyA22 : arrOf tyTab 22 = none := rfl
@[simp] theorem tyL22 (cs : List C) (off : Nat) : loadAt tyTab 22 cs off = (cs[off]?).map .c := rfl
@[simp] theorem tyZ22 : ((tyTab 22).bind Ty.zero).bind lits = some [.lit (.slice none 0 0)] := rfl
@[simp] theorem tyK23 : (tyTab 23).map Ty.k = some (.struct) := rfl
@[simp] theorem tyB23 : (tyTab 23).map (fun y => (y.bytes, y.zero.map List.length)) = some (32, some 2) := rfl
@[simp] theorem tyY23 : (tyTab 23).map Ty.bytes = some 32 := rfl
@[simp] theorem tyD23 (parts : List (Nat × T)) : ((tyTab 23).bind fun y => buildT tyTab y parts) = fills (placeOf tyTab row23) [.lit (.int .i64 0), .lit (.slice none 0 0)] parts := rfl
@[simp] theorem tyP23_0 : placeOf tyTab row23 0 = some (0, 1) := rfl
@[simp] theorem tyP23_1 : placeOf tyTab row23 1 = some (1, 1) := rfl
@[simp] theorem tyS23 : (tyTab 23).map Ty.size = some 2 := rfl
@[simp] theorem tyE23 : Vabs.elemOf tyTab 23 = none := rfl
@[simp] theorem tyA23 : arrOf tyTab 23 = none := rfl
@[simp] theorem tyL23 (cs : List C) (off : Nat) : loadAt tyTab 23 cs off = if off + 2 ≤ cs.length then some (.agg ((cs.drop off).take 2)) else none := rfl
@[simp] theorem tyZ23 : ((tyTab 23).bind Ty.zero).bind lits = some [.lit (.int .i64 0), .lit (.slice none 0 0)] := rfl
@[simp] theorem tyF23_0 : fieldOf tyTab 23 0 = some (0, 3) := rfl
@[simp] theorem tyF23_1 : fieldOf tyTab 23 1 = some (1, 22) := rfl
@[simp] theorem tyK24 : (tyTab 24).map Ty.k = some (.struct) := rfl
@[simp] theorem tyB24 : (tyTab 24).map (fun y => (y.bytes, y.zero.map List.length)) = some (32, some 2) := rfl
@[simp] theorem tyY24 : (tyTab 24).map Ty.bytes = some 32 := rfl
@[simp] theorem tyD24 (parts : List (Nat × T)) : ((tyTab 24).bind fun y => buildT tyTab y parts) = fills (placeOf tyTab row24) [.lit (.int .i64 0), .lit (.slice none 0 0)] parts := rfl
@[simp] theorem tyP24_0 : placeOf tyTab row24 0 = some (0, 1) := rfl
@[simp] theorem tyP24_1 : placeOf tyTab row24 1 = some (1, 1) := rfl
@[simp] theorem tyS24 : (tyTab 24).map Ty.size = some 2 := rfl
@[simp] theorem tyE24 : Vabs.elemOf tyTab 24 = none := rfl
@[simp] theorem tyA24 : arrOf tyTab 24 = none := rfl
@[simp] theorem tyL24 (cs : List C) (off : Nat) : loadAt tyTab 24 cs off = if off + 2 ≤ cs.length then some (.agg ((cs.drop off).take 2)) else none := rfl
@[simp] theorem tyZ24 : ((tyTab 24).bind Ty.zero).bind lits = some [.lit (.int .i64 0), .lit (.slice none 0 0)] := rfl
@[simp] theorem tyF24_0 : fieldOf tyTab 24 0 = some (0, 3) := rfl
@[simp] theorem tyF24_1 : fieldOf tyTab 24 1 = some (1, 22) := rfl
@[simp] theorem tyK25 : (tyTab 25).map Ty.k = some (.slice 5) := rfl
@[simp] theorem tyB25 : (tyTab 25).map (fun y => (y.bytes, y.zero.map List.length)) = some (24, some 1) := rfl
@[simp] theorem tyY25 : (tyTab 25).map Ty.bytes = some 24 := rfl
@[simp] theorem tyS25 : (tyTab 25).map Ty.size = some 1 := rfl
@[simp] theorem tyE25 : Vabs.elemOf tyTab 25 = some (5, 1) := rfl
@[simp] theorem tyA25 : arrOf tyTab 25 = none := rfl
@[simp] theorem tyL25 (cs : List C) (off : Nat) : loadAt tyTab 25 cs off = (cs[off]?).map .c := rfl
@[simp] theorem tyZ25 : ((tyTab 25).bind Ty.zero).bind lits = some [.lit (.slice none 0 0)] := rfl
@[simp] theorem tyK28 : (tyTab 28).map Ty.k = some (.int .i64) := rfl
@[simp] theorem tyB28 : (tyTab 28).map (fun y => (y.bytes, y.zero.map List.length)) = some (8, some 1) := rfl
@[simp] theorem tyY28 : (tyTab 28).map Ty.bytes = some 8 := rfl
@[simp] theorem tyS28 : (tyTab 28).map Ty.size = some 1 := rfl
@[simp] theorem tyE28 : Vabs.elemOf tyTab 28 = none := rfl
@[simp] theorem tyA28 : arrOf tyTab 28 = none := rfl
@[simp] theorem tyL28 (cs : List C) (off : Nat) : loadAt tyTab 28 cs off = (cs[off]?).map .c := rfl
@[simp] theorem tyZ28 : ((tyTab 28).bind Ty.zero).bind lits = some [.lit (.int .i64 0)] := rfl
@[simp] theorem tyK32 : (tyTab 32).map Ty.k = some (.other) := rfl
@[simp] theorem tyB32 : (tyTab 32).map (fun y => (y.bytes, y.zero.map List.length)) = some (8, some 1) := rfl
@[simp] theorem tyY32 : (tyTab 32).map Ty.bytes = some 8 := rfl
@[simp] theorem tyS32 : (tyTab 32).map Ty.size = some 1 := rfl
@[simp] theorem tyE32 : Vabs.elemOf tyTab 32 = none := rfl
@[simp] theorem tyA32 : arrOf tyTab 32 = none := rfl
@[simp] theorem tyL32 (cs : List C) (off : Nat) : loadAt tyTab 32 cs off = (cs[off]?).map .c := rfl
@[simp] theorem tyZ32 : ((tyTab 32).bind Ty.zero).bind lits = some [.lit (.nilFunc)] := rfl
@[simp] theorem tyK40 : (tyTab 40).map Ty.k = some (.slice 4) := rfl
@[simp] theorem tyB40 : (tyTab 40).map (fun y => (y.bytes, y.zero.map List.length)) = some (24, some 1) := rfl
@[simp] theorem tyY40 : (tyTab 40).map Ty.bytes = some 24 := rfl
@[simp] theorem tyS40 : (tyTab 40).map Ty.size = some 1 := rfl
@[simp] theorem tyE40 : Vabs.elemOf tyTab 40 = some (4, 1) := rfl
@[simp] theorem tyA40 : arrOf tyTab 40 = none := rfl
@[simp] theorem tyL40 (cs : List C) (off : Nat) : loadAt tyTab 40 cs off = (cs[off]?).map .c := rfl
@[simp] theorem tyZ40 : ((tyTab 40).bind Ty.zero).bind lits = some [.lit (.slice none 0 0)] := rfl
@[simp] theorem tyK41 : (tyTab 41).map Ty.k = some (.struct) := rfl
@[simp] theorem tyB41 : (tyTab 41).map (fun y => (y.bytes, y.zero.map List.length)) = some (88, some 5) := rfl
@[simp] theorem tyY41 : (tyTab 41).map Ty.bytes = some 88 := rfl
@[simp] theorem tyD41 (parts : List (Nat × T)) : ((tyTab 41).bind fun y => buildT tyTab y parts) = fills (placeOf tyTab row41) [.lit (.slice none 0 0), .lit (.slice none 0 0), .lit (.int .i64 0), .lit (.int .i64 0), .lit (.slice none 0 0)] parts := rfl
@[simp] theorem tyP41_0 : placeOf tyTab row41 0 = some (0, 1) := rfl
@[simp] theorem tyP41_1 : placeOf tyTab row41 1 = some (1, 1) := rfl
@[simp] theorem tyP41_2 : placeOf tyTab row41 2 = some (2, 1) := rfl
@[simp] theorem tyP41_3 : placeOf tyTab row41 3 = some (3, 2) := rfl
@[simp] theorem tyS41 : (tyTab 41).map Ty.size = some 5 := rfl
@[simp] theorem tyE41 : Vabs.elemOf tyTab 41 = none := rfl
@[simp] theorem tyA41 : arrOf tyTab 41 = none := rfl
@[simp] theorem tyL41 (cs : List C) (off : Nat) : loadAt tyTab 41 cs off = if off + 5 ≤ cs.length then some (.agg ((cs.drop off).take 5)) else none := rfl
@[simp] theorem tyZ41 : ((tyTab 41).bind Ty.zero).bind lits = some [.lit (.slice none 0 0), .lit (.slice none 0 0), .lit (.int .i64 0), .lit (.int .i64 0), .lit (.slice none 0 0)] := rfl
@[simp] theorem tyF41_0 : fieldOf tyTab 41 0 = some (0, 40) := rfl
@[simp] theorem tyF41_1 : fieldOf tyTab 41 1 = some (1, 25) := rfl
@[simp] theorem tyF41_2 : fieldOf tyTab 41 2 = some (2, 3) := rfl
@[simp] theorem tyF41_3 : fieldOf tyTab 41 3 = some (3, 24) := rfl
@[simp] theorem tyK42 : (tyTab 42).map Ty.k = some (.struct) := rfl
@[simp] theorem tyB42 : (tyTab 42).map (fun y => (y.bytes, y.zero.map List.length)) = some (88, some 5) := rfl
@[simp] theorem tyY42 : (tyTab 42).map Ty.bytes = some 88 := rfl
@[simp] theorem tyD42 (parts : List (Nat × T)) : ((tyTab 42).bind fun y => buildT tyTab y parts) = fills (placeOf tyTab row42) [.lit (.slice none 0 0), .lit (.slice none 0 0), .lit (.int .i64 0), .lit (.int .i64 0), .lit (.slice none 0 0)] parts := rfl
@[simp] theorem tyP42_0 : placeOf tyTab row42 0 = some (0, 1) := rfl
@[simp] theorem tyP42_1 : placeOf tyTab row42 1 = some (1, 1) := rfl
@[simp] theorem tyP42_2 : placeOf tyTab row42 2 = some (2, 1) := rfl
@[simp] theorem tyP42_3 : placeOf tyTab row42 3 = some (3, 2) := rfl
@[simp] theorem tyS42 : (tyTab 42).map Ty.size = some 5 := rfl
@[simp] theorem tyE42 : Vabs.elemOf tyTab 42 = none := rfl
@[simp] theorem tyA42 : arrOf tyTab 42 = none := rfl
@[simp] theorem tyL42 (cs : List C) (off : Nat) : loadAt tyTab 42 cs off = if off + 5 ≤ cs.length then some (.agg ((cs.drop off).take 5)) else none := rfl
@[simp] theorem tyZ42 : ((tyTab 42).bind Ty.zero).bind lits = some [.lit (.slice none 0 0), .lit (.slice none 0 0), .lit (.int .i64 0), .lit (.int .i64 0), .lit (.slice none 0 0)] := rfl
@[simp] theorem tyF42_0 : fieldOf tyTab 42 0 = some (0, 40) := rfl
@[simp] theorem tyF42_1 : fieldOf tyTab 42 1 = some (1, 25) := rfl
@[simp] theorem tyF42_2 : fieldOf tyTab 42 2 = some (2, 3) := rfl
@[simp] theorem tyF42_3 : fieldOf tyTab 42 3 = some (3, 24) := rfl
@[simp] theorem tyK48 : (tyTab 48).map Ty.k = some (.other) := rfl
@[simp] theorem tyB48 : (tyTab 48).map (fun y => (y.bytes, y.zero.map List.length)) = some (8, some 1) := rfl
@[simp] theorem tyY48 : (tyTab 48).map Ty.bytes = some 8 := rfl
@[simp] theorem tyS48 : (tyTab 48).map Ty.size = some 1 := rfl
@[simp] theorem tyE48 : Vabs.elemOf tyTab 48 = none := rfl
@[simp] theorem tyA48 : arrOf tyTab 48 = none := rfl
@[simp] theorem tyL48 (cs : List C) (off : Nat) : loadAt tyTab 48 cs off = (cs[off]?).map .c := rfl
@[simp] theorem tyZ48 : ((tyTab 48).bind Ty.zero).bind lits = some [.lit (.nilFunc)] := rfl
@[simp] theorem tyK49 : (tyTab 49).map Ty.k = some (.other) := rfl
@[simp] theorem tyB49 : (tyTab 49).map (fun y => (y.bytes, y.zero.map List.length)) = some (8, some 1) := rfl
@[simp] theorem tyY49 : (tyTab 49).map Ty.bytes = some 8 := rfl
@[simp] theorem tyS49 : (tyTab 49).map Ty.size = some 1 := rfl
@[simp] theorem tyE49 : Vabs.elemOf tyTab 49 = none := rfl
@[simp] theorem tyA49 : arrOf tyTab 49 = none := rfl
@[simp] theorem tyL49 (cs : List C) (off : Nat) : loadAt tyTab 49 cs off = (cs[off]?).map .c := rfl
@[simp] theorem tyZ49 : ((tyTab 49).bind Ty.zero).bind lits = some [.lit (.nilFunc)] := rfl
@[simp] theorem tyK50 : (tyTab 50).map Ty.k = some (.slice 3) := rfl
@[simp] theorem tyB50 : (tyTab 50).map (fun y => (y.bytes, y.zero.map List.length)) = some (24, some 1) := rfl
@[simp] theorem tyY50 : (tyTab 50).map Ty.bytes = some 24 := rfl
@[simp] theorem tyS50 : (tyTab 50).map Ty.size = some 1 := rfl
@[simp] theorem tyE50 : Vabs.elemOf tyTab 50 = some (3, 1) := rfl
@[simp] theorem tyA50 : arrOf tyTab 50 = none := rfl
@[simp] theorem tyL50 (cs : List C) (off : Nat) : loadAt tyTab 50 cs off = (cs[off]?).map .c := rfl
@[simp] theorem tyZ50 : ((tyTab 50).bind Ty.zero).bind lits = some [.lit (.slice none 0 0)] := rfl
@[simp] theorem tyK54 : (tyTab 54).map Ty.k = some (.struct) := rfl
@[simp] theorem tyB54 : (tyTab 54).map (fun y => (y.bytes, y.zero.map List.length)) = some (88, some 5) := rfl
@[simp] theorem tyY54 : (tyTab 54).map Ty.bytes = some 88 := rfl
@[simp] theorem tyD54 (parts : List (Nat × T)) : ((tyTab 54).bind fun y => buildT tyTab y parts) = fills (placeOf tyTab row54) [.lit (.int .i64 0), .lit (.slice none 0 0), .lit (.slice none 0 0), .lit (.slice none 0 0), .lit (.int .i64 0)] parts := rfl
@[simp] theorem tyP54_0 : placeOf tyTab row54 0 = some (0, 2) := rfl
@[simp] theorem tyP54_1 : placeOf tyTab row54 1 = some (2, 1) := rfl
@[simp] theorem tyP54_2 : placeOf tyTab row54 2 = some (3, 1) := rfl
@[simp] theorem tyP54_3 : placeOf tyTab row54 3 = some (4, 1) := rfl
@[simp] theorem tyS54 : (tyTab 54).map Ty.size = some 5 := rfl
@[simp] theorem tyE54 : Vabs.elemOf tyTab 54 = none := rfl
@[simp] theorem tyA54 : arrOf tyTab 54 = none := rfl
@[simp] theorem tyL54 (cs : List C) (off : Nat) : loadAt tyTab 54 cs off = if off + 5 ≤ cs.length then some (.agg ((cs.drop off).take 5)) else none := rfl
@[simp] theorem tyZ54 : ((tyTab 54).bind Ty.zero).bind lits = some [.lit (.int .i64 0), .lit (.slice none 0 0), .lit (.slice none 0 0), .lit (.slice none 0 0), .lit (.int .i64 0)] := rfl
@[simp] theorem tyF54_0 : fieldOf tyTab 54 0 = some (0, 24) := rfl
@[simp] theorem tyF54_1 : fieldOf tyTab 54 1 = some (2, 40) := rfl
@[simp] theorem tyF54_2 : fieldOf tyTab 54 2 = some (3, 50) := rfl
@[simp] theorem tyF54_3 : fieldOf tyTab 54 3 = some (4, 3) := rfl
@[simp] theorem tyK55 : (tyTab 55).map Ty.k = some (.struct) := rfl
@[simp] theorem tyB55 : (tyTab 55).map (fun y => (y.bytes, y.zero.map List.length)) = some (88, some 5) := rfl
@[simp] theorem tyY55 : (tyTab 55).map Ty.bytes = some 88 := rfl
@[simp] theorem tyD55 (parts : List (Nat × T)) : ((tyTab 55).bind fun y => buildT tyTab y parts) = fills (placeOf tyTab row55) [.lit (.int .i64 0), .lit (.slice none 0 0), .lit (.slice none 0 0), .lit (.slice none 0 0), .lit (.int .i64 0)] parts := rfl
@[simp] theorem tyP55_0 : placeOf tyTab row55 0 = some (0, 2) := rfl
@[simp] theorem tyP55_1 : placeOf tyTab row55 1 = some (2, 1) := rfl
@[simp] theorem tyP55_2 : placeOf tyTab row55 2 = some (3, 1) := rfl
@[simp] theorem tyP55_3 : placeOf tyTab row55 3 = some (4, 1) := rfl
@[simp] theorem tyS55 : (tyTab 55).map Ty.size = some 5 := rfl
@[simp] theorem tyE55 : Vabs.elemOf tyTab 55 = none := rfl
@[simp] theorem tyA55 : arrOf tyTab 55 = none := rfl
@[simp] theorem tyL55 (cs : List C) (off : Nat) : loadAt tyTab 55 cs off = if off + 5 ≤ cs.length then some (.agg ((cs.drop off).take 5)) else none := rfl
@[simp] theorem tyZ55 : ((tyTab 55).bind Ty.zero).bind lits = some [.lit (.int .i64 0), .lit (.slice none 0 0), .lit (.slice none 0 0), .lit (.slice none 0 0), .lit (.int .i64 0)] := rfl
@[simp] theorem tyF55_0 : fieldOf tyTab 55 0 = some (0, 24) := rfl
@[simp] theorem tyF55_1 : fieldOf tyTab 55 1 = some (2, 40) := rfl
@[simp] theorem tyF55_2 : fieldOf tyTab 55 2 = some (3, 50) := rfl
@[simp] theorem tyF55_3 : fieldOf tyTab 55 3 = some (4, 3) := rfl
@[simp] theorem tyK57 : (tyTab 57).map Ty.k = some (.struct) := rfl
@[simp] theorem tyB57 : (tyTab 57).map (fun y => (y.bytes, y.zero.map List.length)) = some (112, some 6) := rfl
@[simp] theorem tyY57 : (tyTab 57).map Ty.bytes = some 112 := rfl
@[simp] theorem tyD57 (parts : List (Nat × T)) : ((tyTab 57).bind fun y => buildT tyTab y parts) = fills (placeOf tyTab row57) [.lit (.int .i64 0), .lit (.slice none 0 0), .lit (.int .i64 0), .lit (.slice none 0 0), .lit (.slice none 0 0), .lit (.slice none 0 0)] parts := rfl
@[simp] theorem tyP57_0 : placeOf tyTab row57 0 = some (0, 2) := rfl
@[simp] theorem tyP57_1 : placeOf tyTab row57 1 = some (2, 2) := rfl
@[simp] theorem tyP57_2 : placeOf tyTab row57 2 = some (4, 1) := rfl
@[simp] theorem tyP57_3 : placeOf tyTab row57 3 = some (5, 1) := rfl
@[simp] theorem tyS57 : (tyTab 57).map Ty.size = some 6 := rfl
@[simp] theorem tyE57 : Vabs.elemOf tyTab 57 = none := rfl
@[simp] theorem tyA57 : arrOf tyTab 57 = none := rfl
@[simp] theorem tyL57 (cs : List C) (off : Nat) : loadAt tyTab 57 cs off = if off + 6 ≤ cs.length then some (.agg ((cs.drop off).take 6)) else none := rfl
@[simp] theorem tyZ57 : ((tyTab 57).bind Ty.zero).bind lits = some [.lit (.int .i64 0), .lit (.slice none 0 0), .lit (.int .i64 0), .lit (.slice none 0 0), .lit (.slice none 0 0), .lit (.slice none 0 0)] := rfl
@[simp] theorem tyF57_0 : fieldOf tyTab 57 0 = some (0, 24) := rfl
@[simp] theorem tyF57_1 : fieldOf tyTab 57 1 = some (2, 24) := rfl
@[simp] theorem tyF57_2 : fieldOf tyTab 57 2 = some (4, 40) := rfl
@[simp] theorem tyF57_3 : fieldOf tyTab 57 3 = some (5, 40) := rfl
@[simp] theorem tyK58 : (tyTab 58).map Ty.k = some (.struct) := rfl
@[simp] theorem tyB58 : (tyTab 58).map (fun y => (y.bytes, y.zero.map List.length)) = some (112, some 6) := rfl
@[simp] theorem tyY58 : (tyTab 58).map Ty.bytes = some 112 := rfl
@[simp] theorem tyD58 (parts : List (Nat × T)) : ((tyTab 58).bind fun y => buildT tyTab y parts) = fills (placeOf tyTab row58) [.lit (.int .i64 0), .lit (.slice none 0 0), .lit (.int .i64 0), .lit (.slice none 0 0), .lit (.slice none 0 0), .lit (.slice none 0 0)] parts := rfl
@[simp] theorem tyP58_0 : placeOf tyTab row58 0 = some (0, 2) := rfl
@[simp] theorem tyP58_1 : placeOf tyTab row58 1 = some (2, 2) := rfl
@[simp] theorem tyP58_2 : placeOf tyTab row58 2 = some (4, 1) := rfl
@[simp] theorem tyP58_3 : placeOf tyTab row58 3 = some (5, 1) := rfl
@[simp] theorem tyS58 : (tyTab 58).map Ty.size = some 6 := rfl
@[simp] theorem tyE58 : Vabs.elemOf tyTab 58 = none := rfl
@[simp] theorem tyA58 : arrOf tyTab 58 = none := rfl
@[simp] theorem tyL58 (cs : List C) (off : Nat) : loadAt tyTab 58 cs off = if off + 6 ≤ cs.length then some (.agg ((cs.drop off).take 6)) else none := rfl
@[simp] theorem tyZ58 : ((tyTab 58).bind Ty.zero).bind lits = some [.lit (.int .i64 0), .lit (.slice none 0 0), .lit (.int .i64 0), .lit (.slice none 0 0), .lit (.slice none 0 0), .lit (.slice none 0 0)] := rfl
@[simp] theorem tyF58_0 : fieldOf tyTab 58 0 = some (0, 24) := rfl
@[simp] theorem tyF58_1 : fieldOf tyTab 58 1 = some (2, 24) := rfl
@[simp] theorem tyF58_2 : fieldOf tyTab 58 2 = some (4, 40) := rfl
@[simp] theorem tyF58_3 : fieldOf tyTab 58 3 = some (5, 40) := rfl
@[simp] theorem tyK60 : (tyTab 60).map Ty.k = some (.int .u16) := rfl
@[simp] theorem tyB60 : (tyTab 60).map (fun y => (y.bytes, y.zero.map List.length)) = some (2, some 1) := rfl
@[simp] theorem tyY60 : (tyTab 60).map Ty.bytes = some 2 := rfl
@[simp] theorem tyS60 : (tyTab 60).map Ty.size = some 1 := rfl
@[simp] theorem tyE60 : Vabs.elemOf tyTab 60 = none := rfl
@[simp] theorem tyA60 : arrOf tyTab 60 = none := rfl
@[simp] theorem tyL60 (cs : List C) (off : Nat) : loadAt tyTab 60 cs off = (cs[off]?).map .c := rfl
@[simp] theorem tyZ60 : ((tyTab 60).bind Ty.zero).bind lits = some [.lit (.int .u16 0)] := rfl
@[simp] theorem tyK63 : (tyTab 63).map Ty.k = some (.slice 9) := rfl
@[simp] theorem tyB63 : (tyTab 63).map (fun y => (y.bytes, y.zero.map List.length)) = some (24, some 1) := rfl
@[simp] theorem tyY63 : (tyTab 63).map Ty.bytes = some 24 := rfl
@[simp] theorem tyS63 : (tyTab 63).map Ty.size = some 1 := rfl
@[simp] theorem tyE63 : Vabs.elemOf tyTab 63 = some (9, 1) := rfl
@[simp] theorem tyA63 : arrOf tyTab 63 = none := rfl
@[simp] theorem tyL63 (cs : List C) (off : Nat) : loadAt tyTab 63 cs off = (cs[off]?).map .c := rfl
@[simp] theorem tyZ63 : ((tyTab 63).bind Ty.zero).bind lits = some [.lit (.slice none 0 0)] := rfl
@[simp] theorem tyK67 : (tyTab 67).map Ty.k = some (.other) := rfl
@[simp] theorem tyB67 : (tyTab 67).map (fun y => (y.bytes, y.zero.map List.length)) = some (8, some 1) := rfl
@[simp] theorem tyY67 : (tyTab 67).map Ty.bytes = some 8 := rfl
@[simp] theorem tyS67 : (tyTab 67).map Ty.size = some 1 := rfl
@[simp] theorem tyE67 : Vabs.elemOf tyTab 67 = none := rfl
@[simp] theorem tyA67 : arrOf tyTab 67 = none := rfl
@[simp] theorem tyL67 (cs : List C) (off : Nat) : loadAt tyTab 67 cs off = (cs[off]?).map .c := rfl
@[simp] theorem tyZ67 : ((tyTab 67).bind Ty.zero).bind lits = some [.lit (.pointer none)] := rfl
@[simp] theorem tyK68 : (tyTab 68).map Ty.k = some (.struct) := rfl
@[simp] theorem tyB68 : (tyTab 68).map (fun y => (y.bytes, y.zero.map List.length)) = some (40, some 3) := rfl
@[simp] theorem tyY68 : (tyTab 68).map Ty.bytes = some 40 := rfl
@[simp] theorem tyD68 (parts : List (Nat × T)) : ((tyTab 68).bind fun y => buildT tyTab y parts) = fills (placeOf tyTab row68) [.lit (.slice none 0 0), .lit (.int .i64 0), .lit (.int .i64 0)] parts := rfl
@[simp] theorem tyP68_0 : placeOf tyTab row68 0 = some (0, 1) := rfl
@[simp] theorem tyP68_1 : placeOf tyTab row68 1 = some (1, 1) := rfl
@[simp] theorem tyP68_2 : placeOf tyTab row68 2 = some (2, 1) := rfl
@[simp] theorem tyS68 : (tyTab 68).map Ty.size = some 3 := rfl
@[simp] theorem tyE68 : Vabs.elemOf tyTab 68 = none := rfl
@[simp] theorem tyA68 : arrOf tyTab 68 = none := rfl
@[simp] theorem tyL68 (cs : List C) (off : Nat) : loadAt tyTab 68 cs off = if off + 3 ≤ cs.length then some (.agg ((cs.drop off).take 3)) else none := rfl
@[simp] theorem tyZ68 : ((tyTab 68).bind Ty.zero).bind lits = some [.lit (.slice none 0 0), .lit (.int .i64 0), .lit (.int .i64 0)] := rfl
@[simp] theorem tyF68_0 : fieldOf tyTab 68 0 = some (0, 25) := rfl
@[simp] theorem tyF68_1 : fieldOf tyTab 68 1 = some (1, 3) := rfl
@[simp] theorem tyF68_2 : fieldOf tyTab 68 2 = some (2, 28) := rfl
@[simp] theorem tyK69 : (tyTab 69).map Ty.k = some (.struct) := rfl
@[simp] theorem tyB69 : (tyTab 69).map (fun y => (y.bytes, y.zero.map List.length)) = some (40, some 3) := rfl
@[simp] theorem tyY69 : (tyTab 69).map Ty.bytes = some 40 := rfl
@[simp] theorem tyD69 (parts : List (Nat × T)) : ((tyTab 69).bind fun y => buildT tyTab y parts) = fills (placeOf tyTab row69) [.lit (.slice none 0 0), .lit (.int .i64 0), .lit (.int .i64 0)] parts := rfl
@[simp] theorem tyP69_0 : placeOf tyTab row69 0 = some (0, 1) := rfl
@[simp] theorem tyP69_1 : placeOf tyTab row69 1 = some (1, 1) := rfl
@[simp] theorem tyP69_2 : placeOf tyTab row69 2 = some (2, 1) := rfl
@[simp] theorem tyS69 : (tyTab 69).map Ty.size = some 3 := rfl
@[simp] theorem tyE69 : Vabs.elemOf tyTab 69 = none := rfl
@[simp] theorem tyA69 : arrOf tyTab 69 = none := rfl
@[simp] theorem tyL69 (cs : List C) (off : Nat) : loadAt tyTab 69 cs off = if off + 3 ≤ cs.length then some (.agg ((cs.drop off).take 3)) else none := rfl
@[simp] theorem tyZ69 : ((tyTab 69).bind Ty.zero).bind lits = some [.lit (.slice none 0 0), .lit (.int .i64 0), .lit (.int .i64 0)] := rfl
@[simp] theorem tyF69_0 : fieldOf tyTab 69 0 = some (0, 25) := rfl
@[simp] theorem tyF69_1 : fieldOf tyTab 69 1 = some (1, 3) := rfl
@[simp] theorem tyF69_2 : fieldOf tyTab 69 2 = some (2, 28) := rfl
@[simp] theorem tyK72 : (tyTab 72).map Ty.k = some (.other) := rfl
@[simp] theorem tyB72 : (tyTab 72).map (fun y => (y.bytes, y.zero.map List.length)) = some (8, some 1) := rfl
@[simp] theorem tyY72 : (tyTab 72).map Ty.bytes = some 8 := rfl
@[simp] theorem tyS72 : (tyTab 72).map Ty.size = some 1 := rfl
@[simp] theorem tyE72 : Vabs.elemOf tyTab 72 = none := rfl
@[simp] theorem tyA72 : arrOf tyTab 72 = none := rfl
@[simp] theorem tyL72 (cs : List C) (off : Nat) : loadAt tyTab 72 cs off = (cs[off]?).map .c := rfl
@[simp] theorem tyZ72 : ((tyTab 72).bind Ty.zero).bind lits = some [.lit (.nilFunc)] := rfl
@[simp] theorem tyK74 : (tyTab 74).map Ty.k = some (.struct) := rfl
@[simp] theorem tyB74 : (tyTab 74).map (fun y => (y.bytes, y.zero.map List.length)) = some (40, some 3) := rfl
@[simp] theorem tyY74 : (tyTab 74).map Ty.bytes = some 40 := rfl
@[simp] theorem tyD74 (parts : List (Nat × T)) : ((tyTab 74).bind fun y => buildT tyTab y parts) = fills (placeOf tyTab row74) [.lit (.slice none 0 0), .lit (.int .i64 0), .lit (.int .i64 0)] parts := rfl
@[simp] theorem tyP74_0 : placeOf tyTab row74 0 = some (0, 1) := rfl
@[simp] theorem tyP74_1 : placeOf tyTab row74 1 = some (1, 1) := rfl
@[simp] theorem tyP74_2 : placeOf tyTab row74 2 = some (2, 1) := rfl
@[simp] theorem tyS74 : (tyTab 74).map Ty.size = some 3 := rfl
@[simp] theorem tyE74 : Vabs.elemOf tyTab 74 = none := rfl
@[simp] theorem tyA74 : arrOf tyTab 74 = none := rfl
@[simp] theorem tyL74 (cs : List C) (off : Nat) : loadAt tyTab 74 cs off = if off + 3 ≤ cs.length then some (.agg ((cs.drop off).take 3)) else none := rfl
@[simp] theorem tyZ74 : ((tyTab 74).bind Ty.zero).bind lits = some [.lit (.slice none 0 0), .lit (.int .i64 0), .lit (.int .i64 0)] := rfl
@[simp] theorem tyF74_0 : fieldOf tyTab 74 0 = some (0, 25) := rfl
@[simp] theorem tyF74_1 : fieldOf tyTab 74 1 = some (1, 3) := rfl
@[simp] theorem tyF74_2 : fieldOf tyTab 74 2 = some (2, 3) := rfl
@[simp] theorem tyK75 : (tyTab 75).map Ty.k = some (.struct) := rfl
@[simp] theorem tyB75 : (tyTab 75).map (fun y => (y.bytes, y.zero.map List.length)) = some (40, some 3) := rfl
@[simp] theorem tyY75 : (tyTab 75).map Ty.bytes = some 40 := rfl
@[simp] theorem tyD75 (parts : List (Nat × T)) : ((tyTab 75).bind fun y => buildT tyTab y parts) = fills (placeOf tyTab row75) [.lit (.slice none 0 0), .lit (.int .i64 0), .lit (.int .i64 0)] parts := rfl
@[simp] theorem tyP75_0 : placeOf tyTab row75 0 = some (0, 1) := rfl
@[simp] theorem tyP75_1 : placeOf tyTab row75 1 = some (1, 1) := rfl
@[simp] theorem tyP75_2 : placeOf tyTab row75 2 = some (2, 1) := rfl
@[simp] theorem tyS75 : (tyTab 75).map Ty.size = some 3 := rfl
@[simp] theorem tyE75 : Vabs.elemOf tyTab 75 = none := rfl
@[simp] theorem tyA75 : arrOf tyTab 75 = none := rfl
@[simp] theorem tyL75 (cs : List C) (off : Nat) : loadAt tyTab 75 cs off = if off + 3 ≤ cs.length then some (.agg ((cs.drop off).take 3)) else none := rfl
@[simp] theorem tyZ75 : ((tyTab 75).bind Ty.zero).bind lits = some [.lit (.slice none 0 0), .lit (.int .i64 0), .lit (.int .i64 0)] := rfl
@[simp] theorem tyF75_0 : fieldOf tyTab 75 0 = some (0, 25) := rfl
@[simp] theorem tyF75_1 : fieldOf tyTab 75 1 = some (1, 3) := rfl
@[simp] theorem tyF75_2 : fieldOf tyTab 75 2 = some (2, 3) := rfl
@[simp] theorem tyK82 : (tyTab 82).map Ty.k = some (.other) := rfl
@[simp] theorem tyB82 : (tyTab 82).map (fun y => (y.bytes, y.zero.map List.length)) = some (8, some 1) := rfl
@[simp] theorem tyY82 : (tyTab 82).map Ty.bytes = some 8 := rfl
@[simp] theorem tyS82 : (tyTab 82).map Ty.size = some 1 := rfl
@[simp] theorem tyE82 : Vabs.elemOf tyTab 82 = none := rfl
@[simp] theorem tyA82 : arrOf tyTab 82 = none := rfl
@[simp] theorem tyL82 (cs : List C) (off : Nat) : loadAt tyTab 82 cs off = (cs[off]?).map .c := rfl
@[simp] theorem tyZ82 : ((tyTab 82).bind Ty.zero).bind lits = some [.lit (.nilFunc)] := rfl
@[simp] theorem tyK84 : (tyTab 84).map Ty.k = some (.other) := rfl
@[simp] theorem tyB84 : (tyTab 84).map (fun y => (y.bytes, y.zero.map List.length)) = some (8, some 1) := rfl
@[simp] theorem tyY84 : (tyTab 84).map Ty.bytes = some 8 := rfl
@[simp] theorem tyS84 : (tyTab 84).map Ty.size = some 1 := rfl
@[simp] theorem tyE84 : Vabs.elemOf tyTab 84 = none := rfl
@[simp] theorem tyA84 : arrOf tyTab 84 = none := rfl
@[simp] theorem tyL84 (cs : List C) (off : Nat) : loadAt tyTab 84 cs off = (cs[off]?).map .c := rfl
@[simp] theorem tyZ84 : ((tyTab 84).bind Ty.zero).bind lits = some [.lit (.nilFunc)] := rfl
@[simp] theorem tyK87 : (tyTab 87).map Ty.k = some (.other) := rfl
@[simp] theorem tyB87 : (tyTab 87).map (fun y => (y.bytes, y.zero.map List.length)) = some (8, some 1) := rfl
@[simp] theorem tyY87 : (tyTab 87).map Ty.bytes = some 8 := rfl
@[simp] theorem tyS87 : (tyTab 87).map Ty.size = some 1 := rfl
@[simp] theorem tyE87 : Vabs.elemOf tyTab 87 = none := rfl
@[simp] theorem tyA87 : arrOf tyTab 87 = none := rfl
@[simp] theorem tyL87 (cs : List C) (off : Nat) : loadAt tyTab 87 cs off = (cs[off]?).map .c := rfl
@[simp] theorem tyZ87 : ((tyTab 87).bind Ty.zero).bind lits = some [.lit (.nilFunc)] := rfl
@[simp] theorem tyK90 : (tyTab 90).map Ty.k = some (.other) := rfl
@[simp] theorem tyB90 : (tyTab 90).map (fun y => (y.bytes, y.zero.map List.length)) = some (8, some 1) := rfl
@[simp] theorem tyY90 : (tyTab 90).map Ty.bytes = some 8 := rfl
@[simp] theorem tyS90 : (tyTab 90).map Ty.size = some 1 := rfl
@[simp] theorem tyE90 : Vabs.elemOf tyTab 90 = none := rfl
@[simp] theorem tyA90 : arrOf tyTab 90 = none := rfl
@[simp] theorem tyL90 (cs : List C) (off : Nat) : loadAt tyTab 90 cs off = (cs[off]?).map .c := rfl
@[simp] theorem tyZ90 : ((tyTab 90).bind Ty.zero).bind lits = some [.lit (.pointer none)] := rfl
@[simp] theorem tyK91 : (tyTab 91).map Ty.k = some (.struct) := rfl
@[simp] theorem tyB91 : (tyTab 91).map (fun y => (y.bytes, y.zero.map List.length)) = some (32, some 2) := rfl
@[simp] theorem tyY91 : (tyTab 91).map Ty.bytes = some 32 := rfl
@[simp] theorem tyD91 (parts : List (Nat × T)) : ((tyTab 91).bind fun y => buildT tyTab y parts) = fills (placeOf tyTab row91) [.lit (.pointer none), .lit (.slice none 0 0)] parts := rfl
@[simp] theorem tyP91_0 : placeOf tyTab row91 0 = some (0, 1) := rfl
@[simp] theorem tyP91_1 : placeOf tyTab row91 1 = some (1, 1) := rfl
@[simp] theorem tyS91 : (tyTab 91).map Ty.size = some 2 := rfl
@[simp] theorem tyE91 : Vabs.elemOf tyTab 91 = none := rfl
@[simp] theorem tyA91 : arrOf tyTab 91 = none := rfl
@[simp] theorem tyL91 (cs : List C) (off : Nat) : loadAt tyTab 91 cs off = if off + 2 ≤ cs.length then some (.agg ((cs.drop off).take 2)) else none := rfl
@[simp] theorem tyZ91 : ((tyTab 91).bind Ty.zero).bind lits = some [.lit (.pointer none), .lit (.slice none 0 0)] := rfl
@[simp] theorem tyF91_0 : fieldOf tyTab 91 0 = some (0, 90) := rfl
@[simp] theorem tyF91_1 : fieldOf tyTab 91 1 = some (1, 25) := rfl
@[simp] theorem tyK92 : (tyTab 92).map Ty.k = some (.struct) := rfl
@[simp] theorem tyB92 : (tyTab 92).map (fun y => (y.bytes, y.zero.map List.length)) = some (32, some 2) := rfl
@[simp] theorem tyY92 : (tyTab 92).map Ty.bytes = some 32 := rfl
@[simp] theorem tyD92 (parts : List (Nat × T)) : ((tyTab 92).bind fun y => buildT tyTab y parts) = fills (placeOf tyTab row92) [.lit (.pointer none), .lit (.slice none 0 0)] parts := rfl
@[simp] theorem tyP92_0 : placeOf tyTab row92 0 = some (0, 1) := rfl
@[simp] theorem tyP92_1 : placeOf tyTab row92 1 = some (1, 1) := rfl
@[simp] theorem tyS92 : (tyTab 92).map Ty.size = some 2 := rfl
@[simp] theorem tyE92 : Vabs.elemOf tyTab 92 = none := rfl
@[simp] theorem tyA92 : arrOf tyTab 92 = none := rfl
@[simp] theorem tyL92 (cs : List C) (off : Nat) : loadAt tyTab 92 cs off = if off + 2 ≤ cs.length then some (.agg ((cs.drop off).take 2)) else none := rfl
@[simp] theorem tyZ92 : ((tyTab 92).bind Ty.zero).bind lits = some [.lit (.pointer none), .lit (.slice none 0 0)] := rfl
@[simp] theorem tyF92_0 : fieldOf tyTab 92 0 = some (0, 90) := rfl
@[simp] theorem tyF92_1 : fieldOf tyTab 92 1 = some (1, 25) := rfl
@[simp] theorem tyK102 : (tyTab 102).map Ty.k = some (.other) := rfl
@[simp] theorem tyB102 : (tyTab 102).map (fun y => (y.bytes, y.zero.map List.length)) = some (8, some 1) := rfl
@[simp] theorem tyY102 : (tyTab 102).map Ty.bytes = some 8 := rfl
@[simp] theorem tyS102 : (tyTab 102).map Ty.size = some 1 := rfl
@[simp] theorem tyE102 : Vabs.elemOf tyTab 102 = none := rfl
@[simp] theorem tyA102 : arrOf tyTab 102 = none := rfl
@[simp] theorem tyL102 (cs : List C) (off : Nat) : loadAt tyTab 102 cs off = (cs[off]?).map .c := rfl
@[simp] theorem tyZ102 : ((tyTab 102).bind Ty.zero).bind lits = some [.lit (.nilFunc)] := rfl
@[simp] theorem tyK110 : (tyTab 110).map Ty.k = some (.other) := rfl
@[simp] theorem tyB110 : (tyTab 110).map (fun y => (y.bytes, y.zero.map List.length)) = some (8, some 1) := rfl
@[simp] theorem tyY110 : (tyTab 110).map Ty.bytes = some 8 := rfl
@[simp] theorem tyS110 : (tyTab 110).map Ty.size = some 1 := rfl
@[simp] theorem tyE110 : Vabs.elemOf tyTab 110 = none := rfl
@[simp] theorem tyA110 : arrOf tyTab 110 = none := rfl
@[simp] theorem tyL110 (cs : List C) (off : Nat) : loadAt tyTab 110 cs off = (cs[off]?).map .c := rfl
@[simp] theorem tyZ110 : ((tyTab 110).bind Ty.zero).bind lits = some [.lit (.nilFunc)] := rfl
@[simp] theorem tyK118 : (tyTab 118).map Ty.k = some (.other) := rfl
@[simp] theorem tyB118 : (tyTab 118).map (fun y => (y.bytes, y.zero.map List.length)) = some (8, some 1) := rfl
@[simp] theorem tyY118 : (tyTab 118).map Ty.bytes = some 8 := rfl
@[simp] theorem tyS118 : (tyTab 118).map Ty.size = some 1 := rfl
@[simp] theorem tyE118 : Vabs.elemOf tyTab 118 = none := rfl
@[simp] theorem tyA118 : arrOf tyTab 118 = none := rfl
@[simp] theorem tyL118 (cs : List C) (off : Nat) : loadAt tyTab 118 cs off = (cs[off]?).map .c := rfl
@[simp] theorem tyZ118 : ((tyTab 118).bind Ty.zero).bind lits = some [.lit (.nilFunc)] := rfl
@[simp] theorem tyK132 : (tyTab 132).map Ty.k = some (.array 256 5) := rfl
@[simp] theorem tyB132 : (tyTab 132).map (fun y => (y.bytes, y.zero.map List.length)) = some (256, some 256) := by
 show some (256, (some (List.replicate 256 (Value.int .u8 0))).map List.length) = _
 rw [Option.map_some, List.length_replicate]
@[simp] theorem tyY132 : (tyTab 132).map Ty.bytes = some 256 := rfl
@[simp] theorem tyS132 : (tyTab 132).map Ty.size = some 256 := rfl
@[simp] theorem tyE132 : Vabs.elemOf tyTab 132 = none := rfl
@[simp] theorem tyA132 : arrOf tyTab 132 = some (256, 1) := rfl
@[simp] theorem tyL132 (cs : List C) (off : Nat) : loadAt tyTab 132 cs off = if off + 256 ≤ cs.length then some (.agg ((cs.drop off).take 256)) else none := rfl
@[simp] theorem tyK133 : (tyTab 133).map Ty.k = some (.struct) := rfl
@[simp] theorem tyB133 : (tyTab 133).map (fun y => (y.bytes, y.zero.map List.length)) = some (2, some 2) := rfl
@[simp] theorem tyY133 : (tyTab 133).map Ty.bytes = some 2 := rfl
@[simp] theorem tyD133 (parts : List (Nat × T)) : ((tyTab 133).bind fun y => buildT tyTab y parts) = fills (placeOf tyTab row133) [.lit (.int .u8 0), .lit (.int .u8 0)] parts := rfl
@[simp] theorem tyP133_0 : placeOf tyTab row133 0 = some (0, 1) := rfl
@[simp] theorem tyP133_1 : placeOf tyTab row133 1 = some (1, 1) := rfl
@[simp] theorem tyS133 : (tyTab 133).map Ty.size = some 2 := rfl
@[simp] theorem tyE133 : Vabs.elemOf tyTab 133 = none := rfl
@[simp] theorem tyA133 : arrOf tyTab 133 = none := rfl
@[simp] theorem tyL133 (cs : List C) (off : Nat) : loadAt tyTab 133 cs off = if off + 2 ≤ cs.length then some (.agg ((cs.drop off).take 2)) else none := rfl
@[simp] theorem tyZ133 : ((tyTab 133).bind Ty.zero).bind lits = some [.lit (.int .u8 0), .lit (.int .u8 0)] := rfl
@[simp] theorem tyF133_0 : fieldOf tyTab 133 0 = some (0, 5) := rfl
@[simp] theorem tyF133_1 : fieldOf tyTab 133 1 = some (1, 5) := rfl
@[simp] theorem tyK134 : (tyTab 134).map Ty.k = some (.struct) := rfl
@[simp] theorem tyB134 : (tyTab 134).map (fun y => (y.bytes, y.zero.map List.length)) = some (2, some 2) := rfl
@[simp] theorem tyY134 : (tyTab 134).map Ty.bytes = some 2 := rfl
@[simp] theorem tyD134 (parts : List (Nat × T)) : ((tyTab 134).bind fun y => buildT tyTab y parts) = fills (placeOf tyTab row134) [.lit (.int .u8 0), .lit (.int .u8 0)] parts := rfl
@[simp] theorem tyP134_0 : placeOf tyTab row134 0 = some (0, 1) := rfl
@[simp] theorem tyP134_1 : placeOf tyTab row134 1 = some (1, 1) := rfl
@[simp] theorem tyS134 : (tyTab 134).map Ty.size = some 2 := rfl
@[simp] theorem tyE134 : Vabs.elemOf tyTab 134 = none := rfl
@[simp] theorem tyA134 : arrOf tyTab 134 = none := rfl
@[simp] theorem tyL134 (cs : List C) (off : Nat) : loadAt tyTab 134 cs off = if off + 2 ≤ cs.length then some (.agg ((cs.drop off).take 2)) else none := rfl
@[simp] theorem tyZ134 : ((tyTab 134).bind Ty.zero).bind lits = some [.lit (.int .u8 0), .lit (.int .u8 0)] := rfl
@[simp] theorem tyF134_0 : fieldOf tyTab 134 0 = some (0, 5) := rfl
@[simp] theorem tyF134_1 : fieldOf tyTab 134 1 = some (1, 5) := rfl
@[simp] theorem tyK135 : (tyTab 135).map Ty.k = some (.array 16 134) := rfl
@[simp] theorem tyB135 : (tyTab 135).map (fun y => (y.bytes, y.zero.map List.length)) = some (32, some 32) := rfl
@[simp] theorem tyY135 : (tyTab 135).map Ty.bytes = some 32 := rfl
@[simp] theorem tyD135 (parts : List (Nat × T)) : ((tyTab 135).bind fun y => buildT tyTab y parts) = fills (fun i => some (i * 2, 2)) [.lit (.int .u8 0), .lit (.int .u8 0), .lit (.int .u8 0), .lit (.int .u8 0), .lit (.int .u8 0), .lit (.int .u8 0), .lit (.int .u8 0), .lit (.int .u8 0), .lit (.int .u8 0), .lit (.int .u8 0), .lit (.int .u8 0), .lit (.int .u8 0), .lit (.int .u8 0), .lit (.int .u8 0), .lit (.int .u8 0), .lit (.int .u8 0), .lit (.int .u8 0), .lit (.int .u8 0), .lit (.int .u8 0), .lit (.int .u8 0), .lit (.int .u8 0), .lit (.int .u8 0), .lit (.int .u8 0), .lit (.int .u8 0), .lit (.int .u8 0), .lit (.int .u8 0), .lit (.int .u8 0), .lit (.int .u8 0), .lit (.int .u8 0), .lit (.int .u8 0), .lit (.int .u8 0), .lit (.int .u8 0)] parts := rfl
@[simp] theorem tyS135 : (tyTab 135).map Ty.size = some 32 := rfl
@[simp] theorem tyE135 : Vabs.elemOf tyTab 135 = none := rfl
@[simp] theorem tyA135 : arrOf tyTab 135 = some (16, 2) := rfl
@[simp] theorem tyL135 (cs : List C) (off : Nat) : loadAt tyTab 135 cs off = if off + 32 ≤ cs.length then some (.agg ((cs.drop off).take 32)) else none := rfl
@[simp] theorem tyZ135 : ((tyTab 135).bind Ty.zero).bind lits = some [.lit (.int .u8 0), .lit (.int .u8 0), .lit (.int .u8 0), .lit (.int .u8 0), .lit (.int .u8 0), .lit (.int .u8 0), .lit (.int .u8 0), .lit (.int .u8 0), .lit (.int .u8 0), .lit (.int .u8 0), .lit (.int .u8 0), .lit (.int .u8 0), .lit (.int .u8 0), .lit (.int .u8 0), .lit (.int .u8 0), .lit (.int .u8 0), .lit (.int .u8 0), .lit (.int .u8 0), .lit (.int .u8 0), .lit (.int .u8 0), .lit (.int .u8 0), .lit (.int .u8 0), .lit (.int .u8 0), .lit (.int .u8 0), .lit (.int .u8 0), .lit (.int .u8 0), .lit (.int .u8 0), .lit (.int .u8 0), .lit (.int .u8 0), .lit (.int .u8 0), .lit (.int .u8 0), .lit (.int .u8 0)] := rfl
@[simp] theorem tyN1 : layOf tyTab 5 1 = [none] := rfl
@[simp] theorem tyN2 : layOf tyTab 5 2 = [none] := rfl
@[simp] theorem tyN3 : layOf tyTab 5 3 = [none] := rfl
@[simp] theorem tyN4 : layOf tyTab 5 4 = [none] := rfl
@[simp] theorem tyN5 : layOf tyTab 5 5 = [none] := rfl
@[simp] theorem tyN9 : layOf tyTab 5 9 = [none] := rfl
@[simp] theorem tyN21 : layOf tyTab 5 21 = [none] := rfl
@[simp] theorem tyN22 : layOf tyTab 5 22 = [some 1] := rfl
@[simp] theorem tyN23 : layOf tyTab 5 23 = [none, some 1] := rfl
@[simp] theorem tyN24 : layOf tyTab 5 24 = [none, some 1] := rfl
@[simp] theorem tyN25 : layOf tyTab 5 25 = [some 1] := rfl
@[simp] theorem tyN28 : layOf tyTab 5 28 = [none] := rfl
@[simp] theorem tyN32 : layOf tyTab 5 32 = [none] := rfl
@[simp] theorem tyN40 : layOf tyTab 5 40 = [some 1] := rfl
@[simp] theorem tyN41 : layOf tyTab 5 41 = [some 1, some 1, none, none, some 1] := rfl
@[simp] theorem tyN42 : layOf tyTab 5 42 = [some 1, some 1, none, none, some 1] := rfl
@[simp] theorem tyN48 : layOf tyTab 5 48 = [none] := rfl
@[simp] theorem tyN49 : layOf tyTab 5 49 = [none] := rfl
@[simp] theorem tyN50 : layOf tyTab 5 50 = [some 1] := rfl
@[simp] theorem tyN54 : layOf tyTab 5 54 = [none, some 1, some 1, some 1, none] := rfl
@[simp] theorem tyN55 : layOf tyTab 5 55 = [none, some 1, some 1, some 1, none] := rfl
@[simp] theorem tyN57 : layOf tyTab 5 57 = [none, some 1, none, some 1, some 1, some 1] := rfl
@[simp] theorem tyN58 : layOf tyTab 5 58 = [none, some 1, none, some 1, some 1, some 1] := rfl
@[simp] theorem tyN60 : layOf tyTab 5 60 = [none] := rfl
@[simp] theorem tyN63 : layOf tyTab 5 63 = [some 1] := rfl
@[simp] theorem tyN67 : layOf tyTab 5 67 = [none] := rfl
@[simp] theorem tyN68 : layOf tyTab 5 68 = [some 1, none, none] := rfl
@[simp] theorem tyN69 : layOf tyTab 5 69 = [some 1, none, none] := rfl
@[simp] theorem tyN72 : layOf tyTab 5 72 = [none] := rfl
@[simp] theorem tyN74 : layOf tyTab 5 74 = [some 1, none, none] := rfl
@[simp] theorem tyN75 : layOf tyTab 5 75 = [some 1, none, none] := rfl
@[simp] theorem tyN82 : layOf tyTab 5 82 = [none] := rfl
@[simp] theorem tyN84 : layOf tyTab 5 84 = [none] := rfl
@[simp] theorem tyN87 : layOf tyTab 5 87 = [none] := rfl
@[simp] theorem tyN90 : layOf tyTab 5 90 = [none] := rfl
@[simp] theorem tyN91 : layOf tyTab 5 91 = [none, some 1] := rfl
@[simp] theorem tyN92 : layOf tyTab 5 92 = [none, some 1] := rfl
@[simp] theorem tyN102 : layOf tyTab 5 102 = [none] := rfl
@[simp] theorem tyN110 : layOf tyTab 5 110 = [none] := rfl
@[simp] theorem tyN118 : layOf tyTab 5 118 = [none] := rfl
@[simp] theorem tyN133 : layOf tyTab 5 133 = [none, none] := rfl
@[simp] theorem tyN134 : layOf tyTab 5 134 = [none, none] := rfl
@[simp] theorem tyN135 : layOf tyTab 5 135 = [none, none, none, none, none, none, none, none, none, none, none, none, none, none, none, none, none, none, none, none, none, none, none, none, none, none, none, none, none, none, none, none] := rfl
@[simp] theorem tyM1 : layE tyTab 5 1 = [none] := rfl
@[simp] theorem tyM2 : layE tyTab 5 2 = [none] := rfl
@[simp] theorem tyM3 : layE tyTab 5 3 = [none] := rfl
@[simp] theorem tyM4 : layE tyTab 5 4 = [none] := rfl
@[simp] theorem tyM5 : layE tyTab 5 5 = [none] := rfl
@[simp] theorem tyM9 : layE tyTab 5 9 = [none] := rfl
@[simp] theorem tyM21 : layE tyTab 5 21 = [none] := rfl
@[simp] theorem tyM22 : layE tyTab 5 22 = [some (50, 1)] := rfl
@[simp] theorem tyM23 : layE tyTab 5 23 = [none, some (50, 1)] := rfl
@[simp] theorem tyM24 : layE tyTab 5 24 = [none, some (50, 1)] := rfl
@[simp] theorem tyM25 : layE tyTab 5 25 = [some (5, 1)] := rfl
@[simp] theorem tyM28 : layE tyTab 5 28 = [none] := rfl
@[simp] theorem tyM32 : layE tyTab 5 32 = [none] := rfl
@[simp] theorem tyM40 : layE tyTab 5 40 = [some (4, 1)] := rfl
@[simp] theorem tyM41 : layE tyTab 5 41 = [some (4, 1), some (5, 1), none, none, some (50, 1)] := rfl
@[simp] theorem tyM42 : layE tyTab 5 42 = [some (4, 1), some (5, 1), none, none, some (50, 1)] := rfl
@[simp] theorem tyM48 : layE tyTab 5 48 = [none] := rfl
@[simp] theorem tyM49 : layE tyTab 5 49 = [none] := rfl
@[simp] theorem tyM50 : layE tyTab 5 50 = [some (3, 1)] := rfl
@[simp] theorem tyM54 : layE tyTab 5 54 = [none, some (50, 1), some (4, 1), some (3, 1), none] := rfl
@[simp] theorem tyM55 : layE tyTab 5 55 = [none, some (50, 1), some (4, 1), some (3, 1), none] := rfl
@[simp] theorem tyM57 : layE tyTab 5 57 = [none, some (50, 1), none, some (50, 1), some (4, 1), some (4, 1)] := rfl
@[simp] theorem tyM58 : layE tyTab 5 58 = [none, some (50, 1), none, some (50, 1), some (4, 1), some (4, 1)] := rfl
@[simp] theorem tyM60 : layE tyTab 5 60 = [none] := rfl
@[simp] theorem tyM63 : layE tyTab 5 63 = [some (9, 1)] := rfl
@[simp] theorem tyM67 : layE tyTab 5 67 = [none] := rfl
@[simp] theorem tyM68 : layE tyTab 5 68 = [some (5, 1), none, none] := rfl
@[simp] theorem tyM69 : layE tyTab 5 69 = [some (5, 1), none, none] := rfl
@[simp] theorem tyM72 : layE tyTab 5 72 = [none] := rfl
@[simp] theorem tyM74 : layE tyTab 5 74 = [some (5, 1), none, none] := rfl
@[simp] theorem tyM75 : layE tyTab 5 75 = [some (5, 1), none, none] := rfl
@[simp] theorem tyM82 : layE tyTab 5 82 = [none] := rfl
@[simp] theorem tyM84 : layE tyTab 5 84 = [none] := rfl
@[simp] theorem tyM87 : layE tyTab 5 87 = [none] := rfl
@[simp] theorem tyM90 : layE tyTab 5 90 = [none] := rfl
@[simp] theorem tyM91 : layE tyTab 5 91 = [none, some (5, 1)] := rfl
@[simp] theorem tyM92 : layE tyTab 5 92 = [none, some (5, 1)] := rfl
@[simp] theorem tyM102 : layE tyTab 5 102 = [none] := rfl
@[simp] theorem tyM110 : layE tyTab 5 110 = [none] := rfl
@[simp] theorem tyM118 : layE tyTab 5 118 = [none] := rfl
@[simp] theorem tyM133 : layE tyTab 5 133 = [none, none] := rfl
@[simp] theorem tyM134 : layE tyTab 5 134 = [none, none] := rfl
@[simp] theorem tyM135 : layE tyTab 5 135 = [none, none, none, none, none, none, none, none, none, none, none, none, none, none, none, none, none, none, none, none, none, none, none, none, none, none, none, none, none, none, none, none] := rfl
end
theorem ty1 : tyTab 1 = some row1 := rfl
theorem ty2 : tyTab 2 = some row2 := rfl
theorem ty3 : tyTab 3 = some row3 := rfl
theorem ty4 : tyTab 4 = some row4 := rfl
theorem ty5 : tyTab 5 = some row5 := rfl
theorem ty9 : tyTab 9 = some row9 := rfl
theorem ty21 : tyTab 21 = some row21 := rfl
theorem ty22 : tyTab 22 = some row22 := rfl
theorem ty23 : tyTab 23 = some row23 := rfl
theorem ty24 : tyTab 24 = some row24 := rfl
theorem ty25 : tyTab 25 = some row25 := rfl
theorem ty28 : tyTab 28 = some row28 := rfl
theorem ty32 : tyTab 32 = some row32 := rfl
theorem ty40 : tyTab 40 = some row40 := rfl
theorem ty41 : tyTab 41 = some row41 := rfl
theorem ty42 : tyTab 42 = some row42 := rfl
theorem ty48 : tyTab 48 = some row48 := rfl
theorem ty49 : tyTab 49 = some row49 := rfl
theorem ty50 : tyTab 50 = some row50 := rfl
theorem ty54 : tyTab 54 = some row54 := rfl
theorem ty55 : tyTab 55 = some row55 := rfl
theorem ty57 : tyTab 57 = some row57 := rfl
theorem ty58 : tyTab 58 = some row58 := rfl
theorem ty60 : tyTab 60 = some row60 := rfl
theorem ty63 : tyTab 63 = some row63 := rfl
theorem ty67 : tyTab 67 = some row67 := rfl
theorem ty68 : tyTab 68 = some row68 := rfl
theorem ty69 : tyTab 69 = some row69 := rfl
theorem ty72 : tyTab 72 = some row72 := rfl
theorem ty74 : tyTab 74 = some row74 := rfl
theorem ty75 : tyTab 75 = some row75 := rfl
theorem ty82 : tyTab 82 = some row82 := rfl
theorem ty84 : tyTab 84 = some row84 := rfl
theorem ty87 : tyTab 87 = some row87 := rfl
theorem ty90 : tyTab 90 = some row90 := rfl
theorem ty91 : tyTab 91 = some row91 := rfl
theorem ty92 : tyTab 92 = some row92 := rfl
theorem ty102 : tyTab 102 = some row102 := rfl
theorem ty110 : tyTab 110 = some row110 := rfl
theorem ty118 : tyTab 118 = some row118 := rfl
theorem ty132 : tyTab 132 = some row132 := rfl
theorem ty133 : tyTab 133 = some row133 := rfl
theorem ty134 : tyTab 134 = some row134 := rfl
theorem ty135 : tyTab 135 = some row135 := rfl
theorem tyOk1 : Ty.of Tryd.prog 1 = tyTab 1 := by kernel_rfl
theorem tyOk2 : Ty.of Tryd.prog 2 = tyTab 2 := by kernel_rfl
theorem tyOk3 : Ty.of Tryd.prog 3 = tyTab 3 := by kernel_rfl
theorem tyOk4 : Ty.of Tryd.prog 4 = tyTab 4 := by kernel_rfl
theorem tyOk5 : Ty.of Tryd.prog 5 = tyTab 5 := by kernel_rfl
theorem tyOk9 : Ty.of Tryd.prog 9 = tyTab 9 := by kernel_rfl
theorem tyOk21 : Ty.of Tryd.prog 21 = tyTab 21 := by kernel_rfl
theorem tyOk22 : Ty.of Tryd.prog 22 = tyTab 22 := by kernel_rfl
theorem tyOk23 : Ty.of Tryd.prog 23 = tyTab 23 := by kernel_rfl
theorem tyOk24 : Ty.of Tryd.prog 24 = tyTab 24 := by kernel_rfl
theorem tyOk25 : Ty.of Tryd.prog 25 = tyTab 25 := by kernel_rfl
theorem tyOk28 : Ty.of Tryd.prog 28 = tyTab 28 := by kernel_rfl
theorem tyOk32 : Ty.of Tryd.prog 32 = tyTab 32 := by kernel_rfl
theorem tyOk40 : Ty.of Tryd.prog 40 = tyTab 40 := by kernel_rfl
theorem tyOk41 : Ty.of Tryd.prog 41 = tyTab 41 := by kernel_rfl
theorem tyOk42 : Ty.of Tryd.prog 42 = tyTab 42 := by kernel_rfl
theorem tyOk48 : Ty.of Tryd.prog 48 = tyTab 48 := by kernel_rfl
theorem tyOk49 : Ty.of Tryd.prog 49 = tyTab 49 := by kernel_rfl
theorem tyOk50 : Ty.of Tryd.prog 50 = tyTab 50 := by kernel_rfl
theorem tyOk54 : Ty.of Tryd.prog 54 = tyTab 54 := by kernel_rfl
theorem tyOk55 : Ty.of Tryd.prog 55 = tyTab 55 := by kernel_rfl
theorem tyOk57 : Ty.of Tryd.prog 57 = tyTab 57 := by kernel_rfl
theorem tyOk58 : Ty.of Tryd.prog 58 = tyTab 58 := by kernel_rfl
theorem tyOk60 : Ty.of Tryd.prog 60 = tyTab 60 := by kernel_rfl
theorem tyOk63 : Ty.of Tryd.prog 63 = tyTab 63 := by kernel_rfl
theorem tyOk67 : Ty.of Tryd.prog 67 = tyTab 67 := by kernel_rfl
theorem tyOk68 : Ty.of Tryd.prog 68 = tyTab 68 := by kernel_rfl
theorem tyOk69 : Ty.of Tryd.prog 69 = tyTab 69 := by kernel_rfl
theorem tyOk72 : Ty.of Tryd.prog 72 = tyTab 72 := by kernel_rfl
theorem tyOk74 : Ty.of Tryd.prog 74 = tyTab 74 := by kernel_rfl
theorem tyOk75 : Ty.of Tryd.prog 75 = tyTab 75 := by kernel_rfl
theorem tyOk82 : Ty.of Tryd.prog 82 = tyTab 82 := by kernel_rfl
theorem tyOk84 : Ty.of Tryd.prog 84 = tyTab 84 := by kernel_rfl
theorem tyOk87 : Ty.of Tryd.prog 87 = tyTab 87 := by kernel_rfl
theorem tyOk90 : Ty.of Tryd.prog 90 = tyTab 90 := by kernel_rfl
theorem tyOk91 : Ty.of Tryd.prog 91 = tyTab 91 := by kernel_rfl
theorem tyOk92 : Ty.of Tryd.prog 92 = tyTab 92 := by kernel_rfl
theorem tyOk102 : Ty.of Tryd.prog 102 = tyTab 102 := by kernel_rfl
theorem tyOk110 : Ty.of Tryd.prog 110 = tyTab 110 := by kernel_rfl
theorem tyOk118 : Ty.of Tryd.prog 118 = tyTab 118 := by kernel_rfl
theorem tyOk132 : Ty.of Tryd.prog 132 = tyTab 132 := by kernel_rfl
theorem tyOk133 : Ty.of Tryd.prog 133 = tyTab 133 := by kernel_rfl
theorem tyOk134 : Ty.of Tryd.prog 134 = tyTab 134 := by kernel_rfl
theorem tyOk135 : Ty.of Tryd.prog 135 = tyTab 135 := by kernel_rfl
theorem tyOk : ∀ t y, tyTab t = some y → Ty.of Tryd.prog t = some y := by
 intro t y h
 rw [← h]
 unfold tyTab at h
 split at h
 ·exact tyOk1
 ·exact tyOk2
 ·exact tyOk3
 ·exact tyOk4
 ·exact tyOk5
 ·exact tyOk9
 ·exact tyOk21
 ·exact tyOk22
 ·exact tyOk23
 ·exact tyOk24
 ·exact tyOk25
 ·exact tyOk28
 ·exact tyOk32
 ·exact tyOk40
 ·exact tyOk41
 ·exact tyOk42
 ·exact tyOk48
 ·exact tyOk49
 ·exact tyOk50
 ·exact tyOk54
 ·exact tyOk55
 ·exact tyOk57
 ·exact tyOk58
 ·exact tyOk60
 ·exact tyOk63
 ·exact tyOk67
 ·exact tyOk68
 ·exact tyOk69
 ·exact tyOk72
 ·exact tyOk74
 ·exact tyOk75
 ·exact tyOk82
 ·exact tyOk84
 ·exact tyOk87
 ·exact tyOk90
 ·exact tyOk91
 ·exact tyOk92
 ·exact tyOk102
 ·exact tyOk110
 ·exact tyOk118
 ·exact tyOk132
 ·exact tyOk133
 ·exact tyOk134
 ·exact tyOk135
 ·cases h
end Go.Proofs.YtkdlblpidghjcaaDoor

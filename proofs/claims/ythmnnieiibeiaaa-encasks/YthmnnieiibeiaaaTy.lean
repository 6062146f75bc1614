/- The types that a seat's functions use, held against the program. No condition. -/
import Derived.Test.YthmnnieiibeiaaaProg
import Derived.KernelRfl
import Derived.Test.YthmnnieiibeiaaaVU
namespace Go.Proofs.Ythmnnieiibeiaaa
open Go.Vabs
def row1 : Ty := { k := .other, size := 1, bytes := 8, zero := some [.nilFunc], fields := [] }
def row2 : Ty := { k := .int .i64, size := 1, bytes := 8, zero := some [.int .i64 0], fields := [] }
def row3 : Ty := { k := .int .i64, size := 1, bytes := 8, zero := some [.int .i64 0], fields := [] }
def row4 : Ty := { k := .bool, size := 1, bytes := 1, zero := some [.bool false], fields := [] }
def row5 : Ty := { k := .int .u8, size := 1, bytes := 1, zero := some [.int .u8 0], fields := [] }
def row9 : Ty := { k := .str, size := 1, bytes := 16, zero := some [.string ⟨#[]⟩], fields := [] }
def row22 : Ty := { k := .slice 55, size := 1, bytes := 24, zero := some [.slice none 0 0], fields := [] }
def row23 : Ty := { k := .slice 39, size := 1, bytes := 24, zero := some [.slice none 0 0], fields := [] }
def row24 : Ty := { k := .slice 3, size := 1, bytes := 24, zero := some [.slice none 0 0], fields := [] }
def row25 : Ty := { k := .slice 58, size := 1, bytes := 24, zero := some [.slice none 0 0], fields := [] }
def row26 : Ty := { k := .struct, size := 7, bytes := 152, zero := some [.int .i64 0, .slice none 0 0, .slice none 0 0, .slice none 0 0, .slice none 0 0, .slice none 0 0, .slice none 0 0], fields := [(0, 3), (1, 22), (2, 23), (3, 24), (4, 24), (5, 24), (6, 25)] }
def row27 : Ty := { k := .struct, size := 7, bytes := 152, zero := some [.int .i64 0, .slice none 0 0, .slice none 0 0, .slice none 0 0, .slice none 0 0, .slice none 0 0, .slice none 0 0], fields := [(0, 3), (1, 22), (2, 23), (3, 24), (4, 24), (5, 24), (6, 25)] }
def row30 : Ty := { k := .slice 24, size := 1, bytes := 24, zero := some [.slice none 0 0], fields := [] }
def row31 : Ty := { k := .struct, size := 2, bytes := 32, zero := some [.int .i64 0, .slice none 0 0], fields := [(0, 3), (1, 30)] }
def row32 : Ty := { k := .struct, size := 2, bytes := 32, zero := some [.int .i64 0, .slice none 0 0], fields := [(0, 3), (1, 30)] }
def row38 : Ty := { k := .struct, size := 2, bytes := 16, zero := some [.int .i64 0, .int .i64 0], fields := [(0, 3), (1, 3)] }
def row39 : Ty := { k := .struct, size := 2, bytes := 16, zero := some [.int .i64 0, .int .i64 0], fields := [(0, 3), (1, 3)] }
def row52 : Ty := { k := .slice 30, size := 1, bytes := 24, zero := some [.slice none 0 0], fields := [] }
def row54 : Ty := { k := .struct, size := 2, bytes := 16, zero := some [.int .i64 0, .int .i64 0], fields := [(0, 3), (1, 3)] }
def row55 : Ty := { k := .struct, size := 2, bytes := 16, zero := some [.int .i64 0, .int .i64 0], fields := [(0, 3), (1, 3)] }
def row57 : Ty := { k := .struct, size := 3, bytes := 32, zero := some [.int .u8 0, .int .i64 0, .string ⟨#[]⟩], fields := [(0, 5), (1, 3), (2, 9)] }
def row58 : Ty := { k := .struct, size := 3, bytes := 32, zero := some [.int .u8 0, .int .i64 0, .string ⟨#[]⟩], fields := [(0, 5), (1, 3), (2, 9)] }
def row65 : Ty := { k := .slice 5, size := 1, bytes := 24, zero := some [.slice none 0 0], fields := [] }
def tyTab : Nat → Option Ty
 | 1 => some row1
 | 2 => some row2
 | 3 => some row3
 | 4 => some row4
 | 5 => some row5
 | 9 => some row9
 | 22 => some row22
 | 23 => some row23
 | 24 => some row24
 | 25 => some row25
 | 26 => some row26
 | 27 => some row27
 | 30 => some row30
 | 31 => some row31
 | 32 => some row32
 | 38 => some row38
 | 39 => some row39
 | 52 => some row52
 | 54 => some row54
 | 55 => some row55
 | 57 => some row57
 | 58 => some row58
 | 65 => some row65
 | _ => none
section
@[simp] theorem tyK1 : (tyTab 1).map Ty.k = some (.other) := rfl
@[simp] theorem tyB1 : (tyTab 1).map (fun y => (y.bytes, y.zero.map List.length)) = some (8, some 1) := rfl
@[simp] theorem tyY1 : (tyTab 1).map Ty.bytes = some 8 := rfl
@[simp] theorem tyS1 : (tyTab 1).map Ty.size = some 1 := rfl
@[simp] theorem tyE1 : Vabs.elemOf tyTab 1 = none := rfl
@[simp] theorem tyA1 : arrOf tyTab 1 = none := rfl
@[simp] theorem tyL1 (cs : List C) (off : Nat) : loadAt tyTab 1 cs off = (cs[off]?).map .c := rfl
@[simp] theorem tyZ1 : ((tyTab 1).bind Ty.zero).bind lits = some [.lit (.nilFunc)] := rfl
@[simp] theorem tyK2 : (tyTab 2).map Ty.k = some (.int .i64) := rfl
@[simp] theorem tyB2 : (tyTab 2).map (fun y => (y.bytes, y.zero.map List.length)) = some (8, some 1) := rfl
@[simp] theorem tyY2 : (tyTab 2).map Ty.bytes = some 8 := rfl
@[simp] theorem tyS2 : (tyTab 2).map Ty.size = some 1 := rfl
@[simp] theorem tyE2 : Vabs.elemOf tyTab 2 = none := rfl
@[simp] theorem tyA2 : arrOf tyTab 2 = none := rfl
@[simp] theorem tyL2 (cs : List C) (off : Nat) : loadAt tyTab 2 cs off = (cs[off]?).map .c := rfl
@[simp] theorem tyZ2 : ((tyTab 2).bind Ty.zero).bind lits = some [.lit (.int .i64 0)] := rfl
@[simp] theorem tyK3 : (tyTab 3).map Ty.k = some (.int .i64) := rfl
@[simp] theorem tyB3 : (tyTab 3).map (fun y => (y.bytes, y.zero.map List.length)) = some (8, some 1) := rfl
@[simp] theorem tyY3 : (tyTab 3).map Ty.bytes = some 8 := rfl
@[simp] theorem tyS3 : (tyTab 3).map Ty.size = some 1 := rfl
@[simp] theorem tyE3 : Vabs.elemOf tyTab 3 = none := rfl
@[simp] theorem tyA3 : arrOf tyTab 3 = none := rfl
@[simp] theorem tyL3 (cs : List C) (off : Nat) : loadAt tyTab 3 cs off = (cs[off]?).map .c := rfl
@[simp] theorem tyZ3 : ((tyTab 3).bind Ty.zero).bind lits = some [.lit (.int .i64 0)] := rfl
@[simp] theorem tyK4 : (tyTab 4).map Ty.k = some (.bool) := rfl
@[simp] theorem tyB4 : (tyTab 4).map (fun y => (y.bytes, y.zero.map List.length)) = some (1, some 1) := rfl
@[simp] theorem tyY4 : (tyTab 4).map Ty.bytes = some 1 := rfl
@[simp] theorem tyS4 : (tyTab 4).map Ty.size = some 1 := rfl
@[simp] theorem tyE4 : Vabs.elemOf tyTab 4 = none := rfl
@[simp] theorem tyA4 : arrOf tyTab 4 = none := rfl
@[simp] theorem tyL4 (cs : List C) (off : Nat) : loadAt tyTab 4 cs off = (cs[off]?).map .c := rfl
@[simp] theorem tyZ4 : ((tyTab 4).bind Ty.zero).bind lits = some [.lit (.bool false)] := rfl
@[simp] theorem tyK5 : (tyTab 5).map Ty.k = some (.int .u8) := rfl
@[simp] theorem tyB5 : (tyTab 5).map (fun y => (y.bytes, y.zero.map List.length)) = some (1, some 1) := rfl
@[simp] theorem tyY5 : (tyTab 5).map Ty.bytes = some 1 := rfl
@[simp] theorem tyS5 : (tyTab 5).map Ty.size = some 1 := rfl
@[simp] theorem tyE5 : Vabs.elemOf tyTab 5 = none := rfl
@[simp] theorem tyA5 : arrOf tyTab 5 = none := rfl
@[simp] theorem tyL5 (cs : List C) (off : Nat) : loadAt tyTab 5 cs off = (cs[off]?).map .c := rfl
@[simp] theorem tyZ5 : ((tyTab 5).bind Ty.zero).bind lits = some [.lit (.int .u8 0)] := rfl
@[simp] theorem tyK9 : (tyTab 9).map Ty.k = some (.str) := rfl
@[simp] theorem tyB9 : (tyTab 9).map (fun y => (y.bytes, y.zero.map List.length)) = some (16, some 1) := rfl
@[simp] theorem tyY9 : (tyTab 9).map Ty.bytes = some 16 := rfl
@[simp] theorem tyS9 : (tyTab 9).map Ty.size = some 1 := rfl
@[simp] theorem tyE9 : Vabs.elemOf tyTab 9 = none := rfl
@[simp] theorem tyA9 : arrOf tyTab 9 = none := rfl
@[simp] theorem tyL9 (cs : List C) (off : Nat) : loadAt tyTab 9 cs off = (cs[off]?).map .c := rfl
@[simp] theorem tyZ9 : ((tyTab 9).bind Ty.zero).bind lits = some [.lit (.string ⟨#[]⟩)] := rfl
@[simp] theorem tyK22 : (tyTab 22).map Ty.k = some (.slice 55) := rfl
@[simp] theorem tyB22 : (tyTab 22).map (fun y => (y.bytes, y.zero.map List.length)) = some (24, some 1) := rfl
@[simp] theorem tyY22 : (tyTab 22).map Ty.bytes = some 24 := rfl
@[simp] theorem tyS22 : (tyTab 22).map Ty.size = some 1 := rfl
@[simp] theorem tyE22 : Vabs.elemOf tyTab 22 = some (55, 2) := rfl
@[simp] theorem tyA22 : arrOf tyTab 22 = none := rfl
@[simp] theorem tyL22 (cs : List C) (off : Nat) : loadAt tyTab 22 cs off = (cs[off]?).map .c := rfl
@[simp] theorem tyZ22 : ((tyTab 22).bind Ty.zero).bind lits = some [.lit (.slice none 0 0)] := rfl
@[simp] theorem tyK23 : (tyTab 23).map Ty.k = some (.slice 39) := rfl
@[simp] theorem tyB23 : (tyTab 23).map (fun y => (y.bytes, y.zero.map List.length)) = some (24, some 1) := rfl
@[simp] theorem tyY23 : (tyTab 23).map Ty.bytes = some 24 := rfl
@[simp] theorem tyS23 : (tyTab 23).map Ty.size = some 1 := rfl
@[simp] theorem tyE23 : Vabs.elemOf tyTab 23 = some (39, 2) := rfl
@[simp] theorem tyA23 : arrOf tyTab 23 = none := rfl
@[simp] theorem tyL23 (cs : List C) (off : Nat) : loadAt tyTab 23 cs off = (cs[off]?).map .c := rfl
@[simp] theorem tyZ23 : ((tyTab 23).bind Ty.zero).bind lits = some [.lit (.slice none 0 0)] := rfl
@[simp] theorem tyK24 : (tyTab 24).map Ty.k = some (.slice 3) := rfl
@[simp] theorem tyB24 : (tyTab 24).map (fun y => (y.bytes, y.zero.map List.length)) = some (24, some 1) := rfl
@[simp] theorem tyY24 : (tyTab 24).map Ty.bytes = some 24 := rfl
@[simp] theorem tyS24 : (tyTab 24).map Ty.size = some 1 := rfl
@[simp] theorem tyE24 : Vabs.elemOf tyTab 24 = some (3, 1) := rfl
@[simp] theorem tyA24 : arrOf tyTab 24 = none := rfl
@[simp] theorem tyL24 (cs : List C) (off : Nat) : loadAt tyTab 24 cs off = (cs[off]?).map .c := rfl
@[simp] theorem tyZ24 : ((tyTab 24).bind Ty.zero).bind lits = some [.lit (.slice none 0 0)] := rfl
@[simp] theorem tyK25 : (tyTab 25).map Ty.k = some (.slice 58) := rfl
@[simp] theorem tyB25 : (tyTab 25).map (fun y => (y.bytes, y.zero.map List.length)) = some (24, some 1) := rfl
@[simp] theorem tyY25 : (tyTab 25).map Ty.bytes = some 24 := rfl
@[simp] theorem tyS25 : (tyTab 25).map Ty.size = some 1 := rfl
@[simp] theorem tyE25 : Vabs.elemOf tyTab 25 = some (58, 3) := rfl
@[simp] theorem tyA25 : arrOf tyTab 25 = none := rfl
@[simp] theorem tyL25 (cs : List C) (off : Nat) : loadAt tyTab 25 cs off = (cs[off]?).map .c := rfl
@[simp] theorem tyZ25 : ((tyTab 25).bind Ty.zero).bind lits = some [.lit (.slice none 0 0)] := rfl
@[simp] theorem tyK26 : (tyTab 26).map Ty.k = some (.struct) := rfl
@[simp] theorem tyB26 : (tyTab 26).map (fun y => (y.bytes, y.zero.map List.length)) = some (152, some 7) := rfl
@[simp] theorem tyY26 : (tyTab 26).map Ty.bytes = some 152 := rfl
@[simp] theorem tyD26 (parts : List (Nat × T)) : ((tyTab 26).bind fun y => buildT tyTab y parts) = fills (placeOf tyTab row26) [.lit (.int .i64 0), .lit (.slice none 0 0), .lit (.slice none 0 0), .lit (.slice none 0 0), .lit (.slice none 0 0), .lit (.slice none 0 0), .lit (.slice none 0 0)] parts := rfl
@[simp] theorem tyP26_0 : placeOf tyTab row26 0 = some (0, 1) := rfl
@[simp] theorem tyP26_1 : placeOf tyTab row26 1 = some (1, 1) := rfl
@[simp] theorem tyP26_2 : placeOf tyTab row26 2 = some (2, 1) := rfl
@[simp] theorem tyP26_3 : placeOf tyTab row26 3 = some (3, 1) := rfl
@[simp] theorem tyP26_4 : placeOf tyTab row26 4 = some (4, 1) := rfl
@[simp] theorem tyP26_5 : placeOf tyTab row26 5 = some (5, 1) := rfl
@[simp] theorem tyP26_6 : placeOf tyTab row26 6 = some (6, 1) := rfl
@[simp] theorem tyS26 : (tyTab 26).map Ty.size = some 7 := rfl
@[simp] theorem tyE26 : Vabs.elemOf tyTab 26 = none := rfl
@[simp] theorem tyA26 : arrOf tyTab 26 = none := rfl
@[simp] theorem tyL26 (cs : List C) (off : Nat) : loadAt tyTab 26 cs off = if off + 7 ≤ cs.length then some (.agg ((cs.drop off).take 7)) else none := rfl
@[simp] theorem tyZ26 : ((tyTab 26).bind Ty.zero).bind lits = some [.lit (.int .i64 0), .lit (.slice none 0 0), .lit (.slice none 0 0), .lit (.slice none 0 0), .lit (.slice none 0 0), .lit (.slice none 0 0), .lit (.slice none 0 0)] := rfl
@[simp] theorem tyF26_0 : fieldOf tyTab 26 0 = some (0, 3) := rfl
@[simp] theorem tyF26_1 : fieldOf tyTab 26 1 = some (1, 22) := rfl
@[simp] theorem tyF26_2 : fieldOf tyTab 26 2 = some (2, 23) := rfl
@[simp] theorem tyF26_3 : fieldOf tyTab 26 3 = some (3, 24) := rfl
@[simp] theorem tyF26_4 : fieldOf tyTab 26 4 = some (4, 24) := rfl
@[simp] theorem tyF26_5 : fieldOf tyTab 26 5 = some (5, 24) := rfl
@[simp] theorem tyF26_6 : fieldOf tyTab 26 6 = some (6, 25) := rfl
@[simp] theorem tyK27 : (tyTab 27).map Ty.k = some (.struct) := rfl
@[simp] theorem tyB27 : (tyTab 27).map (fun y => (y.bytes, y.zero.map List.length)) = some (152, some 7) := rfl
@[simp] theorem tyY27 : (tyTab 27).map Ty.bytes = some 152 := rfl
@[simp] theorem tyD27 (parts : List (Nat × T)) : ((tyTab 27).bind fun y => buildT tyTab y parts) = fills (placeOf tyTab row27) [.lit (.int .i64 0), .lit (.slice none 0 0), .lit (.slice none 0 0), .lit (.slice none 0 0), .lit (.slice none 0 0), .lit (.slice none 0 0), .lit (.slice none 0 0)] parts := rfl
@[simp] theorem tyP27_0 : placeOf tyTab row27 0 = some (0, 1) := rfl
@[simp] theorem tyP27_1 : placeOf tyTab row27 1 = some (1, 1) := rfl
@[simp] theorem tyP27_2 : placeOf tyTab row27 2 = some (2, 1) := rfl
@[simp] theorem tyP27_3 : placeOf tyTab row27 3 = some (3, 1) := rfl
@[simp] theorem tyP27_4 : placeOf tyTab row27 4 = some (4, 1) := rfl
@[simp] theorem tyP27_5 : placeOf tyTab row27 5 = some (5, 1) := rfl
@[simp] theorem tyP27_6 : placeOf tyTab row27 6 = some (6, 1) := rfl
@[simp] theorem tyS27 : (tyTab 27).map Ty.size = some 7 := rfl
@[simp] theorem tyE27 : Vabs.elemOf tyTab 27 = none := rfl
@[simp] theorem tyA27 : arrOf tyTab 27 = none := rfl
@[simp] theorem tyL27 (cs : List C) (off : Nat) : loadAt tyTab 27 cs off = if off + 7 ≤ cs.length then some (.agg ((cs.drop off).take 7)) else none := rfl
@[simp] theorem tyZ27 : ((tyTab 27).bind Ty.zero).bind lits = some [.lit (.int .i64 0), .lit (.slice none 0 0), .lit (.slice none 0 0), .lit (.slice none 0 0), .lit (.slice none 0 0), .lit (.slice none 0 0), .lit (.slice none 0 0)] := rfl
@[simp] theorem tyF27_0 : fieldOf tyTab 27 0 = some (0, 3) := rfl
@[simp] theorem tyF27_1 : fieldOf tyTab 27 1 = some (1, 22) := rfl
@[simp] theorem tyF27_2 : fieldOf tyTab 27 2 = some (2, 23) := rfl
@[simp] theorem tyF27_3 : fieldOf tyTab 27 3 = some (3, 24) := rfl
@[simp] theorem tyF27_4 : fieldOf tyTab 27 4 = some (4, 24) := rfl
@[simp] theorem tyF27_5 : fieldOf tyTab 27 5 = some (5, 24) := rfl
@[simp] theorem tyF27_6 : fieldOf tyTab 27 6 = some (6, 25) := rfl
@[simp] theorem tyK30 : (tyTab 30).map Ty.k = some (.slice 24) := rfl
@[simp] theorem tyB30 : (tyTab 30).map (fun y => (y.bytes, y.zero.map List.length)) = some (24, some 1) := rfl
@[simp] theorem tyY30 : (tyTab 30).map Ty.bytes = some 24 := rfl
@[simp] theorem tyS30 : (tyTab 30).map Ty.size = some 1 := rfl
@[simp] theorem tyE30 : Vabs.elemOf tyTab 30 = some (24, 1) := rfl
@[simp] theorem tyA30 : arrOf tyTab 30 = none := rfl
@[simp] theorem tyL30 (cs : List C) (off : Nat) : loadAt tyTab 30 cs off = (cs[off]?).map .c := rfl
@[simp] theorem tyZ30 : ((tyTab 30).bind Ty.zero).bind lits = some [.lit (.slice none 0 0)] := rfl
@[simp] theorem tyK31 : (tyTab 31).map Ty.k = some (.struct) := rfl
@[simp] theorem tyB31 : (tyTab 31).map (fun y => (y.bytes, y.zero.map List.length)) = some (32, some 2) := rfl
@[simp] theorem tyY31 : (tyTab 31).map Ty.bytes = some 32 := rfl
@[simp] theorem tyD31 (parts : List (Nat × T)) : ((tyTab 31).bind fun y => buildT tyTab y parts) = fills (placeOf tyTab row31) [.lit (.int .i64 0), .lit (.slice none 0 0)] parts := rfl
@[simp] theorem tyP31_0 : placeOf tyTab row31 0 = some (0, 1) := rfl
@[simp] theorem tyP31_1 : placeOf tyTab row31 1 = some (1, 1) := rfl
@[simp] theorem tyS31 : (tyTab 31).map Ty.size = some 2 := rfl
@[simp] theorem tyE31 : Vabs.elemOf tyTab 31 = none := rfl
@[simp] theorem tyA31 : arrOf tyTab 31 = none := rfl
@[simp] theorem tyL31 (cs : List C) (off : Nat) : loadAt tyTab 31 cs off = if off + 2 ≤ cs.length then some (.agg ((cs.drop off).take 2)) else none := rfl
@[simp] theorem tyZ31 : ((tyTab 31).bind Ty.zero).bind lits = some [.lit (.int .i64 0), .lit (.slice none 0 0)] := rfl
@[simp] theorem tyF31_0 : fieldOf tyTab 31 0 = some (0, 3) := rfl
@[simp] theorem tyF31_1 : fieldOf tyTab 31 1 = some (1, 30) := rfl
@[simp] theorem tyK32 : (tyTab 32).map Ty.k = some (.struct) := rfl
@[simp] theorem tyB32 : (tyTab 32).map (fun y => (y.bytes, y.zero.map List.length)) = some (32, some 2) := rfl
@[simp] theorem tyY32 : (tyTab 32).map Ty.bytes = some 32 := rfl
@[simp] theorem tyD32 (parts : List (Nat × T)) : ((tyTab 32).bind fun y => buildT tyTab y parts) = fills (placeOf tyTab row32) [.lit (.int .i64 0), .lit (.slice none 0 0)] parts := rfl
@[simp] theorem tyP32_0 : placeOf tyTab row32 0 = some (0, 1) := rfl
@[simp] theorem tyP32_1 : placeOf tyTab row32 1 = some (1, 1) := rfl
@[simp] theorem tyS32 : (tyTab 32).map Ty.size = some 2 := rfl
@[simp] theorem tyE32 : Vabs.elemOf tyTab 32 = none := rfl
@[simp] theorem tyA32 : arrOf tyTab 32 = none := rfl
@[simp] theorem tyL32 (cs : List C) (off : Nat) : loadAt tyTab 32 cs off = if off + 2 ≤ cs.length then some (.agg ((cs.drop off).take 2)) else none := rfl
@[simp] theorem tyZ32 : ((tyTab 32).bind Ty.zero).bind lits = some [.lit (.int .i64 0), .lit (.slice none 0 0)] := rfl
@[simp] theorem tyF32_0 : fieldOf tyTab 32 0 = some (0, 3) := rfl
@[simp] theorem tyF32_1 : fieldOf tyTab 32 1 = some (1, 30) := rfl
@[simp] theorem tyK38 : (tyTab 38).map Ty.k = some (.struct) := rfl
@[simp] theorem tyB38 : (tyTab 38).map (fun y => (y.bytes, y.zero.map List.length)) = some (16, some 2) := rfl
@[simp] theorem tyY38 : (tyTab 38).map Ty.bytes = some 16 := rfl
@[simp] theorem tyD38 (parts : List (Nat × T)) : ((tyTab 38).bind fun y => buildT tyTab y parts) = fills (placeOf tyTab row38) [.lit (.int .i64 0), .lit (.int .i64 0)] parts := rfl
@[simp] theorem tyP38_0 : placeOf tyTab row38 0 = some (0, 1) := rfl
@[simp] theorem tyP38_1 : placeOf tyTab row38 1 = some (1, 1) := rfl
@[simp] theorem tyS38 : (tyTab 38).map Ty.size = some 2 := rfl
@[simp] theorem tyE38 : Vabs.elemOf tyTab 38 = none := rfl
@[simp] theorem tyA38 : arrOf tyTab 38 = none := rfl
@[simp] theorem tyL38 (cs : List C) (off : Nat) : loadAt tyTab 38 cs off = if off + 2 ≤ cs.length then some (.agg ((cs.drop off).take 2)) else none := rfl
@[simp] theorem tyZ38 : ((tyTab 38).bind Ty.zero).bind lits = some [.lit (.int .i64 0), .lit (.int .i64 0)] := rfl
@[simp] theorem tyF38_0 : fieldOf tyTab 38 0 = some (0, 3) := rfl
@[simp] theorem tyF38_1 : fieldOf tyTab 38 1 = some (1, 3) := rfl
@[simp] theorem tyK39 : (tyTab 39).map Ty.k = some (.struct) := rfl
@[simp] theorem tyB39 : (tyTab 39).map (fun y => (y.bytes, y.zero.map List.length)) = some (16, some 2) := rfl
@[simp] theorem tyY39 : (tyTab 39).map Ty.bytes = some 16 := rfl
@[simp] theorem tyD39 (parts : List (Nat × T)) : ((tyTab 39).bind fun y => buildT tyTab y parts) = fills (placeOf tyTab row39) [.lit (.int .i64 0), .lit (.int .i64 0)] parts := rfl
@[simp] theorem tyP39_0 : placeOf tyTab row39 0 = some (0, 1) := rfl
@[simp] theorem tyP39_1 : placeOf tyTab row39 1 = some (1, 1) := rfl
@[simp] theorem tyS39 : (tyTab 39).map Ty.size = some 2 := rfl
@[simp] theorem tyE39 : Vabs.elemOf tyTab 39 = none := rfl
@[simp] theorem tyA39 : arrOf tyTab 39 = none := rfl
@[simp] theorem tyL39 (cs : List C) (off : Nat) : loadAt tyTab 39 cs off = if off + 2 ≤ cs.length then some (.agg ((cs.drop off).take 2)) else none := rfl
@[simp] theorem tyZ39 : ((tyTab 39).bind Ty.zero).bind lits = some [.lit (.int .i64 0), .lit (.int .i64 0)] := rfl
@[simp] theorem tyF39_0 : fieldOf tyTab 39 0 = some (0, 3) := rfl
@[simp] theorem tyF39_1 : fieldOf tyTab 39 1 = some (1, 3) := rfl
@[simp] theorem tyK52 : (tyTab 52).map Ty.k = some (.slice 30) := rfl
@[simp] theorem tyB52 : (tyTab 52).map (fun y => (y.bytes, y.zero.map List.length)) = some (24, some 1) := rfl
@[simp] theorem tyY52 : (tyTab 52).map Ty.bytes = some 24 := rfl
@[simp] theorem tyS52 : (tyTab 52).map Ty.size = some 1 := rfl
@[simp] theorem tyE52 : Vabs.elemOf tyTab 52 = some (30, 1) := rfl
@[simp] theorem tyA52 : arrOf tyTab 52 = none := rfl
@[simp] theorem tyL52 (cs : List C) (off : Nat) : loadAt tyTab 52 cs off = (cs[off]?).map .c := rfl
@[simp] theorem tyZ52 : ((tyTab 52).bind Ty.zero).bind lits = some [.lit (.slice none 0 0)] := rfl
@[simp] theorem tyK54 : (tyTab 54).map Ty.k = some (.struct) := rfl
@[simp] theorem tyB54 : (tyTab 54).map (fun y => (y.bytes, y.zero.map List.length)) = some (16, some 2) := rfl
@[simp] theorem tyY54 : (tyTab 54).map Ty.bytes = some 16 := rfl
@[simp] theorem tyD54 (parts : List (Nat × T)) : ((tyTab 54).bind fun y => buildT tyTab y parts) = fills (placeOf tyTab row54) [.lit (.int .i64 0), .lit (.int .i64 0)] parts := rfl
@[simp] theorem tyP54_0 : placeOf tyTab row54 0 = some (0, 1) := rfl
@[simp] theorem tyP54_1 : placeOf tyTab row54 1 = some (1, 1) := rfl
@[simp] theorem tyS54 : (tyTab 54).map Ty.size = some 2 := rfl
@[simp] theorem tyE54 : Vabs.elemOf tyTab 54 = none := rfl
@[simp] theorem tyA54 : arrOf tyTab 54 = none := rfl
@[simp] theorem tyL54 (cs : List C) (off : Nat) : loadAt tyTab 54 cs off = if off + 2 ≤ cs.length then some (.agg ((cs.drop off).take 2)) else none := rfl
@[simp] theorem tyZ54 : ((tyTab 54).bind Ty.zero).bind lits = some [.lit (.int .i64 0), .lit (.int .i64 0)] := rfl
@[simp] theorem tyF54_0 : fieldOf tyTab 54 0 = some (0, 3) := rfl
@[simp] theorem tyF54_1 : fieldOf tyTab 54 1 = some (1, 3) := rfl
@[simp] theorem tyK55 : (tyTab 55).map Ty.k = some (.struct) := rfl
@[simp] theorem tyB55 : (tyTab 55).map (fun y => (y.bytes, y.zero.map List.length)) = some (16, some 2) := rfl
@[simp] theorem tyY55 : (tyTab 55).map Ty.bytes = some 16 := rfl
@[simp] theorem tyD55 (parts : List (Nat × T)) : ((tyTab 55).bind fun y => buildT tyTab y parts) = fills (placeOf tyTab row55) [.lit (.int .i64 0), .lit (.int .i64 0)] parts := rfl
@[simp] theorem tyP55_0 : placeOf tyTab row55 0 = some (0, 1) := rfl
@[simp] theorem tyP55_1 : placeOf tyTab row55 1 = some (1, 1) := rfl
@[simp] theorem tyS55 : (tyTab 55).map Ty.size = some 2 := rfl
@[simp] theorem tyE55 : Vabs.elemOf tyTab 55 = none := rfl
@[simp] theorem tyA55 : arrOf tyTab 55 = none := rfl
@[simp] theorem tyL55 (cs : List C) (off : Nat) : loadAt tyTab 55 cs off = if off + 2 ≤ cs.length then some (.agg ((cs.drop off).take 2)) else none := rfl
@[simp] theorem tyZ55 : ((tyTab 55).bind Ty.zero).bind lits = some [.lit (.int .i64 0), .lit (.int .i64 0)] := rfl
@[simp] theorem tyF55_0 : fieldOf tyTab 55 0 = some (0, 3) := rfl
@[simp] theorem tyF55_1 : fieldOf tyTab 55 1 = some (1, 3) := rfl
@[simp] theorem tyK57 : (tyTab 57).map Ty.k = some (.struct) := rfl
@[simp] theorem tyB57 : (tyTab 57).map (fun y => (y.bytes, y.zero.map List.length)) = some (32, some 3) := rfl
@[simp] theorem tyY57 : (tyTab 57).map Ty.bytes = some 32 := rfl
@[simp] theorem tyD57 (parts : List (Nat × T)) : ((tyTab 57).bind fun y => buildT tyTab y parts) = fills (placeOf tyTab row57) [.lit (.int .u8 0), .lit (.int .i64 0), .lit (.string ⟨#[]⟩)] parts := rfl
@[simp] theorem tyP57_0 : placeOf tyTab row57 0 = some (0, 1) := rfl
@[simp] theorem tyP57_1 : placeOf tyTab row57 1 = some (1, 1) := rfl
@[simp] theorem tyP57_2 : placeOf tyTab row57 2 = some (2, 1) := rfl
@[simp] theorem tyS57 : (tyTab 57).map Ty.size = some 3 := rfl
@[simp] theorem tyE57 : Vabs.elemOf tyTab 57 = none := rfl
@[simp] theorem tyA57 : arrOf tyTab 57 = none := rfl
@[simp] theorem tyL57 (cs : List C) (off : Nat) : loadAt tyTab 57 cs off = if off + 3 ≤ cs.length then some (.agg ((cs.drop off).take 3)) else none := rfl
@[simp] theorem tyZ57 : ((tyTab 57).bind Ty.zero).bind lits = some [.lit (.int .u8 0), .lit (.int .i64 0), .lit (.string ⟨#[]⟩)] := rfl
@[simp] theorem tyF57_0 : fieldOf tyTab 57 0 = some (0, 5) := rfl
@[simp] theorem tyF57_1 : fieldOf tyTab 57 1 = some (1, 3) := rfl
@[simp] theorem tyF57_2 : fieldOf tyTab 57 2 = some (2, 9) := rfl
@[simp] theorem tyK58 : (tyTab 58).map Ty.k = some (.struct) := rfl
@[simp] theorem tyB58 : (tyTab 58).map (fun y => (y.bytes, y.zero.map List.length)) = some (32, some 3) := rfl
@[simp] theorem tyY58 : (tyTab 58).map Ty.bytes = some 32 := rfl
@[simp] theorem tyD58 (parts : List (Nat × T)) : ((tyTab 58).bind fun y => buildT tyTab y parts) = fills (placeOf tyTab row58) [.lit (.int .u8 0), .lit (.int .i64 0), .lit (.string ⟨#[]⟩)] parts := rfl
@[simp] theorem tyP58_0 : placeOf tyTab row58 0 = some (0, 1) := rfl
@[simp] theorem tyP58_1 : placeOf tyTab row58 1 = some (1, 1) := rfl
@[simp] theorem tyP58_2 : placeOf tyTab row58 2 = some (2, 1) := rfl
@[simp] theorem tyS58 : (tyTab 58).map Ty.size = some 3 := rfl
@[simp] theorem tyE58 : Vabs.elemOf tyTab 58 = none := rfl
@[simp] theorem tyA58 : arrOf tyTab 58 = none := rfl
@[simp] theorem tyL58 (cs : List C) (off : Nat) : loadAt tyTab 58 cs off = if off + 3 ≤ cs.length then some (.agg ((cs.drop off).take 3)) else none := rfl
@[simp] theorem tyZ58 : ((tyTab 58).bind Ty.zero).bind lits = some [.lit (.int .u8 0), .lit (.int .i64 0), .lit (.string ⟨#[]⟩)] := rfl
@[simp] theorem tyF58_0 : fieldOf tyTab 58 0 = some (0, 5) := rfl
@[simp] theorem tyF58_1 : fieldOf tyTab 58 1 = some (1, 3) := rfl
@[simp] theorem tyF58_2 : fieldOf tyTab 58 2 = some (2, 9) := rfl
@[simp] theorem tyK65 : (tyTab 65).map Ty.k = some (.slice 5) := rfl
@[simp] theorem tyB65 : (tyTab 65).map (fun y => (y.bytes, y.zero.map List.length)) = some (24, some 1) := rfl
@[simp] theorem tyY65 : (tyTab 65).map Ty.bytes = some 24 := rfl
@[simp] theorem tyS65 : (tyTab 65).map Ty.size = some 1 := rfl
@[simp] theorem tyE65 : Vabs.elemOf tyTab 65 = some (5, 1) := rfl
@[simp] theorem tyA65 : arrOf tyTab 65 = none := rfl
@[simp] theorem tyL65 (cs : List C) (off : Nat) : loadAt tyTab 65 cs off = (cs[off]?).map .c := rfl
@[simp] theorem tyZ65 : ((tyTab 65).bind Ty.zero).bind lits = some [.lit (.slice none 0 0)] := rfl
@[simp] theorem tyN1 : layOf tyTab 5 1 = [none] := rfl
@[simp] theorem tyN2 : layOf tyTab 5 2 = [none] := rfl
@[simp] theorem tyN3 : layOf tyTab 5 3 = [none] := rfl
@[simp] theorem tyN4 : layOf tyTab 5 4 = [none] := rfl
@[simp] theorem tyN5 : layOf tyTab 5 5 = [none] := rfl
@[simp] theorem tyN9 : layOf tyTab 5 9 = [none] := rfl
@[simp] theorem tyN22 : layOf tyTab 5 22 = [some 2] := rfl
@[simp] theorem tyN23 : layOf tyTab 5 23 = [some 2] := rfl
@[simp] theorem tyN24 : layOf tyTab 5 24 = [some 1] := rfl
@[simp] theorem tyN25 : layOf tyTab 5 25 = [some 3] := rfl
@[simp] theorem tyN26 : layOf tyTab 5 26 = [none, some 2, some 2, some 1, some 1, some 1, some 3] := rfl
@[simp] theorem tyN27 : layOf tyTab 5 27 = [none, some 2, some 2, some 1, some 1, some 1, some 3] := rfl
@[simp] theorem tyN30 : layOf tyTab 5 30 = [some 1] := rfl
@[simp] theorem tyN31 : layOf tyTab 5 31 = [none, some 1] := rfl
@[simp] theorem tyN32 : layOf tyTab 5 32 = [none, some 1] := rfl
@[simp] theorem tyN38 : layOf tyTab 5 38 = [none, none] := rfl
@[simp] theorem tyN39 : layOf tyTab 5 39 = [none, none] := rfl
@[simp] theorem tyN52 : layOf tyTab 5 52 = [some 1] := rfl
@[simp] theorem tyN54 : layOf tyTab 5 54 = [none, none] := rfl
@[simp] theorem tyN55 : layOf tyTab 5 55 = [none, none] := rfl
@[simp] theorem tyN57 : layOf tyTab 5 57 = [none, none, none] := rfl
@[simp] theorem tyN58 : layOf tyTab 5 58 = [none, none, none] := rfl
@[simp] theorem tyN65 : layOf tyTab 5 65 = [some 1] := rfl
@[simp] theorem tyM1 : layE tyTab 5 1 = [none] := rfl
@[simp] theorem tyM2 : layE tyTab 5 2 = [none] := rfl
@[simp] theorem tyM3 : layE tyTab 5 3 = [none] := rfl
@[simp] theorem tyM4 : layE tyTab 5 4 = [none] := rfl
@[simp] theorem tyM5 : layE tyTab 5 5 = [none] := rfl
@[simp] theorem tyM9 : layE tyTab 5 9 = [none] := rfl
@[simp] theorem tyM22 : layE tyTab 5 22 = [some (55, 2)] := rfl
@[simp] theorem tyM23 : layE tyTab 5 23 = [some (39, 2)] := rfl
@[simp] theorem tyM24 : layE tyTab 5 24 = [some (3, 1)] := rfl
@[simp] theorem tyM25 : layE tyTab 5 25 = [some (58, 3)] := rfl
@[simp] theorem tyM26 : layE tyTab 5 26 = [none, some (55, 2), some (39, 2), some (3, 1), some (3, 1), some (3, 1), some (58, 3)] := rfl
@[simp] theorem tyM27 : layE tyTab 5 27 = [none, some (55, 2), some (39, 2), some (3, 1), some (3, 1), some (3, 1), some (58, 3)] := rfl
@[simp] theorem tyM30 : layE tyTab 5 30 = [some (24, 1)] := rfl
@[simp] theorem tyM31 : layE tyTab 5 31 = [none, some (24, 1)] := rfl
@[simp] theorem tyM32 : layE tyTab 5 32 = [none, some (24, 1)] := rfl
@[simp] theorem tyM38 : layE tyTab 5 38 = [none, none] := rfl
@[simp] theorem tyM39 : layE tyTab 5 39 = [none, none] := rfl
@[simp] theorem tyM52 : layE tyTab 5 52 = [some (30, 1)] := rfl
@[simp] theorem tyM54 : layE tyTab 5 54 = [none, none] := rfl
@[simp] theorem tyM55 : layE tyTab 5 55 = [none, none] := rfl
@[simp] theorem tyM57 : layE tyTab 5 57 = [none, none, none] := rfl
@[simp] theorem tyM58 : layE tyTab 5 58 = [none, none, none] := rfl
@[simp] theorem tyM65 : layE tyTab 5 65 = [some (5, 1)] := rfl
end
theorem ty1 : tyTab 1 = some row1 := rfl
theorem ty2 : tyTab 2 = some row2 := rfl
theorem ty3 : tyTab 3 = some row3 := rfl
theorem ty4 : tyTab 4 = some row4 := rfl
theorem ty5 : tyTab 5 = some row5 := rfl
theorem ty9 : tyTab 9 = some row9 := rfl
theorem ty22 : tyTab 22 = some row22 := rfl
theorem ty23 : tyTab 23 = some row23 := rfl
theorem ty24 : tyTab 24 = some row24 := rfl
theorem ty25 : tyTab 25 = some row25 := rfl
theorem ty26 : tyTab 26 = some row26 := rfl
theorem ty27 : tyTab 27 = some row27 := rfl
theorem ty30 : tyTab 30 = some row30 := rfl
theorem ty31 : tyTab 31 = some row31 := rfl
theorem ty32 : tyTab 32 = some row32 := rfl
theorem ty38 : tyTab 38 = some row38 := rfl
theorem ty39 : tyTab 39 = some row39 := rfl
theorem ty52 : tyTab 52 = some row52 := rfl
theorem ty54 : tyTab 54 = some row54 := rfl
theorem ty55 : tyTab 55 = some row55 := rfl
theorem ty57 : tyTab 57 = some row57 := rfl
theorem ty58 : tyTab 58 = some row58 := rfl
theorem ty65 : tyTab 65 = some row65 := rfl
theorem tyOk1 : Ty.of Try.prog 1 = tyTab 1 := by kernel_rfl
theorem tyOk2 : Ty.of Try.prog 2 = tyTab 2 := by kernel_rfl
theorem tyOk3 : Ty.of Try.prog 3 = tyTab 3 := by kernel_rfl
theorem tyOk4 : Ty.of Try.prog 4 = tyTab 4 := by kernel_rfl
theorem tyOk5 : Ty.of Try.prog 5 = tyTab 5 := by kernel_rfl
theorem tyOk9 : Ty.of Try.prog 9 = tyTab 9 := by kernel_rfl
theorem tyOk22 : Ty.of Try.prog 22 = tyTab 22 := by kernel_rfl
theorem tyOk23 : Ty.of Try.prog 23 = tyTab 23 := by kernel_rfl
theorem tyOk24 : Ty.of Try.prog 24 = tyTab 24 := by kernel_rfl
theorem tyOk25 : Ty.of Try.prog 25 = tyTab 25 := by kernel_rfl
theorem tyOk26 : Ty.of Try.prog 26 = tyTab 26 := by kernel_rfl
theorem tyOk27 : Ty.of Try.prog 27 = tyTab 27 := by kernel_rfl
theorem tyOk30 : Ty.of Try.prog 30 = tyTab 30 := by kernel_rfl
theorem tyOk31 : Ty.of Try.prog 31 = tyTab 31 := by kernel_rfl
theorem tyOk32 : Ty.of Try.prog 32 = tyTab 32 := by kernel_rfl
theorem tyOk38 : Ty.of Try.prog 38 = tyTab 38 := by kernel_rfl
theorem tyOk39 : Ty.of Try.prog 39 = tyTab 39 := by kernel_rfl
theorem tyOk52 : Ty.of Try.prog 52 = tyTab 52 := by kernel_rfl
theorem tyOk54 : Ty.of Try.prog 54 = tyTab 54 := by kernel_rfl
theorem tyOk55 : Ty.of Try.prog 55 = tyTab 55 := by kernel_rfl
theorem tyOk57 : Ty.of Try.prog 57 = tyTab 57 := by kernel_rfl
theorem tyOk58 : Ty.of Try.prog 58 = tyTab 58 := by kernel_rfl
theorem tyOk65 : Ty.of Try.prog 65 = tyTab 65 := by kernel_rfl
theorem tyOk : ∀ t y, tyTab t = some y → Ty.of Try.prog t = some y := by
 intro t y h
 rw [← h]
 unfold tyTab at h
 split at h
 ·exact tyOk1
 ·exact tyOk2
 ·exact tyOk3
 ·exact tyOk4
 ·exact tyOk5
 ·exact tyOk9
 ·exact tyOk22
 ·exact tyOk23
 ·exact tyOk24
 ·exact tyOk25
 ·exact tyOk26
 ·exact tyOk27
 ·exact tyOk30
 ·exact tyOk31
 ·exact tyOk32
 ·exact tyOk38
 ·exact tyOk39
 ·exact tyOk52
 ·exact tyOk54
 ·exact tyOk55
 ·exact tyOk57
 ·exact tyOk58
 ·exact tyOk65
 ·cases h
end Go.Proofs.Ythmnnieiibeiaaa

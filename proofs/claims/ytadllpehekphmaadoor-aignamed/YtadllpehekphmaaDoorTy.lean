/- The types that a seat's functions use, held against the program. No condition. -/
import Derived.Test.YtadllpehekphmaaDoorProg
import Derived.KernelRfl
import Derived.Test.YtadllpehekphmaaDoorVU
namespace Go.Proofs.YtadllpehekphmaaDoor
open Go.Vabs
def row1:Ty:={ k:=.other,size:=1,bytes:=8,zero:=some [.nilFunc],fields:=[] }
def row2:Ty:={ k:=.int .i64,size:=1,bytes:=8,zero:=some [.int .i64 0],fields:=[] }
def row3:Ty:={ k:=.int .i64,size:=1,bytes:=8,zero:=some [.int .i64 0],fields:=[] }
def row4:Ty:={ k:=.bool,size:=1,bytes:=1,zero:=some [.bool false],fields:=[] }
def row5:Ty:={ k:=.int .u8,size:=1,bytes:=1,zero:=some [.int .u8 0],fields:=[] }
def row9:Ty:={ k:=.str,size:=1,bytes:=16,zero:=some [.string ⟨#[]⟩],fields:=[] }
def row21:Ty:={ k:=.int .i32,size:=1,bytes:=4,zero:=some [.int .i32 0],fields:=[] }
def row22:Ty:={ k:=.slice 47,size:=1,bytes:=24,zero:=some [.slice none 0 0],fields:=[] }
def row23:Ty:={ k:=.slice 53,size:=1,bytes:=24,zero:=some [.slice none 0 0],fields:=[] }
def row24:Ty:={ k:=.slice 3,size:=1,bytes:=24,zero:=some [.slice none 0 0],fields:=[] }
def row25:Ty:={ k:=.slice 49,size:=1,bytes:=24,zero:=some [.slice none 0 0],fields:=[] }
def row26:Ty:={ k:=.struct,size:=7,bytes:=152,zero:=some [.int .i64 0,.slice none 0 0,.slice none 0 0,.slice none 0 0,.slice none 0 0,.slice none 0 0,.slice none 0 0],fields:=[(0,3),(1,22),(2,23),(3,24),(4,24),(5,24),(6,25)] }
def row27:Ty:={ k:=.struct,size:=7,bytes:=152,zero:=some [.int .i64 0,.slice none 0 0,.slice none 0 0,.slice none 0 0,.slice none 0 0,.slice none 0 0,.slice none 0 0],fields:=[(0,3),(1,22),(2,23),(3,24),(4,24),(5,24),(6,25)] }
def row30:Ty:={ k:=.int .i64,size:=1,bytes:=8,zero:=some [.int .i64 0],fields:=[] }
def row32:Ty:={ k:=.other,size:=1,bytes:=8,zero:=some [.nilFunc],fields:=[] }
def row42:Ty:={ k:=.slice 5,size:=1,bytes:=24,zero:=some [.slice none 0 0],fields:=[] }
def row44:Ty:={ k:=.int .u16,size:=1,bytes:=2,zero:=some [.int .u16 0],fields:=[] }
def row45:Ty:={ k:=.other,size:=1,bytes:=8,zero:=some [.nilFunc],fields:=[] }
def row46:Ty:={ k:=.struct,size:=2,bytes:=16,zero:=some [.int .i64 0,.int .i64 0],fields:=[(0,3),(1,3)] }
def row47:Ty:={ k:=.struct,size:=2,bytes:=16,zero:=some [.int .i64 0,.int .i64 0],fields:=[(0,3),(1,3)] }
def row48:Ty:={ k:=.struct,size:=3,bytes:=32,zero:=some [.int .u8 0,.int .i64 0,.string ⟨#[]⟩],fields:=[(0,5),(1,3),(2,9)] }
def row49:Ty:={ k:=.struct,size:=3,bytes:=32,zero:=some [.int .u8 0,.int .i64 0,.string ⟨#[]⟩],fields:=[(0,5),(1,3),(2,9)] }
def row50:Ty:={ k:=.other,size:=1,bytes:=8,zero:=some [.nilFunc],fields:=[] }
def row51:Ty:={ k:=.other,size:=1,bytes:=8,zero:=some [.nilFunc],fields:=[] }
def row52:Ty:={ k:=.struct,size:=2,bytes:=16,zero:=some [.int .i64 0,.int .i64 0],fields:=[(0,3),(1,3)] }
def row53:Ty:={ k:=.struct,size:=2,bytes:=16,zero:=some [.int .i64 0,.int .i64 0],fields:=[(0,3),(1,3)] }
def row54:Ty:={ k:=.other,size:=1,bytes:=8,zero:=some [.pointer none],fields:=[] }
def row55:Ty:={ k:=.struct,size:=2,bytes:=32,zero:=some [.pointer none,.slice none 0 0],fields:=[(0,54),(1,42)] }
def row56:Ty:={ k:=.struct,size:=2,bytes:=32,zero:=some [.pointer none,.slice none 0 0],fields:=[(0,54),(1,42)] }
def row71:Ty:={ k:=.other,size:=1,bytes:=8,zero:=some [.nilFunc],fields:=[] }
def row72:Ty:={ k:=.slice 24,size:=1,bytes:=24,zero:=some [.slice none 0 0],fields:=[] }
def row79:Ty:={ k:=.struct,size:=2,bytes:=16,zero:=some [.int .i64 0,.int .i64 0],fields:=[(0,3),(1,30)] }
def row80:Ty:={ k:=.struct,size:=2,bytes:=16,zero:=some [.int .i64 0,.int .i64 0],fields:=[(0,3),(1,30)] }
def row82:Ty:={ k:=.other,size:=1,bytes:=8,zero:=some [.pointer none],fields:=[] }
def row83:Ty:={ k:=.struct,size:=2,bytes:=32,zero:=some [.slice none 0 0,.int .i64 0],fields:=[(0,42),(1,3)] }
def row84:Ty:={ k:=.struct,size:=2,bytes:=32,zero:=some [.slice none 0 0,.int .i64 0],fields:=[(0,42),(1,3)] }
def row86:Ty:={ k:=.slice 9,size:=1,bytes:=24,zero:=some [.slice none 0 0],fields:=[] }
def row95:Ty:={ k:=.other,size:=1,bytes:=8,zero:=some [.nilFunc],fields:=[] }
def row97:Ty:={ k:=.other,size:=1,bytes:=8,zero:=some [.nilFunc],fields:=[] }
def row98:Ty:={ k:=.other,size:=1,bytes:=8,zero:=some [.pointer none],fields:=[] }
def row101:Ty:={ k:=.other,size:=1,bytes:=8,zero:=some [.nilFunc],fields:=[] }
def row103:Ty:={ k:=.other,size:=1,bytes:=8,zero:=some [.nilFunc],fields:=[] }
def row105:Ty:={ k:=.other,size:=1,bytes:=8,zero:=some [.nilFunc],fields:=[] }
def row111:Ty:={ k:=.other,size:=1,bytes:=8,zero:=some [.nilFunc],fields:=[] }
def row114:Ty:={ k:=.other,size:=1,bytes:=8,zero:=some [.nilFunc],fields:=[] }
def row117:Ty:={ k:=.other,size:=1,bytes:=8,zero:=some [.nilFunc],fields:=[] }
def row118:Ty:={ k:=.other,size:=1,bytes:=8,zero:=some [.nilFunc],fields:=[] }
def row120:Ty:={ k:=.other,size:=1,bytes:=8,zero:=some [.nilFunc],fields:=[] }
def row121:Ty:={ k:=.other,size:=1,bytes:=8,zero:=some [.nilFunc],fields:=[] }
def row125:Ty:={ k:=.array 256 5,size:=256,bytes:=256,zero:=some (List.replicate 256 (.int .u8 0)),fields:=[] }
def row127:Ty:={ k:=.struct,size:=2,bytes:=2,zero:=some [.int .u8 0,.int .u8 0],fields:=[(0,5),(1,5)] }
def row128:Ty:={ k:=.struct,size:=2,bytes:=2,zero:=some [.int .u8 0,.int .u8 0],fields:=[(0,5),(1,5)] }
def row129:Ty:={ k:=.array 16 128,size:=32,bytes:=32,zero:=some [.int .u8 0,.int .u8 0,.int .u8 0,.int .u8 0,.int .u8 0,.int .u8 0,.int .u8 0,.int .u8 0,.int .u8 0,.int .u8 0,.int .u8 0,.int .u8 0,.int .u8 0,.int .u8 0,.int .u8 0,.int .u8 0,.int .u8 0,.int .u8 0,.int .u8 0,.int .u8 0,.int .u8 0,.int .u8 0,.int .u8 0,.int .u8 0,.int .u8 0,.int .u8 0,.int .u8 0,.int .u8 0,.int .u8 0,.int .u8 0,.int .u8 0,.int .u8 0],fields:=[] }
def row136:Ty:={ k:=.other,size:=1,bytes:=8,zero:=some [.nilFunc],fields:=[] }
def tyTab:Nat→Option Ty
 | 1=>some row1
 | 2=>some row2
 | 3=>some row3
 | 4=>some row4
 | 5=>some row5
 | 9=>some row9
 | 21=>some row21
 | 22=>some row22
 | 23=>some row23
 | 24=>some row24
 | 25=>some row25
 | 26=>some row26
 | 27=>some row27
 | 30=>some row30
 | 32=>some row32
 | 42=>some row42
 | 44=>some row44
 | 45=>some row45
 | 46=>some row46
 | 47=>some row47
 | 48=>some row48
 | 49=>some row49
 | 50=>some row50
 | 51=>some row51
 | 52=>some row52
 | 53=>some row53
 | 54=>some row54
 | 55=>some row55
 | 56=>some row56
 | 71=>some row71
 | 72=>some row72
 | 79=>some row79
 | 80=>some row80
 | 82=>some row82
 | 83=>some row83
 | 84=>some row84
 | 86=>some row86
 | 95=>some row95
 | 97=>some row97
 | 98=>some row98
 | 101=>some row101
 | 103=>some row103
 | 105=>some row105
 | 111=>some row111
 | 114=>some row114
 | 117=>some row117
 | 118=>some row118
 | 120=>some row120
 | 121=>some row121
 | 125=>some row125
 | 127=>some row127
 | 128=>some row128
 | 129=>some row129
 | 136=>some row136
 | _=>none
section
@[simp] theorem tyK3:(tyTab 3).map Ty.k=some (.int .i64):=rfl
@[simp] theorem tyB3:(tyTab 3).map (fun y=>(y.bytes,y.zero.map List.length))=some (8,some 1):=rfl
@[simp] theorem tyY3:(tyTab 3).map Ty.bytes=some 8:=rfl
@[simp] theorem tyS3:(tyTab 3).map Ty.size=some 1:=rfl
@[simp] theorem tyE3:Vabs.elemOf tyTab 3=none:=rfl
@[simp] theorem tyL3 (cs:List C)(off:Nat):loadAt tyTab 3 cs off=(cs[off]?).map .c:=rfl
@[simp] theorem tyZ3:((tyTab 3).bind Ty.zero).bind lits=some [.lit (.int .i64 0)]:=rfl
@[simp] theorem tyK4:(tyTab 4).map Ty.k=some (.bool):=rfl
@[simp] theorem tyE4:Vabs.elemOf tyTab 4=none:=rfl
@[simp] theorem tyK5:(tyTab 5).map Ty.k=some (.int .u8):=rfl
@[simp] theorem tyB5:(tyTab 5).map (fun y=>(y.bytes,y.zero.map List.length))=some (1,some 1):=rfl
@[simp] theorem tyS5:(tyTab 5).map Ty.size=some 1:=rfl
@[simp] theorem tyE5:Vabs.elemOf tyTab 5=none:=rfl
@[simp] theorem tyL5 (cs:List C)(off:Nat):loadAt tyTab 5 cs off=(cs[off]?).map .c:=rfl
@[simp] theorem tyZ5:((tyTab 5).bind Ty.zero).bind lits=some [.lit (.int .u8 0)]:=rfl
@[simp] theorem tyK9:(tyTab 9).map Ty.k=some (.str):=rfl
@[simp] theorem tyB9:(tyTab 9).map (fun y=>(y.bytes,y.zero.map List.length))=some (16,some 1):=rfl
@[simp] theorem tyS9:(tyTab 9).map Ty.size=some 1:=rfl
@[simp] theorem tyE9:Vabs.elemOf tyTab 9=none:=rfl
@[simp] theorem tyL9 (cs:List C)(off:Nat):loadAt tyTab 9 cs off=(cs[off]?).map .c:=rfl
@[simp] theorem tyZ9:((tyTab 9).bind Ty.zero).bind lits=some [.lit (.string ⟨#[]⟩)]:=rfl
@[simp] theorem tyK21:(tyTab 21).map Ty.k=some (.int .i32):=rfl
@[simp] theorem tyE21:Vabs.elemOf tyTab 21=none:=rfl
@[simp] theorem tyK22:(tyTab 22).map Ty.k=some (.slice 47):=rfl
@[simp] theorem tyS22:(tyTab 22).map Ty.size=some 1:=rfl
@[simp] theorem tyE22:Vabs.elemOf tyTab 22=some (47,2):=rfl
@[simp] theorem tyA22:arrOf tyTab 22=none:=rfl
@[simp] theorem tyL22 (cs:List C)(off:Nat):loadAt tyTab 22 cs off=(cs[off]?).map .c:=rfl
@[simp] theorem tyK23:(tyTab 23).map Ty.k=some (.slice 53):=rfl
@[simp] theorem tyS23:(tyTab 23).map Ty.size=some 1:=rfl
@[simp] theorem tyE23:Vabs.elemOf tyTab 23=some (53,2):=rfl
@[simp] theorem tyA23:arrOf tyTab 23=none:=rfl
@[simp] theorem tyL23 (cs:List C)(off:Nat):loadAt tyTab 23 cs off=(cs[off]?).map .c:=rfl
@[simp] theorem tyK24:(tyTab 24).map Ty.k=some (.slice 3):=rfl
@[simp] theorem tyS24:(tyTab 24).map Ty.size=some 1:=rfl
@[simp] theorem tyE24:Vabs.elemOf tyTab 24=some (3,1):=rfl
@[simp] theorem tyA24:arrOf tyTab 24=none:=rfl
@[simp] theorem tyL24 (cs:List C)(off:Nat):loadAt tyTab 24 cs off=(cs[off]?).map .c:=rfl
@[simp] theorem tyZ24:((tyTab 24).bind Ty.zero).bind lits=some [.lit (.slice none 0 0)]:=rfl
@[simp] theorem tyK25:(tyTab 25).map Ty.k=some (.slice 49):=rfl
@[simp] theorem tyS25:(tyTab 25).map Ty.size=some 1:=rfl
@[simp] theorem tyE25:Vabs.elemOf tyTab 25=some (49,3):=rfl
@[simp] theorem tyA25:arrOf tyTab 25=none:=rfl
@[simp] theorem tyL25 (cs:List C)(off:Nat):loadAt tyTab 25 cs off=(cs[off]?).map .c:=rfl
@[simp] theorem tyD27 (parts:List (Nat × T)):((tyTab 27).bind fun y=>buildT tyTab y parts)=fills (placeOf tyTab row27) [.lit (.int .i64 0),.lit (.slice none 0 0),.lit (.slice none 0 0),.lit (.slice none 0 0),.lit (.slice none 0 0),.lit (.slice none 0 0),.lit (.slice none 0 0)] parts:=rfl
@[simp] theorem tyP27_0:placeOf tyTab row27 0=some (0,1):=rfl
@[simp] theorem tyP27_1:placeOf tyTab row27 1=some (1,1):=rfl
@[simp] theorem tyP27_2:placeOf tyTab row27 2=some (2,1):=rfl
@[simp] theorem tyP27_3:placeOf tyTab row27 3=some (3,1):=rfl
@[simp] theorem tyP27_6:placeOf tyTab row27 6=some (6,1):=rfl
@[simp] theorem tyS27:(tyTab 27).map Ty.size=some 7:=rfl
@[simp] theorem tyL27 (cs:List C)(off:Nat):loadAt tyTab 27 cs off=if off+7≤cs.length then some (.agg ((cs.drop off).take 7)) else none:=rfl
@[simp] theorem tyZ27:((tyTab 27).bind Ty.zero).bind lits=some [.lit (.int .i64 0),.lit (.slice none 0 0),.lit (.slice none 0 0),.lit (.slice none 0 0),.lit (.slice none 0 0),.lit (.slice none 0 0),.lit (.slice none 0 0)]:=rfl
@[simp] theorem tyF27_0:fieldOf tyTab 27 0=some (0,3):=rfl
@[simp] theorem tyF27_1:fieldOf tyTab 27 1=some (1,22):=rfl
@[simp] theorem tyF27_2:fieldOf tyTab 27 2=some (2,23):=rfl
@[simp] theorem tyF27_3:fieldOf tyTab 27 3=some (3,24):=rfl
@[simp] theorem tyF27_4:fieldOf tyTab 27 4=some (4,24):=rfl
@[simp] theorem tyF27_5:fieldOf tyTab 27 5=some (5,24):=rfl
@[simp] theorem tyF27_6:fieldOf tyTab 27 6=some (6,25):=rfl
@[simp] theorem tyS30:(tyTab 30).map Ty.size=some 1:=rfl
@[simp] theorem tyE30:Vabs.elemOf tyTab 30=none:=rfl
@[simp] theorem tyL30 (cs:List C)(off:Nat):loadAt tyTab 30 cs off=(cs[off]?).map .c:=rfl
@[simp] theorem tyZ30:((tyTab 30).bind Ty.zero).bind lits=some [.lit (.int .i64 0)]:=rfl
@[simp] theorem tyK42:(tyTab 42).map Ty.k=some (.slice 5):=rfl
@[simp] theorem tyS42:(tyTab 42).map Ty.size=some 1:=rfl
@[simp] theorem tyE42:Vabs.elemOf tyTab 42=some (5,1):=rfl
@[simp] theorem tyA42:arrOf tyTab 42=none:=rfl
@[simp] theorem tyL42 (cs:List C)(off:Nat):loadAt tyTab 42 cs off=(cs[off]?).map .c:=rfl
@[simp] theorem tyK44:(tyTab 44).map Ty.k=some (.int .u16):=rfl
@[simp] theorem tyE44:Vabs.elemOf tyTab 44=none:=rfl
@[simp] theorem tyK47:(tyTab 47).map Ty.k=some (.struct):=rfl
@[simp] theorem tyB47:(tyTab 47).map (fun y=>(y.bytes,y.zero.map List.length))=some (16,some 2):=rfl
@[simp] theorem tyD47 (parts:List (Nat × T)):((tyTab 47).bind fun y=>buildT tyTab y parts)=fills (placeOf tyTab row47) [.lit (.int .i64 0),.lit (.int .i64 0)] parts:=rfl
@[simp] theorem tyP47_0:placeOf tyTab row47 0=some (0,1):=rfl
@[simp] theorem tyS47:(tyTab 47).map Ty.size=some 2:=rfl
@[simp] theorem tyG47:(tyTab 47).map Ty.fields=some [(0,3),(1,3)]:=rfl
@[simp] theorem tyL47 (cs:List C)(off:Nat):loadAt tyTab 47 cs off=if off+2≤cs.length then some (.agg ((cs.drop off).take 2)) else none:=rfl
@[simp] theorem tyZ47:((tyTab 47).bind Ty.zero).bind lits=some [.lit (.int .i64 0),.lit (.int .i64 0)]:=rfl
@[simp] theorem tyF47_0:fieldOf tyTab 47 0=some (0,3):=rfl
@[simp] theorem tyF47_1:fieldOf tyTab 47 1=some (1,3):=rfl
@[simp] theorem tyK49:(tyTab 49).map Ty.k=some (.struct):=rfl
@[simp] theorem tyB49:(tyTab 49).map (fun y=>(y.bytes,y.zero.map List.length))=some (32,some 3):=rfl
@[simp] theorem tyD49 (parts:List (Nat × T)):((tyTab 49).bind fun y=>buildT tyTab y parts)=fills (placeOf tyTab row49) [.lit (.int .u8 0),.lit (.int .i64 0),.lit (.string ⟨#[]⟩)] parts:=rfl
@[simp] theorem tyP49_0:placeOf tyTab row49 0=some (0,1):=rfl
@[simp] theorem tyP49_1:placeOf tyTab row49 1=some (1,1):=rfl
@[simp] theorem tyP49_2:placeOf tyTab row49 2=some (2,1):=rfl
@[simp] theorem tyS49:(tyTab 49).map Ty.size=some 3:=rfl
@[simp] theorem tyG49:(tyTab 49).map Ty.fields=some [(0,5),(1,3),(2,9)]:=rfl
@[simp] theorem tyL49 (cs:List C)(off:Nat):loadAt tyTab 49 cs off=if off+3≤cs.length then some (.agg ((cs.drop off).take 3)) else none:=rfl
@[simp] theorem tyZ49:((tyTab 49).bind Ty.zero).bind lits=some [.lit (.int .u8 0),.lit (.int .i64 0),.lit (.string ⟨#[]⟩)]:=rfl
@[simp] theorem tyF49_0:fieldOf tyTab 49 0=some (0,5):=rfl
@[simp] theorem tyF49_1:fieldOf tyTab 49 1=some (1,3):=rfl
@[simp] theorem tyF49_2:fieldOf tyTab 49 2=some (2,9):=rfl
@[simp] theorem tyK53:(tyTab 53).map Ty.k=some (.struct):=rfl
@[simp] theorem tyB53:(tyTab 53).map (fun y=>(y.bytes,y.zero.map List.length))=some (16,some 2):=rfl
@[simp] theorem tyD53 (parts:List (Nat × T)):((tyTab 53).bind fun y=>buildT tyTab y parts)=fills (placeOf tyTab row53) [.lit (.int .i64 0),.lit (.int .i64 0)] parts:=rfl
@[simp] theorem tyP53_0:placeOf tyTab row53 0=some (0,1):=rfl
@[simp] theorem tyP53_1:placeOf tyTab row53 1=some (1,1):=rfl
@[simp] theorem tyS53:(tyTab 53).map Ty.size=some 2:=rfl
@[simp] theorem tyG53:(tyTab 53).map Ty.fields=some [(0,3),(1,3)]:=rfl
@[simp] theorem tyL53 (cs:List C)(off:Nat):loadAt tyTab 53 cs off=if off+2≤cs.length then some (.agg ((cs.drop off).take 2)) else none:=rfl
@[simp] theorem tyZ53:((tyTab 53).bind Ty.zero).bind lits=some [.lit (.int .i64 0),.lit (.int .i64 0)]:=rfl
@[simp] theorem tyF53_0:fieldOf tyTab 53 0=some (0,3):=rfl
@[simp] theorem tyF53_1:fieldOf tyTab 53 1=some (1,3):=rfl
@[simp] theorem tyE54:Vabs.elemOf tyTab 54=none:=rfl
@[simp] theorem tyZ56:((tyTab 56).bind Ty.zero).bind lits=some [.lit (.pointer none),.lit (.slice none 0 0)]:=rfl
@[simp] theorem tyF56_1:fieldOf tyTab 56 1=some (1,42):=rfl
@[simp] theorem tyE71:Vabs.elemOf tyTab 71=none:=rfl
@[simp] theorem tyK72:(tyTab 72).map Ty.k=some (.slice 24):=rfl
@[simp] theorem tyE72:Vabs.elemOf tyTab 72=some (24,1):=rfl
@[simp] theorem tyA72:arrOf tyTab 72=none:=rfl
@[simp] theorem tyK80:(tyTab 80).map Ty.k=some (.struct):=rfl
@[simp] theorem tyD80 (parts:List (Nat × T)):((tyTab 80).bind fun y=>buildT tyTab y parts)=fills (placeOf tyTab row80) [.lit (.int .i64 0),.lit (.int .i64 0)] parts:=rfl
@[simp] theorem tyP80_0:placeOf tyTab row80 0=some (0,1):=rfl
@[simp] theorem tyP80_1:placeOf tyTab row80 1=some (1,1):=rfl
@[simp] theorem tyF80_0:fieldOf tyTab 80 0=some (0,3):=rfl
@[simp] theorem tyF80_1:fieldOf tyTab 80 1=some (1,30):=rfl
@[simp] theorem tyE82:Vabs.elemOf tyTab 82=none:=rfl
@[simp] theorem tyD84 (parts:List (Nat × T)):((tyTab 84).bind fun y=>buildT tyTab y parts)=fills (placeOf tyTab row84) [.lit (.slice none 0 0),.lit (.int .i64 0)] parts:=rfl
@[simp] theorem tyP84_0:placeOf tyTab row84 0=some (0,1):=rfl
@[simp] theorem tyF84_0:fieldOf tyTab 84 0=some (0,42):=rfl
@[simp] theorem tyF84_1:fieldOf tyTab 84 1=some (1,3):=rfl
@[simp] theorem tyK86:(tyTab 86).map Ty.k=some (.slice 9):=rfl
@[simp] theorem tyE86:Vabs.elemOf tyTab 86=some (9,1):=rfl
@[simp] theorem tyE95:Vabs.elemOf tyTab 95=none:=rfl
@[simp] theorem tyE98:Vabs.elemOf tyTab 98=none:=rfl
@[simp] theorem tyL121 (cs:List C)(off:Nat):loadAt tyTab 121 cs off=(cs[off]?).map .c:=rfl
@[simp] theorem tyE125:Vabs.elemOf tyTab 125=none:=rfl
@[simp] theorem tyA125:arrOf tyTab 125=some (256,1):=rfl
@[simp] theorem tyS128:(tyTab 128).map Ty.size=some 2:=rfl
@[simp] theorem tyZ128:((tyTab 128).bind Ty.zero).bind lits=some [.lit (.int .u8 0),.lit (.int .u8 0)]:=rfl
@[simp] theorem tyF128_0:fieldOf tyTab 128 0=some (0,5):=rfl
@[simp] theorem tyF128_1:fieldOf tyTab 128 1=some (1,5):=rfl
@[simp] theorem tyE129:Vabs.elemOf tyTab 129=none:=rfl
@[simp] theorem tyA129:arrOf tyTab 129=some (16,2):=rfl
@[simp] theorem tyE136:Vabs.elemOf tyTab 136=none:=rfl
@[simp] theorem tyN3:layOf tyTab 5 3=[none]:=rfl
@[simp] theorem tyN4:layOf tyTab 5 4=[none]:=rfl
@[simp] theorem tyN5:layOf tyTab 5 5=[none]:=rfl
@[simp] theorem tyN9:layOf tyTab 5 9=[none]:=rfl
@[simp] theorem tyN21:layOf tyTab 5 21=[none]:=rfl
@[simp] theorem tyN22:layOf tyTab 5 22=[some 2]:=rfl
@[simp] theorem tyN23:layOf tyTab 5 23=[some 2]:=rfl
@[simp] theorem tyN24:layOf tyTab 5 24=[some 1]:=rfl
@[simp] theorem tyN25:layOf tyTab 5 25=[some 3]:=rfl
@[simp] theorem tyN27:layOf tyTab 5 27=[none,some 2,some 2,some 1,some 1,some 1,some 3]:=rfl
@[simp] theorem tyN42:layOf tyTab 5 42=[some 1]:=rfl
@[simp] theorem tyN49:layOf tyTab 5 49=[none,none,none]:=rfl
@[simp] theorem tyN54:layOf tyTab 5 54=[none]:=rfl
@[simp] theorem tyN56:layOf tyTab 5 56=[none,some 1]:=rfl
@[simp] theorem tyN71:layOf tyTab 5 71=[none]:=rfl
@[simp] theorem tyN72:layOf tyTab 5 72=[some 1]:=rfl
@[simp] theorem tyN82:layOf tyTab 5 82=[none]:=rfl
@[simp] theorem tyN86:layOf tyTab 5 86=[some 1]:=rfl
@[simp] theorem tyN98:layOf tyTab 5 98=[none]:=rfl
@[simp] theorem tyN121:layOf tyTab 5 121=[none]:=rfl
@[simp] theorem tyN136:layOf tyTab 5 136=[none]:=rfl
@[simp] theorem tyM3:layE tyTab 5 3=[none]:=rfl
@[simp] theorem tyM4:layE tyTab 5 4=[none]:=rfl
@[simp] theorem tyM9:layE tyTab 5 9=[none]:=rfl
@[simp] theorem tyM21:layE tyTab 5 21=[none]:=rfl
@[simp] theorem tyM24:layE tyTab 5 24=[some (3,1)]:=rfl
@[simp] theorem tyM27:layE tyTab 5 27=[none,some (47,2),some (53,2),some (3,1),some (3,1),some (3,1),some (49,3)]:=rfl
@[simp] theorem tyM30:layE tyTab 5 30=[none]:=rfl
@[simp] theorem tyM56:layE tyTab 5 56=[none,some (5,1)]:=rfl
@[simp] theorem tyM84:layE tyTab 5 84=[some (5,1),none]:=rfl
end
theorem ty3:tyTab 3=some row3:=rfl
theorem ty5:tyTab 5=some row5:=rfl
theorem ty9:tyTab 9=some row9:=rfl
theorem ty22:tyTab 22=some row22:=rfl
theorem ty23:tyTab 23=some row23:=rfl
theorem ty24:tyTab 24=some row24:=rfl
theorem ty25:tyTab 25=some row25:=rfl
theorem ty27:tyTab 27=some row27:=rfl
theorem ty42:tyTab 42=some row42:=rfl
theorem ty47:tyTab 47=some row47:=rfl
theorem ty49:tyTab 49=some row49:=rfl
theorem ty53:tyTab 53=some row53:=rfl
theorem ty128:tyTab 128=some row128:=rfl
theorem tyOk1:Ty.of Tryd.prog 1=tyTab 1:=by kernel_rfl
theorem tyOk2:Ty.of Tryd.prog 2=tyTab 2:=by kernel_rfl
theorem tyOk3:Ty.of Tryd.prog 3=tyTab 3:=by kernel_rfl
theorem tyOk4:Ty.of Tryd.prog 4=tyTab 4:=by kernel_rfl
theorem tyOk5:Ty.of Tryd.prog 5=tyTab 5:=by kernel_rfl
theorem tyOk9:Ty.of Tryd.prog 9=tyTab 9:=by kernel_rfl
theorem tyOk21:Ty.of Tryd.prog 21=tyTab 21:=by kernel_rfl
theorem tyOk22:Ty.of Tryd.prog 22=tyTab 22:=by kernel_rfl
theorem tyOk23:Ty.of Tryd.prog 23=tyTab 23:=by kernel_rfl
theorem tyOk24:Ty.of Tryd.prog 24=tyTab 24:=by kernel_rfl
theorem tyOk25:Ty.of Tryd.prog 25=tyTab 25:=by kernel_rfl
theorem tyOk26:Ty.of Tryd.prog 26=tyTab 26:=by kernel_rfl
theorem tyOk27:Ty.of Tryd.prog 27=tyTab 27:=by kernel_rfl
theorem tyOk30:Ty.of Tryd.prog 30=tyTab 30:=by kernel_rfl
theorem tyOk32:Ty.of Tryd.prog 32=tyTab 32:=by kernel_rfl
theorem tyOk42:Ty.of Tryd.prog 42=tyTab 42:=by kernel_rfl
theorem tyOk44:Ty.of Tryd.prog 44=tyTab 44:=by kernel_rfl
theorem tyOk45:Ty.of Tryd.prog 45=tyTab 45:=by kernel_rfl
theorem tyOk46:Ty.of Tryd.prog 46=tyTab 46:=by kernel_rfl
theorem tyOk47:Ty.of Tryd.prog 47=tyTab 47:=by kernel_rfl
theorem tyOk48:Ty.of Tryd.prog 48=tyTab 48:=by kernel_rfl
theorem tyOk49:Ty.of Tryd.prog 49=tyTab 49:=by kernel_rfl
theorem tyOk50:Ty.of Tryd.prog 50=tyTab 50:=by kernel_rfl
theorem tyOk51:Ty.of Tryd.prog 51=tyTab 51:=by kernel_rfl
theorem tyOk52:Ty.of Tryd.prog 52=tyTab 52:=by kernel_rfl
theorem tyOk53:Ty.of Tryd.prog 53=tyTab 53:=by kernel_rfl
theorem tyOk54:Ty.of Tryd.prog 54=tyTab 54:=by kernel_rfl
theorem tyOk55:Ty.of Tryd.prog 55=tyTab 55:=by kernel_rfl
theorem tyOk56:Ty.of Tryd.prog 56=tyTab 56:=by kernel_rfl
theorem tyOk71:Ty.of Tryd.prog 71=tyTab 71:=by kernel_rfl
theorem tyOk72:Ty.of Tryd.prog 72=tyTab 72:=by kernel_rfl
theorem tyOk79:Ty.of Tryd.prog 79=tyTab 79:=by kernel_rfl
theorem tyOk80:Ty.of Tryd.prog 80=tyTab 80:=by kernel_rfl
theorem tyOk82:Ty.of Tryd.prog 82=tyTab 82:=by kernel_rfl
theorem tyOk83:Ty.of Tryd.prog 83=tyTab 83:=by kernel_rfl
theorem tyOk84:Ty.of Tryd.prog 84=tyTab 84:=by kernel_rfl
theorem tyOk86:Ty.of Tryd.prog 86=tyTab 86:=by kernel_rfl
theorem tyOk95:Ty.of Tryd.prog 95=tyTab 95:=by kernel_rfl
theorem tyOk97:Ty.of Tryd.prog 97=tyTab 97:=by kernel_rfl
theorem tyOk98:Ty.of Tryd.prog 98=tyTab 98:=by kernel_rfl
theorem tyOk101:Ty.of Tryd.prog 101=tyTab 101:=by kernel_rfl
theorem tyOk103:Ty.of Tryd.prog 103=tyTab 103:=by kernel_rfl
theorem tyOk105:Ty.of Tryd.prog 105=tyTab 105:=by kernel_rfl
theorem tyOk111:Ty.of Tryd.prog 111=tyTab 111:=by kernel_rfl
theorem tyOk114:Ty.of Tryd.prog 114=tyTab 114:=by kernel_rfl
theorem tyOk117:Ty.of Tryd.prog 117=tyTab 117:=by kernel_rfl
theorem tyOk118:Ty.of Tryd.prog 118=tyTab 118:=by kernel_rfl
theorem tyOk120:Ty.of Tryd.prog 120=tyTab 120:=by kernel_rfl
theorem tyOk121:Ty.of Tryd.prog 121=tyTab 121:=by kernel_rfl
theorem tyOk125:Ty.of Tryd.prog 125=tyTab 125:=by kernel_rfl
theorem tyOk127:Ty.of Tryd.prog 127=tyTab 127:=by kernel_rfl
theorem tyOk128:Ty.of Tryd.prog 128=tyTab 128:=by kernel_rfl
theorem tyOk129:Ty.of Tryd.prog 129=tyTab 129:=by kernel_rfl
theorem tyOk136:Ty.of Tryd.prog 136=tyTab 136:=by kernel_rfl
theorem tyOk:∀ t y,tyTab t=some y→Ty.of Tryd.prog t=some y:=by
 intro t y h;rw[← h];unfold tyTab at h
 split at h
 ·exact tyOk1
 ·exact tyOk2
 ·exact tyOk3
 ·exact tyOk4
 ·exact tyOk5
 ·exact tyOk9
 ·exact tyOk21
 ·exact tyOk22
 ·exact tyOk23
 ·exact tyOk24
 ·exact tyOk25
 ·exact tyOk26
 ·exact tyOk27
 ·exact tyOk30
 ·exact tyOk32
 ·exact tyOk42
 ·exact tyOk44
 ·exact tyOk45
 ·exact tyOk46
 ·exact tyOk47
 ·exact tyOk48
 ·exact tyOk49
 ·exact tyOk50
 ·exact tyOk51
 ·exact tyOk52
 ·exact tyOk53
 ·exact tyOk54
 ·exact tyOk55
 ·exact tyOk56
 ·exact tyOk71
 ·exact tyOk72
 ·exact tyOk79
 ·exact tyOk80
 ·exact tyOk82
 ·exact tyOk83
 ·exact tyOk84
 ·exact tyOk86
 ·exact tyOk95
 ·exact tyOk97
 ·exact tyOk98
 ·exact tyOk101
 ·exact tyOk103
 ·exact tyOk105
 ·exact tyOk111
 ·exact tyOk114
 ·exact tyOk117
 ·exact tyOk118
 ·exact tyOk120
 ·exact tyOk121
 ·exact tyOk125
 ·exact tyOk127
 ·exact tyOk128
 ·exact tyOk129
 ·exact tyOk136
 ·cases h
end Go.Proofs.YtadllpehekphmaaDoor

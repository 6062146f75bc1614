/- A library: rows told by what they hold, and the data of models, plainly. No condition. -/
import Derived.Test.YtadllpehekphmaaDoorVU
set_option linter.unusedSimpArgs false
set_option linter.unusedVariables false
namespace Go.Vid
open Go.Vabs
def cm {α:Type}(f:α→List C)(l:List α):List (List C):=l.map f
def sls {α:Type}(sz:Nat)(f:α→List C)(l:List α):C:=.sl sz (cm f l)
def rowO {α:Type}(e sz:Nat)(f:α→List C)(l:List α):Ob:=⟨false,true,e,sz,cm f l⟩
section
variable {α:Type} {sz e:Nat} {f:α→List C} {l l':List α} {x:α} {r:List (List C)} {hp:Heap} {fr:List Nat}
@[simp] theorem cm_length:(cm f l).length=l.length:=by simp[cm]
@[simp] theorem cm_get (i:Nat):(cm f l)[i]?=(l[i]?).map f:=by simp[cm]
@[simp] theorem cm_take (i:Nat):(cm f l).take i=cm f (l.take i):=by simp[cm]
@[simp] theorem cm_drop (i:Nat):(cm f l).drop i=cm f (l.drop i):=by simp[cm]
@[simp] theorem cm_append:cm f l++cm f l'=cm f (l++l'):=by simp[cm]
@[simp] theorem cm_push:cm f l++f x::r=cm f (l++[x])++r:=by simp[cm]
theorem cm_replicate (n:Nat):List.replicate n (f x)=cm f (List.replicate n x):=by simp[cm]
@[simp] theorem ob_cm:Ob.mk false true e sz (cm f l)=rowO e sz f l:=rfl
@[simp] theorem rowO_nil:rowO e sz f []=Ob.mk false true e sz []:=rfl
@[simp] theorem rowO_lift:(rowO e sz f l).lift=rowO e sz f l:=rfl
@[simp] theorem rowO_box:(rowO e sz f l).box=false:=rfl
@[simp] theorem rowO_free:(rowO e sz f l).free=true:=rfl
@[simp] theorem rowO_elem:(rowO e sz f l).elem=e:=rfl
@[simp] theorem rowO_sz:(rowO e sz f l).sz=sz:=rfl
@[simp] theorem rowO_es:(rowO e sz f l).es=cm f l:=rfl
@[simp] theorem sls_free:(sls sz f l).free=true:=rfl
@[simp] theorem sls_hds:(sls sz f l).hds=[]:=rfl
@[simp] theorem sls_thds:(T.c (sls sz f l)).hds=[]:=rfl
@[simp] theorem sls_kill (h:Nat):(sls sz f l).kill h=sls sz f l:=rfl
@[simp] theorem sls_frz (h:Nat)(o:Ob):(sls sz f l).frz h o=sls sz f l:=rfl
@[simp] theorem sls_data (n:Nat):dataC hp n (sls sz f l)=some (sls sz f l):=by cases n<;>rfl
@[simp] theorem sls_hsC (n:Nat):hsC hp n (sls sz f l)=[]:=by cases n<;>rfl
@[simp] theorem sls_len:lenS (.c (sls sz f l))=some l.length:=by
 show some (cm f l).length=_;rw[cm_length]
@[simp] theorem sls_lenT:lenT hp (.c (sls sz f l))=some l.length:=by
 show some (cm f l).length=_;rw[cm_length]
@[simp] theorem sls_ix (e:TypeId)(z:Nat)(i:Int):ixE hp (some (e,z)) (.c (sls sz f l)) i=if z=sz∧0≤i then (l[i.toNat]?).map fun x=>.c (.fptr (f x) 0) else none:=by
 unfold sls;rw[ixE_sl,cm_get,Option.map_map];rfl
@[simp] theorem sls_src:srcOf hp (.c (sls sz f l))=some (cm f l):=rfl
@[simp] theorem sls_srcSz:srcSz hp (.c (sls sz f l))=some sz:=rfl
@[simp] theorem sls_freeSrc:freeSrc hp (.c (sls sz f l))=true:=rfl
end
@[simp] def intC (x:Int):C:=.lit (.int .i64 x)
@[simp] def byteC (x:Int):C:=.lit (.int .u8 x)
@[simp] def strC (x:ByteArray):C:=.lit (.string x)
def intF (x:Int):List C:=[C.lit (.int .i64 x)]
@[simp] theorem intF_fold (x:Int)(r:List (List C)):[C.lit (.int .i64 x)]::r=intF x::r:=rfl
@[simp] theorem intF_replicate (n:Nat)(x:Int):List.replicate n [C.lit (.int .i64 x)]=cm intF (List.replicate n x):=cm_replicate (f:=intF) (x:=x) n
@[simp] theorem intF_length (x:Int):(intF x).length=1:=rfl
@[simp] theorem intF_get (x:Int):(intF x)[0]?=some (C.lit (.int .i64 x)):=rfl
@[simp] theorem intF_over (x:Int)(c:C):over (intF x) 0 [c]=[c]:=rfl
@[simp] theorem intF_ob (e sz:Nat)(x:Int)(r:List (List C)):Ob.mk false true e sz (intF x::r)=Ob.mk false true e sz (cm intF [x]++r):=rfl
def byteF (x:Int):List C:=[C.lit (.int .u8 x)]
@[simp] theorem byteF_fold (x:Int)(r:List (List C)):[C.lit (.int .u8 x)]::r=byteF x::r:=rfl
@[simp] theorem byteF_length (x:Int):(byteF x).length=1:=rfl
@[simp] theorem byteF_get (x:Int):(byteF x)[0]?=some (C.lit (.int .u8 x)):=rfl
@[simp] theorem byteF_ob (e sz:Nat)(x:Int)(r:List (List C)):Ob.mk false true e sz (byteF x::r)=Ob.mk false true e sz (cm byteF [x]++r):=rfl
def strF (x:ByteArray):List C:=[C.lit (.string x)]
@[simp] theorem strF_fold (x:ByteArray)(r:List (List C)):[C.lit (.string x)]::r=strF x::r:=rfl
@[simp] theorem strF_ob (e sz:Nat)(x:ByteArray)(r:List (List C)):Ob.mk false true e sz (strF x::r)=Ob.mk false true e sz (cm strF [x]++r):=rfl
abbrev ints (l:List Int):C:=sls 1 intF l
def rowF (x:List Int):List C:=[sls 1 intF x]
@[simp] theorem rowF_fold (x:List Int)(r:List (List C)):[sls 1 intF x]::r=rowF x::r:=rfl
@[simp] theorem rowF_length (x:List Int):(rowF x).length=1:=rfl
@[simp] theorem rowF_get (x:List Int):(rowF x)[0]?=some (sls 1 intF x):=rfl
@[simp] theorem rowF_ob (e sz:Nat)(x:List Int)(r:List (List C)):Ob.mk false true e sz (rowF x::r)=Ob.mk false true e sz (cm rowF [x]++r):=rfl
abbrev rows (l:List (List Int)):C:=sls 1 rowF l
structure Latch where
 next:Int
 reset:Int
structure And where
 a:Int
 b:Int
structure Name where
 kind:Int
 pos:Int
 s:ByteArray
structure Aig where
 I:Int
 L:List Latch
 G:List And
 outs:List Int
 bad:List Int
 con:List Int
 names:List Name
structure Cnf where
 N:Int
 cs:List (List Int)
def Latch.cells (x:Latch):List C:=[intC x.next,intC x.reset]
def And.cells (x:And):List C:=[intC x.a,intC x.b]
def Name.cells (x:Name):List C:=[byteC x.kind,intC x.pos,strC x.s]
def Cnf.cells (f:Cnf):List C:=[intC f.N,rows f.cs]
def Aig.cells (a:Aig):List C:=[intC a.I,sls 2 Latch.cells a.L,sls 2 And.cells a.G,ints a.outs,ints a.bad,ints a.con,sls 3 Name.cells a.names]
section
variable {x:Latch} {hp:Heap}
@[simp] theorem Latch.cells_length:x.cells.length=2:=rfl
@[simp] theorem Latch.cells_all:x.cells.all C.free=true:=rfl
@[simp] theorem Latch.cells_hds:x.cells.flatMap C.hds=[]:=rfl
@[simp] theorem Latch.cells_hsC (n:Nat):x.cells.flatMap (hsC hp n)=[]:=by cases n<;>rfl
@[simp] theorem Latch.cells_data (n:Nat):x.cells.mapM (dataC hp n)=some x.cells:=by cases n<;>rfl
@[simp] theorem Latch.cells_kill (h:Nat):x.cells.map (C.kill h)=x.cells:=rfl
@[simp] theorem Latch.cells_take:x.cells.take 2=x.cells:=rfl
@[simp] theorem Latch.cells_over (x:Latch)(l:List C)(h:l.length=2):over l 0 x.cells=x.cells:=over_all _ _ h
@[simp] theorem Latch.cells0:x.cells[0]?=some (C.lit (.int .i64 x.next)):=rfl
@[simp] theorem Latch.cells1:x.cells[1]?=some (C.lit (.int .i64 x.reset)):=rfl
end
section
variable {x:And} {hp:Heap}
@[simp] theorem And.cells_length:x.cells.length=2:=rfl
@[simp] theorem And.cells_all:x.cells.all C.free=true:=rfl
@[simp] theorem And.cells_hds:x.cells.flatMap C.hds=[]:=rfl
@[simp] theorem And.cells_hsC (n:Nat):x.cells.flatMap (hsC hp n)=[]:=by cases n<;>rfl
@[simp] theorem And.cells_data (n:Nat):x.cells.mapM (dataC hp n)=some x.cells:=by cases n<;>rfl
@[simp] theorem And.cells_kill (h:Nat):x.cells.map (C.kill h)=x.cells:=rfl
@[simp] theorem And.cells_take:x.cells.take 2=x.cells:=rfl
@[simp] theorem And.cells_over (x:And)(l:List C)(h:l.length=2):over l 0 x.cells=x.cells:=over_all _ _ h
@[simp] theorem And.cells0:x.cells[0]?=some (C.lit (.int .i64 x.a)):=rfl
@[simp] theorem And.cells1:x.cells[1]?=some (C.lit (.int .i64 x.b)):=rfl
end
section
variable {x:Name} {hp:Heap}
@[simp] theorem Name.cells_length:x.cells.length=3:=rfl
@[simp] theorem Name.cells_all:x.cells.all C.free=true:=rfl
@[simp] theorem Name.cells_hds:x.cells.flatMap C.hds=[]:=rfl
@[simp] theorem Name.cells_hsC (n:Nat):x.cells.flatMap (hsC hp n)=[]:=by cases n<;>rfl
@[simp] theorem Name.cells_data (n:Nat):x.cells.mapM (dataC hp n)=some x.cells:=by cases n<;>rfl
@[simp] theorem Name.cells_kill (h:Nat):x.cells.map (C.kill h)=x.cells:=rfl
@[simp] theorem Name.cells_take:x.cells.take 3=x.cells:=rfl
@[simp] theorem Name.cells_over (x:Name)(l:List C)(h:l.length=3):over l 0 x.cells=x.cells:=over_all _ _ h
@[simp] theorem Name.cells0:x.cells[0]?=some (C.lit (.int .u8 x.kind)):=rfl
@[simp] theorem Name.cells1:x.cells[1]?=some (C.lit (.int .i64 x.pos)):=rfl
@[simp] theorem Name.cells2:x.cells[2]?=some (C.lit (.string x.s)):=rfl
end
section
variable {x:Cnf} {hp:Heap}
@[simp] theorem Cnf.cells_length:x.cells.length=2:=rfl
@[simp] theorem Cnf.cells_all:x.cells.all C.free=true:=rfl
@[simp] theorem Cnf.cells_hds:x.cells.flatMap C.hds=[]:=rfl
@[simp] theorem Cnf.cells_hsC (n:Nat):x.cells.flatMap (hsC hp n)=[]:=by cases n<;>rfl
@[simp] theorem Cnf.cells_data (n:Nat):x.cells.mapM (dataC hp n)=some x.cells:=by cases n<;>rfl
@[simp] theorem Cnf.cells_kill (h:Nat):x.cells.map (C.kill h)=x.cells:=rfl
@[simp] theorem Cnf.cells_take:x.cells.take 2=x.cells:=rfl
@[simp] theorem Cnf.cells_over (x:Cnf)(l:List C)(h:l.length=2):over l 0 x.cells=x.cells:=over_all _ _ h
@[simp] theorem Cnf.cells0:x.cells[0]?=some (C.lit (.int .i64 x.N)):=rfl
@[simp] theorem Cnf.cells1:x.cells[1]?=some (rows x.cs):=rfl
end
section
variable {a:Aig} {hp:Heap}
@[simp] theorem Aig.cells_length:a.cells.length=7:=rfl
@[simp] theorem Aig.cells_all:a.cells.all C.free=true:=rfl
@[simp] theorem Aig.cells_hds:a.cells.flatMap C.hds=[]:=rfl
@[simp] theorem Aig.cells_hsC (n:Nat):a.cells.flatMap (hsC hp n)=[]:=by cases n<;>rfl
@[simp] theorem Aig.cells_data (n:Nat):a.cells.mapM (dataC hp n)=some a.cells:=by cases n<;>rfl
@[simp] theorem Aig.cells_kill (h:Nat):a.cells.map (C.kill h)=a.cells:=rfl
@[simp] theorem Aig.cells_take:a.cells.take 7=a.cells:=rfl
@[simp] theorem Aig.cells_over (x:Aig)(l:List C)(h:l.length=7):over l 0 x.cells=x.cells:=over_all _ _ h
@[simp] theorem Aig.cells0:a.cells[0]?=some (C.lit (.int .i64 a.I)):=rfl
@[simp] theorem Aig.cells1:a.cells[1]?=some (sls 2 Latch.cells a.L):=rfl
@[simp] theorem Aig.cells2:a.cells[2]?=some (sls 2 And.cells a.G):=rfl
@[simp] theorem Aig.cells3:a.cells[3]?=some (ints a.outs):=rfl
@[simp] theorem Aig.cells4:a.cells[4]?=some (ints a.bad):=rfl
@[simp] theorem Aig.cells5:a.cells[5]?=some (ints a.con):=rfl
@[simp] theorem Aig.cells6:a.cells[6]?=some (sls 3 Name.cells a.names):=rfl
end
section
variable {α β:Type} {g:α→Nat→List β} {l:List α}
end
def Aig.vars (a:Aig):Int:=a.I+a.L.length+a.G.length
def Aig.lit (a:Aig)(k l:Int):Int:=if l.tmod 2=1 then -(k*(a.vars+1)+l.tdiv 2+1) else k*(a.vars+1)+l.tdiv 2+1
structure Aig.B (a:Aig):Prop where
 i0:0≤a.I
 i:a.I≤20000
 l:a.L.length≤20000
 g:a.G.length≤20000
theorem Aig.B.v0 {a:Aig}(h:a.B):0≤a.vars∧a.vars≤60000:=by
 obtain⟨h1,h2,h3,h4⟩:=h;unfold Aig.vars;omega
end Go.Vid

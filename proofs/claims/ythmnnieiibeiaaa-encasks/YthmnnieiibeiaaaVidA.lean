/- A library: rows told by what they hold, and the data of models, plainly. No condition. -/
import Derived.Test.YthmnnieiibeiaaaVU
set_option linter.unusedSimpArgs false
set_option linter.unusedVariables false
namespace Go.Vid
open Go.Vabs
def cm {α : Type} (f : α → List C) (l : List α) : List (List C) := l.map f
def sls {α : Type} (sz : Nat) (f : α → List C) (l : List α) : C := .sl sz (cm f l)
def rowO {α : Type} (e sz : Nat) (f : α → List C) (l : List α) : Ob := ⟨false, true, e, sz, cm f l⟩
section
variable {α : Type} {sz e : Nat} {f : α → List C} {l l' : List α} {x : α} {r : List (List C)} {hp : Heap} {fr : List Nat}
@[simp] theorem cm_nil : cm f [] = [] := rfl
@[simp] theorem cm_length : (cm f l).length = l.length := by simp [cm]
@[simp] theorem cm_get (i : Nat) : (cm f l)[i]? = (l[i]?).map f := by simp [cm]
@[simp] theorem cm_getElem (i : Nat) (h : i < (cm f l).length) : (cm f l)[i] = f (l[i]'(by simpa using h)) := by simp [cm]
@[simp] theorem cm_take (i : Nat) : (cm f l).take i = cm f (l.take i) := by simp [cm]
@[simp] theorem cm_drop (i : Nat) : (cm f l).drop i = cm f (l.drop i) := by simp [cm]
@[simp] theorem cm_append : cm f l ++ cm f l' = cm f (l ++ l') := by simp [cm]
@[simp] theorem cm_push : cm f l ++ f x :: r = cm f (l ++ [x]) ++ r := by simp [cm]
@[simp] theorem cm_set (i : Nat) : (cm f l).set i (f x) = cm f (l.set i x) := by simp [cm, List.map_set]
theorem cm_replicate (n : Nat) : List.replicate n (f x) = cm f (List.replicate n x) := by simp [cm]
@[simp] theorem sl_cm : C.sl sz (cm f l) = sls sz f l := rfl
@[simp] theorem ob_cm : Ob.mk false true e sz (cm f l) = rowO e sz f l := rfl
@[simp] theorem rowO_nil : rowO e sz f [] = Ob.mk false true e sz [] := rfl
@[simp] theorem sls_nil : sls sz f [] = C.sl sz [] := rfl
@[simp] theorem rowO_lift : (rowO e sz f l).lift = rowO e sz f l := rfl
@[simp] theorem rowO_box : (rowO e sz f l).box = false := rfl
@[simp] theorem rowO_free : (rowO e sz f l).free = true := rfl
@[simp] theorem rowO_elem : (rowO e sz f l).elem = e := rfl
@[simp] theorem rowO_sz : (rowO e sz f l).sz = sz := rfl
@[simp] theorem rowO_es : (rowO e sz f l).es = cm f l := rfl
@[simp] theorem sls_free : (sls sz f l).free = true := rfl
@[simp] theorem sls_hds : (sls sz f l).hds = [] := rfl
@[simp] theorem sls_thds : (T.c (sls sz f l)).hds = [] := rfl
@[simp] theorem sls_kill (h : Nat) : (sls sz f l).kill h = sls sz f l := rfl
@[simp] theorem sls_has (h : Nat) : (sls sz f l).has h = false := rfl
@[simp] theorem sls_frz (h : Nat) (o : Ob) : (sls sz f l).frz h o = sls sz f l := rfl
@[simp] theorem sls_shift (g : Nat → Nat) : (sls sz f l).shift g = sls sz f l := rfl
@[simp] theorem sls_data (n : Nat) : dataC hp n (sls sz f l) = some (sls sz f l) := by cases n <;> rfl
@[simp] theorem sls_hsC (n : Nat) : hsC hp n (sls sz f l) = [] := by cases n <;> rfl
@[simp] theorem sls_isLit : (sls sz f l).isLit = false := rfl
@[simp] theorem sls_len : lenS (.c (sls sz f l)) = some l.length := by
 show some (cm f l).length = _
 rw [cm_length]
@[simp] theorem sls_lenT : lenT hp (.c (sls sz f l)) = some l.length := by
 show some (cm f l).length = _
 rw [cm_length]
@[simp] theorem sls_ix (e : TypeId) (z : Nat) (i : Int) : ixE hp (some (e, z)) (.c (sls sz f l)) i = if z = sz ∧ 0 ≤ i then (l[i.toNat]?).map fun x => .c (.fptr (f x) 0) else none := by
 unfold sls
 rw [ixE_sl, cm_get, Option.map_map]
 rfl
@[simp] theorem sls_src : srcOf hp (.c (sls sz f l)) = some (cm f l) := rfl
@[simp] theorem sls_srcSz : srcSz hp (.c (sls sz f l)) = some sz := rfl
@[simp] theorem sls_freeSrc : freeSrc hp (.c (sls sz f l)) = true := rfl
@[simp] theorem sls_nilLit : nilLit (.c (sls sz f l)) = false := rfl
@[simp] theorem sls_refs (cs : List C) : refsOf (sls sz f l :: cs) = refsOf cs := rfl
@[simp] theorem sls_loose (s : St) : loose false none s = s := rfl
end
@[simp] def intC (x : Int) : C := .lit (.int .i64 x)
@[simp] def boolC (x : Bool) : C := .lit (.bool x)
@[simp] def byteC (x : Int) : C := .lit (.int .u8 x)
@[simp] def strC (x : ByteArray) : C := .lit (.string x)
def intF (x : Int) : List C := [C.lit (.int .i64 x)]
@[simp] theorem intF_fold (x : Int) (r : List (List C)) : [C.lit (.int .i64 x)] :: r = intF x :: r := rfl
@[simp] theorem intF_set (l : List (Int)) (i : Nat) (x : Int) : (cm intF l).set i [C.lit (.int .i64 x)] = cm intF (l.set i x) := cm_set (f := intF) (x := x) i
@[simp] theorem intF_replicate (n : Nat) (x : Int) : List.replicate n [C.lit (.int .i64 x)] = cm intF (List.replicate n x) := cm_replicate (f := intF) (x := x) n
@[simp] theorem intF_length (x : Int) : (intF x).length = 1 := rfl
@[simp] theorem intF_get (x : Int) : (intF x)[0]? = some (C.lit (.int .i64 x)) := rfl
@[simp] theorem intF_all (x : Int) : (intF x).all C.free = true := rfl
@[simp] theorem intF_hds (x : Int) : (intF x).flatMap C.hds = [] := rfl
@[simp] theorem intF_frz (h : Nat) (o : Ob) (x : Int) : (intF x).map (C.frz h o) = intF x := rfl
@[simp] theorem intF_kill (h : Nat) (x : Int) : (intF x).map (C.kill h) = intF x := rfl
@[simp] theorem intF_refs (x : Int) : refsOf (intF x) = [] := rfl
@[simp] theorem intF_over (x : Int) (c : C) : over (intF x) 0 [c] = [c] := rfl
@[simp] theorem intF_take (x : Int) (l : List C) : List.take 1 (intF x ++ l) = intF x := rfl
@[simp] theorem intF_ob (e sz : Nat) (x : Int) (r : List (List C)) : Ob.mk false true e sz (intF x :: r) = Ob.mk false true e sz (cm intF [x] ++ r) := rfl
@[simp] theorem intF_sl (sz : Nat) (x : Int) (r : List (List C)) : C.sl sz (intF x :: r) = C.sl sz (cm intF [x] ++ r) := rfl
def boolF (x : Bool) : List C := [C.lit (.bool x)]
@[simp] theorem boolF_fold (x : Bool) (r : List (List C)) : [C.lit (.bool x)] :: r = boolF x :: r := rfl
@[simp] theorem boolF_set (l : List (Bool)) (i : Nat) (x : Bool) : (cm boolF l).set i [C.lit (.bool x)] = cm boolF (l.set i x) := cm_set (f := boolF) (x := x) i
@[simp] theorem boolF_replicate (n : Nat) (x : Bool) : List.replicate n [C.lit (.bool x)] = cm boolF (List.replicate n x) := cm_replicate (f := boolF) (x := x) n
@[simp] theorem boolF_length (x : Bool) : (boolF x).length = 1 := rfl
@[simp] theorem boolF_get (x : Bool) : (boolF x)[0]? = some (C.lit (.bool x)) := rfl
@[simp] theorem boolF_all (x : Bool) : (boolF x).all C.free = true := rfl
@[simp] theorem boolF_hds (x : Bool) : (boolF x).flatMap C.hds = [] := rfl
@[simp] theorem boolF_frz (h : Nat) (o : Ob) (x : Bool) : (boolF x).map (C.frz h o) = boolF x := rfl
@[simp] theorem boolF_kill (h : Nat) (x : Bool) : (boolF x).map (C.kill h) = boolF x := rfl
@[simp] theorem boolF_refs (x : Bool) : refsOf (boolF x) = [] := rfl
@[simp] theorem boolF_over (x : Bool) (c : C) : over (boolF x) 0 [c] = [c] := rfl
@[simp] theorem boolF_take (x : Bool) (l : List C) : List.take 1 (boolF x ++ l) = boolF x := rfl
@[simp] theorem boolF_ob (e sz : Nat) (x : Bool) (r : List (List C)) : Ob.mk false true e sz (boolF x :: r) = Ob.mk false true e sz (cm boolF [x] ++ r) := rfl
@[simp] theorem boolF_sl (sz : Nat) (x : Bool) (r : List (List C)) : C.sl sz (boolF x :: r) = C.sl sz (cm boolF [x] ++ r) := rfl
def byteF (x : Int) : List C := [C.lit (.int .u8 x)]
@[simp] theorem byteF_fold (x : Int) (r : List (List C)) : [C.lit (.int .u8 x)] :: r = byteF x :: r := rfl
@[simp] theorem byteF_set (l : List (Int)) (i : Nat) (x : Int) : (cm byteF l).set i [C.lit (.int .u8 x)] = cm byteF (l.set i x) := cm_set (f := byteF) (x := x) i
@[simp] theorem byteF_replicate (n : Nat) (x : Int) : List.replicate n [C.lit (.int .u8 x)] = cm byteF (List.replicate n x) := cm_replicate (f := byteF) (x := x) n
@[simp] theorem byteF_length (x : Int) : (byteF x).length = 1 := rfl
@[simp] theorem byteF_get (x : Int) : (byteF x)[0]? = some (C.lit (.int .u8 x)) := rfl
@[simp] theorem byteF_all (x : Int) : (byteF x).all C.free = true := rfl
@[simp] theorem byteF_hds (x : Int) : (byteF x).flatMap C.hds = [] := rfl
@[simp] theorem byteF_frz (h : Nat) (o : Ob) (x : Int) : (byteF x).map (C.frz h o) = byteF x := rfl
@[simp] theorem byteF_kill (h : Nat) (x : Int) : (byteF x).map (C.kill h) = byteF x := rfl
@[simp] theorem byteF_refs (x : Int) : refsOf (byteF x) = [] := rfl
@[simp] theorem byteF_over (x : Int) (c : C) : over (byteF x) 0 [c] = [c] := rfl
@[simp] theorem byteF_take (x : Int) (l : List C) : List.take 1 (byteF x ++ l) = byteF x := rfl
@[simp] theorem byteF_ob (e sz : Nat) (x : Int) (r : List (List C)) : Ob.mk false true e sz (byteF x :: r) = Ob.mk false true e sz (cm byteF [x] ++ r) := rfl
@[simp] theorem byteF_sl (sz : Nat) (x : Int) (r : List (List C)) : C.sl sz (byteF x :: r) = C.sl sz (cm byteF [x] ++ r) := rfl
def strF (x : ByteArray) : List C := [C.lit (.string x)]
@[simp] theorem strF_fold (x : ByteArray) (r : List (List C)) : [C.lit (.string x)] :: r = strF x :: r := rfl
@[simp] theorem strF_set (l : List (ByteArray)) (i : Nat) (x : ByteArray) : (cm strF l).set i [C.lit (.string x)] = cm strF (l.set i x) := cm_set (f := strF) (x := x) i
@[simp] theorem strF_replicate (n : Nat) (x : ByteArray) : List.replicate n [C.lit (.string x)] = cm strF (List.replicate n x) := cm_replicate (f := strF) (x := x) n
@[simp] theorem strF_length (x : ByteArray) : (strF x).length = 1 := rfl
@[simp] theorem strF_get (x : ByteArray) : (strF x)[0]? = some (C.lit (.string x)) := rfl
@[simp] theorem strF_all (x : ByteArray) : (strF x).all C.free = true := rfl
@[simp] theorem strF_hds (x : ByteArray) : (strF x).flatMap C.hds = [] := rfl
@[simp] theorem strF_frz (h : Nat) (o : Ob) (x : ByteArray) : (strF x).map (C.frz h o) = strF x := rfl
@[simp] theorem strF_kill (h : Nat) (x : ByteArray) : (strF x).map (C.kill h) = strF x := rfl
@[simp] theorem strF_refs (x : ByteArray) : refsOf (strF x) = [] := rfl
@[simp] theorem strF_over (x : ByteArray) (c : C) : over (strF x) 0 [c] = [c] := rfl
@[simp] theorem strF_take (x : ByteArray) (l : List C) : List.take 1 (strF x ++ l) = strF x := rfl
@[simp] theorem strF_ob (e sz : Nat) (x : ByteArray) (r : List (List C)) : Ob.mk false true e sz (strF x :: r) = Ob.mk false true e sz (cm strF [x] ++ r) := rfl
@[simp] theorem strF_sl (sz : Nat) (x : ByteArray) (r : List (List C)) : C.sl sz (strF x :: r) = C.sl sz (cm strF [x] ++ r) := rfl
abbrev ints (l : List Int) : C := sls 1 intF l
abbrev bools (l : List Bool) : C := sls 1 boolF l
def rowF (x : List Int) : List C := [sls 1 intF x]
@[simp] theorem rowF_fold (x : List Int) (r : List (List C)) : [sls 1 intF x] :: r = rowF x :: r := rfl
@[simp] theorem rowF_set (l : List (List Int)) (i : Nat) (x : List Int) : (cm rowF l).set i [sls 1 intF x] = cm rowF (l.set i x) := cm_set (f := rowF) (x := x) i
@[simp] theorem rowF_replicate (n : Nat) (x : List Int) : List.replicate n [sls 1 intF x] = cm rowF (List.replicate n x) := cm_replicate (f := rowF) (x := x) n
@[simp] theorem rowF_length (x : List Int) : (rowF x).length = 1 := rfl
@[simp] theorem rowF_get (x : List Int) : (rowF x)[0]? = some (sls 1 intF x) := rfl
@[simp] theorem rowF_all (x : List Int) : (rowF x).all C.free = true := rfl
@[simp] theorem rowF_hds (x : List Int) : (rowF x).flatMap C.hds = [] := rfl
@[simp] theorem rowF_frz (h : Nat) (o : Ob) (x : List Int) : (rowF x).map (C.frz h o) = rowF x := rfl
@[simp] theorem rowF_kill (h : Nat) (x : List Int) : (rowF x).map (C.kill h) = rowF x := rfl
@[simp] theorem rowF_refs (x : List Int) : refsOf (rowF x) = [] := rfl
@[simp] theorem rowF_over (x : List Int) (c : C) : over (rowF x) 0 [c] = [c] := rfl
@[simp] theorem rowF_take (x : List Int) (l : List C) : List.take 1 (rowF x ++ l) = rowF x := rfl
@[simp] theorem rowF_ob (e sz : Nat) (x : List Int) (r : List (List C)) : Ob.mk false true e sz (rowF x :: r) = Ob.mk false true e sz (cm rowF [x] ++ r) := rfl
@[simp] theorem rowF_sl (sz : Nat) (x : List Int) (r : List (List C)) : C.sl sz (rowF x :: r) = C.sl sz (cm rowF [x] ++ r) := rfl
def browF (x : List Bool) : List C := [sls 1 boolF x]
@[simp] theorem browF_fold (x : List Bool) (r : List (List C)) : [sls 1 boolF x] :: r = browF x :: r := rfl
@[simp] theorem browF_set (l : List (List Bool)) (i : Nat) (x : List Bool) : (cm browF l).set i [sls 1 boolF x] = cm browF (l.set i x) := cm_set (f := browF) (x := x) i
@[simp] theorem browF_replicate (n : Nat) (x : List Bool) : List.replicate n [sls 1 boolF x] = cm browF (List.replicate n x) := cm_replicate (f := browF) (x := x) n
@[simp] theorem browF_length (x : List Bool) : (browF x).length = 1 := rfl
@[simp] theorem browF_get (x : List Bool) : (browF x)[0]? = some (sls 1 boolF x) := rfl
@[simp] theorem browF_all (x : List Bool) : (browF x).all C.free = true := rfl
@[simp] theorem browF_hds (x : List Bool) : (browF x).flatMap C.hds = [] := rfl
@[simp] theorem browF_frz (h : Nat) (o : Ob) (x : List Bool) : (browF x).map (C.frz h o) = browF x := rfl
@[simp] theorem browF_kill (h : Nat) (x : List Bool) : (browF x).map (C.kill h) = browF x := rfl
@[simp] theorem browF_refs (x : List Bool) : refsOf (browF x) = [] := rfl
@[simp] theorem browF_over (x : List Bool) (c : C) : over (browF x) 0 [c] = [c] := rfl
@[simp] theorem browF_take (x : List Bool) (l : List C) : List.take 1 (browF x ++ l) = browF x := rfl
@[simp] theorem browF_ob (e sz : Nat) (x : List Bool) (r : List (List C)) : Ob.mk false true e sz (browF x :: r) = Ob.mk false true e sz (cm browF [x] ++ r) := rfl
@[simp] theorem browF_sl (sz : Nat) (x : List Bool) (r : List (List C)) : C.sl sz (browF x :: r) = C.sl sz (cm browF [x] ++ r) := rfl
def rrowF (x : List (List Int)) : List C := [sls 1 rowF x]
@[simp] theorem rrowF_fold (x : List (List Int)) (r : List (List C)) : [sls 1 rowF x] :: r = rrowF x :: r := rfl
@[simp] theorem rrowF_set (l : List (List (List Int))) (i : Nat) (x : List (List Int)) : (cm rrowF l).set i [sls 1 rowF x] = cm rrowF (l.set i x) := cm_set (f := rrowF) (x := x) i
@[simp] theorem rrowF_replicate (n : Nat) (x : List (List Int)) : List.replicate n [sls 1 rowF x] = cm rrowF (List.replicate n x) := cm_replicate (f := rrowF) (x := x) n
@[simp] theorem rrowF_length (x : List (List Int)) : (rrowF x).length = 1 := rfl
@[simp] theorem rrowF_get (x : List (List Int)) : (rrowF x)[0]? = some (sls 1 rowF x) := rfl
@[simp] theorem rrowF_all (x : List (List Int)) : (rrowF x).all C.free = true := rfl
@[simp] theorem rrowF_hds (x : List (List Int)) : (rrowF x).flatMap C.hds = [] := rfl
@[simp] theorem rrowF_frz (h : Nat) (o : Ob) (x : List (List Int)) : (rrowF x).map (C.frz h o) = rrowF x := rfl
@[simp] theorem rrowF_kill (h : Nat) (x : List (List Int)) : (rrowF x).map (C.kill h) = rrowF x := rfl
@[simp] theorem rrowF_refs (x : List (List Int)) : refsOf (rrowF x) = [] := rfl
@[simp] theorem rrowF_over (x : List (List Int)) (c : C) : over (rrowF x) 0 [c] = [c] := rfl
@[simp] theorem rrowF_take (x : List (List Int)) (l : List C) : List.take 1 (rrowF x ++ l) = rrowF x := rfl
@[simp] theorem rrowF_ob (e sz : Nat) (x : List (List Int)) (r : List (List C)) : Ob.mk false true e sz (rrowF x :: r) = Ob.mk false true e sz (cm rrowF [x] ++ r) := rfl
@[simp] theorem rrowF_sl (sz : Nat) (x : List (List Int)) (r : List (List C)) : C.sl sz (rrowF x :: r) = C.sl sz (cm rrowF [x] ++ r) := rfl
abbrev rows (l : List (List Int)) : C := sls 1 rowF l
abbrev intsO (e : Nat) (l : List Int) : Ob := rowO e 1 intF l
abbrev boolsO (e : Nat) (l : List Bool) : Ob := rowO e 1 boolF l
abbrev rowsO (e : Nat) (l : List (List Int)) : Ob := rowO e 1 rowF l
structure Latch where
 next : Int
 reset : Int
structure And where
 a : Int
 b : Int
structure Name where
 kind : Int
 pos : Int
 s : ByteArray
structure Aig where
 I : Int
 L : List Latch
 G : List And
 outs : List Int
 bad : List Int
 con : List Int
 names : List Name
structure Cnf where
 N : Int
 cs : List (List Int)
def Latch.cells (x : Latch) : List C := [intC x.next, intC x.reset]
def And.cells (x : And) : List C := [intC x.a, intC x.b]
def Name.cells (x : Name) : List C := [byteC x.kind, intC x.pos, strC x.s]
def Cnf.cells (f : Cnf) : List C := [intC f.N, rows f.cs]
def Aig.cells (a : Aig) : List C := [intC a.I, sls 2 Latch.cells a.L, sls 2 And.cells a.G, ints a.outs, ints a.bad, ints a.con, sls 3 Name.cells a.names]
section
variable {x : Latch} {hp : Heap}
@[simp] theorem Latch.cells_length : x.cells.length = 2 := rfl
@[simp] theorem Latch.cells_all : x.cells.all C.free = true := rfl
@[simp] theorem Latch.cells_hds : x.cells.flatMap C.hds = [] := rfl
@[simp] theorem Latch.cells_hsC (n : Nat) : x.cells.flatMap (hsC hp n) = [] := by cases n <;> rfl
@[simp] theorem Latch.cells_data (n : Nat) : x.cells.mapM (dataC hp n) = some x.cells := by cases n <;> rfl
@[simp] theorem Latch.cells_kill (h : Nat) : x.cells.map (C.kill h) = x.cells := rfl
@[simp] theorem Latch.cells_frz (h : Nat) (o : Ob) : x.cells.map (C.frz h o) = x.cells := rfl
@[simp] theorem Latch.cells_take : x.cells.take 2 = x.cells := rfl
@[simp] theorem Latch.cells_refs : refsOf x.cells = [] := rfl
@[simp] theorem Latch.cells_shift (g : Nat → Nat) : x.cells.map (C.shift g) = x.cells := rfl
@[simp] theorem Latch.cells_over (x : Latch) (l : List C) (h : l.length = 2) : over l 0 x.cells = x.cells := over_all _ _ h
@[simp] theorem Latch.cells0 : x.cells[0]? = some (C.lit (.int .i64 x.next)) := rfl
@[simp] theorem Latch.cells1 : x.cells[1]? = some (C.lit (.int .i64 x.reset)) := rfl
end
section
variable {x : And} {hp : Heap}
@[simp] theorem And.cells_length : x.cells.length = 2 := rfl
@[simp] theorem And.cells_all : x.cells.all C.free = true := rfl
@[simp] theorem And.cells_hds : x.cells.flatMap C.hds = [] := rfl
@[simp] theorem And.cells_hsC (n : Nat) : x.cells.flatMap (hsC hp n) = [] := by cases n <;> rfl
@[simp] theorem And.cells_data (n : Nat) : x.cells.mapM (dataC hp n) = some x.cells := by cases n <;> rfl
@[simp] theorem And.cells_kill (h : Nat) : x.cells.map (C.kill h) = x.cells := rfl
@[simp] theorem And.cells_frz (h : Nat) (o : Ob) : x.cells.map (C.frz h o) = x.cells := rfl
@[simp] theorem And.cells_take : x.cells.take 2 = x.cells := rfl
@[simp] theorem And.cells_refs : refsOf x.cells = [] := rfl
@[simp] theorem And.cells_shift (g : Nat → Nat) : x.cells.map (C.shift g) = x.cells := rfl
@[simp] theorem And.cells_over (x : And) (l : List C) (h : l.length = 2) : over l 0 x.cells = x.cells := over_all _ _ h
@[simp] theorem And.cells0 : x.cells[0]? = some (C.lit (.int .i64 x.a)) := rfl
@[simp] theorem And.cells1 : x.cells[1]? = some (C.lit (.int .i64 x.b)) := rfl
end
section
variable {x : Name} {hp : Heap}
@[simp] theorem Name.cells_length : x.cells.length = 3 := rfl
@[simp] theorem Name.cells_all : x.cells.all C.free = true := rfl
@[simp] theorem Name.cells_hds : x.cells.flatMap C.hds = [] := rfl
@[simp] theorem Name.cells_hsC (n : Nat) : x.cells.flatMap (hsC hp n) = [] := by cases n <;> rfl
@[simp] theorem Name.cells_data (n : Nat) : x.cells.mapM (dataC hp n) = some x.cells := by cases n <;> rfl
@[simp] theorem Name.cells_kill (h : Nat) : x.cells.map (C.kill h) = x.cells := rfl
@[simp] theorem Name.cells_frz (h : Nat) (o : Ob) : x.cells.map (C.frz h o) = x.cells := rfl
@[simp] theorem Name.cells_take : x.cells.take 3 = x.cells := rfl
@[simp] theorem Name.cells_refs : refsOf x.cells = [] := rfl
@[simp] theorem Name.cells_shift (g : Nat → Nat) : x.cells.map (C.shift g) = x.cells := rfl
@[simp] theorem Name.cells_over (x : Name) (l : List C) (h : l.length = 3) : over l 0 x.cells = x.cells := over_all _ _ h
@[simp] theorem Name.cells0 : x.cells[0]? = some (C.lit (.int .u8 x.kind)) := rfl
@[simp] theorem Name.cells1 : x.cells[1]? = some (C.lit (.int .i64 x.pos)) := rfl
@[simp] theorem Name.cells2 : x.cells[2]? = some (C.lit (.string x.s)) := rfl
end
section
variable {x : Cnf} {hp : Heap}
@[simp] theorem Cnf.cells_length : x.cells.length = 2 := rfl
@[simp] theorem Cnf.cells_all : x.cells.all C.free = true := rfl
@[simp] theorem Cnf.cells_hds : x.cells.flatMap C.hds = [] := rfl
@[simp] theorem Cnf.cells_hsC (n : Nat) : x.cells.flatMap (hsC hp n) = [] := by cases n <;> rfl
@[simp] theorem Cnf.cells_data (n : Nat) : x.cells.mapM (dataC hp n) = some x.cells := by cases n <;> rfl
@[simp] theorem Cnf.cells_kill (h : Nat) : x.cells.map (C.kill h) = x.cells := rfl
@[simp] theorem Cnf.cells_frz (h : Nat) (o : Ob) : x.cells.map (C.frz h o) = x.cells := rfl
@[simp] theorem Cnf.cells_take : x.cells.take 2 = x.cells := rfl
@[simp] theorem Cnf.cells_refs : refsOf x.cells = [] := rfl
@[simp] theorem Cnf.cells_shift (g : Nat → Nat) : x.cells.map (C.shift g) = x.cells := rfl
@[simp] theorem Cnf.cells_over (x : Cnf) (l : List C) (h : l.length = 2) : over l 0 x.cells = x.cells := over_all _ _ h
@[simp] theorem Cnf.cells0 : x.cells[0]? = some (C.lit (.int .i64 x.N)) := rfl
@[simp] theorem Cnf.cells1 : x.cells[1]? = some (rows x.cs) := rfl
end
section
variable {a : Aig} {hp : Heap}
@[simp] theorem Aig.cells_length : a.cells.length = 7 := rfl
@[simp] theorem Aig.cells_all : a.cells.all C.free = true := rfl
@[simp] theorem Aig.cells_hds : a.cells.flatMap C.hds = [] := rfl
@[simp] theorem Aig.cells_hsC (n : Nat) : a.cells.flatMap (hsC hp n) = [] := by cases n <;> rfl
@[simp] theorem Aig.cells_data (n : Nat) : a.cells.mapM (dataC hp n) = some a.cells := by cases n <;> rfl
@[simp] theorem Aig.cells_kill (h : Nat) : a.cells.map (C.kill h) = a.cells := rfl
@[simp] theorem Aig.cells_frz (h : Nat) (o : Ob) : a.cells.map (C.frz h o) = a.cells := rfl
@[simp] theorem Aig.cells_take : a.cells.take 7 = a.cells := rfl
@[simp] theorem Aig.cells_refs : refsOf a.cells = [] := rfl
@[simp] theorem Aig.cells_shift (g : Nat → Nat) : a.cells.map (C.shift g) = a.cells := rfl
@[simp] theorem Aig.cells_over (x : Aig) (l : List C) (h : l.length = 7) : over l 0 x.cells = x.cells := over_all _ _ h
@[simp] theorem Aig.cells0 : a.cells[0]? = some (C.lit (.int .i64 a.I)) := rfl
@[simp] theorem Aig.cells1 : a.cells[1]? = some (sls 2 Latch.cells a.L) := rfl
@[simp] theorem Aig.cells2 : a.cells[2]? = some (sls 2 And.cells a.G) := rfl
@[simp] theorem Aig.cells3 : a.cells[3]? = some (ints a.outs) := rfl
@[simp] theorem Aig.cells4 : a.cells[4]? = some (ints a.bad) := rfl
@[simp] theorem Aig.cells5 : a.cells[5]? = some (ints a.con) := rfl
@[simp] theorem Aig.cells6 : a.cells[6]? = some (sls 3 Name.cells a.names) := rfl
end
def upto {α β : Type} (g : α → Nat → List β) (l : List α) (i : Nat) : List β := (l.zipIdx.take i).flatMap fun p => g p.1 p.2
section
variable {α β : Type} {g : α → Nat → List β} {l : List α}
@[simp] theorem upto_zero : upto g l 0 = [] := rfl
theorem upto_succ {i : Nat} {x : α} (h : l[i]? = some x) : upto g l (i + 1) = upto g l i ++ g x i := by
 unfold upto
 rw [List.take_add_one, List.getElem?_zipIdx, h]
 simp [List.flatMap_append]
theorem upto_length (k : Nat) (hg : ∀ x i, (g x i).length ≤ k) (i : Nat) : (upto g l i).length ≤ k * l.length := by
 have gen : ∀ m : List (α × Nat), (m.flatMap fun p => g p.1 p.2).length ≤ k * m.length := by
  intro m
  induction m with
  | nil => simp
  | cons p m ih =>
   have := hg p.1 p.2
   rw [List.flatMap_cons, List.length_append, List.length_cons, Nat.mul_succ]
   omega
 refine Nat.le_trans (gen _) (Nat.mul_le_mul_left k ?_)
 simp
 omega
end
def Aig.vars (a : Aig) : Int := a.I + a.L.length + a.G.length
def Aig.lit (a : Aig) (k l : Int) : Int := if l.tmod 2 = 1 then -(k * (a.vars + 1) + l.tdiv 2 + 1) else k * (a.vars + 1) + l.tdiv 2 + 1
structure Aig.B (a : Aig) : Prop where
 i0 : 0 ≤ a.I
 i : a.I ≤ 20000
 l : a.L.length ≤ 20000
 g : a.G.length ≤ 20000
theorem Aig.B.v0 {a : Aig} (h : a.B) : 0 ≤ a.vars ∧ a.vars ≤ 60000 := by
 obtain ⟨h1, h2, h3, h4⟩ := h
 unfold Aig.vars
 omega
end Go.Vid

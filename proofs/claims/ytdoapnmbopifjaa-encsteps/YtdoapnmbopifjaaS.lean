/- Data of a seat's own kinds. No condition. -/
import Derived.Test.YtdoapnmbopifjaaVV
set_option linter.unusedSimpArgs false
namespace Go.Vid
open Go.Vabs
structure EncStartsIn_law19 where
  a : Aig
  free : List (Bool)
  in' : List (Bool)
  inv : Int
@[simp] def EncStartsIn_law19.cells (x : EncStartsIn_law19) : List C := [C.lit (.int .i64 x.a.I), sls 2 Latch.cells x.a.L, sls 2 And.cells x.a.G, sls 1 intF x.a.outs, sls 1 intF x.a.bad, sls 1 intF x.a.con, sls 3 Name.cells x.a.names, sls 1 boolF x.free, sls 1 boolF x.in', C.lit (.int .i64 x.inv)]
structure EncStepsIn_law19 where
  a : Aig
  state : List (Bool)
  in' : (List (Bool) × List (Bool))
  other : List (Bool)
@[simp] def EncStepsIn_law19.cells (x : EncStepsIn_law19) : List C := [C.lit (.int .i64 x.a.I), sls 2 Latch.cells x.a.L, sls 2 And.cells x.a.G, sls 1 intF x.a.outs, sls 1 intF x.a.bad, sls 1 intF x.a.con, sls 3 Name.cells x.a.names, sls 1 boolF x.state, sls 1 boolF x.in'.1, sls 1 boolF x.in'.2, sls 1 boolF x.other]
structure EncStaysIn_law19 where
  a : Aig
  state : List (Bool)
  in' : (List (Bool) × List (Bool))
  inv : Int
@[simp] def EncStaysIn_law19.cells (x : EncStaysIn_law19) : List C := [C.lit (.int .i64 x.a.I), sls 2 Latch.cells x.a.L, sls 2 And.cells x.a.G, sls 1 intF x.a.outs, sls 1 intF x.a.bad, sls 1 intF x.a.con, sls 3 Name.cells x.a.names, sls 1 boolF x.state, sls 1 boolF x.in'.1, sls 1 boolF x.in'.2, C.lit (.int .i64 x.inv)]
@[simp] theorem fold72 (q_next : Int) (q_reset : Int) (r : List (List C)) : Ob.mk false true 72 2 ([C.lit (.int .i64 q_next), C.lit (.int .i64 q_reset)] :: r) = Ob.mk false true 72 2 (cm Latch.cells [⟨q_next, q_reset⟩] ++ r) := rfl
@[simp] theorem foldx72 (x : Latch) (r : List (List C)) : Ob.mk false true 72 2 (x.cells :: r) = Ob.mk false true 72 2 (cm Latch.cells [x] ++ r) := rfl
@[simp] theorem foldr72 (q_next : Int) (q_reset : Int) (l : List Latch) (r : List (List C)) : Ob.mk false true 72 2 (cm Latch.cells l ++ [C.lit (.int .i64 q_next), C.lit (.int .i64 q_reset)] :: r) = Ob.mk false true 72 2 (cm Latch.cells (l ++ [⟨q_next, q_reset⟩]) ++ r) := by simp [cm, Latch.cells]
@[simp] theorem fold69 (q_a : Int) (q_b : Int) (r : List (List C)) : Ob.mk false true 69 2 ([C.lit (.int .i64 q_a), C.lit (.int .i64 q_b)] :: r) = Ob.mk false true 69 2 (cm And.cells [⟨q_a, q_b⟩] ++ r) := rfl
@[simp] theorem foldx69 (x : And) (r : List (List C)) : Ob.mk false true 69 2 (x.cells :: r) = Ob.mk false true 69 2 (cm And.cells [x] ++ r) := rfl
@[simp] theorem foldr69 (q_a : Int) (q_b : Int) (l : List And) (r : List (List C)) : Ob.mk false true 69 2 (cm And.cells l ++ [C.lit (.int .i64 q_a), C.lit (.int .i64 q_b)] :: r) = Ob.mk false true 69 2 (cm And.cells (l ++ [⟨q_a, q_b⟩]) ++ r) := by simp [cm, And.cells]
@[simp] theorem fold79 (q_kind : Int) (q_pos : Int) (q_s : ByteArray) (r : List (List C)) : Ob.mk false true 79 3 ([C.lit (.int .u8 q_kind), C.lit (.int .i64 q_pos), C.lit (.string q_s)] :: r) = Ob.mk false true 79 3 (cm Name.cells [⟨q_kind, q_pos, q_s⟩] ++ r) := rfl
@[simp] theorem foldx79 (x : Name) (r : List (List C)) : Ob.mk false true 79 3 (x.cells :: r) = Ob.mk false true 79 3 (cm Name.cells [x] ++ r) := rfl
@[simp] theorem foldr79 (q_kind : Int) (q_pos : Int) (q_s : ByteArray) (l : List Name) (r : List (List C)) : Ob.mk false true 79 3 (cm Name.cells l ++ [C.lit (.int .u8 q_kind), C.lit (.int .i64 q_pos), C.lit (.string q_s)] :: r) = Ob.mk false true 79 3 (cm Name.cells (l ++ [⟨q_kind, q_pos, q_s⟩]) ++ r) := by simp [cm, Name.cells]
end Go.Vid

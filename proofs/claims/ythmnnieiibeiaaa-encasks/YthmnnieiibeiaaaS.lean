/- Data of a seat's own kinds. No condition. -/
import Derived.Test.YthmnnieiibeiaaaVW
set_option linter.unusedSimpArgs false
namespace Go.Vid
open Go.Vabs
@[simp] theorem fold55 (q_next : Int) (q_reset : Int) (r : List (List C)) : Ob.mk false true 55 2 ([C.lit (.int .i64 q_next), C.lit (.int .i64 q_reset)] :: r) = Ob.mk false true 55 2 (cm Latch.cells [⟨q_next, q_reset⟩] ++ r) := rfl
@[simp] theorem foldx55 (x : Latch) (r : List (List C)) : Ob.mk false true 55 2 (x.cells :: r) = Ob.mk false true 55 2 (cm Latch.cells [x] ++ r) := rfl
@[simp] theorem foldr55 (q_next : Int) (q_reset : Int) (l : List Latch) (r : List (List C)) : Ob.mk false true 55 2 (cm Latch.cells l ++ [C.lit (.int .i64 q_next), C.lit (.int .i64 q_reset)] :: r) = Ob.mk false true 55 2 (cm Latch.cells (l ++ [⟨q_next, q_reset⟩]) ++ r) := by simp [cm, Latch.cells]
@[simp] theorem fold39 (q_a : Int) (q_b : Int) (r : List (List C)) : Ob.mk false true 39 2 ([C.lit (.int .i64 q_a), C.lit (.int .i64 q_b)] :: r) = Ob.mk false true 39 2 (cm And.cells [⟨q_a, q_b⟩] ++ r) := rfl
@[simp] theorem foldx39 (x : And) (r : List (List C)) : Ob.mk false true 39 2 (x.cells :: r) = Ob.mk false true 39 2 (cm And.cells [x] ++ r) := rfl
@[simp] theorem foldr39 (q_a : Int) (q_b : Int) (l : List And) (r : List (List C)) : Ob.mk false true 39 2 (cm And.cells l ++ [C.lit (.int .i64 q_a), C.lit (.int .i64 q_b)] :: r) = Ob.mk false true 39 2 (cm And.cells (l ++ [⟨q_a, q_b⟩]) ++ r) := by simp [cm, And.cells]
@[simp] theorem fold58 (q_kind : Int) (q_pos : Int) (q_s : ByteArray) (r : List (List C)) : Ob.mk false true 58 3 ([C.lit (.int .u8 q_kind), C.lit (.int .i64 q_pos), C.lit (.string q_s)] :: r) = Ob.mk false true 58 3 (cm Name.cells [⟨q_kind, q_pos, q_s⟩] ++ r) := rfl
@[simp] theorem foldx58 (x : Name) (r : List (List C)) : Ob.mk false true 58 3 (x.cells :: r) = Ob.mk false true 58 3 (cm Name.cells [x] ++ r) := rfl
@[simp] theorem foldr58 (q_kind : Int) (q_pos : Int) (q_s : ByteArray) (l : List Name) (r : List (List C)) : Ob.mk false true 58 3 (cm Name.cells l ++ [C.lit (.int .u8 q_kind), C.lit (.int .i64 q_pos), C.lit (.string q_s)] :: r) = Ob.mk false true 58 3 (cm Name.cells (l ++ [⟨q_kind, q_pos, q_s⟩]) ++ r) := by simp [cm, Name.cells]
end Go.Vid

/-
  Two results of state.Apply, held against each other.
-/
import Derived.Test.YtjodiieeocaipaaGreatDoorSProd
import Derived.Laws.StructEq
namespace Go.Proofs.YtjodiieeocaipaaGreatDoor
open Go.RowKit Go.Maps

def eqDn (x y : Value) : Sem Value := binOp .eql 25 x y
theorem eqDn_eq (x y : Value) : binOp .eql 25 x y = eqDn x y := rfl
def guDn (a b : Operand) (x y : Value) : Sem Unit := eqGuard .eql 25 a b x y
theorem guDn_eq (a b : Operand) (x y : Value) : eqGuard .eql 25 a b x y = guDn a b x y := rfl
theorem eq_done1 (w : World) : (eqDn (.agg #[.int .i64 0, .int .i64 2, .bool false]) (.agg #[.int .i64 0, .int .i64 2, .bool false])).run Tryz.prog w = .ok (.bool true) w := by kernel_rfl
theorem eq_done2 (w : World) : (eqDn (.agg #[.int .i64 0, .int .i64 2, .bool true]) (.agg #[.int .i64 0, .int .i64 2, .bool true])).run Tryz.prog w = .ok (.bool true) w := by kernel_rfl
theorem gu_done (x y : Operand) (a b : Int) (c : Bool) (a' b' : Int) (c' : Bool) (w : World) : (guDn x y (.agg #[.int .i64 a, .int .i64 b, .bool c]) (.agg #[.int .i64 a', .int .i64 b', .bool c'])).run Tryz.prog w = .ok () w := run_eqGuard_agg w .eql _ _ _ _ _ (by kernel_rfl)
end Go.Proofs.YtjodiieeocaipaaGreatDoor

/-
  Errors: a refusal's number in Faults; fault.Wrap.
-/
import Derived.Test.YtjodiieeocaipaaGreatDoorCut
namespace Go.Proofs.YtjodiieeocaipaaGreatDoor
open Go.RowKit

/-- a refusal's number -/
def noV (k : Int) : Value := .iface 36 (.int .i64 k)
/-- a Fault -/
def fltV (op : ByteArray) (at_ : Int) (v : Value) : Value := .iface 113 (.agg #[.string op, .int .i64 at_, v])
/-- an error that holds the number k, so many Faults deep -/
inductive IsErr : Nat → Value → Int → Prop
  | no (k : Int) : IsErr 0 (noV k) k
  | flt (d : Nat) (op : ByteArray) (at_ : Int) (v : Value) (k : Int) : IsErr d v k → IsErr (d + 1) (fltV op at_ v) k
set_option maxRecDepth 100000 in
theorem wrap_err {d : Nat} {v : Value} {k : Int} (h : IsErr d v k) (op : ByteArray) (at_ : Int) (w : World) : Calls Tryz.prog 26 #[.string op, .int .i64 at_, v] w fun e w' => ∃ v', e = .returned v' ∧ IsErr (d + 1) v' k ∧ w' = w := by
  cases h with
  | no k =>
    have he : ∀ w, (binOp .eql 27 (.iface 36 (.int .i64 k)) .nilIface).run Tryz.prog w = .ok (.bool false) w := fun w => by kernel_rfl
    have hn : IsErr 0 (noV k) k := .no k
    unfold noV at hn ⊢
    go_enter Tryz.func26, Tryz.ntmps26
    go_wp2
    go_ret
    exact ⟨_, rfl, .flt 0 op at_ _ k hn, rfl⟩
  | flt d op' at' v k hv =>
    have he : ∀ w, (binOp .eql 27 (.iface 113 (.agg #[.string op', .int .i64 at', v])) .nilIface).run Tryz.prog w = .ok (.bool false) w := fun w => by kernel_rfl
    have hn : IsErr (d + 1) (fltV op' at' v) k := .flt d op' at' v k hv
    unfold fltV at hn ⊢
    go_enter Tryz.func26, Tryz.ntmps26
    go_wp2
    go_ret
    exact ⟨_, rfl, .flt (d + 1) op at_ _ k hn, rfl⟩
end Go.Proofs.YtjodiieeocaipaaGreatDoor

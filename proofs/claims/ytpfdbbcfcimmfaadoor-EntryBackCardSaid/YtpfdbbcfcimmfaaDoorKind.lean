/-
  fault.Kind at nil and at a Fault that holds a refusal's number.
-/
import Derived.Test.YtpfdbbcfcimmfaaDoorErrAs
namespace Go.Proofs.YtpfdbbcfcimmfaaDoor
open Go.RowKit Go.Extern.Stop Go.Stop Go.Extern

/-- errors' own variable holds what start-up lays -/
def ErrLaid (w : World) : Prop := w.cell? ⟨0, 0, none⟩ = some (.iface 114 (.agg #[.pointer (some ⟨4, 36, none⟩)]))
theorem ErrLaid.below {w w' : World} (h : ErrLaid w) (hb : Below w.heap.size w w') : ErrLaid w' := (hb.cell (cell_lt h)).trans h
/-- a Fault with a refusal's number -/
def faultV (op : ByteArray) (at_ k : Int) : Value := .iface 78 (.agg #[.string op, .int .i64 at_, .iface 41 (.int .i64 k)])

set_option maxRecDepth 100000 in
theorem kind_nil (w : World) : Calls Tryd.prog 15 #[.nilIface] w fun e w' => e = .returned (.int .i64 0) ∧ Below w.heap.size w w' := by
  have hb := below_new w (.cells #[.int .i64 0] 41)
  have he : ∀ w, (binOp .eql 36 .nilIface (.iface 41 (.int .i64 6))).run Tryd.prog w = .ok (.bool false) w := fun w => by kernel_rfl
  go_enter Tryd.func15, Tryd.ntmps15
  go_wp2_with (first | (go_at_call 26; refine (as_nil _ _).mono ?_; rintro e w1 ⟨rfl, rfl⟩) | go_in)
  go_ret
  exact ⟨rfl, hb⟩
set_option maxRecDepth 100000 in
set_option maxHeartbeats 1000000 in
theorem kind_fault (op : ByteArray) (at_ k : Int) (w : World) (hg : ErrLaid w) :
    Calls Tryd.prog 15 #[faultV op at_ k] w fun e w' => e = .returned (.int .i64 k) ∧ Below w.heap.size w w' := by
  have hb := below_new w (.cells #[.int .i64 0] 41)
  have hA := Lib.hid (as_fault op at_ k ⟨w.heap.size, 0, none⟩ (.int .i64 0) _ (hg.below hb) (by simp) (by simp))
  unfold faultV
  go_enter Tryd.func15, Tryd.ntmps15
  go_wp2_with (first | (go_at_call 26; refine hA.out.mono ?_; rintro e w1 ⟨rfl, hc1, hg1⟩) | go_in)
  go_ret
  exact ⟨rfl, below_grown hb hb.size hg1 (Nat.le_refl _)⟩
end Go.Proofs.YtpfdbbcfcimmfaaDoor

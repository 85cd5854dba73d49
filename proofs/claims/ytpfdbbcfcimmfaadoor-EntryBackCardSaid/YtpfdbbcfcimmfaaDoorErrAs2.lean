/-
  errors.As at a Fault that holds a refusal's number: the walk.
-/
import Derived.Test.YtpfdbbcfcimmfaaDoorErr
import Derived.Test.YtpfdbbcfcimmfaaDoorOpen
namespace Go.Proofs.YtpfdbbcfcimmfaaDoor
open Go.RowKit Go.Extern.Stop Go.Stop Go.Extern

theorem hasAs (v : Value) (xT : TypeId) (w : World) : (Instr.typeAssert (.iface 78 v) xT 118 true).run Tryd.prog w = .ok (.tuple #[.nilIface, .bool false]) w :=
  run_typeAssert_lacksB Tryd.underlying118 (by kernel_rfl) (by kernel_rfl) v xT w
theorem hasUn (v : Value) (xT : TypeId) (w : World) : (Instr.typeAssert (.iface 78 v) xT 121 true).run Tryd.prog w = .ok (.tuple #[.iface 78 v, .bool true]) w :=
  run_typeAssert_hasB Tryd.underlying121 (by kernel_rfl) v xT w
set_option maxRecDepth 100000 in
set_option maxHeartbeats 4000000 in
theorem as_walk (op : ByteArray) (at_ k : Int) (t a : Addr) (old : Value) (w : World) (ha : w.cell? a = some (.pointer (some t))) (ht0 : w.cell? t = some old) (hf0 : w.frozen? t = false) :
    Calls Tryd.prog 42 #[.iface 78 (.agg #[.string op, .int .i64 at_, .iface 41 (.int .i64 k)]), .iface 61 (.pointer (some t)), .agg #[.pointer (some ⟨4, 61, none⟩), .pointer (some a), .int .u64 150],
      .iface 114 (.agg #[.pointer (some ⟨4, 41, none⟩)])] w fun e w' => e = .returned (.bool true) ∧ w'.cell? t = some (.int .i64 k) ∧ w.grownBy w' (some t.block) := by
  have h38 := @run_callFunc_extern Tryd.prog 39 _ (fun args => ReflectliteValue.unpack (args.getD 0 (.tuple #[]))) Tryd.func39 (by kernel_rfl) (by kernel_rfl) (by kernel_rfl) (by kernel_rfl)
  have h42 := @run_callFunc_extern Tryd.prog 43 _ ReflectliteType.typeOf Tryd.func43 (by kernel_rfl) (by kernel_rfl) (by kernel_rfl) (by kernel_rfl)
  have h84 := @run_callFunc_extern Tryd.prog 106 _ (ReflectliteType.relation "AssignableTo" ReflectliteType.assignableTo) Tryd.func106 (by kernel_rfl) (by kernel_rfl) (by kernel_rfl) (by kernel_rfl)
  have h49 := @run_callFunc_extern Tryd.prog 64 _ (ReflectliteValue.method (ReflectliteValue.valueError "reflectlite.Value.Elem" 0) ReflectliteValue.elem) Tryd.func64 (by kernel_rfl) (by kernel_rfl) (by kernel_rfl) (by kernel_rfl)
  have h50 := @run_callFunc_extern Tryd.prog 65 _ ReflectliteValue.set Tryd.func65 (by kernel_rfl) (by kernel_rfl) (by kernel_rfl) (by kernel_rfl)
  have tE := typeOfE
  have tF := typeOfF
  have mA := methAssi
  have aE := assignableE
  have aF := assignableF
  have vE := valueOfE
  have mU := methUnwr
  have hA := hasAs
  have hU := hasUn
  have hb1 := below_new w (.cells #[.pointer (some ⟨4, 61, none⟩), .pointer (some a), .int .u64 150] 86)
  have hb2 := hb1.trans (below_le hb1.size (below_new _ (.cells #[.string op, .int .i64 at_, .iface 41 (.int .i64 k)] 78)))
  have hb3 := hb2.trans (below_le hb2.size (below_new _ (.cells #[.int .i64 k] 41)))
  have eV := elemV a t _ ((hb2.cell (cell_lt ha)).trans ha)
  have sE := setE t ⟨w.heap.size + 1 + 1, 0, none⟩ k old _ (by rw [World.cell?_alloc_at _ _ _ _ (by simp)]; rfl) ((hb3.cell (cell_lt ht0)).trans ht0) ((hb3.frozen (cell_lt ht0)).trans hf0)
  have HB3 := Lib.hid hb3
  clear hb1 hb2 hb3
  go_enter Tryd.func42, Tryd.ntmps42
  go_wp2
  refine wp_loop_rounds 2 ?_
  rw [rounds_succ]
  go_wp2
  rw [rounds_succ]
  go_wp2
  go_ret
  exact ⟨rfl, World.cell?_setCell_same _ _ _ ((HB3.out.cell (cell_lt ht0)).trans ht0), ((grown_of_below HB3.out).but _).trans (grown_set _ _ _)⟩
end Go.Proofs.YtpfdbbcfcimmfaaDoor

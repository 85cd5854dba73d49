/-
  errors.As and fault.Kind at three Faults in each other.
-/
import Derived.Test.YtjodiieeocaipaaGreatDoorAErr
namespace Go.Proofs.YtjodiieeocaipaaGreatDoor
open Go.RowKit Go.Extern.Stop Go.Stop Go.Extern

set_option maxRecDepth 100000 in
set_option maxHeartbeats 4000000 in
theorem as_walk3 (op : ByteArray) (at_ : Int) (op2 : ByteArray) (at2 : Int) (op3 : ByteArray) (at3 k : Int) (t a : Addr) (old : Value) (w : World) (ha : w.cell? a = some (.pointer (some t))) (ht0 : w.cell? t = some old) (hf0 : w.frozen? t = false) :
    Calls Tryz.prog 58 #[.iface 113 (.agg #[.string op, .int .i64 at_, .iface 113 (.agg #[.string op2, .int .i64 at2, .iface 113 (.agg #[.string op3, .int .i64 at3, .iface 36 (.int .i64 k)])])]), .iface 70 (.pointer (some t)), .agg #[.pointer (some ⟨4, 70, none⟩), .pointer (some a), .int .u64 150],
      .iface 175 (.agg #[.pointer (some ⟨4, 36, none⟩)])] w fun e w' => e = .returned (.bool true) ∧ w'.cell? t = some (.int .i64 k) ∧ w.grownBy w' (some t.block) := by
  have h38 := @run_callFunc_extern Tryz.prog 55 _ (fun args => ReflectliteValue.unpack (args.getD 0 (.tuple #[]))) Tryz.func55 (by kernel_rfl) (by kernel_rfl) (by kernel_rfl) (by kernel_rfl)
  have h42 := @run_callFunc_extern Tryz.prog 59 _ ReflectliteType.typeOf Tryz.func59 (by kernel_rfl) (by kernel_rfl) (by kernel_rfl) (by kernel_rfl)
  have h84 := @run_callFunc_extern Tryz.prog 183 _ (ReflectliteType.relation "AssignableTo" ReflectliteType.assignableTo) Tryz.func183 (by kernel_rfl) (by kernel_rfl) (by kernel_rfl) (by kernel_rfl)
  have h49 := @run_callFunc_extern Tryz.prog 87 _ (ReflectliteValue.method (ReflectliteValue.valueError "reflectlite.Value.Elem" 0) ReflectliteValue.elem) Tryz.func87 (by kernel_rfl) (by kernel_rfl) (by kernel_rfl) (by kernel_rfl)
  have h50 := @run_callFunc_extern Tryz.prog 88 _ ReflectliteValue.set Tryz.func88 (by kernel_rfl) (by kernel_rfl) (by kernel_rfl) (by kernel_rfl)
  have tE := typeOfE
  have tF := typeOfF
  have mA := methAssi
  have aE := assignableE
  have aF := assignableF
  have vE := valueOfE
  have mU := methUnwr
  have hA := hasAs
  have hU := hasUn
  have hb1 := below_new w (.cells #[.pointer (some ⟨4, 70, none⟩), .pointer (some a), .int .u64 150] 122)
  have hb2 := hb1.trans (below_le hb1.size (below_new _ (.cells #[.string op, .int .i64 at_, .iface 113 (.agg #[.string op2, .int .i64 at2, .iface 113 (.agg #[.string op3, .int .i64 at3, .iface 36 (.int .i64 k)])])] 113)))
  have hb2a := hb2.trans (below_le hb2.size (below_new _ (.cells #[.string op2, .int .i64 at2, .iface 113 (.agg #[.string op3, .int .i64 at3, .iface 36 (.int .i64 k)])] 113)))
  have hb2b := hb2a.trans (below_le hb2a.size (below_new _ (.cells #[.string op3, .int .i64 at3, .iface 36 (.int .i64 k)] 113)))
  have hb3 := hb2b.trans (below_le hb2b.size (below_new _ (.cells #[.int .i64 k] 36)))
  have eV := elemV a t _ ((hb2b.cell (cell_lt ha)).trans ha)
  have sE := setE t ⟨w.heap.size + 1 + 1 + 1 + 1, 0, none⟩ k old _ (by rw [World.cell?_alloc_at _ _ _ _ (by simp)]; rfl) ((hb3.cell (cell_lt ht0)).trans ht0) ((hb3.frozen (cell_lt ht0)).trans hf0)
  have HB3 := Lib.hid hb3
  clear hb1 hb2 hb2a hb2b hb3
  go_enter Tryz.func58, Tryz.ntmps58
  go_wp2
  refine wp_loop_rounds 4 ?_
  rw [rounds_succ]
  go_wp2
  rw [rounds_succ]
  go_wp2
  rw [rounds_succ]
  go_wp2
  rw [rounds_succ]
  go_wp2
  go_ret
  exact ⟨rfl, World.cell?_setCell_same _ _ _ ((HB3.out.cell (cell_lt ht0)).trans ht0), ((grown_of_below HB3.out).but _).trans (grown_set _ _ _)⟩
theorem kind_err3 {d : Nat} {v : Value} {k : Int} (h : IsErr (d + 1) v k) (hd : d ≤ 2) (w : World) (hg : ErrLaid w) :
    Calls Tryz.prog 13 #[v] w fun e w' => e = .returned (.int .i64 k) ∧ Below w.heap.size w w' := by
  cases h with
  | flt _ op at_ v k h1 =>
    cases h1 with
    | no k => exact kind_gen _ k (fun t old a w ha h0 hf => as_walk op at_ k t a old w ha h0 hf) w hg
    | flt d2 op2 at2 v k h2 =>
      cases h2 with
      | no k => exact kind_gen _ k (fun t old a w ha h0 hf => as_walk2 op at_ op2 at2 k t a old w ha h0 hf) w hg
      | flt d3 op3 at3 v k h3 =>
        cases h3 with
        | no k => exact kind_gen _ k (fun t old a w ha h0 hf => as_walk3 op at_ op2 at2 op3 at3 k t a old w ha h0 hf) w hg
        | flt d4 op4 at4 v k h4 => omega
end Go.Proofs.YtjodiieeocaipaaGreatDoor

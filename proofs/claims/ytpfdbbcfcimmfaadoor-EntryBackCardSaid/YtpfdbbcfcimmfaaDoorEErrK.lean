/-
  fault.Kind at an error that holds a refusal's number, one or two Faults deep.
-/
import Derived.Test.YtpfdbbcfcimmfaaDoorKind
import Derived.Test.YtpfdbbcfcimmfaaDoorEErrAs2
import Derived.Test.YtpfdbbcfcimmfaaDoorEWrap
namespace Go.Proofs.YtpfdbbcfcimmfaaDoor
open Go.RowKit Go.Extern.Stop Go.Stop Go.Extern

set_option maxRecDepth 100000 in
set_option maxHeartbeats 4000000 in
theorem as_gen (x : Value) (k : Int) (t : Addr) (old : Value)
    (hwalk : ∀ (a : Addr) (w : World), w.cell? a = some (.pointer (some t)) → w.cell? t = some old → w.frozen? t = false → Calls Tryd.prog 42 #[.iface 78 x, .iface 61 (.pointer (some t)), .agg #[.pointer (some ⟨4, 61, none⟩), .pointer (some a), .int .u64 150],
      .iface 114 (.agg #[.pointer (some ⟨4, 41, none⟩)])] w fun e w' => e = .returned (.bool true) ∧ w'.cell? t = some (.int .i64 k) ∧ w.grownBy w' (some t.block)) (w : World) (hg : w.cell? ⟨0, 0, none⟩ = some (.iface 114 (.agg #[.pointer (some ⟨4, 36, none⟩)]))) (ht0 : w.cell? t = some old) (hf0 : w.frozen? t = false) :
    Calls Tryd.prog 26 #[.iface 78 x, .iface 61 (.pointer (some t))] w fun e w' => e = .returned (.bool true) ∧ w'.cell? t = some (.int .i64 k) ∧ w.grownBy w' (some t.block) := by
  have Hwalk := Lib.hid hwalk
  clear hwalk
  have h38 := @run_callFunc_extern Tryd.prog 39 _ (fun args => ReflectliteValue.unpack (args.getD 0 (.tuple #[]))) Tryd.func39 (by kernel_rfl) (by kernel_rfl) (by kernel_rfl) (by kernel_rfl)
  have h39 := @run_callFunc_extern Tryd.prog 40 _ (ReflectliteValue.methodAny (ReflectliteValue.valueError "reflectlite.Value.Type" 0) (fun t _ _ _ => ReflectliteType.toType t)) Tryd.func40 (by kernel_rfl) (by kernel_rfl) (by kernel_rfl) (by kernel_rfl)
  have h40 := @run_callFunc_extern Tryd.prog 41 _ (ReflectliteValue.method (ReflectliteValue.valueError "reflectlite.Value.IsNil" 0) ReflectliteValue.isNil) Tryd.func41 (by kernel_rfl) (by kernel_rfl) (by kernel_rfl) (by kernel_rfl)
  have f38 := valueOfP
  have f39 := typeP
  have kP := kindP
  have kE := kindE
  have eP := elemP
  have iE := implementsE
  have mK := methKind
  have mE := methElem
  have mI := methImpl
  have h74 := @run_callFunc_extern Tryd.prog 96 _ (ReflectliteType.abiMethod fun t => do pure (.int .u8 (← Rtype.kind t))) Tryd.func96 (by kernel_rfl) (by kernel_rfl) (by kernel_rfl) (by kernel_rfl)
  have h86 := @run_callFunc_extern Tryd.prog 108 _ (ReflectliteType.method ReflectliteType.elem) Tryd.func108 (by kernel_rfl) (by kernel_rfl) (by kernel_rfl) (by kernel_rfl)
  have h87 := @run_callFunc_extern Tryd.prog 109 _ (ReflectliteType.relation "Implements" ReflectliteType.implements_) Tryd.func109 (by kernel_rfl) (by kernel_rfl) (by kernel_rfl) (by kernel_rfl)
  have n8 := isNilP ⟨w.heap.size, 0, none⟩ t ((w.alloc (.cells #[.pointer (some t)] 61)).alloc (.cells #[.pointer (some ⟨4, 61, none⟩), .pointer (some ⟨w.heap.size, 0, none⟩), .int .u64 150] 86)) (by simp)
  have hg2 : ((w.alloc (.cells #[.pointer (some t)] 61)).alloc (.cells #[.pointer (some ⟨4, 61, none⟩), .pointer (some ⟨w.heap.size, 0, none⟩), .int .u64 150] 86)).cell? ⟨0, 0, none⟩ = some (.iface 114 (.agg #[.pointer (some ⟨4, 36, none⟩)])) :=
    (((below_new w _).trans (below_le (below_new w _).size (below_new _ _))).cell (by
      rcases Nat.lt_or_ge 0 w.heap.size with h | h
      · exact h
      · simp [World.cell?, Array.getElem?_eq_none h] at hg)).trans hg
  go_enter Tryd.func26, Tryd.ntmps26
  go_wp2_with fail
  have hb1 := below_new w (.cells #[.pointer (some t)] 61)
  have hb2 := hb1.trans (below_le hb1.size (below_new _ (.cells #[.pointer (some ⟨4, 61, none⟩), .pointer (some ⟨w.heap.size, 0, none⟩), .int .u64 150] 86)))
  refine (Hwalk.out ⟨w.heap.size, 0, none⟩ _ ?_ ((hb2.cell (cell_lt ht0)).trans ht0) ((hb2.frozen (cell_lt ht0)).trans hf0)).mono ?_
  · simp
  · rintro e w3 ⟨rfl, hc3, hg3⟩
    go_wp2
    go_ret
    exact ⟨rfl, hc3, ((grown_of_below hb2).but _).trans hg3⟩
set_option maxRecDepth 100000 in
set_option maxHeartbeats 1000000 in
theorem kind_gen (x : Value) (k : Int) (hw : ∀ (t : Addr) (old : Value) (a : Addr) (w : World), w.cell? a = some (.pointer (some t)) → w.cell? t = some old → w.frozen? t = false → Calls Tryd.prog 42 #[.iface 78 x, .iface 61 (.pointer (some t)), .agg #[.pointer (some ⟨4, 61, none⟩), .pointer (some a), .int .u64 150],
      .iface 114 (.agg #[.pointer (some ⟨4, 41, none⟩)])] w fun e w' => e = .returned (.bool true) ∧ w'.cell? t = some (.int .i64 k) ∧ w.grownBy w' (some t.block)) (w : World) (hg : ErrLaid w) :
    Calls Tryd.prog 15 #[.iface 78 x] w fun e w' => e = .returned (.int .i64 k) ∧ Below w.heap.size w w' := by
  have hb := below_new w (.cells #[.int .i64 0] 41)
  have hA := Lib.hid (as_gen x k ⟨w.heap.size, 0, none⟩ (.int .i64 0) (hw _ _) _ (hg.below hb) (by simp) (by simp))
  clear hw
  go_enter Tryd.func15, Tryd.ntmps15
  go_wp2_with (first | (go_at_call 26; refine hA.out.mono ?_; rintro e w1 ⟨rfl, hc1, hg1⟩) | go_in)
  go_ret
  exact ⟨rfl, below_grown hb hb.size hg1 (Nat.le_refl _)⟩
theorem kind_err {d : Nat} {v : Value} {k : Int} (h : IsErr (d + 1) v k) (hd : d ≤ 1) (w : World) (hg : ErrLaid w) :
    Calls Tryd.prog 15 #[v] w fun e w' => e = .returned (.int .i64 k) ∧ Below w.heap.size w w' := by
  cases h with
  | flt _ op at_ v k h1 =>
    cases h1 with
    | no k => exact kind_gen _ k (fun t old a w ha h0 hf => as_walk op at_ k t a old w ha h0 hf) w hg
    | flt d2 op2 at2 v k h2 =>
      cases h2 with
      | no k => exact kind_gen _ k (fun t old a w ha h0 hf => as_walk2 op at_ op2 at2 k t a old w ha h0 hf) w hg
      | flt d3 op3 at3 v k h3 => omega
end Go.Proofs.YtpfdbbcfcimmfaaDoor

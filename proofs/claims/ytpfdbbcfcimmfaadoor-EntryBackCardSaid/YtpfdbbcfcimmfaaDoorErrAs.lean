/-
  errors.As at a Fault that holds a refusal's number: the walk.
-/
import Derived.Test.YtpfdbbcfcimmfaaDoorErrAs2
namespace Go.Proofs.YtpfdbbcfcimmfaaDoor
open Go.RowKit Go.Extern.Stop Go.Stop Go.Extern

set_option maxRecDepth 100000 in
set_option maxHeartbeats 4000000 in
theorem as_fault (op : ByteArray) (at_ k : Int) (t : Addr) (old : Value) (w : World) (hg : w.cell? ⟨0, 0, none⟩ = some (.iface 114 (.agg #[.pointer (some ⟨4, 36, none⟩)]))) (ht0 : w.cell? t = some old) (hf0 : w.frozen? t = false) :
    Calls Tryd.prog 26 #[.iface 78 (.agg #[.string op, .int .i64 at_, .iface 41 (.int .i64 k)]), .iface 61 (.pointer (some t))] w fun e w' => e = .returned (.bool true) ∧ w'.cell? t = some (.int .i64 k) ∧ w.grownBy w' (some t.block) := by
  have h38 := @run_callFunc_extern Tryd.prog 39 _ (fun args => ReflectliteValue.unpack (args.getD 0 (.tuple #[]))) Tryd.func39 (by kernel_rfl) (by kernel_rfl) (by kernel_rfl) (by kernel_rfl)
  have h39 := @run_callFunc_extern Tryd.prog 40 _ (ReflectliteValue.methodAny (ReflectliteValue.valueError "reflectlite.Value.Type" 0) (fun t _ _ _ => ReflectliteType.toType t)) Tryd.func40 (by kernel_rfl) (by kernel_rfl) (by kernel_rfl) (by kernel_rfl)
  have h40 := @run_callFunc_extern Tryd.prog 41 _ (ReflectliteValue.method (ReflectliteValue.valueError "reflectlite.Value.IsNil" 0) ReflectliteValue.isNil) Tryd.func41 (by kernel_rfl) (by kernel_rfl) (by kernel_rfl) (by kernel_rfl)
  have f38 := valueOfP
  have f39 := typeP
  have kP := kindP
  have kE := kindE
  have eP := elemP
  have iE := implementsE
  have mK := methKind
  have mE := methElem
  have mI := methImpl
  have h74 := @run_callFunc_extern Tryd.prog 96 _ (ReflectliteType.abiMethod fun t => do pure (.int .u8 (← Rtype.kind t))) Tryd.func96 (by kernel_rfl) (by kernel_rfl) (by kernel_rfl) (by kernel_rfl)
  have h86 := @run_callFunc_extern Tryd.prog 108 _ (ReflectliteType.method ReflectliteType.elem) Tryd.func108 (by kernel_rfl) (by kernel_rfl) (by kernel_rfl) (by kernel_rfl)
  have h87 := @run_callFunc_extern Tryd.prog 109 _ (ReflectliteType.relation "Implements" ReflectliteType.implements_) Tryd.func109 (by kernel_rfl) (by kernel_rfl) (by kernel_rfl) (by kernel_rfl)
  have n8 := isNilP ⟨w.heap.size, 0, none⟩ t ((w.alloc (.cells #[.pointer (some t)] 61)).alloc (.cells #[.pointer (some ⟨4, 61, none⟩), .pointer (some ⟨w.heap.size, 0, none⟩), .int .u64 150] 86)) (by simp)
  have hg2 : ((w.alloc (.cells #[.pointer (some t)] 61)).alloc (.cells #[.pointer (some ⟨4, 61, none⟩), .pointer (some ⟨w.heap.size, 0, none⟩), .int .u64 150] 86)).cell? ⟨0, 0, none⟩ = some (.iface 114 (.agg #[.pointer (some ⟨4, 36, none⟩)])) :=
    (((below_new w _).trans (below_le (below_new w _).size (below_new _ _))).cell (by
      rcases Nat.lt_or_ge 0 w.heap.size with h | h
      · exact h
      · simp [World.cell?, Array.getElem?_eq_none h] at hg)).trans hg
  go_enter Tryd.func26, Tryd.ntmps26
  go_wp2_with fail
  have hb1 := below_new w (.cells #[.pointer (some t)] 61)
  have hb2 := hb1.trans (below_le hb1.size (below_new _ (.cells #[.pointer (some ⟨4, 61, none⟩), .pointer (some ⟨w.heap.size, 0, none⟩), .int .u64 150] 86)))
  refine (as_walk op at_ k t ⟨w.heap.size, 0, none⟩ old _ ?_ ((hb2.cell (cell_lt ht0)).trans ht0) ((hb2.frozen (cell_lt ht0)).trans hf0)).mono ?_
  · simp
  · rintro e w3 ⟨rfl, hc3, hg3⟩
    go_wp2
    go_ret
    exact ⟨rfl, hc3, ((grown_of_below hb2).but _).trans hg3⟩
end Go.Proofs.YtpfdbbcfcimmfaaDoor

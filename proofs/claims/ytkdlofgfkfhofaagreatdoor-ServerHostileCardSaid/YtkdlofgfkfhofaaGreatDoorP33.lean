import Derived.Test.YtkdlofgfkfhofaaGreatDoorP32
import Derived.Test.YtkdlofgfkfhofaaGreatDoorP04
import Derived.Test.YtkdlofgfkfhofaaGreatDoorP23
import Derived.Test.YtkdlofgfkfhofaaGreatDoorP26
/-
  fault.Kind at an error that holds a refusal's number, one or two Faults deep.
-/
namespace Go.Proofs.YtkdlofgfkfhofaaGreatDoor
open Go.RowKit Go.Extern.Stop Go.Stop Go.Extern

set_option maxRecDepth 100000 in
set_option maxHeartbeats 4000000 in
theorem as_gen (x : Value) (k : Int) (t : Addr) (old : Value)
    (hwalk : ∀ (a : Addr) (w : World), w.cell? a = some (.pointer (some t)) → w.cell? t = some old → w.frozen? t = false → Calls Tryz.prog 86 #[.iface 154 x, .iface 97 (.pointer (some t)), .agg #[.pointer (some ⟨4, 97, none⟩), .pointer (some a), .int .u64 150],
      .iface 245 (.agg #[.pointer (some ⟨4, 40, none⟩)])] w fun e w' => e = .returned (.bool true) ∧ w'.cell? t = some (.int .i64 k) ∧ w.grownBy w' (some t.block)) (w : World) (hg : w.cell? ⟨0, 0, none⟩ = some (.iface 245 (.agg #[.pointer (some ⟨4, 52, none⟩)]))) (ht0 : w.cell? t = some old) (hf0 : w.frozen? t = false) :
    Calls Tryz.prog 42 #[.iface 154 x, .iface 97 (.pointer (some t))] w fun e w' => e = .returned (.bool true) ∧ w'.cell? t = some (.int .i64 k) ∧ w.grownBy w' (some t.block) := by
  have Hwalk := Lib.hid hwalk
  clear hwalk
  have h38 := @run_callFunc_extern Tryz.prog 83 _ (fun args => ReflectliteValue.unpack (args.getD 0 (.tuple #[]))) Tryz.func83 (by kernel_rfl) (by kernel_rfl) (by kernel_rfl) (by kernel_rfl)
  have h39 := @run_callFunc_extern Tryz.prog 84 _ (ReflectliteValue.methodAny (ReflectliteValue.valueError "reflectlite.Value.Type" 0) (fun t _ _ _ => ReflectliteType.toType t)) Tryz.func84 (by kernel_rfl) (by kernel_rfl) (by kernel_rfl) (by kernel_rfl)
  have h40 := @run_callFunc_extern Tryz.prog 85 _ (ReflectliteValue.method (ReflectliteValue.valueError "reflectlite.Value.IsNil" 0) ReflectliteValue.isNil) Tryz.func85 (by kernel_rfl) (by kernel_rfl) (by kernel_rfl) (by kernel_rfl)
  have f38 := valueOfP
  have f39 := typeP
  have kP := kindP
  have kE := kindE
  have eP := elemP
  have iE := implementsE
  have mK := methKind
  have mE := methElem
  have mI := methImpl
  have h74 := @run_callFunc_extern Tryz.prog 347 _ (ReflectliteType.abiMethod fun t => do pure (.int .u8 (← Rtype.kind t))) Tryz.func347 (by kernel_rfl) (by kernel_rfl) (by kernel_rfl) (by kernel_rfl)
  have h86 := @run_callFunc_extern Tryz.prog 364 _ (ReflectliteType.method ReflectliteType.elem) Tryz.func364 (by kernel_rfl) (by kernel_rfl) (by kernel_rfl) (by kernel_rfl)
  have h87 := @run_callFunc_extern Tryz.prog 365 _ (ReflectliteType.relation "Implements" ReflectliteType.implements_) Tryz.func365 (by kernel_rfl) (by kernel_rfl) (by kernel_rfl) (by kernel_rfl)
  have n8 := isNilP ⟨w.heap.size, 0, none⟩ t ((w.alloc (.cells #[.pointer (some t)] 97)).alloc (.cells #[.pointer (some ⟨4, 97, none⟩), .pointer (some ⟨w.heap.size, 0, none⟩), .int .u64 150] 164)) (by simp)
  have hg2 : ((w.alloc (.cells #[.pointer (some t)] 97)).alloc (.cells #[.pointer (some ⟨4, 97, none⟩), .pointer (some ⟨w.heap.size, 0, none⟩), .int .u64 150] 164)).cell? ⟨0, 0, none⟩ = some (.iface 245 (.agg #[.pointer (some ⟨4, 52, none⟩)])) :=
    (((below_new w _).trans (below_le (below_new w _).size (below_new _ _))).cell (by
      rcases Nat.lt_or_ge 0 w.heap.size with h | h
      · exact h
      · simp [World.cell?, Array.getElem?_eq_none h] at hg)).trans hg
  go_enter Tryz.func42, Tryz.ntmps42
  go_wp2_with fail
  have hb1 := below_new w (.cells #[.pointer (some t)] 97)
  have hb2 := hb1.trans (below_le hb1.size (below_new _ (.cells #[.pointer (some ⟨4, 97, none⟩), .pointer (some ⟨w.heap.size, 0, none⟩), .int .u64 150] 164)))
  refine (Hwalk.out ⟨w.heap.size, 0, none⟩ _ ?_ ((hb2.cell (cell_lt ht0)).trans ht0) ((hb2.frozen (cell_lt ht0)).trans hf0)).mono ?_
  · simp
  · rintro e w3 ⟨rfl, hc3, hg3⟩
    go_wp2
    go_ret
    exact ⟨rfl, hc3, ((grown_of_below hb2).but _).trans hg3⟩
set_option maxRecDepth 100000 in
set_option maxHeartbeats 1000000 in
theorem kind_gen (x : Value) (k : Int) (hw : ∀ (t : Addr) (old : Value) (a : Addr) (w : World), w.cell? a = some (.pointer (some t)) → w.cell? t = some old → w.frozen? t = false → Calls Tryz.prog 86 #[.iface 154 x, .iface 97 (.pointer (some t)), .agg #[.pointer (some ⟨4, 97, none⟩), .pointer (some a), .int .u64 150],
      .iface 245 (.agg #[.pointer (some ⟨4, 40, none⟩)])] w fun e w' => e = .returned (.bool true) ∧ w'.cell? t = some (.int .i64 k) ∧ w.grownBy w' (some t.block)) (w : World) (hg : ErrLaid w) :
    Calls Tryz.prog 15 #[.iface 154 x] w fun e w' => e = .returned (.int .i64 k) ∧ Below w.heap.size w w' := by
  have hb := below_new w (.cells #[.int .i64 0] 40)
  have hA := Lib.hid (as_gen x k ⟨w.heap.size, 0, none⟩ (.int .i64 0) (hw _ _) _ (hg.below hb) (by simp) (by simp))
  clear hw
  go_enter Tryz.func15, Tryz.ntmps15
  go_wp2_with (first | (go_at_call 42; refine hA.out.mono ?_; rintro e w1 ⟨rfl, hc1, hg1⟩) | go_in)
  go_ret
  exact ⟨rfl, below_grown hb hb.size hg1 (Nat.le_refl _)⟩
end Go.Proofs.YtkdlofgfkfhofaaGreatDoor

/-
  errors.As and fault.Kind at three Faults in each other.
-/
namespace Go.Proofs.YtkdlofgfkfhofaaGreatDoor
open Go.RowKit Go.Extern.Stop Go.Stop Go.Extern

set_option maxRecDepth 100000 in
set_option maxHeartbeats 4000000 in
theorem as_walk3 (op : ByteArray) (at_ : Int) (op2 : ByteArray) (at2 : Int) (op3 : ByteArray) (at3 k : Int) (t a : Addr) (old : Value) (w : World) (ha : w.cell? a = some (.pointer (some t))) (ht0 : w.cell? t = some old) (hf0 : w.frozen? t = false) :
    Calls Tryz.prog 86 #[.iface 154 (.agg #[.string op, .int .i64 at_, .iface 154 (.agg #[.string op2, .int .i64 at2, .iface 154 (.agg #[.string op3, .int .i64 at3, .iface 40 (.int .i64 k)])])]), .iface 97 (.pointer (some t)), .agg #[.pointer (some ⟨4, 97, none⟩), .pointer (some a), .int .u64 150],
      .iface 245 (.agg #[.pointer (some ⟨4, 40, none⟩)])] w fun e w' => e = .returned (.bool true) ∧ w'.cell? t = some (.int .i64 k) ∧ w.grownBy w' (some t.block) := by
  have h38 := @run_callFunc_extern Tryz.prog 83 _ (fun args => ReflectliteValue.unpack (args.getD 0 (.tuple #[]))) Tryz.func83 (by kernel_rfl) (by kernel_rfl) (by kernel_rfl) (by kernel_rfl)
  have h42 := @run_callFunc_extern Tryz.prog 87 _ ReflectliteType.typeOf Tryz.func87 (by kernel_rfl) (by kernel_rfl) (by kernel_rfl) (by kernel_rfl)
  have h84 := @run_callFunc_extern Tryz.prog 362 _ (ReflectliteType.relation "AssignableTo" ReflectliteType.assignableTo) Tryz.func362 (by kernel_rfl) (by kernel_rfl) (by kernel_rfl) (by kernel_rfl)
  have h49 := @run_callFunc_extern Tryz.prog 136 _ (ReflectliteValue.method (ReflectliteValue.valueError "reflectlite.Value.Elem" 0) ReflectliteValue.elem) Tryz.func136 (by kernel_rfl) (by kernel_rfl) (by kernel_rfl) (by kernel_rfl)
  have h50 := @run_callFunc_extern Tryz.prog 137 _ ReflectliteValue.set Tryz.func137 (by kernel_rfl) (by kernel_rfl) (by kernel_rfl) (by kernel_rfl)
  have tE := typeOfE
  have tF := typeOfF
  have mA := methAssi
  have aE := assignableE
  have aF := assignableF
  have vE := valueOfE
  have mU := methUnwr
  have hA := hasAs
  have hU := hasUn
  have hb1 := below_new w (.cells #[.pointer (some ⟨4, 97, none⟩), .pointer (some a), .int .u64 150] 164)
  have hb2 := hb1.trans (below_le hb1.size (below_new _ (.cells #[.string op, .int .i64 at_, .iface 154 (.agg #[.string op2, .int .i64 at2, .iface 154 (.agg #[.string op3, .int .i64 at3, .iface 40 (.int .i64 k)])])] 154)))
  have hb2a := hb2.trans (below_le hb2.size (below_new _ (.cells #[.string op2, .int .i64 at2, .iface 154 (.agg #[.string op3, .int .i64 at3, .iface 40 (.int .i64 k)])] 154)))
  have hb2b := hb2a.trans (below_le hb2a.size (below_new _ (.cells #[.string op3, .int .i64 at3, .iface 40 (.int .i64 k)] 154)))
  have hb3 := hb2b.trans (below_le hb2b.size (below_new _ (.cells #[.int .i64 k] 40)))
  have eV := elemV a t _ ((hb2b.cell (cell_lt ha)).trans ha)
  have sE := setE t ⟨w.heap.size + 1 + 1 + 1 + 1, 0, none⟩ k old _ (by rw [World.cell?_alloc_at _ _ _ _ (by simp)]; rfl) ((hb3.cell (cell_lt ht0)).trans ht0) ((hb3.frozen (cell_lt ht0)).trans hf0)
  have HB3 := Lib.hid hb3
  clear hb1 hb2 hb2a hb2b hb3
  go_enter Tryz.func86, Tryz.ntmps86
  go_wp2
  refine wp_loop_rounds 4 ?_
  rw [rounds_succ]
  go_wp2
  rw [rounds_succ]
  go_wp2
  rw [rounds_succ]
  go_wp2
  rw [rounds_succ]
  go_wp2
  go_ret
  exact ⟨rfl, World.cell?_setCell_same _ _ _ ((HB3.out.cell (cell_lt ht0)).trans ht0), ((grown_of_below HB3.out).but _).trans (grown_set _ _ _)⟩
theorem kind_err3 {d : Nat} {v : Value} {k : Int} (h : IsErr (d + 1) v k) (hd : d ≤ 2) (w : World) (hg : ErrLaid w) :
    Calls Tryz.prog 15 #[v] w fun e w' => e = .returned (.int .i64 k) ∧ Below w.heap.size w w' := by
  cases h with
  | flt _ op at_ v k h1 =>
    cases h1 with
    | no k => exact kind_gen _ k (fun t old a w ha h0 hf => as_walk op at_ k t a old w ha h0 hf) w hg
    | flt d2 op2 at2 v k h2 =>
      cases h2 with
      | no k => exact kind_gen _ k (fun t old a w ha h0 hf => as_walk2 op at_ op2 at2 k t a old w ha h0 hf) w hg
      | flt d3 op3 at3 v k h3 =>
        cases h3 with
        | no k => exact kind_gen _ k (fun t old a w ha h0 hf => as_walk3 op at_ op2 at2 op3 at3 k t a old w ha h0 hf) w hg
        | flt d4 op4 at4 v k h4 => omega
end Go.Proofs.YtkdlofgfkfhofaaGreatDoor

/-
  errors.As and fault.Kind at a refusal's number.
-/
namespace Go.Proofs.YtkdlofgfkfhofaaGreatDoor
open Go.RowKit Go.Extern.Stop Go.Stop Go.Extern

set_option maxRecDepth 100000 in
set_option maxHeartbeats 4000000 in
theorem as_walkE (k : Int) (t a : Addr) (old : Value) (w : World) (ha : w.cell? a = some (.pointer (some t))) (ht0 : w.cell? t = some old) (hf0 : w.frozen? t = false) :
    Calls Tryz.prog 86 #[.iface 40 (.int .i64 k), .iface 97 (.pointer (some t)), .agg #[.pointer (some ⟨4, 97, none⟩), .pointer (some a), .int .u64 150],
      .iface 245 (.agg #[.pointer (some ⟨4, 40, none⟩)])] w fun e w' => e = .returned (.bool true) ∧ w'.cell? t = some (.int .i64 k) ∧ w.grownBy w' (some t.block) := by
  have h38 := @run_callFunc_extern Tryz.prog 83 _ (fun args => ReflectliteValue.unpack (args.getD 0 (.tuple #[]))) Tryz.func83 (by kernel_rfl) (by kernel_rfl) (by kernel_rfl) (by kernel_rfl)
  have h42 := @run_callFunc_extern Tryz.prog 87 _ ReflectliteType.typeOf Tryz.func87 (by kernel_rfl) (by kernel_rfl) (by kernel_rfl) (by kernel_rfl)
  have h84 := @run_callFunc_extern Tryz.prog 362 _ (ReflectliteType.relation "AssignableTo" ReflectliteType.assignableTo) Tryz.func362 (by kernel_rfl) (by kernel_rfl) (by kernel_rfl) (by kernel_rfl)
  have h49 := @run_callFunc_extern Tryz.prog 136 _ (ReflectliteValue.method (ReflectliteValue.valueError "reflectlite.Value.Elem" 0) ReflectliteValue.elem) Tryz.func136 (by kernel_rfl) (by kernel_rfl) (by kernel_rfl) (by kernel_rfl)
  have h50 := @run_callFunc_extern Tryz.prog 137 _ ReflectliteValue.set Tryz.func137 (by kernel_rfl) (by kernel_rfl) (by kernel_rfl) (by kernel_rfl)
  have tE := typeOfE
  have mA := methAssi
  have aE := assignableE
  have vE := valueOfE
  have hb1 := below_new w (.cells #[.pointer (some ⟨4, 97, none⟩), .pointer (some a), .int .u64 150] 164)
  have hb3 := hb1.trans (below_le hb1.size (below_new _ (.cells #[.int .i64 k] 40)))
  have eV := elemV a t _ ((hb1.cell (cell_lt ha)).trans ha)
  have sE := setE t ⟨w.heap.size + 1, 0, none⟩ k old _ (by rw [World.cell?_alloc_at _ _ _ _ (by simp)]; rfl) ((hb3.cell (cell_lt ht0)).trans ht0) ((hb3.frozen (cell_lt ht0)).trans hf0)
  have HB3 := Lib.hid hb3
  clear hb1 hb3
  go_enter Tryz.func86, Tryz.ntmps86
  go_wp2
  refine wp_loop_rounds 1 ?_
  rw [rounds_succ]
  go_wp2
  go_ret
  exact ⟨rfl, World.cell?_setCell_same _ _ _ ((HB3.out.cell (cell_lt ht0)).trans ht0), ((grown_of_below HB3.out).but _).trans (grown_set _ _ _)⟩
set_option maxRecDepth 100000 in
set_option maxHeartbeats 4000000 in
theorem as_errno (k : Int) (t : Addr) (old : Value) (w : World) (hg : w.cell? ⟨0, 0, none⟩ = some (.iface 245 (.agg #[.pointer (some ⟨4, 52, none⟩)]))) (ht0 : w.cell? t = some old) (hf0 : w.frozen? t = false) :
    Calls Tryz.prog 42 #[.iface 40 (.int .i64 k), .iface 97 (.pointer (some t))] w fun e w' => e = .returned (.bool true) ∧ w'.cell? t = some (.int .i64 k) ∧ w.grownBy w' (some t.block) := by
  have h38 := @run_callFunc_extern Tryz.prog 83 _ (fun args => ReflectliteValue.unpack (args.getD 0 (.tuple #[]))) Tryz.func83 (by kernel_rfl) (by kernel_rfl) (by kernel_rfl) (by kernel_rfl)
  have h39 := @run_callFunc_extern Tryz.prog 84 _ (ReflectliteValue.methodAny (ReflectliteValue.valueError "reflectlite.Value.Type" 0) (fun t _ _ _ => ReflectliteType.toType t)) Tryz.func84 (by kernel_rfl) (by kernel_rfl) (by kernel_rfl) (by kernel_rfl)
  have h40 := @run_callFunc_extern Tryz.prog 85 _ (ReflectliteValue.method (ReflectliteValue.valueError "reflectlite.Value.IsNil" 0) ReflectliteValue.isNil) Tryz.func85 (by kernel_rfl) (by kernel_rfl) (by kernel_rfl) (by kernel_rfl)
  have f38 := valueOfP
  have f39 := typeP
  have kP := kindP
  have kE := kindE
  have eP := elemP
  have iE := implementsE
  have mK := methKind
  have mE := methElem
  have mI := methImpl
  have h74 := @run_callFunc_extern Tryz.prog 347 _ (ReflectliteType.abiMethod fun t => do pure (.int .u8 (← Rtype.kind t))) Tryz.func347 (by kernel_rfl) (by kernel_rfl) (by kernel_rfl) (by kernel_rfl)
  have h86 := @run_callFunc_extern Tryz.prog 364 _ (ReflectliteType.method ReflectliteType.elem) Tryz.func364 (by kernel_rfl) (by kernel_rfl) (by kernel_rfl) (by kernel_rfl)
  have h87 := @run_callFunc_extern Tryz.prog 365 _ (ReflectliteType.relation "Implements" ReflectliteType.implements_) Tryz.func365 (by kernel_rfl) (by kernel_rfl) (by kernel_rfl) (by kernel_rfl)
  have n8 := isNilP ⟨w.heap.size, 0, none⟩ t ((w.alloc (.cells #[.pointer (some t)] 97)).alloc (.cells #[.pointer (some ⟨4, 97, none⟩), .pointer (some ⟨w.heap.size, 0, none⟩), .int .u64 150] 164)) (by simp)
  have hg2 : ((w.alloc (.cells #[.pointer (some t)] 97)).alloc (.cells #[.pointer (some ⟨4, 97, none⟩), .pointer (some ⟨w.heap.size, 0, none⟩), .int .u64 150] 164)).cell? ⟨0, 0, none⟩ = some (.iface 245 (.agg #[.pointer (some ⟨4, 52, none⟩)])) :=
    (((below_new w _).trans (below_le (below_new w _).size (below_new _ _))).cell (by
      rcases Nat.lt_or_ge 0 w.heap.size with h | h
      · exact h
      · simp [World.cell?, Array.getElem?_eq_none h] at hg)).trans hg
  go_enter Tryz.func42, Tryz.ntmps42
  go_wp2_with fail
  have hb1 := below_new w (.cells #[.pointer (some t)] 97)
  have hb2 := hb1.trans (below_le hb1.size (below_new _ (.cells #[.pointer (some ⟨4, 97, none⟩), .pointer (some ⟨w.heap.size, 0, none⟩), .int .u64 150] 164)))
  refine (as_walkE k t ⟨w.heap.size, 0, none⟩ old _ ?_ ((hb2.cell (cell_lt ht0)).trans ht0) ((hb2.frozen (cell_lt ht0)).trans hf0)).mono ?_
  · simp
  · rintro e w3 ⟨rfl, hc3, hg3⟩
    go_wp2
    go_ret
    exact ⟨rfl, hc3, ((grown_of_below hb2).but _).trans hg3⟩
set_option maxRecDepth 100000 in
set_option maxHeartbeats 1000000 in
theorem kind_errno (k : Int) (w : World) (hg : ErrLaid w) :
    Calls Tryz.prog 15 #[.iface 40 (.int .i64 k)] w fun e w' => e = .returned (.int .i64 k) ∧ Below w.heap.size w w' := by
  have hb := below_new w (.cells #[.int .i64 0] 40)
  have hA := Lib.hid (as_errno k ⟨w.heap.size, 0, none⟩ (.int .i64 0) _ (hg.below hb) (by simp) (by simp))
  go_enter Tryz.func15, Tryz.ntmps15
  go_wp2_with (first | (go_at_call 42; refine hA.out.mono ?_; rintro e w1 ⟨rfl, hc1, hg1⟩) | go_in)
  go_ret
  exact ⟨rfl, below_grown hb hb.size hg1 (Nat.le_refl _)⟩
end Go.Proofs.YtkdlofgfkfhofaaGreatDoor

/-
  reply: fields, put, Right, Put of a reply without names and batches.
-/
namespace Go.Proofs.YtkdlofgfkfhofaaGreatDoor
open Go.RowKit

def rplF : List Fld := [nF 4 0 4294967295, nF 1 0 255, nF 8 0 9223372036854775807, nF 8 0 9223372036854775807, ⟨3, 0, 0, 8, 24⟩, ⟨3, 0, 0, 4, 608⟩]
def noT : MVal := ⟨⟨0, ⟨#[]⟩, []⟩, none, 0, 0⟩
def rplM (co er ba nx : Int) : List MVal := [numM co, numM er, numM ba, numM nx, noT, noT]
def rplV (co er ba nx : Int) : List Val := vsOf (rplM co er ba nx)
theorem rpl_some : ∀ f ∈ rplF, f ∈ someF := by
  intro f hf
  unfold rplF at hf
  unfold someF
  simp only [List.mem_cons, List.not_mem_nil, or_false] at hf ⊢
  rcases hf with rfl | rfl | rfl | rfl | rfl | rfl <;> simp
theorem noT_ok (w : World) : noT.ok w := RdT.nil w
theorem rpl_ok (w : World) (co er ba nx : Int) : ∀ m ∈ rplM co er ba nx, m.ok w := by
  intro m hm
  unfold rplM at hm
  simp only [List.mem_cons, List.not_mem_nil, or_false] at hm
  rcases hm with rfl | rfl | rfl | rfl | rfl | rfl
  · exact numM_ok w _
  · exact numM_ok w _
  · exact numM_ok w _
  · exact numM_ok w _
  · exact noT_ok w
  · exact noT_ok w
set_option maxRecDepth 100000 in
set_option maxHeartbeats 1000000 in
theorem rpFields_any (w : World) :
    Calls Tryz.prog 127 #[] w fun e w' => ∃ g, e = .returned (.slice (some ⟨g, 0, none⟩) 6 6) ∧ RdF w' (some ⟨g, 0, none⟩) 6 6 rplF ∧ Below w.heap.size w w' := by
  go_enter Tryz.func127, Tryz.ntmps127
  go_wp2
  go_ret
  exact ⟨_, rfl, RdK.of_bk (Bk.made w _ _) Fld.cells f5 rplF rfl 6 6 rfl (by omega) (by omega), below_new _ _⟩
abbrev rpC (co er ba nx : Int) : Array Value := #[.int .i64 co, .int .i64 er, .int .i64 ba, .int .i64 nx, .slice none 0 0, .slice none 0 0]
theorem rplV_rd (co er ba nx : Int) {w : World} {g : Nat} (hb : Bk w g 198 #[.int .i64 co, .string ⟨#[]⟩, .slice none 0 0, .int .i64 er, .string ⟨#[]⟩, .slice none 0 0, .int .i64 ba, .string ⟨#[]⟩, .slice none 0 0, .int .i64 nx, .string ⟨#[]⟩, .slice none 0 0, .int .i64 0, .string ⟨#[]⟩, .slice none 0 0, .int .i64 0, .string ⟨#[]⟩, .slice none 0 0]) : RdV w (some ⟨g, 0, none⟩) 6 6 (rplM co er ba nx) :=
  ⟨RdK.of_bk hb MVal.cells m3 (rplM co er ba nx) rfl 6 6 rfl (by omega) (by omega), rpl_ok w co er ba nx⟩
set_option maxRecDepth 100000 in
set_option maxHeartbeats 4000000 in
theorem rpPut0_any (co er ba nx : Int) (w : World) :
    Calls Tryz.prog 161 #[.agg (rpC co er ba nx)] w fun e w' => ∃ A' M c' v, e = .returned (.tuple #[.slice A' M c', v]) ∧ PutR rplF (rplV co er ba nx) w.heap.size w' A' M c' v ∧ Below w.heap.size w w' := by
  have HB0 := Lib.hid (below_new w (.cells (rpC co er ba nx) 43))
  have HK0 := Lib.hid (Bk.made w 43 (rpC co er ba nx))
  go_enter Tryz.func161, Tryz.ntmps161
  go_wp2_with fail
  generalize w.alloc (.cells (rpC co er ba nx) 43) = w1 at HB0 HK0 ⊢
  go_loopw [4, 10] (fun v i wr => i = .int .i64 0 ∧ v = .slice none 0 0 ∧ wr = w1) (fun _ _ _ => 0)
  case atStart => exact ⟨rfl, rfl, rfl⟩
  case round =>
    obtain ⟨rfl, rfl, rfl⟩ := hrel
    go_wp2_with fail
    obtain ⟨wo, rfl⟩ : ∃ wo, wo = wr := ⟨_, rfl⟩
    have FS : Hid (∀ w', Below wo.heap.size wo w' → (Below wo.heap.size wo w' ∧ w'.cell? ⟨w.heap.size, 0, none⟩ = some (.int .i64 co) ∧ w'.cell? ⟨w.heap.size, 1, none⟩ = some (.int .i64 er) ∧ w'.cell? ⟨w.heap.size, 2, none⟩ = some (.int .i64 ba) ∧ w'.cell? ⟨w.heap.size, 3, none⟩ = some (.int .i64 nx) ∧ w'.cell? ⟨w.heap.size, 4, none⟩ = some (.slice none 0 0))) := fun w' hb => ⟨hb, (HK0.out.ext hb).cell 0, (HK0.out.ext hb).cell 1, (HK0.out.ext hb).cell 2, (HK0.out.ext hb).cell 3, (HK0.out.ext hb).cell 4⟩
    have r0 := below_drew1 (Below.refl wo.heap.size wo)
    have r1 := below_drew1 ((Below.refl wo.heap.size wo).alloc (Nat.le_refl _) (.cells #[.int .i64 co, .string ⟨#[]⟩, .slice none 0 0, .int .i64 er, .string ⟨#[]⟩, .slice none 0 0, .int .i64 ba, .string ⟨#[]⟩, .slice none 0 0, .int .i64 nx, .string ⟨#[]⟩, .slice none 0 0, .int .i64 0, .string ⟨#[]⟩, .slice none 0 0, .int .i64 0, .string ⟨#[]⟩, .slice none 0 0] 198))
    clear HK0
    go_region_held3 (fun w' => Below wo.heap.size wo w' ∧ w'.cell? ⟨w.heap.size, 0, none⟩ = some (.int .i64 co) ∧ w'.cell? ⟨w.heap.size, 1, none⟩ = some (.int .i64 er) ∧ w'.cell? ⟨w.heap.size, 2, none⟩ = some (.int .i64 ba) ∧ w'.cell? ⟨w.heap.size, 3, none⟩ = some (.int .i64 nx) ∧ w'.cell? ⟨w.heap.size, 4, none⟩ = some (.slice none 0 0)) (first | exact FS.out _ r0 | exact FS.out _ hb4 | exact FS.out _ (hb3.alloc hb3.size _) | exact FS.out _ hb3 | exact FS.out _ r1) (first | (go_at_call 127; (with_reducible refine (rpFields_any wo.drew).mono ?_); rintro e w3 ⟨g3, rfl, hf3, hx3⟩; have hb3 := r0.trans (below_le r0.size hx3); have HF4 := Lib.hid (hf3.ext (below_new w3 (.cells #[.int .i64 co, .string ⟨#[]⟩, .slice none 0 0, .int .i64 er, .string ⟨#[]⟩, .slice none 0 0, .int .i64 ba, .string ⟨#[]⟩, .slice none 0 0, .int .i64 nx, .string ⟨#[]⟩, .slice none 0 0, .int .i64 0, .string ⟨#[]⟩, .slice none 0 0, .int .i64 0, .string ⟨#[]⟩, .slice none 0 0] 198))); have HV4 := Lib.hid (rplV_rd co er ba nx (Bk.made w3 198 _)); have hb4' := hb3.alloc hb3.size (.cells #[.int .i64 co, .string ⟨#[]⟩, .slice none 0 0, .int .i64 er, .string ⟨#[]⟩, .slice none 0 0, .int .i64 ba, .string ⟨#[]⟩, .slice none 0 0, .int .i64 nx, .string ⟨#[]⟩, .slice none 0 0, .int .i64 0, .string ⟨#[]⟩, .slice none 0 0, .int .i64 0, .string ⟨#[]⟩, .slice none 0 0] 198)) | (go_at_call 127; (with_reducible refine (rpFields_any (wo.alloc (.cells #[.int .i64 co, .string ⟨#[]⟩, .slice none 0 0, .int .i64 er, .string ⟨#[]⟩, .slice none 0 0, .int .i64 ba, .string ⟨#[]⟩, .slice none 0 0, .int .i64 nx, .string ⟨#[]⟩, .slice none 0 0, .int .i64 0, .string ⟨#[]⟩, .slice none 0 0, .int .i64 0, .string ⟨#[]⟩, .slice none 0 0] 198)).drew).mono ?_); rintro e w3 ⟨g3, rfl, hf3, hx3⟩; have hb3 := r1.trans (below_le r1.size hx3); have HF4 := Lib.hid hf3; have HV4 := Lib.hid (rplV_rd co er ba nx ((Bk.drawn1 (Bk.made wo 198 _)).ext hx3)); have hb4' := hb3) | (go_at_call 59; (with_reducible refine (fput_r _ 6 6 rplF _ 6 6 (rplM co er ba nx) _ rpl_some HF4.out HV4.out (by omega) wo wo.heap.size hb4' hb4'.size).mono ?_); rintro e w4 ⟨A4, M4, c4, v4, rfl, hp4, hb4⟩) | fail)
    all_goals
      go_wp2_with fail
      go_ret2
      exact ⟨_, _, _, _, rfl, hp4.more HB0.out.size, HB0.out.trans (below_le HB0.out.size hb4)⟩
end Go.Proofs.YtkdlofgfkfhofaaGreatDoor

/-
  reply: Right, Put of a reply without names and batches.
-/
namespace Go.Proofs.YtkdlofgfkfhofaaGreatDoor
open Go.RowKit

def ldRp (v : Value) : Sem Value := Instr.loadAt 43 v
theorem ldRp_eq (v : Value) : Instr.loadAt 43 v = ldRp v := rfl
def stRp (v u : Value) : Sem Unit := Instr.storeAt 43 v u
theorem stRp_eq (v u : Value) : Instr.storeAt 43 v u = stRp v u := rfl
theorem size_rp : (Tryz.prog.info? 43).map (·.size) = some 6 := by kernel_rfl
theorem one_rp (co er ba nx : Int) : (rpC co er ba nx).all (·.oneCell') = true :=
  all_oneCell_toArray (cs := [.int .i64 co, .int .i64 er, .int .i64 ba, .int .i64 nx, .slice none 0 0, .slice none 0 0]) fun v hv => by
    simp only [List.mem_cons, List.mem_nil_iff, or_false] at hv
    rcases hv with rfl | rfl | rfl | rfl | rfl | rfl <;> rfl
theorem stRp_new (w : World) (g : Nat) (hg : g = w.heap.size) (old : Array Value) (ho : old.size = 6) (co er ba nx : Int) : (stRp (.pointer (some ⟨g, 0, none⟩)) (.agg #[.int .i64 co, .int .i64 er, .int .i64 ba, .int .i64 nx, .slice none 0 0, .slice none 0 0])).run Tryz.prog (w.alloc (.cells old 43)) = .ok () (w.alloc (.cells (rpC co er ba nx) 43)) := by
  subst hg
  exact run_storeAt_new w 43 _ _ size_rp (by rw [ho]; rfl) (one_rp co er ba nx)
theorem stRp_bk {w : World} {g : Nat} {old : Array Value} (ho : old.size = 6) (h : Bk w g 43 old) (co er ba nx : Int) : (stRp (.pointer (some ⟨g, 0, none⟩)) (.agg #[.int .i64 co, .int .i64 er, .int .i64 ba, .int .i64 nx, .slice none 0 0, .slice none 0 0])).run Tryz.prog w = .ok () (w.setRow g (rpC co er ba nx)) := by
  unfold stRp
  simp only [Instr.storeAt, Instr.sureAddr, Sem.run_bind, Sem.run_pure, Result.andThen_ok, run_storeVar_row w g _ _ old (rpC co er ba nx) h size_rp (by rw [ho]; rfl) (one_rp co er ba nx)]
theorem ldRp_bk {w : World} {g : Nat} {co er ba nx : Int} (h : Bk w g 43 (rpC co er ba nx)) : (ldRp (.pointer (some ⟨g, 0, none⟩))).run Tryz.prog w = .ok (.agg #[.int .i64 co, .int .i64 er, .int .i64 ba, .int .i64 nx, .slice none 0 0, .slice none 0 0]) w :=
  run_loadAt_mid w g 0 43 [.int .i64 co, .int .i64 er, .int .i64 ba, .int .i64 nx, .slice none 0 0, .slice none 0 0] _ (fun j v hv => by
    rw [Nat.zero_add, Bk.cell h, ← hv]
    simp) Tryz.underlying43 rfl size_rp
attribute [local go_sem ↓] ldRp_eq
set_option maxRecDepth 100000 in
set_option maxHeartbeats 1000000 in
theorem rpIdx_any (w : World) : Calls Tryz.prog 226 #[.slice none 0 0, .func (.func 183) #[] #[]] w fun e w' => e = .returned (.int .i64 (-1)) ∧ w' = w := by
  go_enter Tryz.func226, Tryz.ntmps226
  go_wp2_with fail
  go_loopw [8] (fun i wr => i = .int .i64 0 ∧ wr = w) (fun _ _ => 0)
  case atStart => exact ⟨rfl, rfl⟩
  case round =>
    obtain ⟨rfl, rfl⟩ := hrel
    go_wp2_with fail
    go_ret
    exact ⟨rfl, rfl⟩
set_option maxRecDepth 100000 in
set_option maxHeartbeats 1000000 in
theorem rpCon_any (w : World) : Calls Tryz.prog 182 #[.slice none 0 0, .func (.func 183) #[] #[]] w fun e w' => e = .returned (.bool false) ∧ w' = w := by
  have H := Lib.hid (rpIdx_any w)
  go_enter Tryz.func182, Tryz.ntmps182
  go_wp2_with (first | (go_at_call 226; go_loud (with_reducible refine H.out.mono ?_); rintro er w1 ⟨rfl, rfl⟩) | fail)
  go_ret
  exact ⟨rfl, rfl⟩
set_option maxRecDepth 100000 in
set_option maxHeartbeats 2000000 in
theorem rpRight_any (co er ba nx : Int) (hok : okAll rplF (rplV co er ba nx) = true) (w : World) :
    Calls Tryz.prog 129 #[.agg (rpC co er ba nx)] w fun e w' => e = .returned (.bool true) ∧ Below w.heap.size w w' := by
  have hb0 := below_new w (.cells (rpC co er ba nx) 43)
  have hk0 := Bk.made w 43 (rpC co er ba nx)
  have hld := ldRp_bk hk0
  have HP := Lib.hid (rpPut0_any co er ba nx (w.alloc (.cells (rpC co er ba nx) 43)))
  have HB0 := Lib.hid hb0
  have HK0 := Lib.hid hk0
  have HOk := Lib.hid hok
  clear hb0 hk0 hok
  go_enter Tryz.func129, Tryz.ntmps129
  go_wp2_with fail
  with_reducible refine HP.out.mono ?_
  rintro e w1 ⟨A1, M1, c1, v1, rfl, hp1, hb1⟩
  have hv1 : v1 = .nilIface := by
    rcases hp1 with ⟨_, h, _⟩ | ⟨h, _⟩
    · exact h
    · rw [HOk.out] at h
      cases h
  subst hv1
  have c5 : w1.cell? ⟨w.heap.size, 5, none⟩ = some (.slice none 0 0) := (HK0.out.ext hb1).cell 5
  have HB1 := Lib.hid (HB0.out.trans (below_le HB0.out.size hb1))
  have HCn := Lib.hid (fun v => rpCon_any v)
  clear hb1 hp1 hld
  go_wp2_with (first | (go_at_call 182; go_loud (with_reducible refine (HCn.out _).mono ?_); rintro er w2 ⟨rfl, rfl⟩) | fail)
  go_ret
  exact ⟨rfl, HB1.out⟩
set_option maxRecDepth 100000 in
set_option maxHeartbeats 2000000 in
theorem rpPut_any (co er ba nx : Int) (hok : okAll rplF (rplV co er ba nx) = true) (w : World) :
    Calls Tryz.prog 108 #[.agg (rpC co er ba nx)] w fun e w' => ∃ A M c, e = .returned (.slice A M c) ∧ OwnB w' w.heap.size (.slice A M c) (bytesAll rplF (rplV co er ba nx)) ∧ Below w.heap.size w w' := by
  have hb0 := below_new w (.cells (rpC co er ba nx) 43)
  have hk0 := Bk.made w 43 (rpC co er ba nx)
  have hld := ldRp_bk hk0
  have HR := Lib.hid (rpRight_any co er ba nx hok (w.alloc (.cells (rpC co er ba nx) 43)))
  have HP := Lib.hid (fun v => rpPut0_any co er ba nx v)
  have HB0 := Lib.hid hb0
  have HK0 := Lib.hid hk0
  have HOk := Lib.hid hok
  clear hb0 hk0 hok
  go_enter Tryz.func108, Tryz.ntmps108
  go_wp2_with fail
  with_reducible refine HR.out.mono ?_
  rintro e w1 ⟨rfl, hb1⟩
  have hld1 := ldRp_bk (HK0.out.ext hb1)
  have HB1 := Lib.hid (HB0.out.trans (below_le HB0.out.size hb1))
  clear hb1 hld
  go_wp2_with fail
  with_reducible refine (HP.out _).mono ?_
  rintro e w2 ⟨A2, M2, c2, v2, rfl, hp2, hb2⟩
  have ho2 : OwnB w2 w1.heap.size (.slice A2 M2 c2) (bytesAll rplF (rplV co er ba nx)) := by
    rcases hp2 with ⟨_, _, h⟩ | ⟨h, _⟩
    · exact h
    · rw [HOk.out] at h
      cases h
  have HO2 := Lib.hid (ho2.more HB1.out.size)
  have HB2 := Lib.hid (HB1.out.trans (below_le HB1.out.size hb2))
  clear ho2 hp2 hb2 hld1
  go_wp2_with fail
  go_ret
  exact ⟨_, _, _, rfl, HO2.out, HB2.out⟩
end Go.Proofs.YtkdlofgfkfhofaaGreatDoor

/-
  reply: put and Right of a reply with names that are none, wherever they lie.
-/
namespace Go.Proofs.YtkdlofgfkfhofaaGreatDoor
open Go.RowKit

abbrev rpD (co er ba nx : Int) (A0 : Option Addr) (c0 : Nat) : Array Value := #[.int .i64 co, .int .i64 er, .int .i64 ba, .int .i64 nx, .slice A0 0 c0, .slice none 0 0]
def rplG (co er ba nx : Int) (A0 : Option Addr) (c0 : Nat) : List MVal := [numM co, numM er, numM ba, numM nx, ⟨⟨0, ⟨#[]⟩, []⟩, A0, 0, c0⟩, noT]
theorem rplG_ok {w : World} (co er ba nx : Int) {A0 : Option Addr} {c0 : Nat} (hN : RdT w A0 0 c0 []) : ∀ m ∈ rplG co er ba nx A0 c0, m.ok w := by
  intro m hm
  unfold rplG at hm
  simp only [List.mem_cons, List.not_mem_nil, or_false] at hm
  rcases hm with rfl | rfl | rfl | rfl | rfl | rfl
  · exact numM_ok w _
  · exact numM_ok w _
  · exact numM_ok w _
  · exact numM_ok w _
  · exact hN
  · exact noT_ok w
theorem ldRpG_bk {w : World} {g : Nat} {co er ba nx : Int} {A0 : Option Addr} {c0 : Nat} (h : Bk w g 43 (rpD co er ba nx A0 c0)) : (ldRp (.pointer (some ⟨g, 0, none⟩))).run Tryz.prog w = .ok (.agg #[.int .i64 co, .int .i64 er, .int .i64 ba, .int .i64 nx, .slice A0 0 c0, .slice none 0 0]) w :=
  run_loadAt_mid w g 0 43 [.int .i64 co, .int .i64 er, .int .i64 ba, .int .i64 nx, .slice A0 0 c0, .slice none 0 0] _ (fun j v hv => by
    rw [Nat.zero_add, Bk.cell h, ← hv]
    simp) Tryz.underlying43 rfl size_rp
theorem rplG_rd (co er ba nx : Int) {A0 : Option Addr} {c0 : Nat} {w : World} {g : Nat} (hb : Bk w g 198 #[.int .i64 co, .string ⟨#[]⟩, .slice none 0 0, .int .i64 er, .string ⟨#[]⟩, .slice none 0 0, .int .i64 ba, .string ⟨#[]⟩, .slice none 0 0, .int .i64 nx, .string ⟨#[]⟩, .slice none 0 0, .int .i64 0, .string ⟨#[]⟩, .slice A0 0 c0, .int .i64 0, .string ⟨#[]⟩, .slice none 0 0]) (hN : RdT w A0 0 c0 []) : RdV w (some ⟨g, 0, none⟩) 6 6 (rplG co er ba nx A0 c0) :=
  ⟨RdK.of_bk hb MVal.cells m3 (rplG co er ba nx A0 c0) rfl 6 6 rfl (by omega) (by omega), rplG_ok co er ba nx hN⟩
set_option maxRecDepth 100000 in
set_option maxHeartbeats 4000000 in
theorem rpPutG_any (co er ba nx : Int) (A0 : Option Addr) (c0 : Nat) (w : World) (hN : RdT w A0 0 c0 []) :
    Calls Tryz.prog 161 #[.agg (rpD co er ba nx A0 c0)] w fun e w' => ∃ A' M c' v, e = .returned (.tuple #[.slice A' M c', v]) ∧ PutR rplF (rplV co er ba nx) w.heap.size w' A' M c' v ∧ Below w.heap.size w w' := by
  have HN0 := Lib.hid (hN.ext (below_new w (.cells (rpD co er ba nx A0 c0) 43)))
  clear hN
  have HB0 := Lib.hid (below_new w (.cells (rpD co er ba nx A0 c0) 43))
  have HK0 := Lib.hid (Bk.made w 43 (rpD co er ba nx A0 c0))
  go_enter Tryz.func161, Tryz.ntmps161
  go_wp2_with fail
  generalize w.alloc (.cells (rpD co er ba nx A0 c0) 43) = w1 at HB0 HK0 HN0 ⊢
  go_loopw [4, 10] (fun v i wr => i = .int .i64 0 ∧ v = .slice none 0 0 ∧ wr = w1) (fun _ _ _ => 0)
  case atStart => exact ⟨rfl, rfl, rfl⟩
  case round =>
    obtain ⟨rfl, rfl, rfl⟩ := hrel
    go_wp2_with fail
    obtain ⟨wo, rfl⟩ : ∃ wo, wo = wr := ⟨_, rfl⟩
    have HN := HN0
    have FS : Hid (∀ w', Below wo.heap.size wo w' → (Below wo.heap.size wo w' ∧ w'.cell? ⟨w.heap.size, 0, none⟩ = some (.int .i64 co) ∧ w'.cell? ⟨w.heap.size, 1, none⟩ = some (.int .i64 er) ∧ w'.cell? ⟨w.heap.size, 2, none⟩ = some (.int .i64 ba) ∧ w'.cell? ⟨w.heap.size, 3, none⟩ = some (.int .i64 nx) ∧ w'.cell? ⟨w.heap.size, 4, none⟩ = some (.slice A0 0 c0))) := fun w' hb => ⟨hb, (HK0.out.ext hb).cell 0, (HK0.out.ext hb).cell 1, (HK0.out.ext hb).cell 2, (HK0.out.ext hb).cell 3, (HK0.out.ext hb).cell 4⟩
    have r0 := below_drew1 (Below.refl wo.heap.size wo)
    have r1 := below_drew1 ((Below.refl wo.heap.size wo).alloc (Nat.le_refl _) (.cells #[.int .i64 co, .string ⟨#[]⟩, .slice none 0 0, .int .i64 er, .string ⟨#[]⟩, .slice none 0 0, .int .i64 ba, .string ⟨#[]⟩, .slice none 0 0, .int .i64 nx, .string ⟨#[]⟩, .slice none 0 0, .int .i64 0, .string ⟨#[]⟩, .slice A0 0 c0, .int .i64 0, .string ⟨#[]⟩, .slice none 0 0] 198))
    clear HK0
    go_region_held3 (fun w' => Below wo.heap.size wo w' ∧ w'.cell? ⟨w.heap.size, 0, none⟩ = some (.int .i64 co) ∧ w'.cell? ⟨w.heap.size, 1, none⟩ = some (.int .i64 er) ∧ w'.cell? ⟨w.heap.size, 2, none⟩ = some (.int .i64 ba) ∧ w'.cell? ⟨w.heap.size, 3, none⟩ = some (.int .i64 nx) ∧ w'.cell? ⟨w.heap.size, 4, none⟩ = some (.slice A0 0 c0)) (first | exact FS.out _ r0 | exact FS.out _ hb4 | exact FS.out _ (hb3.alloc hb3.size _) | exact FS.out _ hb3 | exact FS.out _ r1) (first | (go_at_call 127; (with_reducible refine (rpFields_any wo.drew).mono ?_); rintro e w3 ⟨g3, rfl, hf3, hx3⟩; have hb3 := r0.trans (below_le r0.size hx3); have HF4 := Lib.hid (hf3.ext (below_new w3 (.cells #[.int .i64 co, .string ⟨#[]⟩, .slice none 0 0, .int .i64 er, .string ⟨#[]⟩, .slice none 0 0, .int .i64 ba, .string ⟨#[]⟩, .slice none 0 0, .int .i64 nx, .string ⟨#[]⟩, .slice none 0 0, .int .i64 0, .string ⟨#[]⟩, .slice A0 0 c0, .int .i64 0, .string ⟨#[]⟩, .slice none 0 0] 198))); have HV4 := Lib.hid (rplG_rd co er ba nx (Bk.made w3 198 _) (HN.out.ext (hb3.alloc hb3.size (.cells #[.int .i64 co, .string ⟨#[]⟩, .slice none 0 0, .int .i64 er, .string ⟨#[]⟩, .slice none 0 0, .int .i64 ba, .string ⟨#[]⟩, .slice none 0 0, .int .i64 nx, .string ⟨#[]⟩, .slice none 0 0, .int .i64 0, .string ⟨#[]⟩, .slice A0 0 c0, .int .i64 0, .string ⟨#[]⟩, .slice none 0 0] 198)))); have hb4' := hb3.alloc hb3.size (.cells #[.int .i64 co, .string ⟨#[]⟩, .slice none 0 0, .int .i64 er, .string ⟨#[]⟩, .slice none 0 0, .int .i64 ba, .string ⟨#[]⟩, .slice none 0 0, .int .i64 nx, .string ⟨#[]⟩, .slice none 0 0, .int .i64 0, .string ⟨#[]⟩, .slice A0 0 c0, .int .i64 0, .string ⟨#[]⟩, .slice none 0 0] 198)) | (go_at_call 127; (with_reducible refine (rpFields_any (wo.alloc (.cells #[.int .i64 co, .string ⟨#[]⟩, .slice none 0 0, .int .i64 er, .string ⟨#[]⟩, .slice none 0 0, .int .i64 ba, .string ⟨#[]⟩, .slice none 0 0, .int .i64 nx, .string ⟨#[]⟩, .slice none 0 0, .int .i64 0, .string ⟨#[]⟩, .slice A0 0 c0, .int .i64 0, .string ⟨#[]⟩, .slice none 0 0] 198)).drew).mono ?_); rintro e w3 ⟨g3, rfl, hf3, hx3⟩; have hb3 := r1.trans (below_le r1.size hx3); have HF4 := Lib.hid hf3; have HV4 := Lib.hid (rplG_rd co er ba nx ((Bk.drawn1 (Bk.made wo 198 _)).ext hx3) (HN.out.ext hb3)); have hb4' := hb3) | (go_at_call 59; (with_reducible refine (fput_r _ 6 6 rplF _ 6 6 (rplG co er ba nx A0 c0) _ rpl_some HF4.out HV4.out (by omega) wo wo.heap.size hb4' hb4'.size).mono ?_); rintro e w4 ⟨A4, M4, c4, v4, rfl, hp4, hb4⟩) | fail)
    all_goals
      go_wp2_with fail
      go_ret2
      exact ⟨_, _, _, _, rfl, hp4.more HB0.out.size, HB0.out.trans (below_le HB0.out.size hb4)⟩
attribute [local go_sem ↓] ldRp_eq
set_option maxRecDepth 100000 in
set_option maxHeartbeats 2000000 in
theorem rpRightG_any (co er ba nx : Int) (A0 : Option Addr) (c0 : Nat) (hok : okAll rplF (rplV co er ba nx) = true) (w : World) (hN : RdT w A0 0 c0 []) :
    Calls Tryz.prog 129 #[.agg (rpD co er ba nx A0 c0)] w fun e w' => e = .returned (.bool true) ∧ Below w.heap.size w w' := by
  have hb0 := below_new w (.cells (rpD co er ba nx A0 c0) 43)
  have hk0 := Bk.made w 43 (rpD co er ba nx A0 c0)
  have hld := ldRpG_bk hk0
  have HP := Lib.hid (rpPutG_any co er ba nx A0 c0 (w.alloc (.cells (rpD co er ba nx A0 c0) 43)) (hN.ext hb0))
  have HB0 := Lib.hid hb0
  have HK0 := Lib.hid hk0
  have HOk := Lib.hid hok
  clear hb0 hk0 hok hN
  go_enter Tryz.func129, Tryz.ntmps129
  go_wp2_with fail
  with_reducible refine HP.out.mono ?_
  rintro e w1 ⟨A1, M1, c1, v1, rfl, hp1, hb1⟩
  have hv1 : v1 = .nilIface := by
    rcases hp1 with ⟨_, h, _⟩ | ⟨h, _⟩
    · exact h
    · rw [HOk.out] at h
      cases h
  subst hv1
  have c5 : w1.cell? ⟨w.heap.size, 5, none⟩ = some (.slice none 0 0) := (HK0.out.ext hb1).cell 5
  have HB1 := Lib.hid (HB0.out.trans (below_le HB0.out.size hb1))
  have HCn := Lib.hid (fun v => rpCon_any v)
  clear hb1 hp1 hld
  go_wp2_with (first | (go_at_call 182; go_loud (with_reducible refine (HCn.out _).mono ?_); rintro er w2 ⟨rfl, rfl⟩) | fail)
  go_ret
  exact ⟨rfl, HB1.out⟩
end Go.Proofs.YtkdlofgfkfhofaaGreatDoor

import Derived.Test.YtjodiieeocaipaaGreatDoorBase
import Derived.Test.YtjodiieeocaipaaGreatDoorCut
import Derived.LaidEql
import Derived.Stop.Asserts
import Derived.RowKitTokens
import Derived.Test.YtjodiieeocaipaaGreatDoorOpen
import Derived.Test.YtjodiieeocaipaaGreatDoorEWrap
/-
  errors.As at a refusal's number: what fault.Kind finds. (The '4' in a type's handle is how many package-level variables the translation has.)
-/
namespace Go.Proofs.YtjodiieeocaipaaGreatDoor
open Go.RowKit Go.Extern.Stop Go.Stop Go.Extern

/-- a type's handle -/
theorem handle_ptr : typeHandle Tryz.prog 70 = .pointer (some ⟨4, 70, none⟩) := by kernel_rfl
theorem as_nil (t : Value) (w : World) : Calls Tryz.prog 28 #[.nilIface, t] w fun e w' => e = .returned (.bool false) ∧ w' = w := by
  go_enter Tryz.func28, Tryz.ntmps28
  go_wp2
  go_ret
  exact ⟨rfl, rfl⟩

theorem valueOfP (t : Addr) (w : World) : (ReflectliteValue.unpack (.iface 70 (.pointer (some t)))).run Tryz.prog w
    = .ok (.agg #[.pointer (some ⟨4, 70, none⟩), .pointer (some ⟨w.heap.size, 0, none⟩), .int .u64 150]) (w.alloc (.cells #[.pointer (some t)] 70)) := by kernel_rfl
theorem typeP (a : Addr) (w : World) : (ReflectliteValue.methodAny (ReflectliteValue.valueError "reflectlite.Value.Type" 0) (fun t _ _ _ => ReflectliteType.toType t) #[.agg #[.pointer (some ⟨4, 70, none⟩), .pointer (some a), .int .u64 150]]).run Tryz.prog w
    = .ok (.iface 175 (.agg #[.pointer (some ⟨4, 70, none⟩)])) w := by kernel_rfl
theorem kindP (w : World) : ((ReflectliteType.abiMethod fun t => (fun a : Nat => Value.int IntKind.u8 (a : Int)) <$> Rtype.kind t) #[.pointer (some ⟨4, 70, none⟩)]).run Tryz.prog w = .ok (.int .u8 22) w := by kernel_rfl
theorem kindE (w : World) : ((ReflectliteType.abiMethod fun t => (fun a : Nat => Value.int IntKind.u8 (a : Int)) <$> Rtype.kind t) #[.pointer (some ⟨4, 36, none⟩)]).run Tryz.prog w = .ok (.int .u8 2) w := by kernel_rfl
theorem rlm (z : Sem Value) (f : TypeId → Addr → Nat → Nat → Sem Value) (v : Value) :
    ReflectliteValue.method z f #[v] = (do match ← ReflectliteValue.parts v with | none => z | some (t, a, fl) => f t a fl (fl % 32)) := rfl
theorem partsP (a : Addr) (w : World) : (ReflectliteValue.parts (.agg #[.pointer (some ⟨4, 70, none⟩), .pointer (some a), .int .u64 150])).run Tryz.prog w = .ok (some (70, a, 150)) w := by kernel_rfl
theorem isNilP (a p : Addr) (W : World) (ha : W.cell? a = some (.pointer (some p))) :
    (ReflectliteValue.method (ReflectliteValue.valueError "reflectlite.Value.IsNil" 0) ReflectliteValue.isNil #[.agg #[.pointer (some ⟨4, 70, none⟩), .pointer (some a), .int .u64 150]]).run Tryz.prog W = .ok (.bool false) W := by
  rw [rlm]
  simp only [Sem.run_bind, partsP, Result.andThen]
  simp [ReflectliteValue.isNil, loadVar, isAgg, underlying, Tryz.underlying70, ha, Result.andThen]
theorem elemP (w : World) : (ReflectliteType.method ReflectliteType.elem #[.agg #[.pointer (some ⟨4, 70, none⟩)]]).run Tryz.prog w = .ok (.iface 175 (.agg #[.pointer (some ⟨4, 36, none⟩)])) w := by kernel_rfl
theorem implementsE (w : World) : (ReflectliteType.relation "Implements" ReflectliteType.implements_ #[.agg #[.pointer (some ⟨4, 36, none⟩)], .iface 175 (.agg #[.pointer (some ⟨4, 27, none⟩)])]).run Tryz.prog w = .ok (.bool true) w := by kernel_rfl
theorem typeOfE (v : Value) (w : World) : (ReflectliteType.typeOf #[.iface 36 v]).run Tryz.prog w = .ok (.iface 175 (.agg #[.pointer (some ⟨4, 36, none⟩)])) w := by kernel_rfl
theorem typeOfF (v : Value) (w : World) : (ReflectliteType.typeOf #[.iface 113 v]).run Tryz.prog w = .ok (.iface 175 (.agg #[.pointer (some ⟨4, 113, none⟩)])) w := by kernel_rfl
theorem assignableE (w : World) : (ReflectliteType.relation "AssignableTo" ReflectliteType.assignableTo #[.agg #[.pointer (some ⟨4, 36, none⟩)], .iface 175 (.agg #[.pointer (some ⟨4, 36, none⟩)])]).run Tryz.prog w = .ok (.bool true) w := by kernel_rfl
theorem assignableF (w : World) : (ReflectliteType.relation "AssignableTo" ReflectliteType.assignableTo #[.agg #[.pointer (some ⟨4, 113, none⟩)], .iface 175 (.agg #[.pointer (some ⟨4, 36, none⟩)])]).run Tryz.prog w = .ok (.bool false) w := by kernel_rfl
theorem valueOfE (k : Int) (w : World) : (ReflectliteValue.unpack (.iface 36 (.int .i64 k))).run Tryz.prog w
    = .ok (.agg #[.pointer (some ⟨4, 36, none⟩), .pointer (some ⟨w.heap.size, 0, none⟩), .int .u64 130]) (w.alloc (.cells #[.int .i64 k] 36)) := by kernel_rfl
theorem elemOfP (w : World) : (Rtype.elem? 70).run Tryz.prog w = .ok (some 36) w := by kernel_rfl
theorem mkE (p : Addr) (w : World) : (ReflectliteValue.mk 36 p ReflectliteValue.flagAddr).run Tryz.prog w = .ok (.agg #[.pointer (some ⟨4, 36, none⟩), .pointer (some p), .int .u64 386]) w := by kernel_rfl
theorem elemV (a p : Addr) (W : World) (ha : W.cell? a = some (.pointer (some p))) :
    (ReflectliteValue.method (ReflectliteValue.valueError "reflectlite.Value.Elem" 0) ReflectliteValue.elem #[.agg #[.pointer (some ⟨4, 70, none⟩), .pointer (some a), .int .u64 150]]).run Tryz.prog W
      = .ok (.agg #[.pointer (some ⟨4, 36, none⟩), .pointer (some p), .int .u64 386]) W := by
  rw [rlm]
  simp only [Sem.run_bind, partsP, Result.andThen]
  simp [ReflectliteValue.elem, loadVar, isAgg, underlying, Tryz.underlying70, ha, Result.andThen, elemOfP, mkE]
theorem rls (v x : Value) : ReflectliteValue.set #[v, x] = (do
    let (some (dst, a, fl), some (src, b, _)) := (← ReflectliteValue.parts v, ← ReflectliteValue.parts x)
      | unsupported (.noEntry "extern/(internal/reflectlite.Value).Set.zeroValue")
    if fl / ReflectliteValue.flagAddr % 2 == 0 then unsupported (.noEntry "extern/(internal/reflectlite.Value).Set.unaddressable")
    let val ← loadVar src b
    if ← Rtype.directlyAssignable dst src then storeVar dst a val
    else if ← Rtype.implements dst src then
      if (← Rtype.kind src) == 20 then
        match val with
        | .nilIface => unsupported (.noEntry "extern/reflectlite: a nil value of one interface type handed on as a value of another")
        | _ => storeVar dst a val
      else storeVar dst a (.iface src val)
    else panicString ("reflectlite.Set: value of type " ++ (← Rtype.spelt src) ++ " is not assignable to type " ++ (← Rtype.spelt dst))
    pure (.tuple #[])) := rfl
theorem partsEa (a : Addr) (w : World) : (ReflectliteValue.parts (.agg #[.pointer (some ⟨4, 36, none⟩), .pointer (some a), .int .u64 386])).run Tryz.prog w = .ok (some (36, a, 386)) w := by kernel_rfl
theorem partsE (a : Addr) (w : World) : (ReflectliteValue.parts (.agg #[.pointer (some ⟨4, 36, none⟩), .pointer (some a), .int .u64 130])).run Tryz.prog w = .ok (some (36, a, 130)) w := by kernel_rfl
theorem directE (w : World) : (Rtype.directlyAssignable 36 36).run Tryz.prog w = .ok true w := by kernel_rfl
theorem setE (ta b : Addr) (k : Int) (old : Value) (W : World) (hb : W.cell? b = some (.int .i64 k)) (ht : W.cell? ta = some old) (hf : W.frozen? ta = false) :
    (ReflectliteValue.set #[.agg #[.pointer (some ⟨4, 36, none⟩), .pointer (some ta), .int .u64 386], .agg #[.pointer (some ⟨4, 36, none⟩), .pointer (some b), .int .u64 130]]).run Tryz.prog W
      = .ok (.tuple #[]) (W.setCell ta (.int .i64 k)) := by
  rw [rls]
  simp only [Sem.run_bind, partsEa, partsE, Result.andThen]
  simp [ReflectliteValue.flagAddr, loadVar, isAgg, underlying, Tryz.underlying36, hb, Result.andThen, directE, storeVar, Value.cells, storeCells, Addr.add]
  rw [run_store Tryz.prog W ta _ _ (by rfl)]
  simp [ht, hf]

theorem methKind (n : Nat) (h : Value) (w : World) : (Go.method (n + 1) 175 (.agg #[h]) "Kind").run Tryz.prog w = .ok (170, h) w := by kernel_rfl
theorem methElem (n : Nat) (h : Value) (w : World) : (Go.method (n + 1) 175 (.agg #[h]) "Elem").run Tryz.prog w = .ok (185, .agg #[h]) w := by kernel_rfl
theorem methImpl (n : Nat) (h : Value) (w : World) : (Go.method (n + 1) 175 (.agg #[h]) "Implements").run Tryz.prog w = .ok (186, .agg #[h]) w := by kernel_rfl
theorem methAssi (n : Nat) (h : Value) (w : World) : (Go.method (n + 1) 175 (.agg #[h]) "AssignableTo").run Tryz.prog w = .ok (183, .agg #[h]) w := by kernel_rfl
theorem methUnwr (n : Nat) (x y z : Value) (w : World) : (Go.method (n + 1) 113 (.agg #[x, y, z]) "Unwrap").run Tryz.prog w = .ok (178, .agg #[x, y, z]) w := by kernel_rfl
end Go.Proofs.YtjodiieeocaipaaGreatDoor

/-
  errors.As at a Fault that holds a refusal's number: the walk.
-/
namespace Go.Proofs.YtjodiieeocaipaaGreatDoor
open Go.RowKit Go.Extern.Stop Go.Stop Go.Extern

theorem hasAs (v : Value) (xT : TypeId) (w : World) : (Instr.typeAssert (.iface 113 v) xT 179 true).run Tryz.prog w = .ok (.tuple #[.nilIface, .bool false]) w :=
  run_typeAssert_lacksB Tryz.underlying179 (by kernel_rfl) (by kernel_rfl) v xT w
theorem hasUn (v : Value) (xT : TypeId) (w : World) : (Instr.typeAssert (.iface 113 v) xT 182 true).run Tryz.prog w = .ok (.tuple #[.iface 113 v, .bool true]) w :=
  run_typeAssert_hasB Tryz.underlying182 (by kernel_rfl) v xT w
set_option maxRecDepth 100000 in
set_option maxHeartbeats 4000000 in
theorem as_walk (op : ByteArray) (at_ k : Int) (t a : Addr) (old : Value) (w : World) (ha : w.cell? a = some (.pointer (some t))) (ht0 : w.cell? t = some old) (hf0 : w.frozen? t = false) :
    Calls Tryz.prog 58 #[.iface 113 (.agg #[.string op, .int .i64 at_, .iface 36 (.int .i64 k)]), .iface 70 (.pointer (some t)), .agg #[.pointer (some ⟨4, 70, none⟩), .pointer (some a), .int .u64 150],
      .iface 175 (.agg #[.pointer (some ⟨4, 36, none⟩)])] w fun e w' => e = .returned (.bool true) ∧ w'.cell? t = some (.int .i64 k) ∧ w.grownBy w' (some t.block) := by
  have h38 := @run_callFunc_extern Tryz.prog 55 _ (fun args => ReflectliteValue.unpack (args.getD 0 (.tuple #[]))) Tryz.func55 (by kernel_rfl) (by kernel_rfl) (by kernel_rfl) (by kernel_rfl)
  have h42 := @run_callFunc_extern Tryz.prog 59 _ ReflectliteType.typeOf Tryz.func59 (by kernel_rfl) (by kernel_rfl) (by kernel_rfl) (by kernel_rfl)
  have h84 := @run_callFunc_extern Tryz.prog 183 _ (ReflectliteType.relation "AssignableTo" ReflectliteType.assignableTo) Tryz.func183 (by kernel_rfl) (by kernel_rfl) (by kernel_rfl) (by kernel_rfl)
  have h49 := @run_callFunc_extern Tryz.prog 87 _ (ReflectliteValue.method (ReflectliteValue.valueError "reflectlite.Value.Elem" 0) ReflectliteValue.elem) Tryz.func87 (by kernel_rfl) (by kernel_rfl) (by kernel_rfl) (by kernel_rfl)
  have h50 := @run_callFunc_extern Tryz.prog 88 _ ReflectliteValue.set Tryz.func88 (by kernel_rfl) (by kernel_rfl) (by kernel_rfl) (by kernel_rfl)
  have tE := typeOfE
  have tF := typeOfF
  have mA := methAssi
  have aE := assignableE
  have aF := assignableF
  have vE := valueOfE
  have mU := methUnwr
  have hA := hasAs
  have hU := hasUn
  have hb1 := below_new w (.cells #[.pointer (some ⟨4, 70, none⟩), .pointer (some a), .int .u64 150] 122)
  have hb2 := hb1.trans (below_le hb1.size (below_new _ (.cells #[.string op, .int .i64 at_, .iface 36 (.int .i64 k)] 113)))
  have hb3 := hb2.trans (below_le hb2.size (below_new _ (.cells #[.int .i64 k] 36)))
  have eV := elemV a t _ ((hb2.cell (cell_lt ha)).trans ha)
  have sE := setE t ⟨w.heap.size + 1 + 1, 0, none⟩ k old _ (by rw [World.cell?_alloc_at _ _ _ _ (by simp)]; rfl) ((hb3.cell (cell_lt ht0)).trans ht0) ((hb3.frozen (cell_lt ht0)).trans hf0)
  have HB3 := Lib.hid hb3
  clear hb1 hb2 hb3
  go_enter Tryz.func58, Tryz.ntmps58
  go_wp2
  refine wp_loop_rounds 2 ?_
  rw [rounds_succ]
  go_wp2
  rw [rounds_succ]
  go_wp2
  go_ret
  exact ⟨rfl, World.cell?_setCell_same _ _ _ ((HB3.out.cell (cell_lt ht0)).trans ht0), ((grown_of_below HB3.out).but _).trans (grown_set _ _ _)⟩
end Go.Proofs.YtjodiieeocaipaaGreatDoor

/-
  errors.As at a Fault that holds a refusal's number: the walk.
-/
namespace Go.Proofs.YtjodiieeocaipaaGreatDoor
open Go.RowKit Go.Extern.Stop Go.Stop Go.Extern

set_option maxRecDepth 100000 in
set_option maxHeartbeats 4000000 in
theorem as_fault (op : ByteArray) (at_ k : Int) (t : Addr) (old : Value) (w : World) (hg : w.cell? ⟨0, 0, none⟩ = some (.iface 175 (.agg #[.pointer (some ⟨4, 27, none⟩)]))) (ht0 : w.cell? t = some old) (hf0 : w.frozen? t = false) :
    Calls Tryz.prog 28 #[.iface 113 (.agg #[.string op, .int .i64 at_, .iface 36 (.int .i64 k)]), .iface 70 (.pointer (some t))] w fun e w' => e = .returned (.bool true) ∧ w'.cell? t = some (.int .i64 k) ∧ w.grownBy w' (some t.block) := by
  have h38 := @run_callFunc_extern Tryz.prog 55 _ (fun args => ReflectliteValue.unpack (args.getD 0 (.tuple #[]))) Tryz.func55 (by kernel_rfl) (by kernel_rfl) (by kernel_rfl) (by kernel_rfl)
  have h39 := @run_callFunc_extern Tryz.prog 56 _ (ReflectliteValue.methodAny (ReflectliteValue.valueError "reflectlite.Value.Type" 0) (fun t _ _ _ => ReflectliteType.toType t)) Tryz.func56 (by kernel_rfl) (by kernel_rfl) (by kernel_rfl) (by kernel_rfl)
  have h40 := @run_callFunc_extern Tryz.prog 57 _ (ReflectliteValue.method (ReflectliteValue.valueError "reflectlite.Value.IsNil" 0) ReflectliteValue.isNil) Tryz.func57 (by kernel_rfl) (by kernel_rfl) (by kernel_rfl) (by kernel_rfl)
  have f38 := valueOfP
  have f39 := typeP
  have kP := kindP
  have kE := kindE
  have eP := elemP
  have iE := implementsE
  have mK := methKind
  have mE := methElem
  have mI := methImpl
  have h74 := @run_callFunc_extern Tryz.prog 170 _ (ReflectliteType.abiMethod fun t => do pure (.int .u8 (← Rtype.kind t))) Tryz.func170 (by kernel_rfl) (by kernel_rfl) (by kernel_rfl) (by kernel_rfl)
  have h86 := @run_callFunc_extern Tryz.prog 185 _ (ReflectliteType.method ReflectliteType.elem) Tryz.func185 (by kernel_rfl) (by kernel_rfl) (by kernel_rfl) (by kernel_rfl)
  have h87 := @run_callFunc_extern Tryz.prog 186 _ (ReflectliteType.relation "Implements" ReflectliteType.implements_) Tryz.func186 (by kernel_rfl) (by kernel_rfl) (by kernel_rfl) (by kernel_rfl)
  have n8 := isNilP ⟨w.heap.size, 0, none⟩ t ((w.alloc (.cells #[.pointer (some t)] 70)).alloc (.cells #[.pointer (some ⟨4, 70, none⟩), .pointer (some ⟨w.heap.size, 0, none⟩), .int .u64 150] 122)) (by simp)
  have hg2 : ((w.alloc (.cells #[.pointer (some t)] 70)).alloc (.cells #[.pointer (some ⟨4, 70, none⟩), .pointer (some ⟨w.heap.size, 0, none⟩), .int .u64 150] 122)).cell? ⟨0, 0, none⟩ = some (.iface 175 (.agg #[.pointer (some ⟨4, 27, none⟩)])) :=
    (((below_new w _).trans (below_le (below_new w _).size (below_new _ _))).cell (by
      rcases Nat.lt_or_ge 0 w.heap.size with h | h
      · exact h
      · simp [World.cell?, Array.getElem?_eq_none h] at hg)).trans hg
  go_enter Tryz.func28, Tryz.ntmps28
  go_wp2_with fail
  have hb1 := below_new w (.cells #[.pointer (some t)] 70)
  have hb2 := hb1.trans (below_le hb1.size (below_new _ (.cells #[.pointer (some ⟨4, 70, none⟩), .pointer (some ⟨w.heap.size, 0, none⟩), .int .u64 150] 122)))
  refine (as_walk op at_ k t ⟨w.heap.size, 0, none⟩ old _ ?_ ((hb2.cell (cell_lt ht0)).trans ht0) ((hb2.frozen (cell_lt ht0)).trans hf0)).mono ?_
  · simp
  · rintro e w3 ⟨rfl, hc3, hg3⟩
    go_wp2
    go_ret
    exact ⟨rfl, hc3, ((grown_of_below hb2).but _).trans hg3⟩
end Go.Proofs.YtjodiieeocaipaaGreatDoor

/-
  fault.Kind at nil and at a Fault that holds a refusal's number.
-/
namespace Go.Proofs.YtjodiieeocaipaaGreatDoor
open Go.RowKit Go.Extern.Stop Go.Stop Go.Extern

/-- errors' own variable holds what start-up lays -/
def ErrLaid (w : World) : Prop := w.cell? ⟨0, 0, none⟩ = some (.iface 175 (.agg #[.pointer (some ⟨4, 27, none⟩)]))
theorem ErrLaid.below {w w' : World} (h : ErrLaid w) (hb : Below w.heap.size w w') : ErrLaid w' := (hb.cell (cell_lt h)).trans h
/-- a Fault with a refusal's number -/
def faultV (op : ByteArray) (at_ k : Int) : Value := .iface 113 (.agg #[.string op, .int .i64 at_, .iface 36 (.int .i64 k)])

set_option maxRecDepth 100000 in
theorem kind_nil (w : World) : Calls Tryz.prog 13 #[.nilIface] w fun e w' => e = .returned (.int .i64 0) ∧ Below w.heap.size w w' := by
  have hb := below_new w (.cells #[.int .i64 0] 36)
  have he : ∀ w, (binOp .eql 27 .nilIface (.iface 36 (.int .i64 6))).run Tryz.prog w = .ok (.bool false) w := fun w => by kernel_rfl
  go_enter Tryz.func13, Tryz.ntmps13
  go_wp2_with (first | (go_at_call 28; refine (as_nil _ _).mono ?_; rintro e w1 ⟨rfl, rfl⟩) | go_in)
  go_ret
  exact ⟨rfl, hb⟩
set_option maxRecDepth 100000 in
set_option maxHeartbeats 1000000 in
theorem kind_fault (op : ByteArray) (at_ k : Int) (w : World) (hg : ErrLaid w) :
    Calls Tryz.prog 13 #[faultV op at_ k] w fun e w' => e = .returned (.int .i64 k) ∧ Below w.heap.size w w' := by
  have hb := below_new w (.cells #[.int .i64 0] 36)
  have hA := Lib.hid (as_fault op at_ k ⟨w.heap.size, 0, none⟩ (.int .i64 0) _ (hg.below hb) (by simp) (by simp))
  unfold faultV
  go_enter Tryz.func13, Tryz.ntmps13
  go_wp2_with (first | (go_at_call 28; refine hA.out.mono ?_; rintro e w1 ⟨rfl, hc1, hg1⟩) | go_in)
  go_ret
  exact ⟨rfl, below_grown hb hb.size hg1 (Nat.le_refl _)⟩
end Go.Proofs.YtjodiieeocaipaaGreatDoor

/-
  errors.As at a Fault in a Fault that holds a refusal's number: the walk.
-/
namespace Go.Proofs.YtjodiieeocaipaaGreatDoor
open Go.RowKit Go.Extern.Stop Go.Stop Go.Extern

set_option maxRecDepth 100000 in
set_option maxHeartbeats 4000000 in
theorem as_walk2 (op : ByteArray) (at_ : Int) (op2 : ByteArray) (at2 k : Int) (t a : Addr) (old : Value) (w : World) (ha : w.cell? a = some (.pointer (some t))) (ht0 : w.cell? t = some old) (hf0 : w.frozen? t = false) :
    Calls Tryz.prog 58 #[.iface 113 (.agg #[.string op, .int .i64 at_, .iface 113 (.agg #[.string op2, .int .i64 at2, .iface 36 (.int .i64 k)])]), .iface 70 (.pointer (some t)), .agg #[.pointer (some ⟨4, 70, none⟩), .pointer (some a), .int .u64 150],
      .iface 175 (.agg #[.pointer (some ⟨4, 36, none⟩)])] w fun e w' => e = .returned (.bool true) ∧ w'.cell? t = some (.int .i64 k) ∧ w.grownBy w' (some t.block) := by
  have h38 := @run_callFunc_extern Tryz.prog 55 _ (fun args => ReflectliteValue.unpack (args.getD 0 (.tuple #[]))) Tryz.func55 (by kernel_rfl) (by kernel_rfl) (by kernel_rfl) (by kernel_rfl)
  have h42 := @run_callFunc_extern Tryz.prog 59 _ ReflectliteType.typeOf Tryz.func59 (by kernel_rfl) (by kernel_rfl) (by kernel_rfl) (by kernel_rfl)
  have h84 := @run_callFunc_extern Tryz.prog 183 _ (ReflectliteType.relation "AssignableTo" ReflectliteType.assignableTo) Tryz.func183 (by kernel_rfl) (by kernel_rfl) (by kernel_rfl) (by kernel_rfl)
  have h49 := @run_callFunc_extern Tryz.prog 87 _ (ReflectliteValue.method (ReflectliteValue.valueError "reflectlite.Value.Elem" 0) ReflectliteValue.elem) Tryz.func87 (by kernel_rfl) (by kernel_rfl) (by kernel_rfl) (by kernel_rfl)
  have h50 := @run_callFunc_extern Tryz.prog 88 _ ReflectliteValue.set Tryz.func88 (by kernel_rfl) (by kernel_rfl) (by kernel_rfl) (by kernel_rfl)
  have tE := typeOfE
  have tF := typeOfF
  have mA := methAssi
  have aE := assignableE
  have aF := assignableF
  have vE := valueOfE
  have mU := methUnwr
  have hA := hasAs
  have hU := hasUn
  have hb1 := below_new w (.cells #[.pointer (some ⟨4, 70, none⟩), .pointer (some a), .int .u64 150] 122)
  have hb2 := hb1.trans (below_le hb1.size (below_new _ (.cells #[.string op, .int .i64 at_, .iface 113 (.agg #[.string op2, .int .i64 at2, .iface 36 (.int .i64 k)])] 113)))
  have hb2a := hb2.trans (below_le hb2.size (below_new _ (.cells #[.string op2, .int .i64 at2, .iface 36 (.int .i64 k)] 113)))
  have hb3 := hb2a.trans (below_le hb2a.size (below_new _ (.cells #[.int .i64 k] 36)))
  have eV := elemV a t _ ((hb2a.cell (cell_lt ha)).trans ha)
  have sE := setE t ⟨w.heap.size + 1 + 1 + 1, 0, none⟩ k old _ (by rw [World.cell?_alloc_at _ _ _ _ (by simp)]; rfl) ((hb3.cell (cell_lt ht0)).trans ht0) ((hb3.frozen (cell_lt ht0)).trans hf0)
  have HB3 := Lib.hid hb3
  clear hb1 hb2 hb2a hb3
  go_enter Tryz.func58, Tryz.ntmps58
  go_wp2
  refine wp_loop_rounds 3 ?_
  rw [rounds_succ]
  go_wp2
  rw [rounds_succ]
  go_wp2
  rw [rounds_succ]
  go_wp2
  go_ret
  exact ⟨rfl, World.cell?_setCell_same _ _ _ ((HB3.out.cell (cell_lt ht0)).trans ht0), ((grown_of_below HB3.out).but _).trans (grown_set _ _ _)⟩
end Go.Proofs.YtjodiieeocaipaaGreatDoor

/-
  fault.Kind at an error that holds a refusal's number, one or two Faults deep.
-/
namespace Go.Proofs.YtjodiieeocaipaaGreatDoor
open Go.RowKit Go.Extern.Stop Go.Stop Go.Extern

set_option maxRecDepth 100000 in
set_option maxHeartbeats 4000000 in
theorem as_gen (x : Value) (k : Int) (t : Addr) (old : Value)
    (hwalk : ∀ (a : Addr) (w : World), w.cell? a = some (.pointer (some t)) → w.cell? t = some old → w.frozen? t = false → Calls Tryz.prog 58 #[.iface 113 x, .iface 70 (.pointer (some t)), .agg #[.pointer (some ⟨4, 70, none⟩), .pointer (some a), .int .u64 150],
      .iface 175 (.agg #[.pointer (some ⟨4, 36, none⟩)])] w fun e w' => e = .returned (.bool true) ∧ w'.cell? t = some (.int .i64 k) ∧ w.grownBy w' (some t.block)) (w : World) (hg : w.cell? ⟨0, 0, none⟩ = some (.iface 175 (.agg #[.pointer (some ⟨4, 27, none⟩)]))) (ht0 : w.cell? t = some old) (hf0 : w.frozen? t = false) :
    Calls Tryz.prog 28 #[.iface 113 x, .iface 70 (.pointer (some t))] w fun e w' => e = .returned (.bool true) ∧ w'.cell? t = some (.int .i64 k) ∧ w.grownBy w' (some t.block) := by
  have Hwalk := Lib.hid hwalk
  clear hwalk
  have h38 := @run_callFunc_extern Tryz.prog 55 _ (fun args => ReflectliteValue.unpack (args.getD 0 (.tuple #[]))) Tryz.func55 (by kernel_rfl) (by kernel_rfl) (by kernel_rfl) (by kernel_rfl)
  have h39 := @run_callFunc_extern Tryz.prog 56 _ (ReflectliteValue.methodAny (ReflectliteValue.valueError "reflectlite.Value.Type" 0) (fun t _ _ _ => ReflectliteType.toType t)) Tryz.func56 (by kernel_rfl) (by kernel_rfl) (by kernel_rfl) (by kernel_rfl)
  have h40 := @run_callFunc_extern Tryz.prog 57 _ (ReflectliteValue.method (ReflectliteValue.valueError "reflectlite.Value.IsNil" 0) ReflectliteValue.isNil) Tryz.func57 (by kernel_rfl) (by kernel_rfl) (by kernel_rfl) (by kernel_rfl)
  have f38 := valueOfP
  have f39 := typeP
  have kP := kindP
  have kE := kindE
  have eP := elemP
  have iE := implementsE
  have mK := methKind
  have mE := methElem
  have mI := methImpl
  have h74 := @run_callFunc_extern Tryz.prog 170 _ (ReflectliteType.abiMethod fun t => do pure (.int .u8 (← Rtype.kind t))) Tryz.func170 (by kernel_rfl) (by kernel_rfl) (by kernel_rfl) (by kernel_rfl)
  have h86 := @run_callFunc_extern Tryz.prog 185 _ (ReflectliteType.method ReflectliteType.elem) Tryz.func185 (by kernel_rfl) (by kernel_rfl) (by kernel_rfl) (by kernel_rfl)
  have h87 := @run_callFunc_extern Tryz.prog 186 _ (ReflectliteType.relation "Implements" ReflectliteType.implements_) Tryz.func186 (by kernel_rfl) (by kernel_rfl) (by kernel_rfl) (by kernel_rfl)
  have n8 := isNilP ⟨w.heap.size, 0, none⟩ t ((w.alloc (.cells #[.pointer (some t)] 70)).alloc (.cells #[.pointer (some ⟨4, 70, none⟩), .pointer (some ⟨w.heap.size, 0, none⟩), .int .u64 150] 122)) (by simp)
  have hg2 : ((w.alloc (.cells #[.pointer (some t)] 70)).alloc (.cells #[.pointer (some ⟨4, 70, none⟩), .pointer (some ⟨w.heap.size, 0, none⟩), .int .u64 150] 122)).cell? ⟨0, 0, none⟩ = some (.iface 175 (.agg #[.pointer (some ⟨4, 27, none⟩)])) :=
    (((below_new w _).trans (below_le (below_new w _).size (below_new _ _))).cell (by
      rcases Nat.lt_or_ge 0 w.heap.size with h | h
      · exact h
      · simp [World.cell?, Array.getElem?_eq_none h] at hg)).trans hg
  go_enter Tryz.func28, Tryz.ntmps28
  go_wp2_with fail
  have hb1 := below_new w (.cells #[.pointer (some t)] 70)
  have hb2 := hb1.trans (below_le hb1.size (below_new _ (.cells #[.pointer (some ⟨4, 70, none⟩), .pointer (some ⟨w.heap.size, 0, none⟩), .int .u64 150] 122)))
  refine (Hwalk.out ⟨w.heap.size, 0, none⟩ _ ?_ ((hb2.cell (cell_lt ht0)).trans ht0) ((hb2.frozen (cell_lt ht0)).trans hf0)).mono ?_
  · simp
  · rintro e w3 ⟨rfl, hc3, hg3⟩
    go_wp2
    go_ret
    exact ⟨rfl, hc3, ((grown_of_below hb2).but _).trans hg3⟩
set_option maxRecDepth 100000 in
set_option maxHeartbeats 1000000 in
theorem kind_gen (x : Value) (k : Int) (hw : ∀ (t : Addr) (old : Value) (a : Addr) (w : World), w.cell? a = some (.pointer (some t)) → w.cell? t = some old → w.frozen? t = false → Calls Tryz.prog 58 #[.iface 113 x, .iface 70 (.pointer (some t)), .agg #[.pointer (some ⟨4, 70, none⟩), .pointer (some a), .int .u64 150],
      .iface 175 (.agg #[.pointer (some ⟨4, 36, none⟩)])] w fun e w' => e = .returned (.bool true) ∧ w'.cell? t = some (.int .i64 k) ∧ w.grownBy w' (some t.block)) (w : World) (hg : ErrLaid w) :
    Calls Tryz.prog 13 #[.iface 113 x] w fun e w' => e = .returned (.int .i64 k) ∧ Below w.heap.size w w' := by
  have hb := below_new w (.cells #[.int .i64 0] 36)
  have hA := Lib.hid (as_gen x k ⟨w.heap.size, 0, none⟩ (.int .i64 0) (hw _ _) _ (hg.below hb) (by simp) (by simp))
  clear hw
  go_enter Tryz.func13, Tryz.ntmps13
  go_wp2_with (first | (go_at_call 28; refine hA.out.mono ?_; rintro e w1 ⟨rfl, hc1, hg1⟩) | go_in)
  go_ret
  exact ⟨rfl, below_grown hb hb.size hg1 (Nat.le_refl _)⟩
theorem kind_err {d : Nat} {v : Value} {k : Int} (h : IsErr (d + 1) v k) (hd : d ≤ 1) (w : World) (hg : ErrLaid w) :
    Calls Tryz.prog 13 #[v] w fun e w' => e = .returned (.int .i64 k) ∧ Below w.heap.size w w' := by
  cases h with
  | flt _ op at_ v k h1 =>
    cases h1 with
    | no k => exact kind_gen _ k (fun t old a w ha h0 hf => as_walk op at_ k t a old w ha h0 hf) w hg
    | flt d2 op2 at2 v k h2 =>
      cases h2 with
      | no k => exact kind_gen _ k (fun t old a w ha h0 hf => as_walk2 op at_ op2 at2 k t a old w ha h0 hf) w hg
      | flt d3 op3 at3 v k h3 => omega
end Go.Proofs.YtjodiieeocaipaaGreatDoor

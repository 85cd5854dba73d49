/-
  Marks: a map keyed by (group, topic, partition): its key's law, and what the map reads as.
-/
import Derived.Test.YtjodiieeocaipaaGreatDoorBase
import Derived.ProofKit
import Derived.DeepKeys4
import Derived.Maps.OwnSet
import Derived.Maps.RangeWalk
namespace Go.Proofs.YtjodiieeocaipaaGreatDoor
open Go.RowKit Go.Maps

theorem laidOut_k : laidOutB Tryz.prog = true := by kernel_rfl
theorem wide_key : (match Tryz.prog.underlying 134 with | some (.array _ _) | some (.struct _) => true | _ => false) = true := by kernel_rfl
theorem row_key : (134 : TypeId) < Tryz.prog.types.size := of_decide_eq_true (by kernel_rfl)
set_option maxRecDepth 100000 in
theorem law_key : Keyed Tryz.prog 134 := Keyed.of_law (deep_law_laid laidOut_k (m := 3) (of_decide_eq_true rfl) row_key (by kernel_rfl) wide_key)
theorem keyType_key : Tryz.prog.keyType 134 = true := by kernel_rfl
theorem cells_key : Tryz.prog.cellsOf 134 = 3 := by kernel_rfl
theorem cells_str : Tryz.prog.cellsOf 9 = 1 := by kernel_rfl
theorem cells_int : Tryz.prog.cellsOf 3 = 1 := by kernel_rfl

/-- a mark's key as it reads -/
def mkey (a t : ByteArray) (p : Int) : Lit := .string (keyBytes [.string a.data.toList, .string t.data.toList, .int .i64 p])
/-- a mark's key as a value -/
def kval (a t : ByteArray) (p : Int) : Value := .agg #[.string a, .string t, .int .i64 p]
theorem key_is {a t : ByteArray} {p : Int} (ha : a.size ≤ maxLen) (ht : t.size ≤ maxLen) (hp : (Lit.int .i64 p).wf = true) : keyOf Tryz.prog 134 (kval a t p) = some (mkey a t p) := by
  unfold keyOf kval
  rw [keyType_key]
  have hu := Tryz.underlying134
  have hu3 := Tryz.underlying3
  have hu9 := Tryz.underlying9
  obtain ⟨m, hm⟩ : ∃ m, Tryz.prog.types.size = m + 1 := Nat.exists_eq_succ_of_ne_zero (Nat.ne_of_gt (Nat.lt_of_le_of_lt (Nat.zero_le _) row_key))
  rw [hm]
  simp [hu, Value.formed, cells_key, Value.cells, Program.keyLits, hu3, hu9, cells_str, cells_int, ha, ht, hp, mkey]
theorem mkey_inj {a t a' t' : ByteArray} {p p' : Int} (ha : a.size ≤ maxLen) (ht : t.size ≤ maxLen) (hp : (Lit.int .i64 p).wf = true) (ha' : a'.size ≤ maxLen) (ht' : t'.size ≤ maxLen) (hp' : (Lit.int .i64 p').wf = true)
    (h : mkey a t p = mkey a' t' p') : a = a' ∧ t = t' ∧ p = p' := by
  have h1 := key_is ha ht hp
  rw [h] at h1
  have e := law_key.inj h1 (key_is ha' ht' hp')
  simpa [kval] using e
end Go.Proofs.YtjodiieeocaipaaGreatDoor

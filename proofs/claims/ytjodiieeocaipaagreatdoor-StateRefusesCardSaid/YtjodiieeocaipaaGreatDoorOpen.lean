/-
  What the arguments of a law read as: bytes, numbers, texts; and the last step of a law's row, whatever its arguments: where the call returns true and leaves what was there, each argument reads as it did.
-/
import Derived.Test.YtjodiieeocaipaaGreatDoorBase
import Derived.ProofKit
import Derived.OpenShut
import Derived.ShutString
import Derived.ChangeOld
import Derived.Deep.Slices
namespace Go.Proofs.YtjodiieeocaipaaGreatDoor
open Go.ChangeShapes Go.WideShapes Go.ChangeAt Go.RowKit
open Go.ChangeMaps (open_string shut_string)

set_option maxRecDepth 100000 in
theorem own : ownKnob Tryz.prog.godebug = none := by kernel_rfl
set_option maxRecDepth 100000 in
theorem laidOut : laidOutB Tryz.prog = true := by kernel_rfl
set_option maxRecDepth 100000 in
theorem cells_byte : Tryz.prog.cellsOf 5 = 1 := by kernel_rfl

set_option maxRecDepth 100000 in
theorem cell_lt {w : World} {a : Addr} {v : Value} (h : w.cell? a = some v) : a.block < w.heap.size := by
  rcases Nat.lt_or_ge a.block w.heap.size with h' | h'
  · exact h'
  · simp [World.cell?, Array.getElem?_eq_none h'] at h
set_option maxRecDepth 100000 in
theorem wf_u8 {z : Int} (h : (Lit.int .u8 z).wf = true) : 0 ≤ z ∧ z ≤ 255 := by
  simp only [Lit.wf, Bool.and_eq_true, decide_eq_true_eq] at h
  exact ⟨h.1, h.2⟩
set_option maxRecDepth 100000 in
theorem wf_i64 {z : Int} (h : (Lit.int .i64 z).wf = true) : -9223372036854775808 ≤ z ∧ z ≤ 9223372036854775807 := by
  simp only [Lit.wf, Bool.and_eq_true, decide_eq_true_eq] at h
  exact ⟨h.1, h.2⟩
set_option maxRecDepth 100000 in
theorem wf_u32 {z : Int} (h : (Lit.int .u32 z).wf = true) : 0 ≤ z ∧ z ≤ 4294967295 := by
  simp only [Lit.wf, Bool.and_eq_true, decide_eq_true_eq] at h
  exact ⟨h.1, h.2⟩

section
variable {H : Type} {enc : TypeId × Value → H} {W : World} {base : Nat} {v : Value} {d : DataW H} {p : List MemPlace}
/-- what is known of an argument of type t -/
def Came (enc : TypeId × Value → H) (W : World) (base : Nat) (t : TypeId) (v : Value) (d : DataW H) (p : List MemPlace) : Prop :=
  Value.okWide Tryz.prog W .any base t v ∧ DataW.Trod enc Tryz.prog W 0 (fun _ => true) true t v d p

set_option maxRecDepth 100000 in
theorem bytes_of_row {a : Addr} {len cap : Nat} {zs : List Int} (hl : len ≤ cap) (hm : cap ≤ maxLen) (hz : zs.length = cap) (hcell : ∀ i, i < zs.length → W.cell? (a.add i) = some (.int .u8 (zs.getD i 0)))
    (hwz : ∀ n ∈ zs, (Lit.int .u8 n).wf = true) : RdB W (some a) len cap ((zs.take len).map fun z => UInt8.ofNat z.toNat) := by
  refine ⟨by rw [bvs_len]; simp; omega, hl, by unfold maxLen at hm; exact hm, fun k u hu => ?_⟩
  have hk : k < len := by
    have := (List.getElem?_eq_some_iff.1 hu).1
    rw [bvs_len] at this
    simp at this; omega
  have hc := hcell k (by omega)
  refine ⟨a, rfl, ?_, ?_⟩
  · have := cell_lt hc
    rwa [add_block] at this
  · have hkz : k < zs.length := by omega
    have hw := wf_u8 (hwz zs[k] (List.getElem_mem hkz))
    rw [hc, ← hu]
    simp only [List.getD_eq_getElem?_getD, Option.getD_some, bvs, List.map_map, List.getElem?_map, List.getElem?_take, if_pos hk, List.getElem?_eq_getElem hkz, Option.map_some]
    simp only [Function.comp, bv, w8, UInt8.toNat_ofNat']
    congr 2
    omega
set_option maxRecDepth 100000 in
theorem Came.bytes (h : Came enc W base 54 v d p) : ∃ A n c l, v = .slice A n c ∧ RdB W A n c l := by
  obtain ⟨A, n, c, rfl⟩ := okWide_slice Tryz.underlying54 h.1
  obtain ⟨fuel, hf⟩ := h.2
  rcases open_ints Tryz.underlying54 Tryz.underlying5 cells_byte hf with ⟨hcs, _⟩ | ⟨x, l, c', zs, hcs, _, hl, hm, hz, _, hcell, hwz⟩
  · simp [Value.cells] at hcs
    obtain ⟨rfl, rfl, rfl⟩ := hcs
    exact ⟨none, 0, 0, [], rfl, Rd.nil W _⟩
  · simp [Value.cells] at hcs
    obtain ⟨rfl, rfl, rfl⟩ := hcs
    exact ⟨_, _, _, _, rfl, bytes_of_row hl hm (by simpa using hz) hcell hwz⟩
/-- a slice of slices of bytes -/
def RdL (w : World) (A : Option Addr) (n c : Nat) (ls : List (List UInt8)) : Prop :=
  ls.length = n ∧ n ≤ c ∧ c ≤ 9223372036854775807 ∧ ∀ k l, ls[k]? = some l → ∃ ad A' n' c', A = some ad ∧ ad.block < w.heap.size ∧ w.cell? (ad.add k) = some (.slice A' n' c') ∧ RdB w A' n' c' l
set_option maxRecDepth 100000 in
theorem bytes_of_cell {fuel : Nat} {u : Value} {x : DataW H × List MemPlace} (h : DataW.trod enc Tryz.prog W 0 (fun _ => true) true fuel 54 [u] = some x) : ∃ A n c l, u = .slice A n c ∧ RdB W A n c l := by
  rcases open_ints Tryz.underlying54 Tryz.underlying5 cells_byte h with ⟨hcs, _⟩ | ⟨x, l, c', zs, hcs, _, hl, hm, hz, _, hcell, hwz⟩
  · injection hcs with h1 _
    exact ⟨none, 0, 0, [], h1, Rd.nil W _⟩
  · injection hcs with h1 _
    exact ⟨_, _, _, _, h1, bytes_of_row hl hm (by simpa using hz) hcell hwz⟩
set_option maxRecDepth 100000 in
theorem Came.int (h : Came enc W base 3 v d p) : ∃ z, v = .int .i64 z ∧ -9223372036854775808 ≤ z ∧ z ≤ 9223372036854775807 := by
  obtain ⟨z, rfl, _, _, hw⟩ := open_int Tryz.underlying3 h.1 h.2
  exact ⟨z, rfl, wf_i64 hw⟩
set_option maxRecDepth 100000 in
theorem Came.u32 (h : Came enc W base 228 v d p) : ∃ x, v = .int .u32 (w32 x) := by
  obtain ⟨z, rfl, _, _, hw⟩ := open_int Tryz.underlying228 h.1 h.2
  have hz := wf_u32 hw
  refine ⟨BitVec.ofNat 32 z.toNat, ?_⟩
  congr 1
  unfold w32
  rw [BitVec.toNat_ofNat]
  omega
set_option maxRecDepth 100000 in
theorem Came.u8 (h : Came enc W base 5 v d p) : ∃ x, v = .int .u8 (w8 x) := by
  obtain ⟨z, rfl, _, _, hw⟩ := open_int Tryz.underlying5 h.1 h.2
  have hz := wf_u8 hw
  refine ⟨UInt8.ofNat z.toNat, ?_⟩
  congr 1
  unfold w8
  rw [UInt8.toNat_ofNat']
  omega
set_option maxRecDepth 100000 in
theorem Came.lt {t : TypeId} (h : Came enc W base t v d p) : ∀ x ∈ p, x.block < W.heap.size := by obtain ⟨m, hm⟩ := h.2; exact DataW.trod_lt m _ _ _ hm
set_option maxRecDepth 100000 in
/-- behind the call: as it read -/
theorem Came.back {t : TypeId} {W' : World} (h : Came enc W base t v d p) (hb : Below W.heap.size W W') (hr : Tryz.prog.readableRec t = true) (hrow : t < Tryz.prog.types.size) :
    DataW.Trod enc Tryz.prog W' 0 (fun b => decide (b < W.heap.size)) true t v d p := Below.trod laidOut hr hrow h.2 hb h.lt
end
end Go.Proofs.YtjodiieeocaipaaGreatDoor

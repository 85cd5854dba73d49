/-
  A frame as data: its cells; a block that holds one; the walk of frame.Right, of the document's RightFrame.
-/
import Derived.Test.YtcggnphoekmoaaaCut
import Derived.Test.YtcggnphoekmoaaaOpen
import Derived.Laws.StructEq
import Derived.Deep.MidRow
namespace Go.Proofs.Ytcggnphoekmoaaa
open Go.RowKit

/-- what a frame is, as data -/
structure Frm where
  kind : Int
  slot : Int
  stripe : Int
  gen : Int
  data : List UInt8
/-- numbers that an int may be, and 108 bytes -/
structure Frm.ok (f : Frm) : Prop where
  k0 : -9223372036854775808 ≤ f.kind
  k1 : f.kind ≤ 9223372036854775807
  s0 : -9223372036854775808 ≤ f.slot
  s1 : f.slot ≤ 9223372036854775807
  t0 : -9223372036854775808 ≤ f.stripe
  t1 : f.stripe ≤ 9223372036854775807
  g0 : -9223372036854775808 ≤ f.gen
  g1 : f.gen ≤ 9223372036854775807
  len : f.data.length = 108
def Frm.cells (f : Frm) : Array Value := (.int .i64 f.kind :: .int .i64 f.slot :: .int .i64 f.stripe :: .int .i64 f.gen :: bvs f.data).toArray
theorem Frm.c0 (f : Frm) : f.cells[0]? = some (.int .i64 f.kind) := rfl
theorem Frm.c1 (f : Frm) : f.cells[1]? = some (.int .i64 f.slot) := rfl
theorem Frm.c2 (f : Frm) : f.cells[2]? = some (.int .i64 f.stripe) := rfl
theorem Frm.c3 (f : Frm) : f.cells[3]? = some (.int .i64 f.gen) := rfl
theorem Frm.size {f : Frm} (h : f.data.length = 108) : f.cells.size = 112 := by simp [Frm.cells, bvs, h]
/-- is n from lo to hi? -/
def inB (n lo hi : Int) : Bool := decide (lo ≤ n ∧ n ≤ hi)
theorem inB_yes {n lo hi : Int} (h : inB n lo hi = true) : lo ≤ n ∧ n ≤ hi := of_decide_eq_true h
theorem inB_no {n lo hi : Int} (h : inB n lo hi = false) : ¬ (lo ≤ n ∧ n ≤ hi) := of_decide_eq_false h
theorem inB_mk {n lo hi : Int} (h1 : lo ≤ n) (h2 : n ≤ hi) : inB n lo hi = true := decide_eq_true ⟨h1, h2⟩
def Frm.right (f : Frm) : Bool := inB f.kind 1 3 && (inB f.slot 0 7 && (inB f.stripe 0 63 && inB f.gen 0 1152921504606846976))

set_option maxRecDepth 100000 in
set_option maxHeartbeats 400000 in
theorem fwithin_yes (n lo hi : Int) (w : World) (h1 : lo ≤ n) (h2 : n ≤ hi) :
    Calls Try.prog 33 #[.int .i64 n, .int .i64 lo, .int .i64 hi] w fun e w' => e = .returned (.bool true) ∧ w = w' := by
  go_enter Try.func33, Try.ntmps33
  go_wp2
  go_ret
  exact ⟨rfl, rfl⟩
set_option maxRecDepth 100000 in
set_option maxHeartbeats 400000 in
theorem fwithin_no (n lo hi : Int) (w : World) (h : ¬ (lo ≤ n ∧ n ≤ hi)) :
    Calls Try.prog 33 #[.int .i64 n, .int .i64 lo, .int .i64 hi] w fun e w' => e = .returned (.bool false) ∧ w = w' := by
  by_cases h1 : lo ≤ n
  · have h2 : hi < n := by omega
    have h3 : ¬ n ≤ hi := by omega
    clear h
    go_enter Try.func33, Try.ntmps33
    go_wp2
    go_ret
    exact ⟨rfl, rfl⟩
  · have h2 : n < lo := by omega
    clear h
    go_enter Try.func33, Try.ntmps33
    go_wp2
    go_ret
    exact ⟨rfl, rfl⟩
theorem fwithin_any (n lo hi : Int) (w : World) :
    Calls Try.prog 33 #[.int .i64 n, .int .i64 lo, .int .i64 hi] w fun e w' => e = .returned (.bool (inB n lo hi)) ∧ w = w' := by
  cases h : inB n lo hi with
  | true => exact fwithin_yes n lo hi w (inB_yes h).1 (inB_yes h).2
  | false => exact fwithin_no n lo hi w (inB_no h)
theorem ret_bool2 {a b : Bool} (h : b = a) : Ending.returned (.bool a) = .returned (.bool b) := by rw [h]
attribute [local go_sem] Frm.c0 Frm.c1 Frm.c2 Frm.c3
set_option maxRecDepth 100000 in
set_option maxHeartbeats 1000000 in
theorem right_any (f : Frm) (w : World) : Calls Try.prog 21 #[.agg f.cells] w fun e w' => e = .returned (.bool f.right) ∧ Below w.heap.size w w' := by
  cases h1 : inB f.kind 1 3 <;> cases h2 : inB f.slot 0 7 <;> cases h3 : inB f.stripe 0 63 <;> cases h4 : inB f.gen 0 1152921504606846976
  all_goals
    go_enter Try.func21, Try.ntmps21
    go_wp2_with (go_at_call 33; (with_reducible refine (fwithin_any _ _ _ _).mono ?_); rintro e w' ⟨rfl, rfl⟩)
    go_ret
    exact ⟨ret_bool2 (by simp [Frm.right, h1, h2, h3, h4]), below_new _ _⟩
theorem right_iff (f : Frm) : f.right = true ↔ (1 ≤ f.kind ∧ f.kind ≤ 3) ∧ (0 ≤ f.slot ∧ f.slot ≤ 7) ∧ (0 ≤ f.stripe ∧ f.stripe ≤ 63) ∧ (0 ≤ f.gen ∧ f.gen ≤ 1152921504606846976) := by
  simp [Frm.right, inB]
theorem right_mk {f : Frm} (h : (1 ≤ f.kind ∧ f.kind ≤ 3) ∧ (0 ≤ f.slot ∧ f.slot ≤ 7) ∧ (0 ≤ f.stripe ∧ f.stripe ≤ 63) ∧ (0 ≤ f.gen ∧ f.gen ≤ 1152921504606846976)) : f.right = true := (right_iff f).2 h
theorem right_un {f : Frm} (h : ¬ ((1 ≤ f.kind ∧ f.kind ≤ 3) ∧ (0 ≤ f.slot ∧ f.slot ≤ 7) ∧ (0 ≤ f.stripe ∧ f.stripe ≤ 63) ∧ (0 ≤ f.gen ∧ f.gen ≤ 1152921504606846976))) : f.right = false := by
  rw [← right_iff] at h; simpa using h
set_option maxRecDepth 100000 in
set_option maxHeartbeats 1000000 in
theorem refRight_any (f : Frm) (w : World) : Calls Try.prog 22 #[.agg f.cells] w fun e w' => e = .returned (.bool f.right) ∧ Below w.heap.size w w' := by
  by_cases hg : f.gen ≤ 1152921504606846976
  · go_enter Try.func22, Try.ntmps22
    go_wp2
    all_goals
      go_ret
      exact ⟨ret_bool2 (by first | exact right_mk (by omega) | exact right_un (by omega)), below_new _ _⟩
  · have hg' : 1152921504606846976 < f.gen := by omega
    go_enter Try.func22, Try.ntmps22
    go_wp2
    all_goals
      go_ret
      exact ⟨ret_bool2 (right_un (by omega)), below_new _ _⟩
end Go.Proofs.Ytcggnphoekmoaaa

/-
  The walk of the law's own comparison of steps, where they are the same.
-/
import Derived.Test.YtcggnphoekmoaaaScript2
import Derived.Test.YtcggnphoekmoaaaScript3
namespace Go.Proofs.Ytcggnphoekmoaaa
open Go.RowKit
attribute [local go_sem] w8_nn w8_256 wrap_i64_w8 wrap64_w8

set_option maxRecDepth 100000 in
set_option maxHeartbeats 400000 in
theorem sameU64_same (A : Option Addr) (n c : Nat) (A' : Option Addr) (c' : Nat) (l : List Int) (w : World) (h : Rd w w.heap.size A n c (bitsV l)) (h' : Rd w w.heap.size A' n c' (bitsV l)) :
    Calls Try.prog 27 #[.slice A n c, .slice A' n c'] w fun e w' => e = .returned (.bool true) ∧ ∃ q, w' = w.drewN q := by
  have hn : n ≤ 9223372036854775807 := Nat.le_trans h.cap h.big
  have hl := Lib.hid h.len
  have t0 : ((n : Int) != (n : Int)) = false := by simp
  go_enter Try.func27, Try.ntmps27
  go_wp2
  go_loopw [5] (fun i wr => ∃ k q : Nat, k ≤ n ∧ i = .int .i64 k ∧ wr = w.drewN q) (fun i _ => n - (intOf i).toNat)
  case atStart => exact ⟨0, 0, Nat.zero_le _, rfl, rfl⟩
  case round =>
    obtain ⟨k, q, hk, rfl, rfl⟩ := hrel
    by_cases hlt : k < n
    · obtain ⟨x, hx⟩ : ∃ x : Int, (bitsV l)[k]? = some (.int .u64 x) := by
        have h1 : k < l.length := by have := hl.out; unfold bitsV at this; simp at this; omega
        exact ⟨l[k], by simp [bitsV, h1]⟩
      obtain ⟨ad, rfl, _, hc⟩ := h.cell k _ hx
      obtain ⟨ad', rfl, _, hc'⟩ := h'.cell k _ hx
      have hi : (k : Int) < n := by omega
      have hi0 : (0 : Int) ≤ (k : Int) := by omega
      clear h h' hx
      go_wp2
      go_quiet (fail)
      go_wp2
      go_roundw
      case rel => exact ⟨k + 1, q + nq, by omega, by go_num, rfl⟩
      case measure => simp [intOf]; omega
    · have hkn : k = n := by omega
      subst hkn
      go_wp2
      go_ret
      exact ⟨rfl, q, rfl⟩

/-- '.slice A n c' reads as the steps l -/
def RdS (w : World) (A : Option Addr) (n c : Nat) (l : List Stp) : Prop :=
  l.length = n ∧ n ≤ c ∧ c ≤ 9223372036854775807 ∧ ∀ k s, l[k]? = some s → ∃ (ad : Addr) (r : SRow), A = some ad ∧ ad.block < w.heap.size ∧ r.s = s ∧ Rd w w.heap.size r.bA r.bn r.bc (bitsV s.bits) ∧ RdB w r.yA r.yn r.yc s.bytes ∧
    ∀ j u, r.cells[j]? = some u → w.cell? (ad.add (k * 8 + j)) = some u
theorem RdS.ext {w w' : World} {A : Option Addr} {n c : Nat} {l : List Stp} (h : RdS w A n c l) (hb : Below w.heap.size w w') : RdS w' A n c l :=
  ⟨h.1, h.2.1, h.2.2.1, fun k s hs => by
    obtain ⟨ad, r, h1, h2, h3, h4, h5, h6⟩ := h.2.2.2 k s hs
    exact ⟨ad, r, h1, Nat.lt_of_lt_of_le h2 hb.size, h3, h4.ext hb, h5.ext hb, fun j u hu => (hb.cell (by rw [add_block]; exact h2)).trans (h6 j u hu)⟩⟩
theorem flat_get (rows : List SRow) : ∀ (k j : Nat) (r : SRow) (u : Value), rows[k]? = some r → r.cells[j]? = some u → (rows.flatMap SRow.cells)[k * 8 + j]? = some u := by
  induction rows with
  | nil => intro k j r u h _; simp at h
  | cons r0 rows ih =>
    intro k j r u h hu
    have h8 : r0.cells.length = 8 := rfl
    have hj : j < 8 := by
      have := (List.getElem?_eq_some_iff.1 hu).1
      have e : r.cells.length = 8 := rfl
      omega
    rw [List.flatMap_cons]
    cases k with
    | zero =>
      simp at h
      subst h
      rw [Nat.zero_mul, Nat.zero_add, List.getElem?_append_left (by omega)]
      exact hu
    | succ k =>
      rw [List.getElem?_append_right (by omega), h8, show (k + 1) * 8 + j - 8 = k * 8 + j by omega]
      exact ih k j r u (by simpa using h) hu
theorem OwnS.reads {w : World} {B : Nat} {A : Option Addr} {N c : Nat} {l : List Stp} (h : OwnS w B A N c l) : RdS w A N c l := by
  obtain ⟨rows, hmap, hown, hok⟩ := h
  have hl : (rows.flatMap SRow.cells).length = rows.length * 8 := by
    clear hown hok hmap
    induction rows with
    | nil => rfl
    | cons r rows ih => rw [List.flatMap_cons, List.length_append, ih]; show 8 + _ = _; simp; omega
  have hN : rows.length = N := by have := hown.1; rw [hl] at this; omega
  have hll : l.length = N := by rw [← hmap]; simpa using hN
  rcases hown.2 with ⟨hv, h0⟩ | ⟨g, cap, cur, hv, _, hg, h1, h2, h3, h4⟩
  · injection hv with e1 e2 e3
    subst e1 e2 e3
    obtain rfl : l = [] := List.eq_nil_of_length_eq_zero hll
    exact ⟨rfl, Nat.le_refl _, by omega, fun k s hs => by simp at hs⟩
  · injection hv with e1 e2 e3
    subst e1 e3
    refine ⟨hll, h1, by unfold maxLen at h2; exact h2, fun k s hs => ?_⟩
    rw [← hmap, List.getElem?_map] at hs
    obtain ⟨r, hr, rfl⟩ := Option.map_eq_some_iff.1 hs
    have hrm : r ∈ rows := List.mem_of_getElem? hr
    refine ⟨⟨g, 0, none⟩, r, rfl, (Array.getElem?_eq_some_iff.1 hg).1, rfl, (hok r hrm).bits, (hok r hrm).bytes, fun j u hu => ?_⟩
    exact World.ownsRow.cells hown rfl _ _ (flat_get rows k j r u hr hu)
end Go.Proofs.Ytcggnphoekmoaaa

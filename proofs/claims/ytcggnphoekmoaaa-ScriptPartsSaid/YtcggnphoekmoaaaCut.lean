/-
  A cut slice's place under one name: where the room ends at the cut the model keeps the old address, and the walk need not part on it.
-/
import Derived.Test.YtcggnphoekmoaaaBase
namespace Go.Proofs.Ytcggnphoekmoaaa
open Go.RowKit

/-- where 'x[l:]' begins: x at a, room m, elements of s cells -/
def pastA (a : Option Addr) (l m s : Nat) : Option Addr := if m = l then a else a.map (·.add (l * s))
theorem sliced_past (a : Option Addr) (l h m s : Nat) : sliced a l h m s = .slice (pastA a l m s) (h - l) (m - l) := rfl
theorem pastA_zero (a : Option Addr) (m s : Nat) : pastA a 0 m s = a := by
  unfold pastA
  split
  · rfl
  · cases a <;> simp [Addr.add]
theorem pastA_ne (a : Option Addr) (l m s : Nat) (h : m ≠ l) : pastA a l m s = a.map (·.add (l * s)) := if_neg h
theorem pastA_some (g off l m s : Nat) (h : m ≠ l) : pastA (some ⟨g, off, none⟩) l m s = some ⟨g, off + l * s, none⟩ := by
  rw [pastA_ne _ _ _ _ h]
  show some ((Addr.mk g off none).add (l * s)) = _
  rw [Addr.add_none]
theorem Rd.past {w : World} {B : Nat} {A : Option Addr} {n c : Nat} {xs : List Value} (h : Rd w B A n c xs) (k : Nat) (hk : k ≤ n) : Rd w B (pastA A k c 1) (n - k) (c - k) (xs.drop k) := by
  have hl := h.len
  have hc := h.cap
  have hb := h.big
  refine ⟨by rw [List.length_drop]; omega, by omega, by omega, fun j u hu => ?_⟩
  have hj := (List.getElem?_eq_some_iff.1 hu).1
  rw [List.length_drop] at hj
  obtain ⟨ad, e, hlt, hce⟩ := h.cell (k + j) u (by rw [← hu]; simp)
  refine ⟨ad.add k, ?_, by rw [add_block]; exact hlt, by rw [add_add']; exact hce⟩
  rw [pastA_ne _ _ _ _ (by omega), e, Nat.mul_one]
  rfl
theorem RdB.past' {w : World} {A : Option Addr} {n c : Nat} {l : List UInt8} (h : RdB w A n c l) (k : Nat) (hk : k ≤ n) : RdB w (pastA A k c 1) (n - k) (c - k) (l.drop k) := by
  have := Rd.past h k hk
  have e : (bvs l).drop k = bvs (l.drop k) := by simp [bvs, List.map_drop]
  rw [e] at this
  exact this
end Go.Proofs.Ytcggnphoekmoaaa

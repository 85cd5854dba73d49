/-
  What every step keeps, and the steps of bytes behind a step (for ScriptParts).
-/
import Derived.Test.YtcggnphoekmoaaaScript6
import Derived.Test.YtcggnphoekmoaaaCut
namespace Go.Proofs.Ytcggnphoekmoaaa
open Go.RowKit

/-- the bounds that every step keeps -/
structure Stp.good (s : Stp) : Prop where
  k1 : 1 ≤ s.kind
  k9 : s.kind ≤ 9
  c0 : 0 ≤ s.conn
  c4 : s.conn < 4
  n0 : 0 ≤ s.n
  n1 : s.n ≤ 255
  p0 : 0 ≤ s.place
  p1 : s.place ≤ 124
  y : s.bytes.length ≤ 255
theorem w8_lo (b : UInt8) : 0 ≤ w8 b := by unfold w8; omega
theorem w8_hi (b : UInt8) : w8 b ≤ 255 := by unfold w8; have := b.toNat_lt; omega
theorem stepOf_good (k n m o : UInt8) (r : List UInt8) : (stepOf k n m o r).1.good := by
  have hn := w8_lo n
  have hn' := w8_hi n
  have ho := w8_lo o
  have ho' := w8_hi o
  have hm := m.toNat_lt
  unfold stepOf
  split <;> constructor <;> simp only [List.length_nil, List.length_take] <;> omega
theorem steps_good (f : Nat) : ∀ (l : List UInt8), ∀ s ∈ steps f l, s.good := by
  induction f with
  | zero => intro l s h; cases h
  | succ f ih =>
    intro l s h
    match l, h with
    | [], h => cases h
    | [_], h => cases h
    | [_, _], h => cases h
    | [_, _, _], h => cases h
    | k :: n :: m :: o :: r, h =>
      rcases List.mem_cons.1 h with rfl | h
      · exact stepOf_good _ _ _ _ _
      · exact ih _ _ h
theorem stepsOf_good (l : List UInt8) : ∀ s ∈ stepsOf l, s.good := steps_good _ _
theorem stepsOf_arm (k : UInt8) (l : List UInt8) : stepsOf (4 :: k :: 9 :: 9 :: l) = ⟨5, 0, w8 k, 0, 0, 0#32, [], []⟩ :: stepsOf l := by
  rw [stepsOf_cons]; rfl
theorem stepsOf_three (l : List UInt8) (h : l.length ≤ 3) : stepsOf l = [] := by
  match l, h with
  | [], _ => rfl
  | [_], _ => rfl
  | [_, _], _ => rfl
  | [_, _, _], _ => rfl
  | _ :: _ :: _ :: _ :: _, h => simp at h
/-- the first so many of a slice of steps -/
theorem RdS.upto {w : World} {A : Option Addr} {n c : Nat} {l : List Stp} (h : RdS w A n c l) (m : Nat) (hm : m ≤ n) : RdS w A m c (l.take m) :=
  ⟨by rw [List.length_take, h.1]; omega, Nat.le_trans hm h.2.1, h.2.2.1, fun k s hk => by
    refine h.2.2.2 k s ?_
    rw [List.getElem?_take] at hk
    split at hk
    · exact hk
    · simp at hk⟩
/-- 'l[m:]' -/
theorem RdS.past {w : World} {A : Option Addr} {n c : Nat} {l : List Stp} (h : RdS w A n c l) (m : Nat) (hm : m ≤ n) : RdS w (pastA A m c 8) (n - m) (c - m) (l.drop m) := by
  obtain ⟨h1, h2, h3, h4⟩ := h
  refine ⟨by rw [List.length_drop]; omega, by omega, by omega, fun k s hk => ?_⟩
  have hlt := (List.getElem?_eq_some_iff.1 hk).1
  rw [List.length_drop] at hlt
  rw [List.getElem?_drop] at hk
  obtain ⟨ad, r, e, hb, hrs, hbi, hby, hc⟩ := h4 (m + k) s hk
  refine ⟨ad.add (m * 8), r, ?_, by rw [add_block]; exact hb, hrs, hbi, hby, fun j u hu => ?_⟩
  · rw [pastA_ne _ _ _ _ (by omega), e]
    rfl
  · rw [add_add', ← hc j u hu]
    congr 2
    omega
theorem tail_len {w w' : World} {A A' : Option Addr} {n n' c c' : Nat} {x : Stp} {l : List Stp} (h : RdS w A (n + 1) c (x :: l)) (h' : RdS w' A' n' c' l) : n = n' := by
  have h1 := h.1
  have h2 := h'.1
  rw [List.length_cons] at h1
  omega
end Go.Proofs.Ytcggnphoekmoaaa

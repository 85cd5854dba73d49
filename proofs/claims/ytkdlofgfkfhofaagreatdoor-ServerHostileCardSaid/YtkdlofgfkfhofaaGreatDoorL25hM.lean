/-
  stavelaw25: ServerHostile, the plain law.
-/
import Derived.Test.YtkdlofgfkfhofaaGreatDoorP42
namespace Go.Proofs.YtkdlofgfkfhofaaGreatDoor
open Go.RowKit Go.Maps

/-- a listing whose version is some byte -/
def hoX (v : UInt8) : List UInt8 := [v, 6, 5, 0, 0, 0]
theorem hoX_one : putA (askL 5) = hoX 1 := by decide
theorem w8_one {v : UInt8} (h : w8 v = 1) : v = 1 := by
  have h1 : v.toNat = 1 := by
    have h2 : (v.toNat : Int) = 1 := h
    omega
  exact UInt8.toNat_inj.1 h1
theorem hoX_get (v : UInt8) : getA (hoX v) = if w8 v = 1 then .ok (askL 5) else .error (5, 14) := by
  by_cases h : w8 v = 1
  · rw [if_pos h, w8_one h, ← hoX_one]
    exact getA_put (askL_right (by omega) (by omega))
  · rw [if_neg h]
    show getA6 v 6 5 0 0 0 [] = _
    unfold getA6
    rw [if_neg h]
    rfl
theorem hoX_ev (v : UInt8) : evR (.frame (hoX v)) = (5, if w8 v = 1 then 0 else 14) := by
  show (match getA (hoX v) with | .error k => k | .ok a => (a.corr, servE a.kind)) = _
  rw [hoX_get]
  by_cases h : w8 v = 1
  · rw [if_pos h, if_pos h]
    rfl
  · rw [if_neg h, if_neg h]
theorem hoX_rd (v : UInt8) : Rd1 (.frame (hoX v)) := by
  intro X a h1 h2
  injection h1 with h1
  subst h1
  rw [hoX_get] at h2
  by_cases h : w8 v = 1
  · rw [if_pos h] at h2
    injection h2 with h2
    subst h2
    rfl
  · rw [if_neg h] at h2
    cases h2
/-- what is sent behind the first frame -/
def hoT (m : Nat) (v : UInt8) : List UInt8 := frU (List.replicate m 0) ++ frU (hoX v)
theorem hoT_len (m : Nat) (v : UInt8) : (hoT m v).length = m + 10 := by
  unfold hoT
  rw [List.length_append, frU_len, frU_len, List.length_replicate]
  show 2 + m + (2 + 6) = _
  omega
theorem frame_all (n : Nat) (X r : List UInt8) (h : X.length ≤ 1024) (hn : (frU X).length + r.length ≤ n) : allM n (frU X ++ r) 0 = [.frame X] ++ allM n r 0 := by
  rw [frU_len] at hn
  cases n with
  | zero => omega
  | succ n =>
    rw [all_fr n X r h, all_fuel n (n + 1) (by omega) (by omega)]
    rfl
theorem fed_frame (X : List UInt8) (h : X.length ≤ 1024) : Fed (frU X) [.frame X] [] 0 := by
  refine ⟨fun n x hx => ?_, ?_, by omega⟩
  · exact frame_all n X x h hx
  · rw [frU_len]
    simp
theorem ho_all {m : Nat} (v : UInt8) (X : List UInt8) (hX : X.length ≤ 60) (h1 : 1024 < m) (h2 : m ≤ 2000) : allM 5000 (frU X ++ hoT m v) 0 = [.frame X] ++ [.big, .frame (hoX v)] := by
  have hl : (List.replicate m (0 : UInt8)).length = m := List.length_replicate
  rw [frame_all 5000 X _ (by omega) (by rw [frU_len, hoT_len]; omega)]
  unfold hoT
  rw [all_big 4999 _ _ (by omega) (by omega)]
  have h := frame_all 4999 (hoX v) [] (by show 6 ≤ 1024; omega) (by rw [frU_len]; show 2 + 6 + 0 ≤ 4999; omega)
  rw [List.append_nil, all_nil, List.append_nil] at h
  rw [h]
end Go.Proofs.YtkdlofgfkfhofaaGreatDoor

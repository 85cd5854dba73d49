/-
  May a text be a name: the walk of the package's Name.
-/
import Derived.Test.YtjodiieeocaipaaGreatDoorGrpMap
import Derived.Test.YtjodiieeocaipaaGreatDoorShelf
import Derived.Lib.SlTrimSet
namespace Go.Proofs.YtjodiieeocaipaaGreatDoor
open Go.RowKit

/-- the bytes that may stand in a name -/
def LET : List UInt8 := [97, 98, 99, 100, 101, 102, 103, 104, 105, 106, 107, 108, 109, 110, 111, 112, 113, 114, 115, 116, 117, 118, 119, 120, 121, 122, 48, 49, 50, 51, 52, 53, 54, 55, 56, 57, 45, 46]
def isLet (x : UInt8) : Bool := LET.contains x
/-- may it be a name -/
def nameOk (s : ByteArray) : Bool := decide (0 < s.size) && decide (s.size ≤ 24) && s.data.toList.all isLet

theorem trim_any (s : ByteArray) (hs : s.size ≤ 9223372036854775807) (w : World) :
    Calls Tryz.prog 77 #[.string s, .string ⟨#[97, 98, 99, 100, 101, 102, 103, 104, 105, 106, 107, 108, 109, 110, 111, 112, 113, 114, 115, 116, 117, 118, 119, 120, 121, 122, 48, 49, 50, 51, 52, 53, 54, 55, 56, 57, 45, 46]⟩] w
      fun e w' => e = .returned (.string ⟨(Lib.trimS s.data.toList LET).toArray⟩) ∧ Below w.heap.size w w' :=
  Any.strings_Trim_laid Tryz.lays160 (by kernel_rfl) s ⟨#[97, 98, 99, 100, 101, 102, 103, 104, 105, 106, 107, 108, 109, 110, 111, 112, 113, 114, 115, 116, 117, 118, 119, 120, 121, 122, 48, 49, 50, 51, 52, 53, 54, 55, 56, 57, 45, 46]⟩ w hs (by decide) (ascii_of_all (by decide))

theorem dropWhile_nil (p : UInt8 → Bool) : ∀ m : List UInt8, (m.dropWhile p = []) ↔ m.all p = true
  | [] => by simp
  | x :: m => by
    by_cases h : p x = true
    · rw [List.dropWhile_cons_of_pos h, dropWhile_nil p m, List.all_cons, h, Bool.true_and]
    · rw [List.dropWhile_cons_of_neg h, List.all_cons]; simp [h]
theorem dropWhile_head (p : UInt8 → Bool) : ∀ (m : List UInt8) (x : UInt8) (r : List UInt8), m.dropWhile p = x :: r → p x = false
  | [], x, r, h => by cases h
  | y :: m, x, r, h => by
    by_cases hy : p y = true
    · rw [List.dropWhile_cons_of_pos hy] at h; exact dropWhile_head p m x r h
    · rw [List.dropWhile_cons_of_neg hy] at h; injection h with h1 _; subst h1; simpa using hy
theorem trimS_nil (l : List UInt8) : (Lib.trimS l LET).isEmpty = l.all isLet := by
  apply Bool.eq_iff_iff.2
  rw [List.isEmpty_iff]
  unfold Lib.trimS Lib.trimLeftS Lib.trimRightS
  rw [dropWhile_nil, show (fun x => LET.contains x) = isLet from rfl, List.all_reverse]
  constructor
  · intro h
    have h2 : l.reverse.dropWhile isLet = [] := by
      cases hd : l.reverse.dropWhile isLet with
      | nil => rfl
      | cons x m =>
        have h3 := dropWhile_head isLet _ _ _ hd
        rw [hd, List.all_cons, h3] at h
        cases h
    rw [dropWhile_nil, List.all_reverse] at h2
    exact h2
  · intro h
    have h2 : l.reverse.dropWhile isLet = [] := by rw [dropWhile_nil, List.all_reverse]; exact h
    rw [h2]; rfl

set_option maxRecDepth 100000 in
theorem name_any (s : ByteArray) (hs : s.size ≤ 9223372036854775807) (w : World) :
    Calls Tryz.prog 47 #[.string s] w fun e w' => e = .returned (.bool (nameOk s)) ∧ Below w.heap.size w w' := by
  have hb0 := Below.refl w.heap.size w
  by_cases h0 : s.size = 0
  · obtain rfl : s = ⟨#[]⟩ := by
      rw [← Lib.mk_data s]
      have : s.data.toList = [] := List.eq_nil_of_length_eq_zero (by rw [← Lib.size_eq]; exact h0)
      rw [this]
    go_enter Tryz.func47, Tryz.ntmps47
    go_wp2
    go_ret
    exact ⟨rfl, hb0⟩
  · have hne : s.data.toList ≠ [] := fun h => h0 (by rw [Lib.size_eq, h]; rfl)
    have hne' : s.toList ≠ [] := by rw [Lib.toList_data]; exact hne
    by_cases h24 : (s.size : Int) ≤ 24
    · have HT := Lib.hid (trim_any s hs w)
      go_enter Tryz.func47, Tryz.ntmps47
      go_wp2_with (first | (go_at_call 77; refine HT.out.mono ?_; rintro e w1 ⟨rfl, hb1⟩) | fail)
      go_ret
      refine ⟨ret_bool ?_, hb1⟩
      have hp : 0 < s.size := by omega
      have h24' : s.size ≤ 24 := by omega
      have he : s.toList.isEmpty = false := by
        cases hl : s.toList with
        | nil => exact absurd hl hne'
        | cons x m => rfl
      rw [trimS_nil, he]
      simp [nameOk, hp, h24']
    · go_enter Tryz.func47, Tryz.ntmps47
      go_wp2
      go_ret
      refine ⟨?_, hb0⟩
      have : ¬ (s.size ≤ 24) := by omega
      simp [nameOk, this]
end Go.Proofs.YtjodiieeocaipaaGreatDoor

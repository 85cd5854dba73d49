/-
  May a text be a name: the document's own loop.
-/
import Derived.Test.YtgigibkadbnplaaDoorGrpStand
namespace Go.Proofs.YtgigibkadbnplaaDoor
open Go.RowKit
attribute [local go_sem] w8_nn w8_256 wrap_i64_w8 wrap64_w8

/-- which byte may stand, by its number -/
def mayI (v : Int) : Bool := (decide (97 ≤ v) && decide (v ≤ 122)) || (decide (48 ≤ v) && decide (v ≤ 57)) || v == 45 || v == 46
theorem mayI_is : ∀ n : Fin 256, mayI (n.val : Int) = isLet (UInt8.ofNat n.val) := by decide +kernel
theorem mayI_of (x : UInt8) : mayI (w8 x) = isLet x := by
  have h := mayI_is ⟨x.toNat, x.toNat_lt⟩
  rw [UInt8.ofNat_toNat] at h
  exact h
theorem mayI_cases (v : Int) (h0 : 0 ≤ v) : (97 ≤ v ∧ v ≤ 122 ∧ mayI v = true) ∨ (97 ≤ v ∧ ¬ v ≤ 122 ∧ mayI v = false) ∨ (¬ 97 ≤ v ∧ 48 ≤ v ∧ v ≤ 57 ∧ mayI v = true) ∨ (¬ 97 ≤ v ∧ 48 ≤ v ∧ ¬ v ≤ 57 ∧ mayI v = false)
    ∨ (¬ 97 ≤ v ∧ ¬ 48 ≤ v ∧ v = 45 ∧ mayI v = true) ∨ (¬ 97 ≤ v ∧ ¬ 48 ≤ v ∧ v = 46 ∧ mayI v = true) ∨ (¬ 97 ≤ v ∧ ¬ 48 ≤ v ∧ ¬ v = 45 ∧ ¬ v = 46 ∧ mayI v = false) := by
  unfold mayI
  by_cases h1 : 97 ≤ v
  · by_cases h2 : v ≤ 122
    · exact .inl ⟨h1, h2, by simp [h1, h2]⟩
    · exact .inr (.inl ⟨h1, h2, by
        have e1 : ¬ v ≤ 57 := by omega
        have e2 : ¬ v = 45 := by omega
        have e3 : ¬ v = 46 := by omega
        simp [h1, h2, e1, e2, e3]⟩)
  · by_cases h3 : 48 ≤ v
    · by_cases h4 : v ≤ 57
      · exact .inr (.inr (.inl ⟨h1, h3, h4, by simp [h3, h4]⟩))
      · exact .inr (.inr (.inr (.inl ⟨h1, h3, h4, by
          have e2 : ¬ v = 45 := by omega
          have e3 : ¬ v = 46 := by omega
          simp [h1, h4, e2, e3]⟩)))
    · by_cases h5 : v = 45
      · exact .inr (.inr (.inr (.inr (.inl ⟨h1, h3, h5, by simp [h5]⟩))))
      · by_cases h6 : v = 46
        · exact .inr (.inr (.inr (.inr (.inr (.inl ⟨h1, h3, h6, by simp [h6]⟩)))))
        · exact .inr (.inr (.inr (.inr (.inr (.inr ⟨h1, h3, h5, h6, by simp [h1, h3, h5, h6]⟩)))))

set_option maxRecDepth 100000 in
set_option maxHeartbeats 2000000 in
theorem refName_any (s : ByteArray) (hs : s.size ≤ 9223372036854775807) (w : World) :
    Calls Tryd.prog 17 #[.string s] w fun e w' => e = .returned (.bool (nameOk s)) ∧ w' = w := by
  go_enter Tryd.func17, Tryd.ntmps17
  go_wp2
  go_loop [3] (fun i => ∃ k : Nat, k ≤ s.size ∧ i = .int .i64 k ∧ (s.data.toList.take k).all isLet = true) (fun i => s.size - (intOf i).toNat)
  case atStart => exact ⟨0, Nat.zero_le _, rfl, rfl⟩
  case round =>
    obtain ⟨k, hk, rfl, hall⟩ := hrel
    by_cases hlt : k < s.size
    · have hi : (k : Int) < s.size := by omega
      obtain ⟨y, hy⟩ : ∃ y, s[k]'hlt = y := ⟨_, rfl⟩
      have hyl : s.data.toList[k]? = some y := by rw [← hy]; exact Lib.data_getElem? s k hlt
      have hw := mayI_of y
      have hya : ((s.data.toList.take (k + 1)).all isLet) = isLet y := by
        rw [List.take_add_one, List.all_append, hall, hyl]; simp
      have hc := mayI_cases (w8 y) (w8_lt y).1
      have hu : ((y.toNat : Int)) = w8 y := rfl
      have hfull : isLet y = false → nameOk s = false := fun h => by
        unfold nameOk
        have : s.data.toList.all isLet = false := by
          rw [List.all_eq_false]
          exact ⟨y, List.mem_of_getElem? hyl, by rw [h]; decide⟩
        rw [this, Bool.and_false]
      have HF := Lib.hid hfull
      have HYA := Lib.hid hya
      have HW := Lib.hid hw
      clear hya hw hyl hall hfull
      generalize w8 y = v at hc hu HW
      rcases hc with ⟨h1, h2, h3⟩ | ⟨h1, h2, h3⟩ | ⟨h1, h2, h3, h4⟩ | ⟨h1, h2, h3, h4⟩ | ⟨h1, h2, h3, h4⟩ | ⟨h1, h2, h3, h4⟩ | ⟨h1, h2, h3, h4, h5⟩
      · have hT := Lib.hid (by rw [HYA.out, ← HW.out, h3] : (s.data.toList.take (k + 1)).all isLet = true)
        clear h3
        go_wp2
        go_round
        case rel => exact ⟨k + 1, by omega, by go_num, hT.out⟩
        case measure => simp [intOf]; omega
      · have hF := Lib.hid (HF.out (by rw [← HW.out, h3]))
        have hq1 : (48 : Int) ≤ v := by omega
        have hq2 : ¬ (v ≤ 57) := by omega
        have b5 : (v == 45) = false := by rw [beq_eq_false_iff_ne]; omega
        have b6 : (v == 46) = false := by rw [beq_eq_false_iff_ne]; omega
        clear h3
        go_wp2
        go_ret
        exact ⟨ret_bool hF.out.symm, rfl⟩
      · have hT := Lib.hid (by rw [HYA.out, ← HW.out, h4] : (s.data.toList.take (k + 1)).all isLet = true)
        clear h4
        go_wp2
        go_round
        case rel => exact ⟨k + 1, by omega, by go_num, hT.out⟩
        case measure => simp [intOf]; omega
      · have hF := Lib.hid (HF.out (by rw [← HW.out, h4]))
        have b5 : (v == 45) = false := by rw [beq_eq_false_iff_ne]; omega
        have b6 : (v == 46) = false := by rw [beq_eq_false_iff_ne]; omega
        clear h4
        go_wp2
        go_ret
        exact ⟨ret_bool hF.out.symm, rfl⟩
      · have hT := Lib.hid (by rw [HYA.out, ← HW.out, h4] : (s.data.toList.take (k + 1)).all isLet = true)
        have b5 : (v == 45) = true := by rw [beq_iff_eq]; omega
        clear h4
        go_wp2
        go_round
        case rel => exact ⟨k + 1, by omega, by go_num, hT.out⟩
        case measure => simp [intOf]; omega
      · have hT := Lib.hid (by rw [HYA.out, ← HW.out, h4] : (s.data.toList.take (k + 1)).all isLet = true)
        have b5 : (v == 45) = false := by rw [beq_eq_false_iff_ne]; omega
        have b6 : (v == 46) = true := by rw [beq_iff_eq]; omega
        clear h4
        go_wp2
        go_round
        case rel => exact ⟨k + 1, by omega, by go_num, hT.out⟩
        case measure => simp [intOf]; omega
      · have hF := Lib.hid (HF.out (by rw [← HW.out, h5]))
        have b5 : (v == 45) = false := by rw [beq_eq_false_iff_ne]; omega
        have b6 : (v == 46) = false := by rw [beq_eq_false_iff_ne]; omega
        clear h5
        go_wp2
        go_ret
        exact ⟨ret_bool hF.out.symm, rfl⟩
    · obtain rfl : k = s.size := by omega
      have hsa : s.data.toList.all isLet = true := by
        rw [List.take_of_length_le (by rw [← Lib.size_eq]; exact Nat.le_refl _)] at hall
        exact hall
      have HA := Lib.hid hsa
      clear hall hsa
      by_cases h1 : 1 ≤ s.size
      · have h1i : (1 : Int) ≤ s.size := by omega
        by_cases h2 : s.size ≤ 24
        · have h2i : (s.size : Int) ≤ 24 := by omega
          go_wp2
          go_ret
          exact ⟨ret_bool (by have h0 : 0 < s.size := h1; simp [nameOk, HA.out, h0, h2]), rfl⟩
        · have h2i : ¬ ((s.size : Int) ≤ 24) := by omega
          go_wp2
          go_ret
          exact ⟨ret_bool (by simp [nameOk, h2]), rfl⟩
      · have h1i : ¬ ((1 : Int) ≤ s.size) := by omega
        go_wp2
        go_ret
        exact ⟨ret_bool (by have h0 : ¬ 0 < s.size := h1; simp [nameOk, h0]), rfl⟩
end Go.Proofs.YtgigibkadbnplaaDoor

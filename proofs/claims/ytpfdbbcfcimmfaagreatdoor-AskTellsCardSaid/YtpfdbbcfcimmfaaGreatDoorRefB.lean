import Derived.Test.YtpfdbbcfcimmfaaGreatDoorEName
import Derived.Test.YtpfdbbcfcimmfaaGreatDoorRefA
import Derived.Test.YtpfdbbcfcimmfaaGreatDoorEFld
import Derived.Deep.RegionHeld3
import Derived.Test.YtpfdbbcfcimmfaaGreatDoorEVal
import Derived.Test.YtpfdbbcfcimmfaaGreatDoorEMades
import Derived.Test.YtpfdbbcfcimmfaaGreatDoorEFew
/-
  May a text be a name: the document's own loop.
-/
namespace Go.Proofs.YtpfdbbcfcimmfaaGreatDoor
open Go.RowKit
attribute [local go_sem] w8_nn w8_256 wrap_i64_w8 wrap64_w8

/-- which byte may stand, by its number -/
def mayI (v : Int) : Bool := (decide (97 ≤ v) && decide (v ≤ 122)) || (decide (48 ≤ v) && decide (v ≤ 57)) || v == 45 || v == 46
theorem mayI_is : ∀ n : Fin 256, mayI (n.val : Int) = isLet (UInt8.ofNat n.val) := by decide +kernel
theorem mayI_of (x : UInt8) : mayI (w8 x) = isLet x := by
  have h := mayI_is ⟨x.toNat, x.toNat_lt⟩
  rw [UInt8.ofNat_toNat] at h
  exact h
theorem mayI_cases (v : Int) (h0 : 0 ≤ v) : (97 ≤ v ∧ v ≤ 122 ∧ mayI v = true) ∨ (97 ≤ v ∧ ¬ v ≤ 122 ∧ mayI v = false) ∨ (¬ 97 ≤ v ∧ 48 ≤ v ∧ v ≤ 57 ∧ mayI v = true) ∨ (¬ 97 ≤ v ∧ 48 ≤ v ∧ ¬ v ≤ 57 ∧ mayI v = false)
    ∨ (¬ 97 ≤ v ∧ ¬ 48 ≤ v ∧ v = 45 ∧ mayI v = true) ∨ (¬ 97 ≤ v ∧ ¬ 48 ≤ v ∧ v = 46 ∧ mayI v = true) ∨ (¬ 97 ≤ v ∧ ¬ 48 ≤ v ∧ ¬ v = 45 ∧ ¬ v = 46 ∧ mayI v = false) := by
  unfold mayI
  by_cases h1 : 97 ≤ v
  · by_cases h2 : v ≤ 122
    · exact .inl ⟨h1, h2, by simp [h1, h2]⟩
    · exact .inr (.inl ⟨h1, h2, by
        have e1 : ¬ v ≤ 57 := by omega
        have e2 : ¬ v = 45 := by omega
        have e3 : ¬ v = 46 := by omega
        simp [h1, h2, e1, e2, e3]⟩)
  · by_cases h3 : 48 ≤ v
    · by_cases h4 : v ≤ 57
      · exact .inr (.inr (.inl ⟨h1, h3, h4, by simp [h3, h4]⟩))
      · exact .inr (.inr (.inr (.inl ⟨h1, h3, h4, by
          have e2 : ¬ v = 45 := by omega
          have e3 : ¬ v = 46 := by omega
          simp [h1, h4, e2, e3]⟩)))
    · by_cases h5 : v = 45
      · exact .inr (.inr (.inr (.inr (.inl ⟨h1, h3, h5, by simp [h5]⟩))))
      · by_cases h6 : v = 46
        · exact .inr (.inr (.inr (.inr (.inr (.inl ⟨h1, h3, h6, by simp [h6]⟩)))))
        · exact .inr (.inr (.inr (.inr (.inr (.inr ⟨h1, h3, h5, h6, by simp [h1, h3, h5, h6]⟩)))))

set_option maxRecDepth 100000 in
set_option maxHeartbeats 2000000 in
theorem refName_any (s : ByteArray) (hs : s.size ≤ 9223372036854775807) (w : World) :
    Calls Tryz.prog 48 #[.string s] w fun e w' => e = .returned (.bool (nameOk s)) ∧ w' = w := by
  go_enter Tryz.func48, Tryz.ntmps48
  go_wp2
  go_loop [3] (fun i => ∃ k : Nat, k ≤ s.size ∧ i = .int .i64 k ∧ (s.data.toList.take k).all isLet = true) (fun i => s.size - (intOf i).toNat)
  case atStart => exact ⟨0, Nat.zero_le _, rfl, rfl⟩
  case round =>
    obtain ⟨k, hk, rfl, hall⟩ := hrel
    by_cases hlt : k < s.size
    · have hi : (k : Int) < s.size := by omega
      obtain ⟨y, hy⟩ : ∃ y, s[k]'hlt = y := ⟨_, rfl⟩
      have hyl : s.data.toList[k]? = some y := by rw [← hy]; exact Lib.data_getElem? s k hlt
      have hw := mayI_of y
      have hya : ((s.data.toList.take (k + 1)).all isLet) = isLet y := by
        rw [List.take_add_one, List.all_append, hall, hyl]; simp
      have hc := mayI_cases (w8 y) (w8_lt y).1
      have hu : ((y.toNat : Int)) = w8 y := rfl
      have hfull : isLet y = false → nameOk s = false := fun h => by
        unfold nameOk
        have : s.data.toList.all isLet = false := by
          rw [List.all_eq_false]
          exact ⟨y, List.mem_of_getElem? hyl, by rw [h]; decide⟩
        rw [this, Bool.and_false]
      have HF := Lib.hid hfull
      have HYA := Lib.hid hya
      have HW := Lib.hid hw
      clear hya hw hyl hall hfull
      generalize w8 y = v at hc hu HW
      rcases hc with ⟨h1, h2, h3⟩ | ⟨h1, h2, h3⟩ | ⟨h1, h2, h3, h4⟩ | ⟨h1, h2, h3, h4⟩ | ⟨h1, h2, h3, h4⟩ | ⟨h1, h2, h3, h4⟩ | ⟨h1, h2, h3, h4, h5⟩
      · have hT := Lib.hid (by rw [HYA.out, ← HW.out, h3] : (s.data.toList.take (k + 1)).all isLet = true)
        clear h3
        go_wp2
        go_round
        case rel => exact ⟨k + 1, by omega, by go_num, hT.out⟩
        case measure => simp [intOf]; omega
      · have hF := Lib.hid (HF.out (by rw [← HW.out, h3]))
        have hq1 : (48 : Int) ≤ v := by omega
        have hq2 : ¬ (v ≤ 57) := by omega
        have b5 : (v == 45) = false := by rw [beq_eq_false_iff_ne]; omega
        have b6 : (v == 46) = false := by rw [beq_eq_false_iff_ne]; omega
        clear h3
        go_wp2
        go_ret
        exact ⟨ret_bool hF.out.symm, rfl⟩
      · have hT := Lib.hid (by rw [HYA.out, ← HW.out, h4] : (s.data.toList.take (k + 1)).all isLet = true)
        clear h4
        go_wp2
        go_round
        case rel => exact ⟨k + 1, by omega, by go_num, hT.out⟩
        case measure => simp [intOf]; omega
      · have hF := Lib.hid (HF.out (by rw [← HW.out, h4]))
        have b5 : (v == 45) = false := by rw [beq_eq_false_iff_ne]; omega
        have b6 : (v == 46) = false := by rw [beq_eq_false_iff_ne]; omega
        clear h4
        go_wp2
        go_ret
        exact ⟨ret_bool hF.out.symm, rfl⟩
      · have hT := Lib.hid (by rw [HYA.out, ← HW.out, h4] : (s.data.toList.take (k + 1)).all isLet = true)
        have b5 : (v == 45) = true := by rw [beq_iff_eq]; omega
        clear h4
        go_wp2
        go_round
        case rel => exact ⟨k + 1, by omega, by go_num, hT.out⟩
        case measure => simp [intOf]; omega
      · have hT := Lib.hid (by rw [HYA.out, ← HW.out, h4] : (s.data.toList.take (k + 1)).all isLet = true)
        have b5 : (v == 45) = false := by rw [beq_eq_false_iff_ne]; omega
        have b6 : (v == 46) = true := by rw [beq_iff_eq]; omega
        clear h4
        go_wp2
        go_round
        case rel => exact ⟨k + 1, by omega, by go_num, hT.out⟩
        case measure => simp [intOf]; omega
      · have hF := Lib.hid (HF.out (by rw [← HW.out, h5]))
        have b5 : (v == 45) = false := by rw [beq_eq_false_iff_ne]; omega
        have b6 : (v == 46) = false := by rw [beq_eq_false_iff_ne]; omega
        clear h5
        go_wp2
        go_ret
        exact ⟨ret_bool hF.out.symm, rfl⟩
    · obtain rfl : k = s.size := by omega
      have hsa : s.data.toList.all isLet = true := by
        rw [List.take_of_length_le (by rw [← Lib.size_eq]; exact Nat.le_refl _)] at hall
        exact hall
      have HA := Lib.hid hsa
      clear hall hsa
      by_cases h1 : 1 ≤ s.size
      · have h1i : (1 : Int) ≤ s.size := by omega
        by_cases h2 : s.size ≤ 24
        · have h2i : (s.size : Int) ≤ 24 := by omega
          go_wp2
          go_ret
          exact ⟨ret_bool (by have h0 : 0 < s.size := h1; simp [nameOk, HA.out, h0, h2]), rfl⟩
        · have h2i : ¬ ((s.size : Int) ≤ 24) := by omega
          go_wp2
          go_ret
          exact ⟨ret_bool (by simp [nameOk, h2]), rfl⟩
      · have h1i : ¬ ((1 : Int) ≤ s.size) := by omega
        go_wp2
        go_ret
        exact ⟨ret_bool (by have h0 : ¬ 0 < s.size := h1; simp [nameOk, h0]), rfl⟩
end Go.Proofs.YtpfdbbcfcimmfaaGreatDoor

/-
  staveref19: fields.
-/
namespace Go.Proofs.YtpfdbbcfcimmfaaGreatDoor
open Go.RowKit
attribute [local go_sem ↓] ldF_eq stF_eq

set_option maxRecDepth 100000 in
theorem refName_fld (w w0 : World) (B : Nat) (hb : Below B w0 w) (hB : B ≤ w.heap.size) :
    Calls Tryz.prog 74 #[] w fun e w' => e = .returned (.agg #[.int .i64 2, .int .i64 0, .int .i64 1, .int .i64 24, .int .i64 0]) ∧ Below B w0 w' ∧ B ≤ w'.heap.size := by
  have hst := stF_new w (sF 1 24)
  have hb1 := hb.alloc hB (.cells #[.int .i64 2, .int .i64 0, .int .i64 1, .int .i64 24, .int .i64 0] 98)
  have hbk := Bk.made w 98 #[.int .i64 2, .int .i64 0, .int .i64 1, .int .i64 24, .int .i64 0]
  have HB := Lib.hid hb1
  have HK := Lib.hid hbk
  clear hb1 hbk
  simp only [sF] at hst
  go_enter Tryz.func74, Tryz.ntmps74
  go_wp2
  refine bodyPost_ret (results_cell_row rfl _ _ w.heap.size _ _ (0, 0) _ rfl HK.out Tryz.underlying98 rfl size_f) rfl ⟨rfl, HB.out, by simp; omega⟩
set_option maxRecDepth 100000 in
theorem refBatch_fld (w w0 : World) (B : Nat) (hb : Below B w0 w) (hB : B ≤ w.heap.size) :
    Calls Tryz.prog 77 #[] w fun e w' => e = .returned (.agg #[.int .i64 2, .int .i64 0, .int .i64 1, .int .i64 600, .int .i64 0]) ∧ Below B w0 w' ∧ B ≤ w'.heap.size := by
  have hst := stF_new w (sF 1 600)
  have hb1 := hb.alloc hB (.cells #[.int .i64 2, .int .i64 0, .int .i64 1, .int .i64 600, .int .i64 0] 98)
  have hbk := Bk.made w 98 #[.int .i64 2, .int .i64 0, .int .i64 1, .int .i64 600, .int .i64 0]
  have HB := Lib.hid hb1
  have HK := Lib.hid hbk
  clear hb1 hbk
  simp only [sF] at hst
  go_enter Tryz.func77, Tryz.ntmps77
  go_wp2
  refine bodyPost_ret (results_cell_row rfl _ _ w.heap.size _ _ (0, 0) _ rfl HK.out Tryz.underlying98 rfl size_f) rfl ⟨rfl, HB.out, by simp; omega⟩
set_option maxRecDepth 100000 in
theorem refNum_fld (size hi : Int) (w w0 : World) (B : Nat) (hb : Below B w0 w) (hB : B ≤ w.heap.size) :
    Calls Tryz.prog 94 #[.int .i64 size, .int .i64 hi] w fun e w' => e = .returned (.agg #[.int .i64 1, .int .i64 size, .int .i64 0, .int .i64 hi, .int .i64 0]) ∧ Below B w0 w' ∧ B ≤ w'.heap.size := by
  have hst := stF_new w (nF size 0 hi)
  have hb1 := hb.alloc hB (.cells #[.int .i64 1, .int .i64 size, .int .i64 0, .int .i64 hi, .int .i64 0] 98)
  have hbk := Bk.made w 98 #[.int .i64 1, .int .i64 size, .int .i64 0, .int .i64 hi, .int .i64 0]
  have HB := Lib.hid hb1
  have HK := Lib.hid hbk
  clear hb1 hbk
  simp only [nF] at hst
  go_enter Tryz.func94, Tryz.ntmps94
  go_wp2
  refine bodyPost_ret (results_cell_row rfl _ _ w.heap.size _ _ (0, 0) _ rfl HK.out Tryz.underlying98 rfl size_f) rfl ⟨rfl, HB.out, by simp; omega⟩
set_option maxRecDepth 100000 in
theorem refPart_fld (w w0 : World) (B : Nat) (hb : Below B w0 w) (hB : B ≤ w.heap.size) :
    Calls Tryz.prog 76 #[] w fun e w' => e = .returned (.agg #[.int .i64 1, .int .i64 1, .int .i64 0, .int .i64 3, .int .i64 0]) ∧ Below B w0 w' ∧ B ≤ w'.heap.size := by
  have hz := Lib.hid (Bk.made w 98 zF)
  have hbn := Lib.hid (below_new w (.cells zF 98))
  have HN := Lib.hid (refNum_fld 1 3 (w.alloc (.cells zF 98)) (w.alloc (.cells zF 98)) (w.alloc (.cells zF 98)).heap.size (Below.refl _ _) (Nat.le_refl _))
  unfold zF at hz hbn HN
  go_enter Tryz.func76, Tryz.ntmps76
  go_wp2_with fail
  with_reducible refine HN.out.mono ?_
  rintro e w1 ⟨rfl, hb1, hs1⟩
  have hz1 := hz.out.ext hb1
  have hst := stF_row _ _ (nF 1 0 3) _ hz1 rfl
  simp only [nF] at hst
  have Hz1 := Lib.hid hz1
  have h1 := hb.trans (below_le hB (hbn.out.trans (below_le hbn.out.size hb1)))
  have H1 := Lib.hid h1
  have H2 := Lib.hid (Nat.le_trans hbn.out.size hb1.size)
  clear hz1 h1 hb1
  go_wp2_with fail
  refine bodyPost_ret (results_cell_row rfl _ _ w.heap.size _ _ (0, 0) _ rfl (Hz1.out.row _) Tryz.underlying98 rfl size_f) rfl ⟨rfl, below_row H1.out (Nat.le_trans hB H2.out) hB _, by have := H2.out; simp [World.setRow]; omega⟩
set_option maxRecDepth 100000 in
theorem refOff_fld (w w0 : World) (B : Nat) (hb : Below B w0 w) (hB : B ≤ w.heap.size) :
    Calls Tryz.prog 75 #[] w fun e w' => e = .returned (.agg #[.int .i64 1, .int .i64 8, .int .i64 0, .int .i64 9223372036854775807, .int .i64 0]) ∧ Below B w0 w' ∧ B ≤ w'.heap.size := by
  have hz := Lib.hid (Bk.made w 98 zF)
  have hbn := Lib.hid (below_new w (.cells zF 98))
  have HN := Lib.hid (refNum_fld 8 9223372036854775807 (w.alloc (.cells zF 98)) (w.alloc (.cells zF 98)) (w.alloc (.cells zF 98)).heap.size (Below.refl _ _) (Nat.le_refl _))
  unfold zF at hz hbn HN
  go_enter Tryz.func75, Tryz.ntmps75
  go_wp2_with fail
  with_reducible refine HN.out.mono ?_
  rintro e w1 ⟨rfl, hb1, hs1⟩
  have hz1 := hz.out.ext hb1
  have hst := stF_row _ _ (nF 8 0 9223372036854775807) _ hz1 rfl
  simp only [nF] at hst
  have Hz1 := Lib.hid hz1
  have h1 := hb.trans (below_le hB (hbn.out.trans (below_le hbn.out.size hb1)))
  have H1 := Lib.hid h1
  have H2 := Lib.hid (Nat.le_trans hbn.out.size hb1.size)
  clear hz1 h1 hb1
  go_wp2_with fail
  refine bodyPost_ret (results_cell_row rfl _ _ w.heap.size _ _ (0, 0) _ rfl (Hz1.out.row _) Tryz.underlying98 rfl size_f) rfl ⟨rfl, below_row H1.out (Nat.le_trans hB H2.out) hB _, by have := H2.out; simp [World.setRow]; omega⟩
set_option maxRecDepth 100000 in
set_option maxHeartbeats 4000000 in
theorem refFlds_any (k : Int) (w : World) :
    Calls Tryz.prog 43 #[.int .i64 k] w fun e w' => ∃ v, e = .returned v ∧ FldR k w' v ∧ Below w.heap.size w w' := by
  have hk : k = 1 ∨ k = 2 ∨ k = 3 ∨ k = 4 ∨ k = 5 ∨ ((k == 1) = false ∧ (k == 2) = false ∧ (k == 3) = false ∧ (k == 4) = false ∧ (k == 5) = false) := by
    simp only [beq_eq_false_iff_ne]
    omega
  have hst := stF_new w (nF 1 1 4)
  simp only [nF] at hst
  have HB1 := Lib.hid (below_new w (.cells #[.int .i64 1, .int .i64 1, .int .i64 1, .int .i64 4, .int .i64 0] 98))
  have HK1 := Lib.hid (Bk.made w 98 #[.int .i64 1, .int .i64 1, .int .i64 1, .int .i64 4, .int .i64 0])
  have HNm : Hid (∀ w', Below (w.alloc (.cells #[.int .i64 1, .int .i64 1, .int .i64 1, .int .i64 4, .int .i64 0] 98)).heap.size (w.alloc (.cells #[.int .i64 1, .int .i64 1, .int .i64 1, .int .i64 4, .int .i64 0] 98)) w' → Calls Tryz.prog 74 #[] w' fun e w'' => e = .returned (.agg #[.int .i64 2, .int .i64 0, .int .i64 1, .int .i64 24, .int .i64 0]) ∧ Below (w.alloc (.cells #[.int .i64 1, .int .i64 1, .int .i64 1, .int .i64 4, .int .i64 0] 98)).heap.size (w.alloc (.cells #[.int .i64 1, .int .i64 1, .int .i64 1, .int .i64 4, .int .i64 0] 98)) w'' ∧ (w.alloc (.cells #[.int .i64 1, .int .i64 1, .int .i64 1, .int .i64 4, .int .i64 0] 98)).heap.size ≤ w''.heap.size) := fun w' h => refName_fld w' _ _ h h.size
  have HOf : Hid (∀ w', Below (w.alloc (.cells #[.int .i64 1, .int .i64 1, .int .i64 1, .int .i64 4, .int .i64 0] 98)).heap.size (w.alloc (.cells #[.int .i64 1, .int .i64 1, .int .i64 1, .int .i64 4, .int .i64 0] 98)) w' → Calls Tryz.prog 75 #[] w' fun e w'' => e = .returned (.agg #[.int .i64 1, .int .i64 8, .int .i64 0, .int .i64 9223372036854775807, .int .i64 0]) ∧ Below (w.alloc (.cells #[.int .i64 1, .int .i64 1, .int .i64 1, .int .i64 4, .int .i64 0] 98)).heap.size (w.alloc (.cells #[.int .i64 1, .int .i64 1, .int .i64 1, .int .i64 4, .int .i64 0] 98)) w'' ∧ (w.alloc (.cells #[.int .i64 1, .int .i64 1, .int .i64 1, .int .i64 4, .int .i64 0] 98)).heap.size ≤ w''.heap.size) := fun w' h => refOff_fld w' _ _ h h.size
  have HPa : Hid (∀ w', Below (w.alloc (.cells #[.int .i64 1, .int .i64 1, .int .i64 1, .int .i64 4, .int .i64 0] 98)).heap.size (w.alloc (.cells #[.int .i64 1, .int .i64 1, .int .i64 1, .int .i64 4, .int .i64 0] 98)) w' → Calls Tryz.prog 76 #[] w' fun e w'' => e = .returned (.agg #[.int .i64 1, .int .i64 1, .int .i64 0, .int .i64 3, .int .i64 0]) ∧ Below (w.alloc (.cells #[.int .i64 1, .int .i64 1, .int .i64 1, .int .i64 4, .int .i64 0] 98)).heap.size (w.alloc (.cells #[.int .i64 1, .int .i64 1, .int .i64 1, .int .i64 4, .int .i64 0] 98)) w'' ∧ (w.alloc (.cells #[.int .i64 1, .int .i64 1, .int .i64 1, .int .i64 4, .int .i64 0] 98)).heap.size ≤ w''.heap.size) := fun w' h => refPart_fld w' _ _ h h.size
  have HBf : Hid (∀ w', Below (w.alloc (.cells #[.int .i64 1, .int .i64 1, .int .i64 1, .int .i64 4, .int .i64 0] 98)).heap.size (w.alloc (.cells #[.int .i64 1, .int .i64 1, .int .i64 1, .int .i64 4, .int .i64 0] 98)) w' → Calls Tryz.prog 77 #[] w' fun e w'' => e = .returned (.agg #[.int .i64 2, .int .i64 0, .int .i64 1, .int .i64 600, .int .i64 0]) ∧ Below (w.alloc (.cells #[.int .i64 1, .int .i64 1, .int .i64 1, .int .i64 4, .int .i64 0] 98)).heap.size (w.alloc (.cells #[.int .i64 1, .int .i64 1, .int .i64 1, .int .i64 4, .int .i64 0] 98)) w'' ∧ (w.alloc (.cells #[.int .i64 1, .int .i64 1, .int .i64 1, .int .i64 4, .int .i64 0] 98)).heap.size ≤ w''.heap.size) := fun w' h => refBatch_fld w' _ _ h h.size
  rcases hk with rfl | rfl | rfl | rfl | rfl | ⟨k1, k2, k3, k4, k5⟩
  · go_enter Tryz.func43, Tryz.ntmps43
    go_wp2_with fail
    generalize w.alloc (.cells #[.int .i64 1, .int .i64 1, .int .i64 1, .int .i64 4, .int .i64 0] 98) = W at HB1 HK1 HNm HOf HPa HBf ⊢
    have FS : Hid (∀ w', Below W.heap.size W w' → (Below W.heap.size W w' ∧ (ldF (.pointer (some ⟨w.heap.size, 0, none⟩))).run Tryz.prog w' = .ok (.agg #[.int .i64 1, .int .i64 1, .int .i64 1, .int .i64 4, .int .i64 0]) w')) := fun w' hb => ⟨hb, ldF_bk (f := nF 1 1 4) (HK1.out.ext hb)⟩
    have r0 := below_drew1 (Below.refl W.heap.size W)
    clear hst
    go_region_held3 (fun w' => Below W.heap.size W w' ∧ (ldF (.pointer (some ⟨w.heap.size, 0, none⟩))).run Tryz.prog w' = .ok (.agg #[.int .i64 1, .int .i64 1, .int .i64 1, .int .i64 4, .int .i64 0]) w') (first | exact FS.out _ r0 | exact FS.out _ hb6 | exact FS.out _ hb5 | exact FS.out _ (hb6.alloc hs6 _) | exact FS.out _ (hb5.alloc hs5 _)) (first | (go_at_call 74; (first | (with_reducible refine (HNm.out _ r0).mono ?_) | (with_reducible refine (HNm.out _ hb6).mono ?_)); rintro e w5 ⟨rfl, hb5, hs5⟩) | (go_at_call 75; (first | (with_reducible refine (HOf.out _ r0).mono ?_) | (with_reducible refine (HOf.out _ hb5).mono ?_)); rintro e w6 ⟨rfl, hb6, hs6⟩) | fail)
    all_goals
      go_wp2_with fail
      go_ret
      first
        | exact ⟨_, rfl, fldR_bk (Bk.made w6 _ _) rfl rfl (by omega) (by decide), HB1.out.trans (below_le HB1.out.size (hb6.alloc hs6 _))⟩
        | exact ⟨_, rfl, fldR_bk (Bk.made w5 _ _) rfl rfl (by omega) (by decide), HB1.out.trans (below_le HB1.out.size (hb5.alloc hs5 _))⟩
  · go_enter Tryz.func43, Tryz.ntmps43
    go_wp2_with fail
    generalize w.alloc (.cells #[.int .i64 1, .int .i64 1, .int .i64 1, .int .i64 4, .int .i64 0] 98) = W at HB1 HK1 HNm HOf HPa HBf ⊢
    clear hst
    with_reducible refine (HNm.out _ (Below.refl _ _)).mono ?_
    rintro e w5 ⟨rfl, hb5, hs5⟩
    go_wp2_with fail
    go_ret
    exact ⟨_, rfl, fldR_bk (Bk.made w5 _ _) rfl rfl (by omega) (by decide), HB1.out.trans (below_le HB1.out.size (hb5.alloc hs5 _))⟩
  · go_enter Tryz.func43, Tryz.ntmps43
    go_wp2_with fail
    generalize w.alloc (.cells #[.int .i64 1, .int .i64 1, .int .i64 1, .int .i64 4, .int .i64 0] 98) = W at HB1 HK1 HNm HOf HPa HBf ⊢
    clear hst
    with_reducible refine (HNm.out _ (Below.refl _ _)).mono ?_
    rintro e w5 ⟨rfl, hb5, hs5⟩
    go_wp2_with fail
    with_reducible refine (HPa.out _ hb5).mono ?_
    rintro e w6 ⟨rfl, hb6, hs6⟩
    go_wp2_with fail
    with_reducible refine (HBf.out _ hb6).mono ?_
    rintro e w7 ⟨rfl, hb7, hs7⟩
    go_wp2_with fail
    go_ret
    exact ⟨_, rfl, fldR_bk (Bk.made w7 _ _) rfl rfl (by omega) (by decide), HB1.out.trans (below_le HB1.out.size (hb7.alloc hs7 _))⟩
  · go_enter Tryz.func43, Tryz.ntmps43
    go_wp2_with fail
    generalize w.alloc (.cells #[.int .i64 1, .int .i64 1, .int .i64 1, .int .i64 4, .int .i64 0] 98) = W at HB1 HK1 HNm HOf HPa HBf ⊢
    clear hst
    with_reducible refine (HNm.out _ (Below.refl _ _)).mono ?_
    rintro e w5 ⟨rfl, hb5, hs5⟩
    go_wp2_with fail
    with_reducible refine (HNm.out _ hb5).mono ?_
    rintro e w6 ⟨rfl, hb6, hs6⟩
    go_wp2_with fail
    with_reducible refine (HPa.out _ hb6).mono ?_
    rintro e w7 ⟨rfl, hb7, hs7⟩
    go_wp2_with fail
    with_reducible refine (HOf.out _ hb7).mono ?_
    rintro e w8 ⟨rfl, hb8, hs8⟩
    go_wp2_with fail
    go_ret
    exact ⟨_, rfl, fldR_bk (Bk.made w8 _ _) rfl rfl (by omega) (by decide), HB1.out.trans (below_le HB1.out.size (hb8.alloc hs8 _))⟩
  · go_enter Tryz.func43, Tryz.ntmps43
    go_wp2_with fail
    generalize w.alloc (.cells #[.int .i64 1, .int .i64 1, .int .i64 1, .int .i64 4, .int .i64 0] 98) = W at HB1 HK1 HNm HOf HPa HBf ⊢
    clear hst
    with_reducible refine (HNm.out _ (Below.refl _ _)).mono ?_
    rintro e w5 ⟨rfl, hb5, hs5⟩
    go_wp2_with fail
    with_reducible refine (HPa.out _ hb5).mono ?_
    rintro e w6 ⟨rfl, hb6, hs6⟩
    go_wp2_with fail
    with_reducible refine (HOf.out _ hb6).mono ?_
    rintro e w7 ⟨rfl, hb7, hs7⟩
    go_wp2_with fail
    go_ret
    exact ⟨_, rfl, fldR_bk (Bk.made w7 _ _) rfl rfl (by omega) (by decide), HB1.out.trans (below_le HB1.out.size (hb7.alloc hs7 _))⟩
  · go_enter Tryz.func43, Tryz.ntmps43
    go_wp2
    go_ret
    have n1 : k ≠ 1 := by simpa using k1
    have n2 : k ≠ 2 := by simpa using k2
    have n3 : k ≠ 3 := by simpa using k3
    have n4 : k ≠ 4 := by simpa using k4
    have n5 : k ≠ 5 := by simpa using k5
    have e : fldsE k = [] := by unfold fldsE; rw [if_neg n1, if_neg n2, if_neg n3, if_neg n4, if_neg n5]
    exact ⟨_, rfl, ⟨none, 0, 0, rfl, by rw [e]; exact RdK.nil _ _, by omega, by rw [decide_eq_false (by omega)]; rfl⟩, HB1.out⟩
end Go.Proofs.YtpfdbbcfcimmfaaGreatDoor

/-
  staveref19: values.
-/
namespace Go.Proofs.YtpfdbbcfcimmfaaGreatDoor
open Go.RowKit
attribute [local go_sem ↓] ldB_eq

set_option maxRecDepth 100000 in
set_option maxHeartbeats 4000000 in
theorem refVals_any (k : Int) (topic group : ByteArray) (part parts first off time prod seq : Int) (vals : List ByteArray) (A : Option Addr) (n c : Nat) (w : World) (hr : RdT w A n c vals) :
    Calls Tryz.prog 46 #[.agg #[.int .i64 k, .string topic, .string group, .int .i64 part, .int .i64 parts, .int .i64 first, .int .i64 off, .int .i64 time, .int .i64 prod, .int .i64 seq, .slice A n c]] w
      fun e w' => ∃ v, e = .returned v ∧ ValR ⟨k, topic, group, part, parts, first, off, ⟨time, prod, seq, vals⟩⟩ w' v ∧ Below w.heap.size w w' := by
  have hk : k = 1 ∨ k = 2 ∨ k = 3 ∨ k = 4 ∨ k = 5 ∨ ((k == 1) = false ∧ (k == 2) = false ∧ (k == 3) = false ∧ (k == 4) = false ∧ (k == 5) = false) := by
    simp only [beq_eq_false_iff_ne]
    omega
  have hb1 := Lib.hid (below_new w (.cells #[.int .i64 k, .string topic, .string group, .int .i64 part, .int .i64 parts, .int .i64 first, .int .i64 off, .int .i64 time, .int .i64 prod, .int .i64 seq, .slice A n c] 26))
  have hr1 := Lib.hid (hr.ext hb1.out)
  have hbk := Lib.hid (Bk.made w 26 #[.int .i64 k, .string topic, .string group, .int .i64 part, .int .i64 parts, .int .i64 first, .int .i64 off, .int .i64 time, .int .i64 prod, .int .i64 seq, .slice A n c])
  clear hr
  rcases hk with rfl | rfl | rfl | rfl | rfl | ⟨k1, k2, k3, k4, k5⟩
  · go_enter Tryz.func46, Tryz.ntmps46
    go_wp2
    go_ret
    exact ⟨_, rfl, valR_bk [strM topic, numM parts, numM first] (Bk.made_at _ _ 101 _ (by simp)) rfl rfl (by omega) rfl (by simp [numM, strM, nV, sV]), hb1.out.trans (below_le hb1.out.size (below_new _ _))⟩
  · go_enter Tryz.func46, Tryz.ntmps46
    go_wp2
    go_ret
    exact ⟨_, rfl, valR_bk [strM topic] (Bk.made_at _ _ 101 _ (by simp)) rfl rfl (by omega) rfl (by simp [strM, sV]), hb1.out.trans (below_le hb1.out.size (below_new _ _))⟩
  · go_enter Tryz.func46, Tryz.ntmps46
    go_wp2_with fail
    generalize w.alloc (.cells #[.int .i64 3, .string topic, .string group, .int .i64 part, .int .i64 parts, .int .i64 first, .int .i64 off, .int .i64 time, .int .i64 prod, .int .i64 seq, .slice A n c] 26) = w1 at hb1 hr1 hbk ⊢
    have FS : Hid (∀ w', Below w1.heap.size w1 w' → (Below w1.heap.size w1 w' ∧ w'.cell? ⟨w.heap.size, 1, none⟩ = some (.string topic) ∧ w'.cell? ⟨w.heap.size, 3, none⟩ = some (.int .i64 part) ∧ (ldB (.pointer (some ⟨w.heap.size, 7, none⟩))).run Tryz.prog w' = .ok (.agg #[.int .i64 time, .int .i64 prod, .int .i64 seq, .slice A n c]) w')) := fun w' hb =>
      ⟨hb, ((hbk.out.ext hb).cell 1).trans rfl, ((hbk.out.ext hb).cell 3).trans rfl, ldB_at (b := ⟨time, prod, seq, vals⟩) (fun j u hu => by
        rw [(hbk.out.ext hb).cell]
        match j, hu with
        | 0, hu => exact hu
        | 1, hu => exact hu
        | 2, hu => exact hu
        | 3, hu => exact hu
        | j + 4, hu => exact absurd (List.getElem?_eq_some_iff.1 hu).1 (by simp [Bat.cells]))⟩
    have r0 := below_drew1 (Below.refl w1.heap.size w1)
    have HP := Lib.hid (refPB_any ⟨time, prod, seq, vals⟩ A n c w1.drew (hr1.out.ext r0))
    have d1 := (FS.out _ r0).2.1
    have d3 := (FS.out _ r0).2.2.1
    have dB := (FS.out _ r0).2.2.2
    go_region_law (first | (go_simp; go_at_call 81; (with_reducible refine HP.out.mono ?_); rintro e w5 ⟨A5, M5, c5, rfl, ho5, hq5⟩; have hb5 := r0.trans (below_le r0.size hq5); have hcv := conv_any ho5; have g1 := (FS.out _ hb5).2.1; have g3 := (FS.out _ hb5).2.2.1; have gB := (FS.out _ hb5).2.2.2) | fail)
    all_goals
      go_wp2_with fail
      go_ret
      exact ⟨_, rfl, valR_bk [strM topic, numM part, strM (batS ⟨time, prod, seq, vals⟩)] (Bk.made w5 101 _) rfl rfl (by omega) rfl (by simp [numM, strM, nV, sV]), hb1.out.trans (below_le hb1.out.size (hb5.alloc hb5.size _))⟩
  · go_enter Tryz.func46, Tryz.ntmps46
    go_wp2
    go_ret
    exact ⟨_, rfl, valR_bk [strM group, strM topic, numM part, numM off] (Bk.made_at _ _ 101 _ (by simp)) rfl rfl (by omega) rfl (by simp [numM, strM, nV, sV]), hb1.out.trans (below_le hb1.out.size (below_new _ _))⟩
  · go_enter Tryz.func46, Tryz.ntmps46
    go_wp2
    go_ret
    exact ⟨_, rfl, valR_bk [strM topic, numM part, numM off] (Bk.made_at _ _ 101 _ (by simp)) rfl rfl (by omega) rfl (by simp [numM, strM, nV, sV]), hb1.out.trans (below_le hb1.out.size (below_new _ _))⟩
  · go_enter Tryz.func46, Tryz.ntmps46
    go_wp2
    go_ret
    have n1 : k ≠ 1 := by simpa using k1
    have n2 : k ≠ 2 := by simpa using k2
    have n3 : k ≠ 3 := by simpa using k3
    have n4 : k ≠ 4 := by simpa using k4
    have n5 : k ≠ 5 := by simpa using k5
    have e : valsE ⟨k, topic, group, part, parts, first, off, ⟨time, prod, seq, vals⟩⟩ = [] := by unfold valsE; rw [if_neg n1, if_neg n2, if_neg n3, if_neg n4, if_neg n5]
    exact ⟨_, rfl, ⟨none, 0, 0, [], rfl, ⟨RdK.nil _ _, fun m hm => absurd hm List.not_mem_nil⟩, e.symm⟩, hb1.out⟩
end Go.Proofs.YtpfdbbcfcimmfaaGreatDoor

/-
  staveref19: made.
-/
namespace Go.Proofs.YtpfdbbcfcimmfaaGreatDoor
open Go.RowKit
attribute [local go_sem ↓] ldB_eq stB_eq ldE_eq stE_eq

theorem grown_cell {w w' : World} {row : Option Nat} (h : w.grownBy w' row) (p : Addr) (hl : p.block < w.heap.size) (hne : some p.block ≠ row) : w'.cell? p = w.cell? p := by
  simp [World.cell?, h.block p.block hl hne]
theorem stB_new (w : World) (b : Bat) (A : Option Addr) (n c : Nat) (old : Array Value) (ho : old.size = 4) :
    (stB (.pointer (some ⟨w.heap.size, 0, none⟩)) (.agg #[.int .i64 b.time, .int .i64 b.prod, .int .i64 b.seq, .slice A n c])).run Tryz.prog (w.alloc (.cells old 24)) = .ok () (w.alloc (.cells #[.int .i64 b.time, .int .i64 b.prod, .int .i64 b.seq, .slice A n c] 24)) := by
  exact run_storeAt_new w 24 _ _ size_b ho (all_oneCell_toArray (one_all rfl))
set_option maxRecDepth 100000 in
set_option maxHeartbeats 4000000 in
theorem refmade_1 (gv c : Nat) (m0 m1 m2 : MVal) (w : World) (_hc : 3 ≤ c) (_hc' : c ≤ 9223372036854775807) (hg : gv < w.heap.size) (d0 : w.cell? ⟨gv, 1, none⟩ = some (.string m0.v.s)) (d1 : w.cell? ⟨gv, 3, none⟩ = some (.int .i64 m1.v.n)) (d2 : w.cell? ⟨gv, 6, none⟩ = some (.int .i64 m2.v.n)) :
    Calls Tryz.prog 47 #[.int .i64 1, .slice (some ⟨gv, 0, none⟩) 3 c] w fun e w' => e = .returned (.tuple #[.agg #[.int .i64 1, .string m0.v.s, .string ⟨#[]⟩, .int .i64 0, .int .i64 m1.v.n, .int .i64 m2.v.n, .int .i64 0, .int .i64 0, .int .i64 0, .int .i64 0, .slice none 0 0], .bool true]) ∧ Below w.heap.size w w' := by
  have hst0 := stE_newAt (w.alloc (.cells zE 26)) (w.heap.size + 1) (by simp) 1 ⟨#[]⟩ ⟨#[]⟩ 0 0 0 0 0 0 0 none 0 0 zE rfl
  have hld := ldE_bk (Bk.drawn1 ((two_ent w 1 m0.v.s ⟨#[]⟩ 0 m1.v.n m2.v.n 0 0 0 0 none 0 0).2))
  have hst := stE_row (Bk.drawn1 ((two_ent w 1 m0.v.s ⟨#[]⟩ 0 m1.v.n m2.v.n 0 0 0 0 none 0 0).1)) rfl 1 m0.v.s ⟨#[]⟩ 0 m1.v.n m2.v.n 0 0 0 0 none 0 0
  have hbk := Lib.hid (Bk.drawn1 ((two_ent w 1 m0.v.s ⟨#[]⟩ 0 m1.v.n m2.v.n 0 0 0 0 none 0 0).1))
  have hbl := Lib.hid (show Below w.heap.size w _ from below_row (below_drew1 (below_two w (.cells zE 26) (.cells #[.int .i64 1, .string m0.v.s, .string ⟨#[]⟩, .int .i64 0, .int .i64 m1.v.n, .int .i64 m2.v.n, .int .i64 0, .int .i64 0, .int .i64 0, .int .i64 0, .slice none 0 0] 26))) (Nat.le_trans (Nat.le_refl _) (Below.size (below_drew1 (below_two w (.cells zE 26) (.cells #[.int .i64 1, .string m0.v.s, .string ⟨#[]⟩, .int .i64 0, .int .i64 m1.v.n, .int .i64 m2.v.n, .int .i64 0, .int .i64 0, .int .i64 0, .int .i64 0, .slice none 0 0] 26))))) (Nat.le_refl _) #[.int .i64 1, .string m0.v.s, .string ⟨#[]⟩, .int .i64 0, .int .i64 m1.v.n, .int .i64 m2.v.n, .int .i64 0, .int .i64 0, .int .i64 0, .int .i64 0, .slice none 0 0])
  simp only [zE] at hst0 hld hst hbl
  have FS : Hid (∀ w', Below w.heap.size w w' → (Below w.heap.size w w' ∧ w'.cell? ⟨gv, 1, none⟩ = some (.string m0.v.s) ∧ w'.cell? ⟨gv, 3, none⟩ = some (.int .i64 m1.v.n) ∧ w'.cell? ⟨gv, 6, none⟩ = some (.int .i64 m2.v.n))) := fun w' hb => ⟨hb, (hb.cell (p := ⟨gv, 1, none⟩) hg).trans d0, (hb.cell (p := ⟨gv, 3, none⟩) hg).trans d1, (hb.cell (p := ⟨gv, 6, none⟩) hg).trans d2⟩
  clear d0 d1 d2
  go_enter Tryz.func47, Tryz.ntmps47
  go_wp2_with fail
  go_region_held3 (fun w' => Below w.heap.size w w' ∧ w'.cell? ⟨gv, 1, none⟩ = some (.string m0.v.s) ∧ w'.cell? ⟨gv, 3, none⟩ = some (.int .i64 m1.v.n) ∧ w'.cell? ⟨gv, 6, none⟩ = some (.int .i64 m2.v.n)) (first | exact FS.out _ (below_drew1 (below_two w _ _)) | exact FS.out _ (below_two w _ _)) (first | fail)
  all_goals (go_wp2_with fail)
  all_goals exact bodyPost_ret (res_ent (u := 5) rfl _ _ w.heap.size 1 m0.v.s ⟨#[]⟩ 0 m1.v.n m2.v.n 0 0 0 0 none 0 0 rfl (Bk.row hbk.out _)) rfl ⟨rfl, hbl.out⟩
set_option maxRecDepth 100000 in
set_option maxHeartbeats 4000000 in
theorem refmade_2 (gv c : Nat) (m0 : MVal) (w : World) (_hc : 1 ≤ c) (_hc' : c ≤ 9223372036854775807) (hg : gv < w.heap.size) (d0 : w.cell? ⟨gv, 1, none⟩ = some (.string m0.v.s)) :
    Calls Tryz.prog 47 #[.int .i64 2, .slice (some ⟨gv, 0, none⟩) 1 c] w fun e w' => e = .returned (.tuple #[.agg #[.int .i64 2, .string m0.v.s, .string ⟨#[]⟩, .int .i64 0, .int .i64 0, .int .i64 0, .int .i64 0, .int .i64 0, .int .i64 0, .int .i64 0, .slice none 0 0], .bool true]) ∧ Below w.heap.size w w' := by
  have hst0 := stE_newAt (w.alloc (.cells zE 26)) (w.heap.size + 1) (by simp) 2 ⟨#[]⟩ ⟨#[]⟩ 0 0 0 0 0 0 0 none 0 0 zE rfl
  have hld := ldE_bk ((two_ent w 2 m0.v.s ⟨#[]⟩ 0 0 0 0 0 0 0 none 0 0).2)
  have hst := stE_row ((two_ent w 2 m0.v.s ⟨#[]⟩ 0 0 0 0 0 0 0 none 0 0).1) rfl 2 m0.v.s ⟨#[]⟩ 0 0 0 0 0 0 0 none 0 0
  have hbk := Lib.hid ((two_ent w 2 m0.v.s ⟨#[]⟩ 0 0 0 0 0 0 0 none 0 0).1)
  have hbl := Lib.hid (show Below w.heap.size w _ from below_row (below_two w (.cells zE 26) (.cells #[.int .i64 2, .string m0.v.s, .string ⟨#[]⟩, .int .i64 0, .int .i64 0, .int .i64 0, .int .i64 0, .int .i64 0, .int .i64 0, .int .i64 0, .slice none 0 0] 26)) (Nat.le_trans (Nat.le_refl _) (Below.size (below_two w (.cells zE 26) (.cells #[.int .i64 2, .string m0.v.s, .string ⟨#[]⟩, .int .i64 0, .int .i64 0, .int .i64 0, .int .i64 0, .int .i64 0, .int .i64 0, .int .i64 0, .slice none 0 0] 26)))) (Nat.le_refl _) #[.int .i64 2, .string m0.v.s, .string ⟨#[]⟩, .int .i64 0, .int .i64 0, .int .i64 0, .int .i64 0, .int .i64 0, .int .i64 0, .int .i64 0, .slice none 0 0])
  simp only [zE] at hst0 hld hst hbl
  have e0 := fun o1 o2 => ((below_two w o1 o2).cell (p := ⟨gv, 1, none⟩) hg).trans d0
  go_enter Tryz.func47, Tryz.ntmps47
  go_wp2_with fail
  all_goals exact bodyPost_ret (res_ent (u := 5) rfl _ _ w.heap.size 2 m0.v.s ⟨#[]⟩ 0 0 0 0 0 0 0 none 0 0 rfl (Bk.row hbk.out _)) rfl ⟨rfl, hbl.out⟩
set_option maxRecDepth 100000 in
set_option maxHeartbeats 4000000 in
theorem refmade_5 (gv c : Nat) (m0 m1 m2 : MVal) (w : World) (_hc : 3 ≤ c) (_hc' : c ≤ 9223372036854775807) (hg : gv < w.heap.size) (d0 : w.cell? ⟨gv, 1, none⟩ = some (.string m0.v.s)) (d1 : w.cell? ⟨gv, 3, none⟩ = some (.int .i64 m1.v.n)) (d2 : w.cell? ⟨gv, 6, none⟩ = some (.int .i64 m2.v.n)) :
    Calls Tryz.prog 47 #[.int .i64 5, .slice (some ⟨gv, 0, none⟩) 3 c] w fun e w' => e = .returned (.tuple #[.agg #[.int .i64 5, .string m0.v.s, .string ⟨#[]⟩, .int .i64 m1.v.n, .int .i64 0, .int .i64 0, .int .i64 m2.v.n, .int .i64 0, .int .i64 0, .int .i64 0, .slice none 0 0], .bool true]) ∧ Below w.heap.size w w' := by
  have hst0 := stE_newAt (w.alloc (.cells zE 26)) (w.heap.size + 1) (by simp) 5 ⟨#[]⟩ ⟨#[]⟩ 0 0 0 0 0 0 0 none 0 0 zE rfl
  have hld := ldE_bk (Bk.drawn1 ((two_ent w 5 m0.v.s ⟨#[]⟩ m1.v.n 0 0 m2.v.n 0 0 0 none 0 0).2))
  have hst := stE_row (Bk.drawn1 ((two_ent w 5 m0.v.s ⟨#[]⟩ m1.v.n 0 0 m2.v.n 0 0 0 none 0 0).1)) rfl 5 m0.v.s ⟨#[]⟩ m1.v.n 0 0 m2.v.n 0 0 0 none 0 0
  have hbk := Lib.hid (Bk.drawn1 ((two_ent w 5 m0.v.s ⟨#[]⟩ m1.v.n 0 0 m2.v.n 0 0 0 none 0 0).1))
  have hbl := Lib.hid (show Below w.heap.size w _ from below_row (below_drew1 (below_two w (.cells zE 26) (.cells #[.int .i64 5, .string m0.v.s, .string ⟨#[]⟩, .int .i64 m1.v.n, .int .i64 0, .int .i64 0, .int .i64 m2.v.n, .int .i64 0, .int .i64 0, .int .i64 0, .slice none 0 0] 26))) (Nat.le_trans (Nat.le_refl _) (Below.size (below_drew1 (below_two w (.cells zE 26) (.cells #[.int .i64 5, .string m0.v.s, .string ⟨#[]⟩, .int .i64 m1.v.n, .int .i64 0, .int .i64 0, .int .i64 m2.v.n, .int .i64 0, .int .i64 0, .int .i64 0, .slice none 0 0] 26))))) (Nat.le_refl _) #[.int .i64 5, .string m0.v.s, .string ⟨#[]⟩, .int .i64 m1.v.n, .int .i64 0, .int .i64 0, .int .i64 m2.v.n, .int .i64 0, .int .i64 0, .int .i64 0, .slice none 0 0])
  simp only [zE] at hst0 hld hst hbl
  have FS : Hid (∀ w', Below w.heap.size w w' → (Below w.heap.size w w' ∧ w'.cell? ⟨gv, 1, none⟩ = some (.string m0.v.s) ∧ w'.cell? ⟨gv, 3, none⟩ = some (.int .i64 m1.v.n) ∧ w'.cell? ⟨gv, 6, none⟩ = some (.int .i64 m2.v.n))) := fun w' hb => ⟨hb, (hb.cell (p := ⟨gv, 1, none⟩) hg).trans d0, (hb.cell (p := ⟨gv, 3, none⟩) hg).trans d1, (hb.cell (p := ⟨gv, 6, none⟩) hg).trans d2⟩
  clear d0 d1 d2
  go_enter Tryz.func47, Tryz.ntmps47
  go_wp2_with fail
  go_region_held3 (fun w' => Below w.heap.size w w' ∧ w'.cell? ⟨gv, 1, none⟩ = some (.string m0.v.s) ∧ w'.cell? ⟨gv, 3, none⟩ = some (.int .i64 m1.v.n) ∧ w'.cell? ⟨gv, 6, none⟩ = some (.int .i64 m2.v.n)) (first | exact FS.out _ (below_drew1 (below_two w _ _)) | exact FS.out _ (below_two w _ _)) (first | fail)
  all_goals (go_wp2_with fail)
  all_goals exact bodyPost_ret (res_ent (u := 5) rfl _ _ w.heap.size 5 m0.v.s ⟨#[]⟩ m1.v.n 0 0 m2.v.n 0 0 0 none 0 0 rfl (Bk.row hbk.out _)) rfl ⟨rfl, hbl.out⟩
set_option maxRecDepth 100000 in
set_option maxHeartbeats 4000000 in
theorem refmade_4 (gv c : Nat) (m0 m1 m2 m3 : MVal) (w : World) (_hc : 4 ≤ c) (_hc' : c ≤ 9223372036854775807) (hg : gv < w.heap.size) (d0 : w.cell? ⟨gv, 1, none⟩ = some (.string m0.v.s)) (d1 : w.cell? ⟨gv, 4, none⟩ = some (.string m1.v.s)) (d2 : w.cell? ⟨gv, 6, none⟩ = some (.int .i64 m2.v.n)) (d3 : w.cell? ⟨gv, 9, none⟩ = some (.int .i64 m3.v.n)) :
    Calls Tryz.prog 47 #[.int .i64 4, .slice (some ⟨gv, 0, none⟩) 4 c] w fun e w' => e = .returned (.tuple #[.agg #[.int .i64 4, .string m1.v.s, .string m0.v.s, .int .i64 m2.v.n, .int .i64 0, .int .i64 0, .int .i64 m3.v.n, .int .i64 0, .int .i64 0, .int .i64 0, .slice none 0 0], .bool true]) ∧ Below w.heap.size w w' := by
  have hst0 := stE_newAt (w.alloc (.cells zE 26)) (w.heap.size + 1) (by simp) 4 ⟨#[]⟩ ⟨#[]⟩ 0 0 0 0 0 0 0 none 0 0 zE rfl
  have hld := ldE_bk (Bk.drawn1 ((two_ent w 4 m1.v.s m0.v.s m2.v.n 0 0 m3.v.n 0 0 0 none 0 0).2))
  have hst := stE_row (Bk.drawn1 ((two_ent w 4 m1.v.s m0.v.s m2.v.n 0 0 m3.v.n 0 0 0 none 0 0).1)) rfl 4 m1.v.s m0.v.s m2.v.n 0 0 m3.v.n 0 0 0 none 0 0
  have hbk := Lib.hid (Bk.drawn1 ((two_ent w 4 m1.v.s m0.v.s m2.v.n 0 0 m3.v.n 0 0 0 none 0 0).1))
  have hbl := Lib.hid (show Below w.heap.size w _ from below_row (below_drew1 (below_two w (.cells zE 26) (.cells #[.int .i64 4, .string m1.v.s, .string m0.v.s, .int .i64 m2.v.n, .int .i64 0, .int .i64 0, .int .i64 m3.v.n, .int .i64 0, .int .i64 0, .int .i64 0, .slice none 0 0] 26))) (Nat.le_trans (Nat.le_refl _) (Below.size (below_drew1 (below_two w (.cells zE 26) (.cells #[.int .i64 4, .string m1.v.s, .string m0.v.s, .int .i64 m2.v.n, .int .i64 0, .int .i64 0, .int .i64 m3.v.n, .int .i64 0, .int .i64 0, .int .i64 0, .slice none 0 0] 26))))) (Nat.le_refl _) #[.int .i64 4, .string m1.v.s, .string m0.v.s, .int .i64 m2.v.n, .int .i64 0, .int .i64 0, .int .i64 m3.v.n, .int .i64 0, .int .i64 0, .int .i64 0, .slice none 0 0])
  simp only [zE] at hst0 hld hst hbl
  have FS : Hid (∀ w', Below w.heap.size w w' → (Below w.heap.size w w' ∧ w'.cell? ⟨gv, 1, none⟩ = some (.string m0.v.s) ∧ w'.cell? ⟨gv, 4, none⟩ = some (.string m1.v.s) ∧ w'.cell? ⟨gv, 6, none⟩ = some (.int .i64 m2.v.n) ∧ w'.cell? ⟨gv, 9, none⟩ = some (.int .i64 m3.v.n))) := fun w' hb => ⟨hb, (hb.cell (p := ⟨gv, 1, none⟩) hg).trans d0, (hb.cell (p := ⟨gv, 4, none⟩) hg).trans d1, (hb.cell (p := ⟨gv, 6, none⟩) hg).trans d2, (hb.cell (p := ⟨gv, 9, none⟩) hg).trans d3⟩
  clear d0 d1 d2 d3
  go_enter Tryz.func47, Tryz.ntmps47
  go_wp2_with fail
  go_region_held3 (fun w' => Below w.heap.size w w' ∧ w'.cell? ⟨gv, 1, none⟩ = some (.string m0.v.s) ∧ w'.cell? ⟨gv, 4, none⟩ = some (.string m1.v.s) ∧ w'.cell? ⟨gv, 6, none⟩ = some (.int .i64 m2.v.n) ∧ w'.cell? ⟨gv, 9, none⟩ = some (.int .i64 m3.v.n)) (first | exact FS.out _ (below_drew1 (below_two w _ _)) | exact FS.out _ (below_two w _ _)) (first | fail)
  all_goals (go_wp2_with fail)
  all_goals exact bodyPost_ret (res_ent (u := 5) rfl _ _ w.heap.size 4 m1.v.s m0.v.s m2.v.n 0 0 m3.v.n 0 0 0 none 0 0 rfl (Bk.row hbk.out _)) rfl ⟨rfl, hbl.out⟩
set_option maxRecDepth 100000 in
set_option maxHeartbeats 4000000 in
theorem refmade_3 (gv c : Nat) (m0 m1 m2 : MVal) (w : World) (_hc : 3 ≤ c) (_hc' : c ≤ 9223372036854775807) (hg : gv < w.heap.size) (hs2 : m2.v.s.size ≤ 600) (d0 : w.cell? ⟨gv, 1, none⟩ = some (.string m0.v.s)) (d1 : w.cell? ⟨gv, 3, none⟩ = some (.int .i64 m1.v.n)) (d2 : w.cell? ⟨gv, 7, none⟩ = some (.string m2.v.s)) :
    Calls Tryz.prog 47 #[.int .i64 3, .slice (some ⟨gv, 0, none⟩) 3 c] w fun e w' => ∃ (x : Ent) (A' : Option Addr) (n' c' : Nat) (ok : Bool), e = .returned (.tuple #[.agg #[.int .i64 x.kind, .string x.topic, .string x.group, .int .i64 x.part, .int .i64 x.parts, .int .i64 x.first, .int .i64 x.off, .int .i64 x.bat.time, .int .i64 x.bat.prod, .int .i64 x.bat.seq, .slice A' n' c'], .bool ok]) ∧ (RdT w' A' n' c' x.bat.vals ∧ (∀ ad, A' = some ad → w.heap.size ≤ ad.block) ∧ ((ok = true ∧ ∃ b, getB m2.v.s.data.toList = .ok b ∧ x = ⟨3, m0.v.s, nul, m1.v.n, 0, 0, 0, b⟩) ∨ (ok = false ∧ x = noE ∧ ∃ k, getB m2.v.s.data.toList = .error k))) ∧ Below w.heap.size w w' := by
  have hst0 := stE_newAt (w.alloc (.cells #[.int .i64 0, .string ⟨#[]⟩, .string ⟨#[]⟩, .int .i64 0, .int .i64 0, .int .i64 0, .int .i64 0, .int .i64 0, .int .i64 0, .int .i64 0, .slice none 0 0] 26)) (w.heap.size + 1) (by simp) 3 ⟨#[]⟩ ⟨#[]⟩ 0 0 0 0 0 0 0 none 0 0 #[.int .i64 0, .string ⟨#[]⟩, .string ⟨#[]⟩, .int .i64 0, .int .i64 0, .int .i64 0, .int .i64 0, .int .i64 0, .int .i64 0, .int .i64 0, .slice none 0 0] rfl
  have hbk := two_ent w 3 ⟨#[]⟩ ⟨#[]⟩ 0 0 0 0 0 0 0 none 0 0
  unfold zE at hbk
  have HBL := Lib.hid (below_two w (.cells #[.int .i64 0, .string ⟨#[]⟩, .string ⟨#[]⟩, .int .i64 0, .int .i64 0, .int .i64 0, .int .i64 0, .int .i64 0, .int .i64 0, .int .i64 0, .slice none 0 0] 26) (.cells #[.int .i64 3, .string ⟨#[]⟩, .string ⟨#[]⟩, .int .i64 0, .int .i64 0, .int .i64 0, .int .i64 0, .int .i64 0, .int .i64 0, .int .i64 0, .slice none 0 0] 26))
  have HBK := Lib.hid hbk
  clear hbk
  have FS0 : Hid (∀ w', Below w.heap.size w w' → (w'.cell? ⟨gv, 1, none⟩ = some (.string m0.v.s) ∧ w'.cell? ⟨gv, 3, none⟩ = some (.int .i64 m1.v.n) ∧ w'.cell? ⟨gv, 7, none⟩ = some (.string m2.v.s))) := fun w' hb => ⟨(hb.cell (p := ⟨gv, 1, none⟩) hg).trans d0, (hb.cell (p := ⟨gv, 3, none⟩) hg).trans d1, (hb.cell (p := ⟨gv, 7, none⟩) hg).trans d2⟩
  clear d0 d1 d2
  go_enter Tryz.func47, Tryz.ntmps47
  go_upto_if 36 with fail
  clear hst0
  generalize (w.alloc (.cells #[.int .i64 0, .string ⟨#[]⟩, .string ⟨#[]⟩, .int .i64 0, .int .i64 0, .int .i64 0, .int .i64 0, .int .i64 0, .int .i64 0, .int .i64 0, .slice none 0 0] 26)).alloc (.cells #[.int .i64 3, .string ⟨#[]⟩, .string ⟨#[]⟩, .int .i64 0, .int .i64 0, .int .i64 0, .int .i64 0, .int .i64 0, .int .i64 0, .int .i64 0, .slice none 0 0] 26) = w1 at HBL HBK ⊢
  have e2 := (FS0.out _ HBL.out).2.2
  obtain ⟨w2, cp, hcv, hrd, hb2⟩ := conv_bytes w1 m2.v.s (by unfold maxLen; omega)
  have HG := Lib.hid (refGB_any _ _ _ _ w2 hrd (by omega))
  have HK1 := Lib.hid (HBK.out.1.ext hb2)
  have HK2 := Lib.hid (HBK.out.2.ext hb2)
  have HB2 := Lib.hid (HBL.out.trans (below_le HBL.out.size hb2))
  clear hrd hb2 HBK HBL hs2
  go_wp2_with fail
  with_reducible refine HG.out.mono ?_
  rintro e w3 ⟨b, A3, n3, c3, k3, rfl, ⟨hr3, hp3, hbr⟩, hb3⟩
  have HKA := Lib.hid (HK1.out.ext hb3)
  have HKB := Lib.hid (HK2.out.ext hb3)
  have HB3 := Lib.hid (HB2.out.trans (below_le HB2.out.size hb3))
  have HP3 := Lib.hid hp3
  have HR3 := Lib.hid hr3
  have Hb3 := Lib.hid hb3
  have Hw2 := Lib.hid HK2.out.lt
  have Hw1 := Lib.hid HK1.out.lt
  have hst := stB_new w3 b A3 n3 c3 #[.int .i64 0, .int .i64 0, .int .i64 0, .slice none 0 0] rfl
  clear hcv e2 HG hr3 hp3 hb3
  rcases hbr with ⟨rfl, hgb⟩ | ⟨rfl, hk, hgb⟩
  · have Hgb := Lib.hid hgb
    clear hgb
    have hbn := below_new w3 (.cells #[.int .i64 b.time, .int .i64 b.prod, .int .i64 b.seq, .slice A3 n3 c3] 24)
    have hkb := Bk.made w3 24 #[.int .i64 b.time, .int .i64 b.prod, .int .i64 b.seq, .slice A3 n3 c3]
    have HB4 := Lib.hid hbn
    have HKb := Lib.hid hkb
    clear hbn hkb
    go_wp2_with fail
    generalize hw4 : w3.alloc (.cells #[.int .i64 b.time, .int .i64 b.prod, .int .i64 b.seq, .slice A3 n3 c3] 24) = w4 at HB4 HKb ⊢
    clear hst hw4
    have hf0 := FS0.out _ (HB3.out.trans (below_le HB3.out.size HB4.out))
    have HKA4 := Lib.hid (HKA.out.ext HB4.out)
    have HKB4 := Lib.hid (HKB.out.ext HB4.out)
    have f1 := HKB4.out.cell 1
    have f3 := HKB4.out.cell 3
    have g1 := HKB4.out.thaw 1
    have g3 := HKB4.out.thaw 3
    have HG0 : Hid (∀ w', w4.grownBy w' (some (w.heap.size + 1)) → (w'.cell? ⟨gv, 1, none⟩ = some (.string m0.v.s) ∧ w'.cell? ⟨gv, 3, none⟩ = some (.int .i64 m1.v.n) ∧ (ldB (.pointer (some ⟨w3.heap.size, 0, none⟩))).run Tryz.prog w' = .ok (.agg #[.int .i64 b.time, .int .i64 b.prod, .int .i64 b.seq, .slice A3 n3 c3]) w')) := fun w' hgr => by
      have z4 := (HB3.out.trans (below_le HB3.out.size HB4.out)).size
      have n3 := HKB.out.lt
      refine ⟨(grown_cell hgr ⟨gv, 1, none⟩ (show gv < w4.heap.size by omega) (fun e => by have e : some gv = some (w.heap.size + 1) := e; injection e with e; omega)).trans hf0.1, (grown_cell hgr ⟨gv, 3, none⟩ (show gv < w4.heap.size by omega) (fun e => by have e : some gv = some (w.heap.size + 1) := e; injection e with e; omega)).trans hf0.2.1, ldB_bk (HKb.out.grown hgr (fun e => by injection e with e; omega))⟩
    obtain ⟨w5, hst5, hk5, hg5⟩ := stB_mid (Bk.drawn1 ((HKB4.out.put 1 (.string m0.v.s)).put 3 (.int .i64 m1.v.n))) b A3 n3 c3
    have q0 : w4.grownBy w4.drew (some (w.heap.size + 1)) := (grown_of_below (below_drew1 (Below.refl _ _))).but _
    have q1 : w4.grownBy (w4.setCell ⟨w.heap.size + 1, 1, none⟩ (.string m0.v.s)).drew (some (w.heap.size + 1)) := (grown_set w4 ⟨w.heap.size + 1, 1, none⟩ (.string m0.v.s)).trans ((grown_of_below (below_drew1 (Below.refl _ _))).but _)
    have q2 : w4.grownBy ((w4.setCell ⟨w.heap.size + 1, 1, none⟩ (.string m0.v.s)).setCell ⟨w.heap.size + 1, 3, none⟩ (.int .i64 m1.v.n)).drew (some (w.heap.size + 1)) := ((grown_set w4 ⟨w.heap.size + 1, 1, none⟩ (.string m0.v.s)).trans (grown_set _ ⟨w.heap.size + 1, 3, none⟩ (.int .i64 m1.v.n))).trans ((grown_of_below (below_drew1 (Below.refl _ _))).but _)
    have q3 := q2.trans hg5
    have HQ3 := Lib.hid q3
    have HK5 := Lib.hid hk5
    clear hg5 hk5 hf0
    go_region_held3 (fun w' => w'.cell? ⟨gv, 1, none⟩ = some (.string m0.v.s) ∧ w'.cell? ⟨gv, 3, none⟩ = some (.int .i64 m1.v.n) ∧ (ldB (.pointer (some ⟨w3.heap.size, 0, none⟩))).run Tryz.prog w' = .ok (.agg #[.int .i64 b.time, .int .i64 b.prod, .int .i64 b.seq, .slice A3 n3 c3]) w') (first | exact HG0.out _ q0 | exact HG0.out _ q1 | exact HG0.out _ q2 | exact HG0.out _ q3) (first | fail)
    all_goals
      have hld := ldE_bk HK5.out
      have hz5 : Bk w5 w.heap.size 26 #[.int .i64 0, .string ⟨#[]⟩, .string ⟨#[]⟩, .int .i64 0, .int .i64 0, .int .i64 0, .int .i64 0, .int .i64 0, .int .i64 0, .int .i64 0, .slice none 0 0] := HKA4.out.keptG HQ3.out (by omega)
      have hstE := stE_row hz5 rfl 3 m0.v.s ⟨#[]⟩ m1.v.n 0 0 0 b.time b.prod b.seq A3 n3 c3
      have HZ5 := Lib.hid hz5
      clear q0 q1 q2 q3 hst5 hz5 HG0
      go_wp2_with fail
      refine bodyPost_ret (res_ent (u := 5) rfl _ _ w.heap.size 3 m0.v.s ⟨#[]⟩ m1.v.n 0 0 0 b.time b.prod b.seq A3 n3 c3 rfl (Bk.row HZ5.out _)) rfl ⟨⟨3, m0.v.s, nul, m1.v.n, 0, 0, 0, b⟩, A3, n3, c3, true, rfl, ⟨?_, (fun ad e => by have h1 := HP3.out ad e; have h2 := Hw2.out; omega), .inl ⟨rfl, b, Hgb.out, rfl⟩⟩, ?_⟩
      · refine RdT.kept (RdT.kept (RdT.ext HR3.out HB4.out) HQ3.out (fun ad e e2 => ?_)) (grown_row _ _ _) (fun ad e e2 => ?_)
        · have h1 := HP3.out ad e
          have h2 := Hw2.out
          have h3 := Option.some.inj e2
          omega
        · have h1 := HP3.out ad e
          have h2 := Hw1.out
          have h3 := Option.some.inj e2
          omega
      · have h4 := HB3.out.trans (below_le HB3.out.size HB4.out)
        have h5 := below_grown h4 h4.size HQ3.out (by omega)
        exact below_row h5 h5.size (Nat.le_refl _) _
  · have hk' : (k3 != 0) = true := by rw [bne_iff_ne]; exact hk
    have HB4 := Lib.hid (below_new w3 (.cells #[.int .i64 noB.time, .int .i64 noB.prod, .int .i64 noB.seq, .slice A3 n3 c3] 24))
    have hz5 := HKA.out.ext HB4.out
    have hstE := stE_row hz5 rfl 0 ⟨#[]⟩ ⟨#[]⟩ 0 0 0 0 0 0 0 none 0 0
    have HZ5 := Lib.hid hz5
    have Hgb := Lib.hid hgb
    clear hk hz5 hgb
    go_wp2_with fail
    have h4 := HB3.out.trans (below_le HB3.out.size HB4.out)
    exact bodyPost_ret (res_ent (u := 5) rfl _ _ w.heap.size 0 ⟨#[]⟩ ⟨#[]⟩ 0 0 0 0 0 0 0 none 0 0 rfl (Bk.row HZ5.out _)) rfl ⟨noE, none, 0, 0, false, rfl, ⟨RdT.nil _, (fun ad h => by cases h), .inr ⟨rfl, rfl, k3, Hgb.out⟩⟩, below_row h4 h4.size (Nat.le_refl _) _⟩
end Go.Proofs.YtpfdbbcfcimmfaaGreatDoor

/-
  staveref19: made, whole.
-/
namespace Go.Proofs.YtpfdbbcfcimmfaaGreatDoor
open Go.RowKit

/-- what the document's made hands back -/
def RMadeR (k : Int) (vs : List Val) (B : Nat) (w' : World) (x : Ent) (A : Option Addr) (n c : Nat) (ok : Bool) : Prop :=
  RdT w' A n c x.bat.vals ∧ (∀ ad, A = some ad → B ≤ ad.block) ∧ ((ok = true ∧ badE k vs = none ∧ x = madeE k vs) ∨ (ok = false ∧ x = noE ∧ ∃ e, badE k vs = some e))
theorem refMade_any (k : Int) (hk : 1 ≤ k ∧ k ≤ 5) (A : Option Addr) (n c : Nat) (ms : List MVal) (w : World) (h : RdV w A n c ms) (hok : okAll (fldsE k) (vsOf ms) = true) :
    Calls Tryz.prog 47 #[.int .i64 k, .slice A n c] w fun e w' => ∃ x A' n' c' ok, e = .returned (.tuple #[.agg #[.int .i64 x.kind, .string x.topic, .string x.group, .int .i64 x.part, .int .i64 x.parts, .int .i64 x.first, .int .i64 x.off, .int .i64 x.bat.time, .int .i64 x.bat.prod, .int .i64 x.bat.seq, .slice A' n' c'], .bool ok]) ∧ RMadeR k (vsOf ms) w.heap.size w' x A' n' c' ok ∧ Below w.heap.size w w' := by
  have hlen := h.rows.len
  rw [List.length_map] at hlen
  have hl2 : ms.length = (fldsE k).length := by
    have h1 := hok
    unfold okAll at h1
    rw [Bool.and_eq_true, decide_eq_true_iff] at h1
    have := h1.1
    unfold vsOf at this
    rw [List.length_map] at this
    exact this
  have hcap := h.rows.cap
  have hbig := h.rows.big
  rcases kind_cases hk with rfl | rfl | rfl | rfl | rfl
  · have hl3 : ms.length = 3 := hl2
    obtain rfl : n = 3 := by omega
    obtain ⟨gv, rfl, hg, hc⟩ := h.cellAt (by omega)
    match ms, hl3 with
    | [m0, m1, m2], _ =>
      refine (refmade_1 gv c m0 m1 m2 w hcap hbig hg (hc 0 m0 1 _ rfl rfl) (hc 1 m1 0 _ rfl rfl) (hc 2 m2 0 _ rfl rfl)).mono ?_
      rintro e w' ⟨rfl, hb⟩
      exact ⟨⟨1, m0.v.s, nul, 0, m1.v.n, m2.v.n, 0, noB⟩, none, 0, 0, true, rfl, ⟨RdT.nil _, (fun ad h => by cases h), .inl ⟨rfl, rfl, rfl⟩⟩, hb⟩
  · have hl3 : ms.length = 1 := hl2
    obtain rfl : n = 1 := by omega
    obtain ⟨gv, rfl, hg, hc⟩ := h.cellAt (by omega)
    match ms, hl3 with
    | [m0], _ =>
      refine (refmade_2 gv c m0 w hcap hbig hg (hc 0 m0 1 _ rfl rfl)).mono ?_
      rintro e w' ⟨rfl, hb⟩
      exact ⟨⟨2, m0.v.s, nul, 0, 0, 0, 0, noB⟩, none, 0, 0, true, rfl, ⟨RdT.nil _, (fun ad h => by cases h), .inl ⟨rfl, rfl, rfl⟩⟩, hb⟩
  · have hl3 : ms.length = 3 := hl2
    obtain rfl : n = 3 := by omega
    obtain ⟨gv, rfl, hg, hc⟩ := h.cellAt (by omega)
    match ms, hl3 with
    | [m0, m1, m2], _ =>
      have hs2 : m2.v.s.size ≤ 600 := by
        obtain ⟨x0, r0, e0, f0, h1⟩ := okAll_cons (f := nameF) (fs := [partF, sF 1 600]) hok
        injection e0 with _ e0
        subst e0
        obtain ⟨x1, r1, e1, f1, h1⟩ := okAll_cons h1
        injection e1 with _ e1
        subst e1
        obtain ⟨x2, r2, e2, f2, h1⟩ := okAll_cons h1
        injection e2 with e2 _
        obtain ⟨s, e3, _, a3⟩ := fits_text rfl f2
        have : m2.v.s = s := by rw [e2, e3]; rfl
        have a3 : (s.size : Int) ≤ 600 := a3
        rw [this]
        omega
      refine (refmade_3 gv c m0 m1 m2 w hcap hbig hg hs2 (hc 0 m0 1 _ rfl rfl) (hc 1 m1 0 _ rfl rfl) (hc 2 m2 1 _ rfl rfl)).mono ?_
      rintro e w' ⟨x, A', n', c', ok, rfl, ⟨r1, r2, r3⟩, hb⟩
      refine ⟨x, A', n', c', ok, rfl, ⟨r1, r2, ?_⟩, hb⟩
      rcases r3 with ⟨h1, b, h2, h3⟩ | ⟨h1, h2, k, h3⟩
      · refine .inl ⟨h1, ?_, ?_⟩
        · show (match getB m2.v.s.data.toList with | .ok _ => none | .error c => some c) = none
          rw [h2]
        · rw [h3]
          show _ = (⟨3, m0.v.s, nul, m1.v.n, 0, 0, 0, batOf (getB m2.v.s.data.toList)⟩ : Ent)
          rw [h2]
          rfl
      · refine .inr ⟨h1, h2, k, ?_⟩
        show (match getB m2.v.s.data.toList with | .ok _ => none | .error c => some c) = some k
        rw [h3]
  · have hl3 : ms.length = 4 := hl2
    obtain rfl : n = 4 := by omega
    obtain ⟨gv, rfl, hg, hc⟩ := h.cellAt (by omega)
    match ms, hl3 with
    | [m0, m1, m2, m3], _ =>
      refine (refmade_4 gv c m0 m1 m2 m3 w hcap hbig hg (hc 0 m0 1 _ rfl rfl) (hc 1 m1 1 _ rfl rfl) (hc 2 m2 0 _ rfl rfl) (hc 3 m3 0 _ rfl rfl)).mono ?_
      rintro e w' ⟨rfl, hb⟩
      exact ⟨⟨4, m1.v.s, m0.v.s, m2.v.n, 0, 0, m3.v.n, noB⟩, none, 0, 0, true, rfl, ⟨RdT.nil _, (fun ad h => by cases h), .inl ⟨rfl, rfl, rfl⟩⟩, hb⟩
  · have hl3 : ms.length = 3 := hl2
    obtain rfl : n = 3 := by omega
    obtain ⟨gv, rfl, hg, hc⟩ := h.cellAt (by omega)
    match ms, hl3 with
    | [m0, m1, m2], _ =>
      refine (refmade_5 gv c m0 m1 m2 w hcap hbig hg (hc 0 m0 1 _ rfl rfl) (hc 1 m1 0 _ rfl rfl) (hc 2 m2 0 _ rfl rfl)).mono ?_
      rintro e w' ⟨rfl, hb⟩
      exact ⟨⟨5, m0.v.s, nul, m1.v.n, 0, 0, m2.v.n, noB⟩, none, 0, 0, true, rfl, ⟨RdT.nil _, (fun ad h => by cases h), .inl ⟨rfl, rfl, rfl⟩⟩, hb⟩

end Go.Proofs.YtpfdbbcfcimmfaaGreatDoor

/-
  Rows of entries that are new, whichever was made first.
-/
namespace Go.Proofs.YtpfdbbcfcimmfaaGreatDoor
open Go.RowKit

def isE (w : World) (g : Nat) : Prop := ∃ old : Array Value, Bk w g 26 old ∧ old.size = 11
theorem isE.lt {w : World} {g : Nat} (h : isE w g) : g < w.heap.size := by
  obtain ⟨old, h1, _⟩ := h
  exact h1.lt
theorem isE_drew (w : World) (g : Nat) : isE w.drew g ↔ isE w g := Iff.rfl
theorem isE.ext {w w' : World} {g : Nat} (h : isE w g) (hb : Below w.heap.size w w') : isE w' g := by
  obtain ⟨old, h1, h2⟩ := h
  exact ⟨old, h1.ext hb, h2⟩
theorem isE.alloc {w : World} {g : Nat} (h : isE w g) (o : Obj) : isE (w.alloc o) g := by
  obtain ⟨old, h1, h2⟩ := h
  exact ⟨old, h1.alloc o, h2⟩
theorem isE.row {w : World} {G : Nat} (h : isE w G) (g : Nat) (c : Array Value) (hc : c.size = 11) : isE (w.setRow g c) G := by
  obtain ⟨old, h1, h2⟩ := h
  by_cases hg : G = g
  · subst hg
    exact ⟨c, h1.row c, hc⟩
  · exact ⟨old, h1.row_far c hg, h2⟩
theorem isE_alloc (w : World) (G : Nat) : isE (w.alloc (.cells #[.int .i64 0, .string ⟨#[]⟩, .string ⟨#[]⟩, .int .i64 0, .int .i64 0, .int .i64 0, .int .i64 0, .int .i64 0, .int .i64 0, .int .i64 0, .slice none 0 0] 26)) G ↔ isE w G ∨ G = w.heap.size := by
  constructor
  · intro h
    by_cases hg : G < w.heap.size
    · obtain ⟨old, h1, h2⟩ := h
      exact .inl ⟨old, (Below.heap_alloc w _ G hg).symm.trans h1, h2⟩
    · have := h.lt
      simp at this
      exact .inr (by omega)
  · rintro (h | rfl)
    · exact h.alloc _
    · exact ⟨_, Bk.made w _ _, rfl⟩
/-- what stE does, under another name -/
def stE0 (v u : Value) : Sem Unit := stE v u
theorem stE_if (w : World) (G : Nat) (k : Int) (t s : ByteArray) (p1 p2 p3 p4 p5 p6 p7 : Int) (A : Option Addr) (n c : Nat) :
    (stE (.pointer (some ⟨G, 0, none⟩)) (.agg #[.int .i64 k, .string t, .string s, .int .i64 p1, .int .i64 p2, .int .i64 p3, .int .i64 p4, .int .i64 p5, .int .i64 p6, .int .i64 p7, .slice A n c])).run Tryz.prog w = @ite _ (isE w G) (Classical.propDecidable _) (.ok () (w.setRow G #[.int .i64 k, .string t, .string s, .int .i64 p1, .int .i64 p2, .int .i64 p3, .int .i64 p4, .int .i64 p5, .int .i64 p6, .int .i64 p7, .slice A n c])) ((stE0 (.pointer (some ⟨G, 0, none⟩)) (.agg #[.int .i64 k, .string t, .string s, .int .i64 p1, .int .i64 p2, .int .i64 p3, .int .i64 p4, .int .i64 p5, .int .i64 p6, .int .i64 p7, .slice A n c])).run Tryz.prog w) := by
  split
  · rename_i h
    obtain ⟨old, h1, h2⟩ := h
    exact stE_row h1 h2 k t s p1 p2 p3 p4 p5 p6 p7 A n c
  · rfl
theorem stE_if2 (w : World) (G g : Nat) (k' : Int) (t' s' : ByteArray) (q1 q2 q3 q4 q5 q6 q7 : Int) (A' : Option Addr) (n' c' : Nat) (k : Int) (t s : ByteArray) (p1 p2 p3 p4 p5 p6 p7 : Int) (A : Option Addr) (n c : Nat) :
    (stE (.pointer (some ⟨G, 0, none⟩)) (.agg #[.int .i64 k, .string t, .string s, .int .i64 p1, .int .i64 p2, .int .i64 p3, .int .i64 p4, .int .i64 p5, .int .i64 p6, .int .i64 p7, .slice A n c])).run Tryz.prog (w.setRow g #[.int .i64 k', .string t', .string s', .int .i64 q1, .int .i64 q2, .int .i64 q3, .int .i64 q4, .int .i64 q5, .int .i64 q6, .int .i64 q7, .slice A' n' c']) = @ite _ (isE w G) (Classical.propDecidable _) (.ok () ((w.setRow g #[.int .i64 k', .string t', .string s', .int .i64 q1, .int .i64 q2, .int .i64 q3, .int .i64 q4, .int .i64 q5, .int .i64 q6, .int .i64 q7, .slice A' n' c']).setRow G #[.int .i64 k, .string t, .string s, .int .i64 p1, .int .i64 p2, .int .i64 p3, .int .i64 p4, .int .i64 p5, .int .i64 p6, .int .i64 p7, .slice A n c])) ((stE0 (.pointer (some ⟨G, 0, none⟩)) (.agg #[.int .i64 k, .string t, .string s, .int .i64 p1, .int .i64 p2, .int .i64 p3, .int .i64 p4, .int .i64 p5, .int .i64 p6, .int .i64 p7, .slice A n c])).run Tryz.prog (w.setRow g #[.int .i64 k', .string t', .string s', .int .i64 q1, .int .i64 q2, .int .i64 q3, .int .i64 q4, .int .i64 q5, .int .i64 q6, .int .i64 q7, .slice A' n' c'])) := by
  split
  · rename_i h
    obtain ⟨old, h1, h2⟩ := h.row g #[.int .i64 k', .string t', .string s', .int .i64 q1, .int .i64 q2, .int .i64 q3, .int .i64 q4, .int .i64 q5, .int .i64 q6, .int .i64 q7, .slice A' n' c'] rfl
    exact stE_row h1 h2 k t s p1 p2 p3 p4 p5 p6 p7 A n c
  · rfl
theorem RdT.row' {w : World} {A : Option Addr} {n c : Nat} {l : List ByteArray} (h : RdT w A n c l) (g : Nat) (r : Array Value) (hg : ∀ ad, A = some ad → ad.block ≠ g) : RdT (w.setRow g r) A n c l :=
  RdT.kept h (grown_row w g r) (fun ad e e2 => hg ad e (Option.some.inj e2).symm)
/-- two rows, and the texts of two entries -/
def Two2 (w : World) (g9 g10 : Nat) (x : Ent) (A1 : Option Addr) (n1 c1 : Nat) (y : Ent) (A2 : Option Addr) (n2 c2 : Nat) : Prop :=
  Bk w g9 26 #[.int .i64 x.kind, .string x.topic, .string x.group, .int .i64 x.part, .int .i64 x.parts, .int .i64 x.first, .int .i64 x.off, .int .i64 x.bat.time, .int .i64 x.bat.prod, .int .i64 x.bat.seq, .slice A1 n1 c1] ∧ Bk w g10 26 #[.int .i64 y.kind, .string y.topic, .string y.group, .int .i64 y.part, .int .i64 y.parts, .int .i64 y.first, .int .i64 y.off, .int .i64 y.bat.time, .int .i64 y.bat.prod, .int .i64 y.bat.seq, .slice A2 n2 c2] ∧ RdT w A1 n1 c1 x.bat.vals ∧ RdT w A2 n2 c2 y.bat.vals
theorem Two2.made {w : World} {g9 g10 : Nat} {x : Ent} {A1 : Option Addr} {n1 c1 : Nat} {y : Ent} {A2 : Option Addr} {n2 c2 : Nat} (h9 : isE w g9) (h10 : isE w g10) (hne : g9 ≠ g10)
    (h1 : RdT w A1 n1 c1 x.bat.vals) (h2 : RdT w A2 n2 c2 y.bat.vals) (k1 : ∀ ad, A1 = some ad → ad.block ≠ g9 ∧ ad.block ≠ g10) (k2 : ∀ ad, A2 = some ad → ad.block ≠ g9 ∧ ad.block ≠ g10) :
    Two2 ((w.setRow g9 #[.int .i64 x.kind, .string x.topic, .string x.group, .int .i64 x.part, .int .i64 x.parts, .int .i64 x.first, .int .i64 x.off, .int .i64 x.bat.time, .int .i64 x.bat.prod, .int .i64 x.bat.seq, .slice A1 n1 c1]).setRow g10 #[.int .i64 y.kind, .string y.topic, .string y.group, .int .i64 y.part, .int .i64 y.parts, .int .i64 y.first, .int .i64 y.off, .int .i64 y.bat.time, .int .i64 y.bat.prod, .int .i64 y.bat.seq, .slice A2 n2 c2]) g9 g10 x A1 n1 c1 y A2 n2 c2 := by
  obtain ⟨o9, b9, _⟩ := h9
  obtain ⟨o10, b10, _⟩ := h10
  exact ⟨(b9.row _).row_far _ hne, (b10.row_far _ (Ne.symm hne)).row _, (h1.row' _ _ (fun ad e => (k1 ad e).1)).row' _ _ (fun ad e => (k1 ad e).2), (h2.row' _ _ (fun ad e => (k2 ad e).1)).row' _ _ (fun ad e => (k2 ad e).2)⟩
end Go.Proofs.YtpfdbbcfcimmfaaGreatDoor

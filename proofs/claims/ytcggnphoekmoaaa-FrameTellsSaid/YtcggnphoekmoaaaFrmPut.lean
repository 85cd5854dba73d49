/-
  The walk of frame.Put.
-/
import Derived.Test.YtcggnphoekmoaaaFrmMem
import Derived.Test.YtcggnphoekmoaaaCrcRef
import Derived.Deep.RegionHeld3
namespace Go.Proofs.Ytcggnphoekmoaaa
open Go.RowKit CrcMath
attribute [local go_sem] w8_nn w8_256 wrap_i64_w8 wrap64_w8 pastA_zero pastA_some Frm.c0 Frm.c1 Frm.c2 Frm.c3
attribute [local go_sem ↓] sliced_past ldF_eq stF_eq bdF_eq

/-- a frame's first 124 bytes; all 128 -/
def Frm.head (f : Frm) : List UInt8 := 83 :: 84 :: UInt8.ofNat f.kind.toNat :: UInt8.ofNat f.slot.toNat :: (leB 4 f.stripe.toNat ++ (leB 8 f.gen.toNat ++ f.data))
def Frm.put (f : Frm) : List UInt8 := f.head ++ leB 4 (on 0#32 f.head).toNat

theorem put_law (f : Frm) (hl : f.data.length = 108) (L2 L4 L5 : List UInt8) (h2 : L2 = (((((List.replicate 128 0).set 0 83).set 1 84).set 2 (UInt8.ofNat f.kind.toNat)).set 3 (UInt8.ofNat f.slot.toNat)))
    (h4 : L4 = laid (laid L2 4 (leB 4 f.stripe.toNat)) 8 (leB 8 f.gen.toNat)) (h5 : L5 = laid L4 16 f.data) : laid L5 124 (leB 4 (w32 (on 0#32 (L5.take 124))).toNat) = f.put := by
  have e2 : L2 = [83, 84, UInt8.ofNat f.kind.toNat, UInt8.ofNat f.slot.toNat] ++ (List.replicate 4 0 ++ (List.replicate 8 0 ++ (List.replicate 108 0 ++ List.replicate 4 0))) := by rw [h2]; rfl
  have e3 : laid L2 4 (leB 4 f.stripe.toNat) = [83, 84, UInt8.ofNat f.kind.toNat, UInt8.ofNat f.slot.toNat] ++ (leB 4 f.stripe.toNat ++ (List.replicate 8 0 ++ (List.replicate 108 0 ++ List.replicate 4 0))) := by
    rw [e2, laid_mid _ _ _ _ 4 rfl (by rw [leB_len, List.length_replicate])]
  have e4 : L4 = ([83, 84, UInt8.ofNat f.kind.toNat, UInt8.ofNat f.slot.toNat] ++ leB 4 f.stripe.toNat) ++ (leB 8 f.gen.toNat ++ (List.replicate 108 0 ++ List.replicate 4 0)) := by
    rw [h4, e3, ← List.append_assoc, laid_mid _ _ _ _ 8 (by rw [List.length_append, leB_len]; rfl) (by rw [leB_len, List.length_replicate])]
  have e5 : L5 = f.head ++ (List.replicate 4 0 ++ []) := by
    rw [h5, e4, ← List.append_assoc, laid_mid _ _ _ _ 16 (by rw [List.length_append, List.length_append, leB_len, leB_len]; rfl) (by rw [hl, List.length_replicate])]
    simp [Frm.head]
  have hh : f.head.length = 124 := by simp [Frm.head, leB_len, hl]
  have e6 : L5.take 124 = f.head := by rw [e5, ← hh, List.take_left]
  have e7 : (w32 (on 0#32 f.head)).toNat = (on 0#32 f.head).toNat := by unfold w32; omega
  rw [e6, e5, e7, laid_mid _ _ _ _ 124 hh (by rw [leB_len, List.length_replicate]), List.append_nil]
  rfl
theorem w8_ofInt (z : Int) (h0 : 0 ≤ z) (h1 : z ≤ 255) : w8 (UInt8.ofNat z.toNat) = z := by
  unfold w8
  rw [UInt8.toNat_ofNat']
  omega
set_option maxRecDepth 100000 in
set_option maxHeartbeats 400000 in
theorem put_no (f : Frm) (hl : f.data.length = 108) (hr : f.right = false) (w : World) :
    Calls Try.prog 18 #[.agg f.cells] w fun e w' => e = .returned (.slice none 0 0) ∧ Below w.heap.size w w' := by
  have hld := ldF_bk (Bk.made w 38 f.cells) hl
  go_enter Try.func18, Try.ntmps18
  go_wp2_with (go_at_call 21; (with_reducible refine (right_any f _).mono ?_); rintro e w1 ⟨rfl, hb1⟩)
  go_wp2_with fail
  go_ret
  exact ⟨rfl, (below_new _ _).trans (below_le (by simp) hb1)⟩
set_option maxRecDepth 100000 in
set_option maxHeartbeats 1000000 in
theorem put_yes (f : Frm) (hl : f.data.length = 108) (hr : f.right = true) (w : World) :
    Calls Try.prog 18 #[.agg f.cells] w fun e w' => ∃ g, w.heap.size ≤ g ∧ e = .returned (.slice (some ⟨g, 0, none⟩) 128 128) ∧ Bb w' g 5 f.put ∧ Below w.heap.size w w' := by
  have hld := ldF_bk (Bk.made w 38 f.cells) hl
  obtain ⟨⟨k0, k1⟩, ⟨s0, s1⟩, ⟨t0, t1⟩, ⟨g0, g1⟩⟩ := (right_iff f).1 hr
  have hmk := mk_bytes 128 128 rfl (by omega)
  go_enter Try.func18, Try.ntmps18
  go_wp2_with fail
  refine (right_any f _).mono ?_
  rintro e w1 ⟨rfl, hb1⟩
  have hF1 : Bk w1 w.heap.size 38 f.cells := (Bk.made w _ f.cells).ext hb1
  have c0 := (hF1.cell 0).trans f.c0
  have c1 := (hF1.cell 1).trans f.c1
  have hlt := hF1.lt
  have hnew := Bb.made w1 128
  have z := fun i (h : i < 128) => (hnew.get (i := i) (by simpa using h))
  obtain ⟨x0, _, d0⟩ := z 0 (by omega)
  obtain ⟨x1, _, d1⟩ := z 1 (by omega)
  obtain ⟨x2, _, d2⟩ := z 2 (by omega)
  obtain ⟨x3, _, d3⟩ := z 3 (by omega)
  have e0 := hnew.thaw 0
  have e1 := hnew.thaw 1
  have e2 := hnew.thaw 2
  have e3 := hnew.thaw 3
  have HN := Lib.hid hnew
  have HF1 := Lib.hid hF1
  clear z hnew hF1
  have hk8 : w8 (UInt8.ofNat f.kind.toNat) = f.kind := w8_ofInt f.kind (by omega) (by omega)
  have hs8 : w8 (UInt8.ofNat f.slot.toNat) = f.slot := w8_ofInt f.slot (by omega) (by omega)
  have Hp := Lib.hid ((((HN.out.put 0 83).put 1 84).put 2 (UInt8.ofNat f.kind.toNat)).put 3 (UInt8.ofNat f.slot.toNat))
  rw [hk8, hs8] at Hp
  clear hk8 hs8
  have FS : Hid (∀ w', Below w1.heap.size w1 w' → (Below w1.heap.size w1 w' ∧ w'.cell? ⟨w.heap.size, 2, none⟩ = some (.int .i64 f.stripe) ∧ w'.cell? ⟨w.heap.size, 3, none⟩ = some (.int .i64 f.gen))) := fun w' hb =>
    ⟨hb, ((HF1.out.ext hb).cell 2).trans f.c2, ((HF1.out.ext hb).cell 3).trans f.c3⟩
  go_wp2_with fail
  refine wp_cut (fun w' => Bb w' w1.heap.size 5 ((((List.replicate 128 0).set 0 83).set 1 84).set 2 (UInt8.ofNat f.kind.toNat) |>.set 3 (UInt8.ofNat f.slot.toNat)) ∧ Below w1.heap.size w1 w') ⟨Hp.out, ?_⟩ ?_
  · exact ((((below_new _ _).setCell (Nat.le_refl _) _).setCell (Nat.le_refl _) _).setCell (Nat.le_refl _) _).setCell (Nat.le_refl _) _
  clear c0 c1 d0 d1 d2 d3 e0 e1 e2 e3 HN Hp
  rintro w2 ⟨hb2, hB2⟩
  obtain ⟨L2, hL2⟩ : ∃ L2, ((((List.replicate 128 0).set 0 83).set 1 84).set 2 (UInt8.ofNat f.kind.toNat) |>.set 3 (UInt8.ofNat f.slot.toNat)) = L2 := ⟨_, rfl⟩
  rw [hL2] at hb2
  have hl2 : 128 ≤ L2.length := by rw [← hL2]; simp
  have HL2 := Lib.hid hL2
  have Hb2 := Lib.hid hb2
  clear hL2 hb2
  have wr1 := wrap_u64_in f.stripe t0 (by omega)
  have wr2 := wrap_u64_in f.gen g0 (by omega)
  go_region_held3 (fun w' => Below w1.heap.size w1 w' ∧ w'.cell? ⟨w.heap.size, 2, none⟩ = some (.int .i64 f.stripe) ∧ w'.cell? ⟨w.heap.size, 3, none⟩ = some (.int .i64 f.gen)) (first | exact FS.out _ hB3 | exact FS.out _ (below_drew1 hB2)) ((go_at_call 28; (with_reducible refine (low_int w1.heap.size 4 4 124 5 L2 f.stripe _ t0 ?_ ?_ ?_ w1 w1.heap.size ?_ ?_ ?_).mono ?_); exact Hb2.out.drawn1; omega; omega; exact below_drew1 hB2; exact Nat.le_refl _; exact (below_drew1 hB2).size; rintro e w3 ⟨rfl, hb3, hB3⟩))
  have Hb3 := Lib.hid hb3
  clear hb3 hB2
  go_wp2_with fail
  go_region_held3 (fun w' => Below w1.heap.size w1 w' ∧ w'.cell? ⟨w.heap.size, 2, none⟩ = some (.int .i64 f.stripe) ∧ w'.cell? ⟨w.heap.size, 3, none⟩ = some (.int .i64 f.gen)) (first | exact FS.out _ hB4 | exact FS.out _ (below_drew1 hB3)) ((go_at_call 28; (with_reducible refine (low_int w1.heap.size 8 8 120 5 _ f.gen _ g0 Hb3.out.drawn1 ?_ ?_ w1 w1.heap.size ?_ ?_ ?_).mono ?_); rw [laid_len _ _ _ (by rw [leB_len]; omega)]; omega; omega; exact below_drew1 hB3; exact Nat.le_refl _; exact (below_drew1 hB3).size; rintro e w4 ⟨rfl, hb4, hB4⟩))
  have Hb4 := Lib.hid hb4
  clear hb4 hB3
  clear wr1 wr2
  have hl4 : (laid (laid L2 4 (leB 4 f.stripe.toNat)) 8 (leB 8 f.gen.toNat)).length = L2.length := by
    have h3 : (laid L2 4 (leB 4 f.stripe.toNat)).length = L2.length := laid_len _ _ _ (by rw [leB_len]; omega)
    rw [laid_len _ _ _ (by rw [leB_len, h3]; omega), h3]
  obtain ⟨L4, hL4⟩ : ∃ L4, laid (laid L2 4 (leB 4 f.stripe.toNat)) 8 (leB 8 f.gen.toNat) = L4 := ⟨_, rfl⟩
  rw [hL4] at hl4
  rw [hL4] at Hb4
  have HL4 := Lib.hid hL4
  have Hl4 := Lib.hid hl4
  clear hL4 hl4
  have HD := Lib.hid (Frm.reads (HF1.out.ext (below_drew1 hB4)) hl)
  go_wp2_with fail
  go_region_held3 (fun w' => Below w1.heap.size w1 w') (first | exact hB5 | exact below_drew1 hB4) ((refine step_copy_bytes (by rfl) (.tmp 35) (.tmp 37) 24 24 (by rfl) 5 Try.underlying24 size_byte (some ⟨w1.heap.size, 16, none⟩) 108 112 108 108 (some ⟨w.heap.size, 4, none⟩) (by rfl) (by rfl) w1.heap.size 16 (bvs L4) 5 (Bb.drawn1 Hb4.out) f.data HD.out (by rfl) (by rw [bvs_len, Hl4.out]; omega) w1.heap.size w1 (below_drew1 hB4) (Nat.le_refl _) ?_; intro w5 hb5 hB5))
  rw [List.take_of_length_le (by omega), splice_bytes] at hb5
  obtain ⟨L5, hL5⟩ : ∃ L5, laid L4 16 f.data = L5 := ⟨_, rfl⟩
  rw [hL5] at hb5
  have hl5 := Lib.hid (show L5.length = L2.length by rw [← hL5, laid_len _ _ _ (by rw [Hl4.out, hl]; omega), Hl4.out])
  have HL5 := Lib.hid hL5
  have wr3 : ∀ c, IntKind.u64.wrap (w32 c) = w32 c := fun c => wrap_u64_in _ (w32_lt c).1 (by have := (w32_lt c).2; omega)
  clear hL5 hB4 HD
  go_wp2_with fail
  go_region_held3 (fun w' => Below w1.heap.size w1 w') (first | exact hB7 | exact hB6 | exact below_drew1 hB5) (first | (go_at_call 29; (with_reducible refine (make_any _).mono ?_); rintro e w6 ⟨rfl, ht6, hb6⟩; have hB6 : Below w1.heap.size w1 w6 := (below_drew1 hB5).trans (below_le (below_drew1 hB5).size hb6); have Hb6 := Lib.hid ((Bb.drawn1 hb5.out).ext hb6); have Ht6 := Lib.hid ht6; clear ht6 hb6) | (go_at_call 30; (with_reducible refine (sum_any _ _ 124 128 (L5.take 124) _ ?_ ?_).mono ?_); exact Ht6.out; exact (show Bb w6 _ _ L5 from Hb6.out).reads 0 124 128 (by rw [hl5.out]; omega) (by omega) (by omega); rintro e w6' ⟨rfl, rfl⟩) | (go_at_call 28; (with_reducible refine (low_int w1.heap.size 124 4 4 5 L5 _ _ (w32_lt _).1 ?_ ?_ ?_ w1 w1.heap.size ?_ ?_ ?_).mono ?_); exact Hb6.out; rw [hl5.out]; omega; omega; exact hB6; exact Nat.le_refl _; exact hB6.size; rintro e w7 ⟨rfl, hb7, hB7⟩))
  go_wp2
  go_ret
  refine ⟨w1.heap.size, Nat.le_of_lt hlt, rfl, ?_, (below_new _ _).trans (below_le (by simp) (hb1.trans (below_le hb1.size hB7)))⟩
  rw [put_law f hl L2 L4 L5 HL2.out.symm HL4.out.symm HL5.out.symm] at hb7
  exact hb7
end Go.Proofs.Ytcggnphoekmoaaa

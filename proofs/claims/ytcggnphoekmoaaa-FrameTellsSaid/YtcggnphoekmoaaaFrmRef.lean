/-
  The walks of the document's PutFrame.
-/
import Derived.Test.YtcggnphoekmoaaaFrmLaw
namespace Go.Proofs.Ytcggnphoekmoaaa
open Go.RowKit CrcMath
attribute [local go_sem] w8_nn w8_256 wrap_i64_w8 wrap64_w8 pastA_zero pastA_some Frm.c0 Frm.c1 Frm.c2 Frm.c3
attribute [local go_sem ↓] sliced_past ldF_eq stF_eq bdF_eq

set_option maxRecDepth 100000 in
set_option maxHeartbeats 400000 in
theorem refPut_no (f : Frm) (hl : f.data.length = 108) (hr : f.right = false) (w : World) :
    Calls Try.prog 23 #[.agg f.cells] w fun e w' => e = .returned (.slice none 0 0) ∧ Below w.heap.size w w' := by
  have hld := ldF_bk (Bk.made w 38 f.cells) hl
  go_enter Try.func23, Try.ntmps23
  go_wp2_with fail
  refine (refRight_any f _).mono ?_
  rintro e w1 ⟨rfl, hb1⟩
  go_wp2_with fail
  go_ret
  exact ⟨rfl, (below_new _ _).trans (below_le (by simp) hb1)⟩
theorem leB_one (x : Nat) : leB 1 x = [UInt8.ofNat x] := rfl
theorem ref_put (f : Frm) (D : List UInt8) (hD : D = ([] ++ leB 2 21587 ++ leB 1 f.kind.toNat ++ leB 1 f.slot.toNat ++ leB 4 f.stripe.toNat ++ leB 8 f.gen.toNat) ++ f.data) : D ++ leB 4 (w32 (on 0#32 D)).toNat = f.put := by
  have e : D = f.head := by
    rw [hD, leB_one, leB_one]
    simp [Frm.head, leB]
  have e7 : (w32 (on 0#32 f.head)).toNat = (on 0#32 f.head).toNat := by unfold w32; omega
  rw [e, e7]
  rfl
set_option maxRecDepth 100000 in
set_option maxHeartbeats 1000000 in
theorem refPut_yes (f : Frm) (hl : f.data.length = 108) (hr : f.right = true) (w : World) :
    Calls Try.prog 23 #[.agg f.cells] w fun e w' => ∃ A c, e = .returned (.slice A 128 c) ∧ RdB w' A 128 c f.put ∧ Below w.heap.size w w' := by
  have hld := ldF_bk (Bk.made w 38 f.cells) hl
  obtain ⟨⟨k0, k1⟩, ⟨s0, s1⟩, ⟨t0, t1⟩, ⟨g0, g1⟩⟩ := (right_iff f).1 hr
  go_enter Try.func23, Try.ntmps23
  go_wp2_with fail
  refine (refRight_any f _).mono ?_
  rintro e w1 ⟨rfl, hb1⟩
  have hF1 : Bk w1 w.heap.size 38 f.cells := (Bk.made w _ f.cells).ext hb1
  have hlt := hF1.lt
  have HF1 := Lib.hid hF1
  have FS : Hid (∀ w', Below w1.heap.size w1 w' → (Below w1.heap.size w1 w' ∧ w'.cell? ⟨w.heap.size, 0, none⟩ = some (.int .i64 f.kind) ∧ w'.cell? ⟨w.heap.size, 1, none⟩ = some (.int .i64 f.slot) ∧ w'.cell? ⟨w.heap.size, 2, none⟩ = some (.int .i64 f.stripe) ∧ w'.cell? ⟨w.heap.size, 3, none⟩ = some (.int .i64 f.gen))) := fun w' hb =>
    ⟨hb, ((HF1.out.ext hb).cell 0).trans f.c0, ((HF1.out.ext hb).cell 1).trans f.c1, ((HF1.out.ext hb).cell 2).trans f.c2, ((HF1.out.ext hb).cell 3).trans f.c3⟩
  clear hF1 hld
  have wr0 := wrap_u64_in f.kind (by omega) (by omega)
  have wr1 := wrap_u64_in f.slot (by omega) (by omega)
  have wr2 := wrap_u64_in f.stripe (by omega) (by omega)
  have wr3 := wrap_u64_in f.gen (by omega) (by omega)
  have hB1 : Below w1.heap.size w1 w1 := Below.refl _ _
  go_wp2_with fail
  go_region_held3 (fun w' => Below w1.heap.size w1 w' ∧ w'.cell? ⟨w.heap.size, 0, none⟩ = some (.int .i64 f.kind) ∧ w'.cell? ⟨w.heap.size, 1, none⟩ = some (.int .i64 f.slot) ∧ w'.cell? ⟨w.heap.size, 2, none⟩ = some (.int .i64 f.stripe) ∧ w'.cell? ⟨w.heap.size, 3, none⟩ = some (.int .i64 f.gen))
    (first | exact FS.out _ hB4 | exact FS.out _ hB3 | exact FS.out _ hB2 | exact FS.out _ (below_drew1 hB1))
    (first | (go_at_call 34; (with_reducible refine (num_int none 0 0 [] 21587 2 2 rfl _ ?_ ?_ ?_ ?_).mono ?_); omega; exact Rd.nil _ _; omega; omega; rintro e w2 ⟨A2, c2, rfl, ho2, hb2⟩; have hB2 : Below w1.heap.size w1 w2 := (below_drew1 hB1).trans (below_le (below_drew1 hB1).size hb2); have H2 := Lib.hid ho2.rd; clear ho2 hb2) | (go_at_call 34; (with_reducible refine (num_int A2 _ c2 _ f.kind 1 1 rfl _ ?_ H2.out ?_ ?_).mono ?_); omega; omega; omega; rintro e w3 ⟨A3, c3, rfl, ho3, hb3⟩; have hB3 : Below w1.heap.size w1 w3 := hB2.trans (below_le hB2.size hb3); have H3 := Lib.hid ho3.rd; clear ho3 hb3) | (go_at_call 34; (with_reducible refine (num_int A3 _ c3 _ f.slot 1 1 rfl _ ?_ H3.out ?_ ?_).mono ?_); omega; omega; omega; rintro e w4 ⟨A4, c4, rfl, ho4, hb4⟩; have hB4 : Below w1.heap.size w1 w4 := hB3.trans (below_le hB3.size hb4); have H4 := Lib.hid ho4.rd; clear ho4 hb4) | fail)
  clear H2 H3 hB3 hB2
  go_wp2_with fail
  go_region_held3 (fun w' => Below w1.heap.size w1 w' ∧ w'.cell? ⟨w.heap.size, 0, none⟩ = some (.int .i64 f.kind) ∧ w'.cell? ⟨w.heap.size, 1, none⟩ = some (.int .i64 f.slot) ∧ w'.cell? ⟨w.heap.size, 2, none⟩ = some (.int .i64 f.stripe) ∧ w'.cell? ⟨w.heap.size, 3, none⟩ = some (.int .i64 f.gen))
    (first | exact FS.out _ hB6 | exact FS.out _ hB5 | exact FS.out _ (below_drew1 hB4))
    (first | (go_at_call 34; (with_reducible refine (num_int A4 _ c4 _ f.stripe 4 4 rfl _ t0 (RdB.drew1 H4.out) ?_ ?_).mono ?_); omega; omega; rintro e w5 ⟨A5, c5, rfl, ho5, hb5⟩; have hB5 : Below w1.heap.size w1 w5 := (below_drew1 hB4).trans (below_le (below_drew1 hB4).size hb5); have H5 := Lib.hid ho5.rd; clear ho5 hb5) | (go_at_call 34; (with_reducible refine (num_int A5 _ c5 _ f.gen 8 8 rfl _ g0 H5.out ?_ ?_).mono ?_); omega; omega; rintro e w6 ⟨A6, c6, rfl, ho6, hb6⟩; have hB6 : Below w1.heap.size w1 w6 := hB5.trans (below_le hB5.size hb6); have H6 := Lib.hid ho6; have hs5 := hB5.size; have hs6 := hb6.size; clear ho6 hb6) | fail)
  have hD : Hid (∃ D, D = ([] ++ leB 2 21587 ++ leB 1 f.kind.toNat ++ leB 1 f.slot.toNat ++ leB 4 f.stripe.toNat ++ leB 8 f.gen.toNat)) := ⟨_, rfl⟩
  obtain ⟨D, hD⟩ := hD.out
  have hDl : D.length = 16 := by rw [hD]; simp [leB_len]
  have H6' : Hid (OwnB w6 w5.heap.size (.slice A6 16 c6) D) := by rw [hD]; exact H6.out
  have HD := Lib.hid hD
  have HDl := Lib.hid hDl
  clear H5 H4 H6 hB5 hD hDl hB4 wr0 wr1 wr2 wr3
  go_wp2_with (at_builtin; refine wpList_append_bytes rfl (.tmp 25) (.tmp 27) rfl w5.heap.size w6 _ D rfl H6'.out (some ⟨w.heap.size, 4, none⟩) 108 108 f.data rfl (Frm.reads (HF1.out.ext hB6) hl) (by rw [HDl.out]; omega) (Below.refl _ _) hs6 124 (by rw [HDl.out]) ?_; intro A7 c7 w7 hown7 hb7 hB7)
  have H7 := Lib.hid hown7.out.rd
  clear hown7 H6'
  refine (refCrc_any A7 124 c7 _ w7 H7.out).mono ?_
  rintro e w8 ⟨rfl, rfl⟩
  have wr := wrap_u64_in (w32 (on 0#32 (D ++ f.data))) (w32_lt _).1 (by have := (w32_lt (on 0#32 (D ++ f.data))).2; omega)
  go_wp2_with fail
  refine (num_int A7 124 c7 _ _ 4 4 rfl w7 (w32_lt _).1 H7.out (by omega) (by omega)).mono ?_
  rintro e w9 ⟨A9, c9, rfl, ho9, hb9⟩
  have h9 := ho9.rd
  rw [ref_put f (D ++ f.data) (by rw [HD.out])] at h9
  have H9 := Lib.hid h9
  clear h9 ho9 wr
  go_wp2_with fail
  go_ret
  refine ⟨A9, c9, rfl, H9.out, ?_⟩
  have hB7' : Below w.heap.size w6 w7 := below_le (by omega) hb7
  have hB1' : Below w.heap.size w w1 := (below_new _ _).trans (below_le (by simp) hb1)
  exact (hB1'.trans (below_le hB1'.size hB6)).trans (hB7'.trans (below_le (by omega) hb9))
end Go.Proofs.Ytcggnphoekmoaaa

/-
  The walk of the law FrameApart.
-/
import Derived.Test.YtcggnphoekmoaaaFrmOnly
namespace Go.Proofs.Ytcggnphoekmoaaa
open Go.RowKit CrcMath
attribute [local go_sem] w8_nn w8_256 wrap_i64_w8 wrap64_w8 pastA_zero pastA_some xor_u8
attribute [local go_sem ↓] sliced_past ldF_eq stF_eq bdF_eq

/-- what Put hands back: the bytes, or none -/
def putL (f : Frm) : List UInt8 := if f.right then f.put else []
theorem putL_yes {f : Frm} (h : f.right = true) : putL f = f.put := by simp [putL, h]
theorem putL_no {f : Frm} (h : f.right = false) : putL f = [] := by simp [putL, h]
theorem put_any (f : Frm) (hl : f.data.length = 108) (w : World) :
    Calls Try.prog 18 #[.agg f.cells] w fun e w' => ∃ A n c, e = .returned (.slice A n c) ∧ RdB w' A n c (putL f) ∧ Below w.heap.size w w' := by
  cases hr : f.right
  · rw [putL_no hr]
    exact (put_no f hl hr w).mono fun e w' ⟨h1, h2⟩ => ⟨none, 0, 0, h1, RdB.nil _, h2⟩
  · rw [putL_yes hr]
    exact (put_yes f hl hr w).mono fun e w' ⟨g, _, h1, h2, h3⟩ => ⟨some ⟨g, 0, none⟩, 128, 128, h1, h2.whole 128 128 (put_len hl).symm (Nat.le_refl _) (by omega), h3⟩
theorem put_same {f g : Frm} (hl : f.data.length = 108) (hl' : g.data.length = 108) (hr : f.right = true) (hs : g.right = true) : decide (f.put = g.put) = f.same g := by
  rw [Bool.eq_iff_iff, decide_eq_true_iff, same_iff]
  constructor
  · intro h
    rw [← frmOf_put hl hr, h, frmOf_put hl' hs]
  · rintro rfl
    rfl
theorem bk_made'' (w : World) (t : TypeId) (cs : Array Value) (g : Nat) (hg : g = w.heap.size) : Bk (w.alloc (.cells cs t)) g t cs := by subst hg; exact Bk.made w t cs
set_option maxRecDepth 100000 in
set_option maxHeartbeats 1000000 in
theorem frameApart_any {H : Type} {enc : TypeId × Value → H} {base : Nat} {v0 v1 v2 v3 : Value} {d0 d1 d2 d3 : DataW H} {p0 p1 p2 p3 : List MemPlace} (w : World) (h0 : Came enc w base 38 v0 d0 p0) (h1 : Came enc w base 38 v1 d1 p1) (h2 : Came enc w base 3 v2 d2 p2) (h3 : Came enc w base 5 v3 d3 p3) :
    Calls Try.prog 9 #[v0, v1, v2, v3] w fun e w' => e = .returned (.bool true) ∧ Below w.heap.size w w' := by
  obtain ⟨f, rfl, hok⟩ := h0.frame
  obtain ⟨g, rfl, hok'⟩ := h1.frame
  obtain ⟨z, rfl, hz1, hz2⟩ := h2.int
  obtain ⟨x, rfl⟩ := h3.u8
  clear h0 h1 h2 h3
  have hl := hok.len
  have hl' := hok'.len
  clear hok hok'
  have hz := zero_frm
  go_enter Try.func9, Try.ntmps9
  go_wp2_with fail
  refine wp_cut (fun w' => Bk w' w.heap.size 38 f.cells ∧ Bk w' (w.heap.size + 1) 38 g.cells ∧ Below w.heap.size w w') ⟨(Bk.made w _ _).alloc _, bk_made'' _ _ _ _ (by simp), (below_new w _).alloc (by simp) _⟩ ?_
  rintro w1 ⟨hf1, hg1, hB1⟩
  have FS : Hid (∀ w', Below w1.heap.size w1 w' → (Below w1.heap.size w1 w' ∧ (ldF (.pointer (some ⟨w.heap.size, 0, none⟩))).run Try.prog w' = .ok (.agg f.cells) w' ∧ (ldF (.pointer (some ⟨w.heap.size + 1, 0, none⟩))).run Try.prog w' = .ok (.agg g.cells) w')) := fun w' hb => ⟨hb, ldF_bk (hf1.ext hb) hl, ldF_bk (hg1.ext hb) hl'⟩
  have HF1 := Lib.hid hf1
  have HG1 := Lib.hid hg1
  clear hf1 hg1
  have hb0 := below_drew1 (Below.refl w1.heap.size w1)
  go_region_held3 (fun w' => Below w1.heap.size w1 w' ∧ (ldF (.pointer (some ⟨w.heap.size, 0, none⟩))).run Try.prog w' = .ok (.agg f.cells) w' ∧ (ldF (.pointer (some ⟨w.heap.size + 1, 0, none⟩))).run Try.prog w' = .ok (.agg g.cells) w') (first | exact FS.out _ hB3 | exact FS.out _ hB2 | exact FS.out _ hb0)
    (first | (go_at_call 18; (with_reducible refine (put_any f hl _).mono ?_); rintro e w2 ⟨A2, n2, c2, rfl, hr2, hb2⟩; have hB2 : Below w1.heap.size w1 w2 := hb0.trans (below_le hb0.size hb2); have H2 := Lib.hid hr2; clear hr2 hb2) | (go_at_call 18; (with_reducible refine (put_any g hl' _).mono ?_); rintro e w3 ⟨A3, n3, c3, rfl, hr3, hb3⟩; have hB3 : Below w1.heap.size w1 w3 := hB2.trans (below_le hB2.size hb3); have H3 := Lib.hid hr3; have H2 := Lib.hid (H2.out.ext hb3); clear hr3 hb3) | fail)
  have hB : Below w.heap.size w w3 := hB1.trans (below_le hB1.size hB3)
  have HFr := Lib.hid (HF1.out.ext hB3)
  have HGr := Lib.hid (HG1.out.ext hB3)
  clear FS HF1 HG1 hb0 hB2 hB3 hB1
  cases hr : f.right
  · obtain rfl : 0 = n2 := by rw [← H2.out.len, putL_no hr]; rfl
    go_wp2_with fail
    refine (frameRuns_any _).mono ?_
    rintro e w4 ⟨rfl, hb4⟩
    go_wp2
    go_ret
    exact ⟨rfl, hB.trans (below_le hB.size hb4)⟩
  · cases hs : g.right
    · obtain rfl : 0 = n3 := by rw [← H3.out.len, putL_no hs]; rfl
      obtain rfl : 128 = n2 := by rw [← H2.out.len, putL_yes hr, put_len hl]
      go_wp2_with fail
      refine (frameRuns_any _).mono ?_
      rintro e w4 ⟨rfl, hb4⟩
      go_wp2
      go_ret
      exact ⟨rfl, hB.trans (below_le hB.size hb4)⟩
    · obtain rfl : 128 = n3 := by rw [← H3.out.len, putL_yes hs, put_len hl']
      obtain rfl : 128 = n2 := by rw [← H2.out.len, putL_yes hr, put_len hl]
      rw [putL_yes hr] at H2
      rw [putL_yes hs] at H3
      have hc2 := H2.out.cap
      have hpl := put_len hl
      go_wp2_with fail
      refine (within_nat _ _ _ (by omega) (by omega) hz1 hz2).mono ?_
      rintro e w4 ⟨k, rfl, hk, rfl⟩
      have hkc : (k : Int) ≤ c2 := by omega
      go_wp2_with fail
      refine (get_len A2 k c2 _ (by omega)).mono ?_
      rintro e w5 ⟨rfl, hb5⟩
      have hB5 := hB.trans (below_le hB.size hb5)
      have hst := stF_new w5 zeroF zeroF blank_len blank_len
      have hB6 := hB5.alloc hB5.size (.cells zeroF.cells 38)
      have hE := OwnB.empty' (w5.alloc (.cells zeroF.cells 38)) (w5.alloc (.cells zeroF.cells 38)).heap.size (w5.heap.size + 1) (by simp) (Nat.le_refl _)
      have hRa := ((H2.out.ext hb5).ext (below_new w5 (.cells zeroF.cells 38)))
      have hRb := ((H3.out.ext hb5).ext (below_new w5 (.cells zeroF.cells 38)))
      have HE := Lib.hid hE
      have HRa := Lib.hid hRa
      have HRb := Lib.hid hRb
      have HFa := Lib.hid ((HFr.out.ext hb5).alloc (.cells zeroF.cells 38))
      have HGa := Lib.hid ((HGr.out.ext hb5).alloc (.cells zeroF.cells 38))
      clear hE hRa hRb H2 H3 HFr HGr
      go_wp2_with (at_builtin; (first | (refine wpList_append_bytes rfl (.tmp 40) (.tmp 41) rfl (w5.alloc (.cells zeroF.cells 38)).heap.size (w5.alloc (.cells zeroF.cells 38)) _ [] rfl HE.out A2 128 c2 f.put rfl (HRa.out.ext (below_new _ _)) (by simp) (below_new _ _) (by simp) 128 rfl ?_; intro A8 c8 u8 hown8 hb8 hB8; rw [List.nil_append] at hown8) | (refine wpList_append_bytes rfl (.tmp 42) (.tmp 44) rfl (w5.alloc (.cells zeroF.cells 38)).heap.size (w5.alloc (.cells zeroF.cells 38)) (.slice A8 128 c8) f.put rfl (World.ownsRow.alloc hown8.out _) (some ⟨u8.heap.size, 0, none⟩) 1 1 [x] rfl (RdB.const u8 [x] _ rfl 5 (0, 0) 1 rfl (by omega)) (by rw [hpl]; omega) (hb8.alloc hB8 _) (by simp at hB8 ⊢; omega) 129 (by rw [hpl]) ?_; intro A9 c9 u9 hown9 hb9 hB9) | fail))
      clear hown8 hb8 hB8
      refine (get_len A9 129 c9 _ (by omega)).mono ?_
      rintro e u10 ⟨rfl, hb10⟩
      have hst2 := stF_new u10 zeroF zeroF blank_len blank_len
      have hb910 := hb9.trans (below_le hb9.size hb10)
      have hB10 := hB6.trans (below_le hB6.size hb910)
      have hE2 := hb910.trans (below_le hb910.size (below_new u10 (.cells zeroF.cells 38)))
      have HRa2 := Lib.hid (HRa.out.ext hE2)
      have HRb2 := Lib.hid (HRb.out.ext hE2)
      have HFa2 := Lib.hid (HFa.out.ext hE2)
      have HGa2 := Lib.hid (HGa.out.ext hE2)
      have hB11 := hB6.trans (below_le hB6.size hE2)
      clear HRa HRb HFa HGa hown9 hb9 hB9 hb10 hb910 hE2 HE hB10 hst
      have heq : ∀ w, (Op.equalIn 10000 38 (.agg f.cells) (.agg g.cells)).run Try.prog w = .ok (f.same g) w := eq_frm f g hl hl'
      have hps := put_same hl hl' hr hs
      generalize f.same g = b at heq hps
      have Hps := Lib.hid hps
      clear hps
      go_wp2_with fail
      refine wp_cut (fun w' => RdB w' A2 128 c2 f.put ∧ RdB w' A3 128 c3 g.put ∧ Bk w' w.heap.size 38 f.cells ∧ Bk w' (w.heap.size + 1) 38 g.cells ∧ Below w.heap.size w w') ⟨HRa2.out, HRb2.out, HFa2.out, HGa2.out, hB11⟩ ?_
      clear HRa2 HRb2 HFa2 HGa2 hB11 hst2
      rintro w11 ⟨hra, hrb, hfa, hga, hB11⟩
      have FS : Hid (∀ w', Below w11.heap.size w11 w' → (Below w11.heap.size w11 w' ∧ (ldF (.pointer (some ⟨w.heap.size, 0, none⟩))).run Try.prog w' = .ok (.agg f.cells) w' ∧ (ldF (.pointer (some ⟨w.heap.size + 1, 0, none⟩))).run Try.prog w' = .ok (.agg g.cells) w')) := fun w' hb => ⟨hb, ldF_bk (hfa.ext hb) hl, ldF_bk (hga.ext hb) hl'⟩
      have hb0 := below_drew1 (Below.refl w11.heap.size w11)
      have Hra := Lib.hid (hra.ext hb0)
      have Hrb := Lib.hid (hrb.ext hb0)
      clear hra hrb hfa hga
      go_region_held3 (fun w' => Below w11.heap.size w11 w' ∧ (ldF (.pointer (some ⟨w.heap.size, 0, none⟩))).run Try.prog w' = .ok (.agg f.cells) w' ∧ (ldF (.pointer (some ⟨w.heap.size + 1, 0, none⟩))).run Try.prog w' = .ok (.agg g.cells) w') (first | exact FS.out _ hB13 | exact FS.out _ hB12 | exact FS.out _ hb0)
        (first | (go_at_call 20; (with_reducible refine (same_at _ 128 c2 f.put _ 128 c3 g.put _ Hra.out Hrb.out b Hps.out).mono ?_); rintro e w12 ⟨rfl, hb12⟩; have hB12 : Below w11.heap.size w11 w12 := hb0.trans (below_le hb0.size hb12); clear hb12) | (go_at_call 6; (with_reducible refine (frameRuns_any _).mono ?_); rintro e w13 ⟨rfl, hb13⟩; have hB13 : Below w11.heap.size w11 w13 := hB12.trans (below_le hB12.size hb13); clear hb13) | fail)
      go_wp2
      go_ret
      exact ⟨rfl, hB11.trans (below_le hB11.size hB13)⟩
end Go.Proofs.Ytcggnphoekmoaaa

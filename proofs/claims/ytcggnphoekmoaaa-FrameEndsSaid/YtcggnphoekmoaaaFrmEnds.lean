/-
  The walk of the law FrameEnds.
-/
import Derived.Test.YtcggnphoekmoaaaFrmKeep
import Derived.Test.YtcggnphoekmoaaaFrmRuns
import Derived.Test.YtcggnphoekmoaaaOpen
namespace Go.Proofs.Ytcggnphoekmoaaa
open Go.RowKit CrcMath
attribute [local go_sem] w8_nn w8_256 wrap_i64_w8 wrap64_w8 pastA_zero pastA_some Frm.c0 Frm.c1 Frm.c2 Frm.c3
attribute [local go_sem ↓] sliced_past ldF_eq stF_eq bdF_eq

/-- what a wrong frame's end of the law needs -/
theorem wrong_put (g : Nat) (f o : Frm) (i : Nat) (v : Value) (w : World) (h : Bk w g 38 f.cells) (hc : f.cells.setIfInBounds i v = o.cells) : Bk (w.setCell ⟨g, i, none⟩ v) g 38 o.cells := by
  rw [← hc]
  exact h.put i v
set_option maxRecDepth 100000 in
set_option maxHeartbeats 2000000 in
theorem frameEnds_any {H : Type} {enc : TypeId × Value → H} {base : Nat} {v0 v1 : Value} {d0 d1 : DataW H} {p0 p1 : List MemPlace} (w : World) (h0 : Came enc w base 3 v0 d0 p0) (h1 : Came enc w base 3 v1 d1 p1) :
    Calls Try.prog 10 #[v0, v1] w fun e w' => e = .returned (.bool true) ∧ Below w.heap.size w w' := by
  obtain ⟨z, rfl, _, _⟩ := h0.int
  obtain ⟨y, rfl, hz1, hz2⟩ := h1.int
  clear h0 h1
  have hz := zero_frm
  go_enter Try.func10, Try.ntmps10
  go_wp2_with fail
  refine (keepFrame_any 2 7 63 1152921504606846976 z _).mono ?_
  rintro e w1 ⟨D, hD, rfl, hb1⟩
  obtain ⟨f, hf⟩ : ∃ f : Frm, f = ⟨2, 7, 63, 1152921504606846976, D⟩ := ⟨_, rfl⟩
  have hr : f.right = true := right_mk (by subst hf; simp)
  have hl : f.data.length = 108 := by rw [hf]; exact hD
  rw [← hf]
  have hst := stF_new w1 zeroF f blank_len hl
  have hld := ldF_bk (Bk.made w1 38 f.cells) hl
  have Hf := Lib.hid hf
  clear hf
  go_wp2_with fail
  refine (right_any f _).mono ?_
  rw [hr]
  rintro e w2 ⟨rfl, hb2⟩
  have hbk2 := (Bk.made w1 38 f.cells).ext hb2
  have hld2 := ldF_bk hbk2 hl
  have Hbk2 := Lib.hid hbk2
  clear hbk2 hld
  go_wp2_with fail
  refine (put_yes f hl hr _).mono ?_
  rintro e w3 ⟨g3, _, rfl, _, hb3⟩
  have hst3 := stF_new w3 zeroF f blank_len hl
  have hld3 := ldF_bk (Hbk2.out.ext hb3) hl
  have hB1 := hb1.trans (below_le hb1.size ((below_new w1 (.cells f.cells 38)).trans (below_le (by simp) hb2)))
  have hB3 := hB1.trans (below_le hB1.size hb3)
  have hB4 := hB3.alloc hB3.size (.cells f.cells 38)
  have Hbk := Lib.hid (Bk.made w3 38 f.cells)
  have hs3 := hB3.size
  clear hb1 hb2 hb3 hB1 hst hB3 hld2
  go_wp2_with fail
  refine (within_nat _ _ _ (by omega) (by omega) hz1 hz2).mono ?_
  rintro e w4 ⟨k, rfl, hk, hw4⟩
  have hbk4 : Bk w4 w3.heap.size 38 f.cells := by rw [← hw4]; exact Hbk.out
  have hB : Below w.heap.size w w4 := by rw [← hw4]; exact hB4
  obtain ⟨g, hg⟩ : ∃ g, w3.heap.size = g := ⟨_, rfl⟩
  rw [hg] at hbk4 hs3
  clear hw4 Hbk hB4 hst3 hld3
  have c0 := (hbk4.cell 0).trans f.c0
  have c1 := (hbk4.cell 1).trans f.c1
  have c2 := (hbk4.cell 2).trans f.c2
  have c3 := (hbk4.cell 3).trans f.c3
  have z0 := hbk4.thaw 0
  have z1 := hbk4.thaw 1
  have z2 := hbk4.thaw 2
  have z3 := hbk4.thaw 3
  have hff := Hf.out
  rw [hg]
  rw [hff] at c0 c1 c2 c3
  clear hg
  have Hbk := Lib.hid hbk4
  clear hbk4 Hbk2 hff
  have hk8 : k = 0 ∨ k = 1 ∨ k = 2 ∨ k = 3 ∨ k = 4 ∨ k = 5 ∨ k = 6 ∨ k = 7 := by omega
  clear hk
  rcases hk8 with rfl | rfl | rfl | rfl | rfl | rfl | rfl | rfl
  · have hbo : Bk (w4.setCell ⟨g, 0, none⟩ (.int .i64 0)) g 38 (Frm.cells ⟨0, 7, 63, 1152921504606846976, D⟩) := wrong_put g f ⟨0, 7, 63, 1152921504606846976, D⟩ 0 _ w4 Hbk.out (by rw [Hf.out]; rfl)
    have hld := ldF_bk (f := ⟨0, 7, 63, 1152921504606846976, D⟩) hbo hD
    have Hbo := Lib.hid hbo
    have hB5 := hB.setCell (p := ⟨g, 0, none⟩) hs3 (.int .i64 0)
    have hro : Frm.right ⟨0, 7, 63, 1152921504606846976, D⟩ = false := right_un (by simp)
    clear hbo
    go_wp2_with fail
    refine (right_any ⟨0, 7, 63, 1152921504606846976, D⟩ _).mono ?_
    rw [hro]
    rintro e w5 ⟨rfl, hb5⟩
    have hld5 := ldF_bk (f := ⟨0, 7, 63, 1152921504606846976, D⟩) (Hbo.out.ext hb5) hD
    have hB6 := hB5.trans (below_le hB5.size hb5)
    clear hb5
    go_wp2_with fail
    refine (put_no ⟨0, 7, 63, 1152921504606846976, D⟩ hD hro _).mono ?_
    rintro e w6 ⟨rfl, hb6⟩
    have hB7 := hB6.trans (below_le hB6.size hb6)
    clear hb6
    go_wp2_with fail
    refine (frameRuns_any _).mono ?_
    rintro e w7 ⟨rfl, hb7⟩
    go_wp2
    go_ret
    exact ⟨rfl, hB7.trans (below_le hB7.size hb7)⟩
  · have hbo : Bk (w4.setCell ⟨g, 0, none⟩ (.int .i64 4)) g 38 (Frm.cells ⟨4, 7, 63, 1152921504606846976, D⟩) := wrong_put g f ⟨4, 7, 63, 1152921504606846976, D⟩ 0 _ w4 Hbk.out (by rw [Hf.out]; rfl)
    have hld := ldF_bk (f := ⟨4, 7, 63, 1152921504606846976, D⟩) hbo hD
    have Hbo := Lib.hid hbo
    have hB5 := hB.setCell (p := ⟨g, 0, none⟩) hs3 (.int .i64 4)
    have hro : Frm.right ⟨4, 7, 63, 1152921504606846976, D⟩ = false := right_un (by simp)
    clear hbo
    go_wp2_with fail
    refine (right_any ⟨4, 7, 63, 1152921504606846976, D⟩ _).mono ?_
    rw [hro]
    rintro e w5 ⟨rfl, hb5⟩
    have hld5 := ldF_bk (f := ⟨4, 7, 63, 1152921504606846976, D⟩) (Hbo.out.ext hb5) hD
    have hB6 := hB5.trans (below_le hB5.size hb5)
    clear hb5
    go_wp2_with fail
    refine (put_no ⟨4, 7, 63, 1152921504606846976, D⟩ hD hro _).mono ?_
    rintro e w6 ⟨rfl, hb6⟩
    have hB7 := hB6.trans (below_le hB6.size hb6)
    clear hb6
    go_wp2_with fail
    refine (frameRuns_any _).mono ?_
    rintro e w7 ⟨rfl, hb7⟩
    go_wp2
    go_ret
    exact ⟨rfl, hB7.trans (below_le hB7.size hb7)⟩
  · have hbo : Bk (w4.setCell ⟨g, 1, none⟩ (.int .i64 8)) g 38 (Frm.cells ⟨2, 8, 63, 1152921504606846976, D⟩) := wrong_put g f ⟨2, 8, 63, 1152921504606846976, D⟩ 1 _ w4 Hbk.out (by rw [Hf.out]; rfl)
    have hld := ldF_bk (f := ⟨2, 8, 63, 1152921504606846976, D⟩) hbo hD
    have Hbo := Lib.hid hbo
    have hB5 := hB.setCell (p := ⟨g, 1, none⟩) hs3 (.int .i64 8)
    have hro : Frm.right ⟨2, 8, 63, 1152921504606846976, D⟩ = false := right_un (by simp)
    clear hbo
    go_wp2_with fail
    refine (right_any ⟨2, 8, 63, 1152921504606846976, D⟩ _).mono ?_
    rw [hro]
    rintro e w5 ⟨rfl, hb5⟩
    have hld5 := ldF_bk (f := ⟨2, 8, 63, 1152921504606846976, D⟩) (Hbo.out.ext hb5) hD
    have hB6 := hB5.trans (below_le hB5.size hb5)
    clear hb5
    go_wp2_with fail
    refine (put_no ⟨2, 8, 63, 1152921504606846976, D⟩ hD hro _).mono ?_
    rintro e w6 ⟨rfl, hb6⟩
    have hB7 := hB6.trans (below_le hB6.size hb6)
    clear hb6
    go_wp2_with fail
    refine (frameRuns_any _).mono ?_
    rintro e w7 ⟨rfl, hb7⟩
    go_wp2
    go_ret
    exact ⟨rfl, hB7.trans (below_le hB7.size hb7)⟩
  · have hbo : Bk (w4.setCell ⟨g, 1, none⟩ (.int .i64 (-1))) g 38 (Frm.cells ⟨2, -1, 63, 1152921504606846976, D⟩) := wrong_put g f ⟨2, -1, 63, 1152921504606846976, D⟩ 1 _ w4 Hbk.out (by rw [Hf.out]; rfl)
    have hld := ldF_bk (f := ⟨2, -1, 63, 1152921504606846976, D⟩) hbo hD
    have Hbo := Lib.hid hbo
    have hB5 := hB.setCell (p := ⟨g, 1, none⟩) hs3 (.int .i64 (-1))
    have hro : Frm.right ⟨2, -1, 63, 1152921504606846976, D⟩ = false := right_un (by simp)
    clear hbo
    go_wp2_with fail
    refine (right_any ⟨2, -1, 63, 1152921504606846976, D⟩ _).mono ?_
    rw [hro]
    rintro e w5 ⟨rfl, hb5⟩
    have hld5 := ldF_bk (f := ⟨2, -1, 63, 1152921504606846976, D⟩) (Hbo.out.ext hb5) hD
    have hB6 := hB5.trans (below_le hB5.size hb5)
    clear hb5
    go_wp2_with fail
    refine (put_no ⟨2, -1, 63, 1152921504606846976, D⟩ hD hro _).mono ?_
    rintro e w6 ⟨rfl, hb6⟩
    have hB7 := hB6.trans (below_le hB6.size hb6)
    clear hb6
    go_wp2_with fail
    refine (frameRuns_any _).mono ?_
    rintro e w7 ⟨rfl, hb7⟩
    go_wp2
    go_ret
    exact ⟨rfl, hB7.trans (below_le hB7.size hb7)⟩
  · have hbo : Bk (w4.setCell ⟨g, 2, none⟩ (.int .i64 64)) g 38 (Frm.cells ⟨2, 7, 64, 1152921504606846976, D⟩) := wrong_put g f ⟨2, 7, 64, 1152921504606846976, D⟩ 2 _ w4 Hbk.out (by rw [Hf.out]; rfl)
    have hld := ldF_bk (f := ⟨2, 7, 64, 1152921504606846976, D⟩) hbo hD
    have Hbo := Lib.hid hbo
    have hB5 := hB.setCell (p := ⟨g, 2, none⟩) hs3 (.int .i64 64)
    have hro : Frm.right ⟨2, 7, 64, 1152921504606846976, D⟩ = false := right_un (by simp)
    clear hbo
    go_wp2_with fail
    refine (right_any ⟨2, 7, 64, 1152921504606846976, D⟩ _).mono ?_
    rw [hro]
    rintro e w5 ⟨rfl, hb5⟩
    have hld5 := ldF_bk (f := ⟨2, 7, 64, 1152921504606846976, D⟩) (Hbo.out.ext hb5) hD
    have hB6 := hB5.trans (below_le hB5.size hb5)
    clear hb5
    go_wp2_with fail
    refine (put_no ⟨2, 7, 64, 1152921504606846976, D⟩ hD hro _).mono ?_
    rintro e w6 ⟨rfl, hb6⟩
    have hB7 := hB6.trans (below_le hB6.size hb6)
    clear hb6
    go_wp2_with fail
    refine (frameRuns_any _).mono ?_
    rintro e w7 ⟨rfl, hb7⟩
    go_wp2
    go_ret
    exact ⟨rfl, hB7.trans (below_le hB7.size hb7)⟩
  · have hbo : Bk (w4.setCell ⟨g, 2, none⟩ (.int .i64 (-1))) g 38 (Frm.cells ⟨2, 7, -1, 1152921504606846976, D⟩) := wrong_put g f ⟨2, 7, -1, 1152921504606846976, D⟩ 2 _ w4 Hbk.out (by rw [Hf.out]; rfl)
    have hld := ldF_bk (f := ⟨2, 7, -1, 1152921504606846976, D⟩) hbo hD
    have Hbo := Lib.hid hbo
    have hB5 := hB.setCell (p := ⟨g, 2, none⟩) hs3 (.int .i64 (-1))
    have hro : Frm.right ⟨2, 7, -1, 1152921504606846976, D⟩ = false := right_un (by simp)
    clear hbo
    go_wp2_with fail
    refine (right_any ⟨2, 7, -1, 1152921504606846976, D⟩ _).mono ?_
    rw [hro]
    rintro e w5 ⟨rfl, hb5⟩
    have hld5 := ldF_bk (f := ⟨2, 7, -1, 1152921504606846976, D⟩) (Hbo.out.ext hb5) hD
    have hB6 := hB5.trans (below_le hB5.size hb5)
    clear hb5
    go_wp2_with fail
    refine (put_no ⟨2, 7, -1, 1152921504606846976, D⟩ hD hro _).mono ?_
    rintro e w6 ⟨rfl, hb6⟩
    have hB7 := hB6.trans (below_le hB6.size hb6)
    clear hb6
    go_wp2_with fail
    refine (frameRuns_any _).mono ?_
    rintro e w7 ⟨rfl, hb7⟩
    go_wp2
    go_ret
    exact ⟨rfl, hB7.trans (below_le hB7.size hb7)⟩
  · have hbo : Bk (w4.setCell ⟨g, 3, none⟩ (.int .i64 1152921504606846977)) g 38 (Frm.cells ⟨2, 7, 63, 1152921504606846977, D⟩) := wrong_put g f ⟨2, 7, 63, 1152921504606846977, D⟩ 3 _ w4 Hbk.out (by rw [Hf.out]; rfl)
    have hld := ldF_bk (f := ⟨2, 7, 63, 1152921504606846977, D⟩) hbo hD
    have Hbo := Lib.hid hbo
    have hB5 := hB.setCell (p := ⟨g, 3, none⟩) hs3 (.int .i64 1152921504606846977)
    have hro : Frm.right ⟨2, 7, 63, 1152921504606846977, D⟩ = false := right_un (by simp)
    clear hbo
    go_wp2_with fail
    refine (right_any ⟨2, 7, 63, 1152921504606846977, D⟩ _).mono ?_
    rw [hro]
    rintro e w5 ⟨rfl, hb5⟩
    have hld5 := ldF_bk (f := ⟨2, 7, 63, 1152921504606846977, D⟩) (Hbo.out.ext hb5) hD
    have hB6 := hB5.trans (below_le hB5.size hb5)
    clear hb5
    go_wp2_with fail
    refine (put_no ⟨2, 7, 63, 1152921504606846977, D⟩ hD hro _).mono ?_
    rintro e w6 ⟨rfl, hb6⟩
    have hB7 := hB6.trans (below_le hB6.size hb6)
    clear hb6
    go_wp2_with fail
    refine (frameRuns_any _).mono ?_
    rintro e w7 ⟨rfl, hb7⟩
    go_wp2
    go_ret
    exact ⟨rfl, hB7.trans (below_le hB7.size hb7)⟩
  · have hbo : Bk (w4.setCell ⟨g, 3, none⟩ (.int .i64 (-1))) g 38 (Frm.cells ⟨2, 7, 63, -1, D⟩) := wrong_put g f ⟨2, 7, 63, -1, D⟩ 3 _ w4 Hbk.out (by rw [Hf.out]; rfl)
    have hld := ldF_bk (f := ⟨2, 7, 63, -1, D⟩) hbo hD
    have Hbo := Lib.hid hbo
    have hB5 := hB.setCell (p := ⟨g, 3, none⟩) hs3 (.int .i64 (-1))
    have hro : Frm.right ⟨2, 7, 63, -1, D⟩ = false := right_un (by simp)
    clear hbo
    go_wp2_with fail
    refine (right_any ⟨2, 7, 63, -1, D⟩ _).mono ?_
    rw [hro]
    rintro e w5 ⟨rfl, hb5⟩
    have hld5 := ldF_bk (f := ⟨2, 7, 63, -1, D⟩) (Hbo.out.ext hb5) hD
    have hB6 := hB5.trans (below_le hB5.size hb5)
    clear hb5
    go_wp2_with fail
    refine (put_no ⟨2, 7, 63, -1, D⟩ hD hro _).mono ?_
    rintro e w6 ⟨rfl, hb6⟩
    have hB7 := hB6.trans (below_le hB6.size hb6)
    clear hb6
    go_wp2_with fail
    refine (frameRuns_any _).mono ?_
    rintro e w7 ⟨rfl, hb7⟩
    go_wp2
    go_ret
    exact ⟨rfl, hB7.trans (below_le hB7.size hb7)⟩
end Go.Proofs.Ytcggnphoekmoaaa

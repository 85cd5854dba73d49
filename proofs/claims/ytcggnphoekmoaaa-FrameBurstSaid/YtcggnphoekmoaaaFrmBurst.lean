/-
  The walk of the law FrameBurst.
-/
import Derived.Test.YtcggnphoekmoaaaMix
import Derived.Test.YtcggnphoekmoaaaFrmRuns
import Derived.Test.YtcggnphoekmoaaaFrmOpen
namespace Go.Proofs.Ytcggnphoekmoaaa
open Go.RowKit CrcMath
attribute [local go_sem] w8_nn w8_256 wrap_i64_w8 wrap64_w8 pastA_zero pastA_some
attribute [local go_sem ↓] sliced_past ldF_eq stF_eq bdF_eq
attribute [local go_sem] xor_u8 low_u32 shr8_u32 shr16_u32 shr24_u32

set_option maxRecDepth 100000 in
set_option maxHeartbeats 1000000 in
theorem frameBurst_any {H : Type} {enc : TypeId × Value → H} {base : Nat} {v0 v1 v2 : Value} {d0 d1 d2 : DataW H} {p0 p1 p2 : List MemPlace} (w : World) (h0 : Came enc w base 38 v0 d0 p0) (h1 : Came enc w base 3 v1 d1 p1) (h2 : Came enc w base 26 v2 d2 p2) :
    Calls Try.prog 8 #[v0, v1, v2] w fun e w' => e = .returned (.bool true) ∧ Below w.heap.size w w' := by
  obtain ⟨f, rfl, hok⟩ := h0.frame
  obtain ⟨z, rfl, hz1, hz2⟩ := h1.int
  obtain ⟨x, rfl⟩ := h2.u32
  clear h0 h1 h2
  have hl := hok.len
  clear hok
  have hz := zero_frm
  have hld := ldF_bk (Bk.made w 38 f.cells) hl
  cases hr : f.right
  · go_enter Try.func8, Try.ntmps8
    go_wp2_with fail
    refine (put_no f hl hr _).mono ?_
    rintro e w1 ⟨rfl, hb1⟩
    have hB1 := (below_new w (.cells f.cells 38)).trans (below_le (by simp) hb1)
    have hld1 := ldF_bk ((Bk.made w 38 f.cells).ext hb1) hl
    clear hb1
    go_wp2_with fail
    refine (right_any f _).mono ?_
    rw [hr]
    rintro e w2 ⟨rfl, hb2⟩
    go_wp2_with fail
    refine (frameRuns_any _).mono ?_
    rintro e w3 ⟨rfl, hb3⟩
    go_wp2
    go_ret
    exact ⟨rfl, (hB1.trans (below_le hB1.size hb2)).trans (below_le (Nat.le_trans hB1.size hb2.size) hb3)⟩
  · go_enter Try.func8, Try.ntmps8
    go_wp2_with fail
    refine (put_yes f hl hr _).mono ?_
    rintro e w1 ⟨g, hg, rfl, hb, hb1⟩
    have hB1 := (below_new w (.cells f.cells 38)).trans (below_le (by simp) hb1)
    have HF1 := Lib.hid ((Bk.made w 38 f.cells).ext hb1)
    have Hb := Lib.hid hb
    have hgb : w.heap.size < g := by simp at hg; omega
    clear hb1 hb hld
    go_wp2_with fail
    refine (within_nat _ _ _ (by omega) (by omega) hz1 hz2).mono ?_
    rintro e w1' ⟨k, rfl, hk, rfl⟩
    go_wp2_with fail
    go_loopw [9] (fun i wr => ∃ j : Nat, j ≤ 4 ∧ i = .int .i64 j ∧ Hid (Bb wr g 5 (mixTo f.put k x j)) ∧ Below g w1 wr) (fun i _ => 4 - (intOf i).toNat)
    case atStart => exact ⟨0, by omega, rfl, Hb, Below.refl _ _⟩
    case round =>
      obtain ⟨j, hj, rfl, hb4, hB4⟩ := hrel
      by_cases hlt : j < 4
      · have hpl := put_len hl
        obtain ⟨y, hy, hcy⟩ := hb4.out.get (i := k + j) (by rw [mixTo_len]; omega)
        have hf := hb4.out.thaw (k + j)
        have hkj : (k : Int) + j < 128 := by omega
        have hj4 : j = 0 ∨ j = 1 ∨ j = 2 ∨ j = 3 := by omega
        clear hlt hj
        rcases hj4 with rfl | rfl | rfl | rfl
        · rw [Nat.add_zero] at hcy hf
          have H4 := Lib.hid (mix_bb hb4.out hy.out (lowB x) (by unfold byteOf; rfl)).drawn1
          go_wp2
          go_region
          go_wp2
          go_roundw
          case rel => exact ⟨1, by omega, by go_num, H4, below_drew1 (hB4.setCell (Nat.le_refl _) _)⟩
          case measure => simp [intOf]
        · have H4 := Lib.hid (mix_bb hb4.out hy.out (lowB (x >>> 8)) (by unfold byteOf; rfl)).drawn1
          go_wp2
          go_region
          go_wp2
          go_roundw
          case rel => exact ⟨2, by omega, by go_num, H4, below_drew1 (hB4.setCell (Nat.le_refl _) _)⟩
          case measure => simp [intOf]
        · have H4 := Lib.hid (mix_bb hb4.out hy.out (lowB (x >>> 16)) (by unfold byteOf; rfl)).drawn1
          go_wp2
          go_region
          go_wp2
          go_roundw
          case rel => exact ⟨3, by omega, by go_num, H4, below_drew1 (hB4.setCell (Nat.le_refl _) _)⟩
          case measure => simp [intOf]
        · have H4 := Lib.hid (mix_bb hb4.out hy.out (lowB (x >>> 24)) (by unfold byteOf; rfl)).drawn1
          go_wp2
          go_region
          go_wp2
          go_roundw
          case rel => exact ⟨4, by omega, by go_num, H4, below_drew1 (hB4.setCell (Nat.le_refl _) _)⟩
          case measure => simp [intOf]
      · have hj4 : j = 4 := by omega
        subst hj4
        clear hj hlt
        have hG := get_any (some ⟨g, 0, none⟩) 128 128 (mixTo f.put k x 4) wr (hb4.out.whole 128 128 (by rw [mixTo_len, put_len hl]) (Nat.le_refl _) (by omega))
        have hBw : Below w.heap.size w wr := hB1.trans (below_le (Nat.le_of_lt hgb) hB4)
        have HFr := Lib.hid (HF1.out.below hB4 hgb)
        clear hB4 hb4 Hb HF1
        by_cases hx : x = 0#32
        · subst hx
          rw [mixTo_zero _ _ _ (by rw [put_len hl]; omega), gotF_put hl hr, got_put hl hr] at hG
          have HG := Lib.hid hG
          have ex : w32 0#32 = 0 := rfl
          have heq : ∀ w, (Op.equalIn 10000 38 (.agg f.cells) (.agg f.cells)).run Try.prog w = .ok true w := fun w => by rw [eq_frm _ _ hl hl, (same_iff _ _).2 rfl]
          clear hG
          go_wp2_with fail
          refine HG.out.mono ?_
          rintro e w2 ⟨rfl, hb2⟩
          have hst := stF_new w2 zeroF f blank_len hl
          have hld1 := ldF_bk ((HFr.out.ext hb2).alloc (.cells f.cells 38)) hl
          have hld2 := ldF_bk (Bk.made w2 38 f.cells) hl
          clear HG
          go_wp2_with fail
          refine (frameRuns_any _).mono ?_
          rintro e w3 ⟨rfl, hb3⟩
          go_wp2
          go_ret
          have h2 := hBw.trans (below_le hBw.size hb2)
          have h3 := h2.alloc h2.size (.cells f.cells 38)
          exact ⟨rfl, h3.trans (below_le h3.size hb3)⟩
        · have hgt := burst_got f hl k (by omega) x hx
          rw [gotF_no hgt, hgt] at hG
          have HG := Lib.hid hG
          have t2 : (w32 x == 0) = false := by
            rw [beq_eq_false_iff_ne]; intro e; exact hx (w32_inj (b := 0#32) e)
          clear hG hgt hx
          go_wp2_with fail
          refine HG.out.mono ?_
          rintro e w2 ⟨rfl, hb2⟩
          have hst := stF_new w2 zeroF zeroF blank_len blank_len
          clear HG
          go_wp2_with fail
          refine (frameRuns_any _).mono ?_
          rintro e w3 ⟨rfl, hb3⟩
          go_wp2
          go_ret
          have h2 := hBw.trans (below_le hBw.size hb2)
          have h3 := h2.alloc h2.size (.cells zeroF.cells 38)
          exact ⟨rfl, h3.trans (below_le h3.size hb3)⟩
end Go.Proofs.Ytcggnphoekmoaaa

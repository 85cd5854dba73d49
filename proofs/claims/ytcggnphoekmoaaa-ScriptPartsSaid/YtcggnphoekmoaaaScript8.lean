/-
  The walk of the law ScriptParts.
-/
import Derived.Test.YtcggnphoekmoaaaScript7
import Derived.Deep.RegionHeld3
import Derived.Test.YtcggnphoekmoaaaBook
import Derived.Test.YtcggnphoekmoaaaOpen
namespace Go.Proofs.Ytcggnphoekmoaaa
open Go.RowKit
attribute [local go_sem] w8_nn w8_256 wrap_i64_w8 wrap64_w8 pastA_zero pastA_some
attribute [local go_sem ↓] sliced_past

theorem three_none {w : World} {A : Option Addr} {n c : Nat} {l : List UInt8} (h : RdS w A n c (stepsOf l)) (hl : l.length ≤ 3) : 0 = n := by
  have h1 := h.1
  rw [stepsOf_three l hl] at h1
  exact h1
set_option linter.unusedVariables false in
theorem OwnAt.lit (w : World) (l : List UInt8) (cs : Array Value) (hcs : cs = (bvs l).toArray) (n : Nat) (hn : l.length = n) (hs : n ≤ 1000000) : OwnAt (w.alloc (.cells cs 5)) w.heap.size n l := by
  subst hcs
  refine ⟨by omega, by omega, _, Bk.made w _ _, by simp [bvs_len, hn], ?_⟩
  rw [← bvs_len l]
  simp
set_option maxRecDepth 100000 in
set_option maxHeartbeats 1000000 in
theorem scriptParts_any {H : Type} {enc : TypeId × Value → H} {base : Nat} {v0 v1 v2 : Value} {d0 d1 d2 : DataW H} {p0 p1 p2 : List MemPlace} (w : World) (h0 : Came enc w base 24 v0 d0 p0) (h1 : Came enc w base 24 v1 d1 p1) (h2 : Came enc w base 3 v2 d2 p2) :
    Calls Try.prog 5 #[v0, v1, v2] w fun e w' => e = .returned (.bool true) ∧ Below w.heap.size w w' := by
  obtain ⟨A0, n0, c0, l0, rfl, hr0⟩ := h0.bytes
  obtain ⟨A1, n1, c1, l1, rfl, hr1⟩ := h1.bytes
  obtain ⟨z, rfl, hz1, hz2⟩ := h2.int
  clear h0 h1 h2
  have hcap0 := hr0.cap
  have hbig0 := hr0.big
  have hcap1 := hr1.cap
  have hbig1 := hr1.big
  obtain ⟨m0, hmin0, hmn0, hm0, _⟩ := cut_min n0 150 (by omega)
  obtain ⟨m1, hmin1, hmn1, hm1, _⟩ := cut_min n1 150 (by omega)
  have HX := Lib.hid (hr0.upto m0 hmn0)
  have HY := Lib.hid (hr1.upto m1 hmn1)
  generalize l0.take m0 = L0 at HX
  generalize l1.take m1 = L1 at HY
  clear hr0 hr1
  have hmc0 : m0 ≤ c0 := by omega
  have hmc1 : m1 ≤ c1 := by omega
  go_enter Try.func5, Try.ntmps5
  go_wp2
  go_region
  go_wp2_with fail
  refine (decode_any _ _ _ L0 _ (HX.out.ext (below_drawn (Below.refl _ _) 1)) (by omega)).mono ?_
  rintro e w2 ⟨A, N, c, rfl, hown, hb2⟩
  have HS := Lib.hid hown.reads
  have hN : N ≤ 9223372036854775807 := Nat.le_trans hown.reads.2.1 hown.reads.2.2.1
  have hB2 := Lib.hid ((below_drawn (Below.refl w.heap.size w) 1).trans (below_le (by simp) hb2))
  clear hown hb2
  go_wp2
  go_loopw [24] (fun i wr => ∃ k : Nat, k ≤ N ∧ i = .int .i64 k ∧ Below w2.heap.size w2 wr ∧ w2.heap.size ≤ wr.heap.size) (fun i _ => N - (intOf i).toNat)
  case atStart => exact ⟨0, Nat.zero_le _, rfl, Below.refl _ _, Nat.le_refl _⟩
  case round =>
    obtain ⟨k, hk, rfl, hb, hsz⟩ := hrel
    by_cases hlt : k < N
    · obtain ⟨s, hs⟩ : ∃ s : Stp, (stepsOf L0)[k]? = some s := ⟨(stepsOf L0)[k]'(by have := HS.out.1; omega), by simp⟩
      have hgood := stepsOf_good L0 s (List.mem_of_getElem? hs)
      obtain ⟨ad, r, rfl, hB, hrs, hbits, hbytes, hc⟩ := (HS.out.ext hb).2.2.2 k s hs
      obtain ⟨rs, bA, bn, bc, yA, yn, yc⟩ := r
      dsimp only [SRow.cells] at hc hrs hbytes
      rw [hrs] at hc
      obtain ⟨X, hX⟩ : ∃ X, ad.add (k * 8) = X := ⟨_, rfl⟩
      have g0 : wr.cell? X = some (.int .i64 s.kind) := by rw [← hX]; exact hc 0 _ rfl
      have g1 : wr.cell? ⟨X.block, X.off + 1, none⟩ = some (.int .i64 s.conn) := cell8 _ _ _ k 1 hX (by decide) _ (hc 1 _ rfl)
      have g2 : wr.cell? ⟨X.block, X.off + 2, none⟩ = some (.int .i64 s.n) := cell8 _ _ _ k 2 hX (by decide) _ (hc 2 _ rfl)
      have g3 : wr.cell? ⟨X.block, X.off + 3, none⟩ = some (.int .i64 s.s) := cell8 _ _ _ k 3 hX (by decide) _ (hc 3 _ rfl)
      have g4 : wr.cell? ⟨X.block, X.off + 4, none⟩ = some (.int .i64 s.place) := cell8 _ _ _ k 4 hX (by decide) _ (hc 4 _ rfl)
      have g5 : wr.cell? ⟨X.block, X.off + 5, none⟩ = some (.int .u32 (w32 s.x)) := cell8 _ _ _ k 5 hX (by decide) _ (hc 5 _ rfl)
      have g6 : wr.cell? ⟨X.block, X.off + 6, none⟩ = some (.slice bA bn bc) := cell8 _ _ _ k 6 hX (by decide) _ (hc 6 _ rfl)
      have g7 : wr.cell? ⟨X.block, X.off + 7, none⟩ = some (.slice yA yn yc) := cell8 _ _ _ k 7 hX (by decide) _ (hc 7 _ rfl)
      have hyn : (yn : Int) ≤ 255 := by have := hbytes.len; have := hgood.y; unfold bvs at *; simp at *; omega
      obtain ⟨t1, t2, t3, t4, t5, t6, t7, t8, _⟩ := hgood
      have hi : (k : Int) < N := by omega
      have hi0 : (0 : Int) ≤ (k : Int) := by omega
      clear hc hbits hbytes hs hrs
      go_wp2
      go_roundw
      case rel => exact ⟨k + 1, by omega, by go_num, hb.trans (below_le hsz (below_new _ _)), by simp; omega⟩
      case measure => simp [intOf]; omega
    · have hkn : k = N := by omega
      subst hkn
      have hB3 := Lib.hid (hB2.out.trans (below_le hB2.out.size hb))
      clear hb hsz
      go_wp2_with fail
      refine (within_nat _ _ _ (by omega) (by omega) hz1 hz2).mono ?_
      rintro e wr' ⟨k', rfl, hk', rfl⟩
      obtain ⟨kb, hkb⟩ : ∃ kb : UInt8, (k' : Int) = w8 kb := ⟨UInt8.ofNat k', by unfold w8; rw [UInt8.toNat_ofNat']; omega⟩
      rw [hkb]
      clear hkb hk'
      go_wp2_with (at_builtin; go_loud (refine wpList_append_bytes rfl (.tmp 77) (.tmp 78) rfl w.heap.size w (.slice (some ⟨wr.heap.size, 0, none⟩) 4 4) [4, kb, 9, 9] rfl (OwnAt.own (OwnAt.lit wr [4, kb, 9, 9] #[.int .u8 4, .int .u8 (w8 kb % 256), .int .u8 9, .int .u8 9] (by rw [Int.emod_eq_of_lt (w8_lo kb) (by have := w8_hi kb; omega)]; rfl) 4 rfl (by omega)) hB3.out.size 4 rfl) _ m1 c1 L1 rfl ((HY.out.ext hB3.out).ext (below_new _ _)) (by simp; omega) (hB3.out.alloc hB3.out.size _) (Nat.le_trans hB3.out.size (by simp)) (4 + m1) rfl ?_); intro A4 c4 w4 hown4 hb4 hB4)
      refine (decode_any _ _ _ (4 :: kb :: 9 :: 9 :: L1) _ hown4.out.rd (by omega)).mono ?_
      rintro e w5 ⟨A5, N5, c5, rfl, hown5, hb5⟩
      have HS5 := hown5.reads
      rw [stepsOf_arm] at HS5
      have HS5 := Lib.hid HS5
      have HB5 := Lib.hid (hb4.trans (below_le hB4 hb5))
      clear hown5 hb5 hb4 hB4 hown4
      obtain ⟨N6, rfl⟩ : ∃ N6, N5 = N6 + 1 := ⟨(stepsOf L1).length, by rw [← HS5.out.1]; rfl⟩
      have hc5 := HS5.out.2.1
      have hc5' := HS5.out.2.2.1
      have hn5 : (1 : Int) ≤ ((N6 + 1 : Nat) : Int) := by omega
      have hc5'' : 1 ≤ c5 := by omega
      have hc5i : (1 : Int) ≤ (c5 : Int) := by omega
      have hn5' : (1 : Int) ≤ (N6 : Int) + 1 := by omega
      obtain ⟨m3, hmin3, hm30, hm33, _⟩ := cut_min m0 3 (by omega)
      have hm3c : m3 ≤ c0 := by omega
      have Hz := Lib.hid (HX.out.upto m3 hm30)
      go_wp2_with fail
      go_region_held3 (fun w' => Below w5.heap.size w5 w') (first | assumption | exact below_drew1 (Below.refl _ _) | exact below_drew1 (below_new _ _) | exact below_new _ _) (first | (go_at_call 13; (with_reducible refine (steps_same A5 1 c5 _ 1 [⟨5, 0, w8 kb, 0, 0, 0#32, [], []⟩] _ ?_ ?_).mono ?_); exact ((HS5.out.upto 1 (by omega)).ext (below_drew1 (below_new _ _))); exact ((RdS.news w5 [⟨5, 0, w8 kb, 0, 0, 0#32, [], []⟩] (by simp) _ rfl 29 1 rfl (by omega)).ext (below_drew1 (Below.refl _ _))); rintro e w6 ⟨rfl, hb6⟩; have hB6 : Below w5.heap.size w5 w6 := (below_drew1 (below_new _ _)).trans (below_le (by simp) hb6); clear hb6) | (go_at_call 12; (with_reducible refine (decode_any A1 m1 c1 L1 _ ?_ ?_).mono ?_); exact HY.out.ext (HB5.out.trans (below_le HB5.out.size hB6)); omega; rintro e w7 ⟨A7, N7, c7, rfl, hown7, hb7⟩; have H7 := Lib.hid hown7.reads; have hB7 : Below w5.heap.size w5 w7 := hB6.trans (below_le hB6.size hb7); obtain rfl : N6 = N7 := tail_len HS5.out H7.out; clear hown7 hb7) | (go_at_call 13; (with_reducible refine (steps_same _ N6 _ A7 c7 (stepsOf L1) _ ?_ ?_).mono ?_); exact (HS5.out.past 1 (by omega)).ext hB7; exact H7.out; rintro e w8 ⟨rfl, hb8⟩; have hB8 : Below w5.heap.size w5 w8 := hB7.trans (below_le hB7.size hb8); clear hb8) | (go_at_call 12; (with_reducible refine (decode_any A0 m3 c0 (L0.take m3) _ ?_ ?_).mono ?_); exact Hz.out.ext (HB5.out.trans (below_le HB5.out.size hB8)); omega; rintro e w9 ⟨A9, N9, c9, rfl, hown9, hb9⟩; have hB9 : Below w5.heap.size w5 w9 := hB8.trans (below_le hB8.size hb9); obtain rfl : 0 = N9 := three_none hown9.reads (by rw [Hz.out.len]; omega); clear hown9 hb9) | (go_at_call 3; (with_reducible refine (scriptRuns_any _).mono ?_); rintro e w10 ⟨rfl, hb10⟩; have hB10 : Below w5.heap.size w5 w10 := hB9.trans (below_le hB9.size hb10); clear hb10))
      go_wp2
      go_ret
      exact ⟨rfl, HB5.out.trans (below_le HB5.out.size hB10)⟩
end Go.Proofs.Ytcggnphoekmoaaa

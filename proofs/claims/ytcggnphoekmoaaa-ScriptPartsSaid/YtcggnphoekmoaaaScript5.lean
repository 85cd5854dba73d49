/-
  The walk of the law's own comparison of steps, where they are the same.
-/
import Derived.Test.YtcggnphoekmoaaaScript4
namespace Go.Proofs.Ytcggnphoekmoaaa
open Go.RowKit
attribute [local go_sem] w8_nn w8_256 wrap_i64_w8 wrap64_w8

theorem below_two (w : World) (o o' : Obj) : Below w.heap.size w ((w.alloc o).alloc o').drew := below_drew1 (((Below.refl _ _).alloc (Nat.le_refl _) _).alloc (by simp) _)
theorem below_le {B B' : Nat} {a b : World} (h : B ≤ B') (k : Below B' a b) : Below B a b := ⟨k.os, k.tape, k.output, k.size, fun i hi => k.block i (by omega)⟩
theorem below_two' (w : World) (o o' : Obj) (q : Nat) : Below w.heap.size w (((w.alloc o).alloc o').drewN q) := below_drawn (((Below.refl _ _).alloc (Nat.le_refl _) _).alloc (by simp) _) q
theorem same_bytes (A : Option Addr) (n c : Nat) (A' : Option Addr) (n' c' : Nat) (l : List UInt8) (w : World) (h : RdB w A n c l) (h' : RdB w A' n' c' l) :
    Calls Try.prog 20 #[.slice A n c, .slice A' n' c'] w fun e w' => e = .returned (.bool true) ∧ ∃ q, w' = w.drewN q :=
  (same_any A n c l A' n' c' l w h h').mono fun e w' h => ⟨h.1.trans (by simp), h.2⟩
theorem cell8 (w : World) (ad X : Addr) (k j : Nat) (hX : ad.add (k * 8) = X) (hj : 0 < j) (u : Value) (h : w.cell? (ad.add (k * 8 + j)) = some u) : w.cell? ⟨X.block, X.off + j, none⟩ = some u := by
  subst hX
  rw [add_pos' _ _ (by omega)] at h
  by_cases h0 : k * 8 = 0
  · rw [h0] at h ⊢
    rw [show ad.add 0 = ad from rfl]
    rw [Nat.zero_add] at h
    exact h
  · rw [add_pos' _ _ (by omega)]
    rw [← Nat.add_assoc] at h
    exact h

set_option maxRecDepth 100000 in
set_option maxHeartbeats 400000 in
theorem steps_same (A : Option Addr) (n c : Nat) (A' : Option Addr) (c' : Nat) (l : List Stp) (w : World) (h : RdS w A n c l) (h' : RdS w A' n c' l) :
    Calls Try.prog 13 #[.slice A n c, .slice A' n c'] w fun e w' => e = .returned (.bool true) ∧ Below w.heap.size w w' := by
  have hn : n ≤ 9223372036854775807 := Nat.le_trans h.2.1 h.2.2.1
  have hl := Lib.hid h.1
  have H := Lib.hid h
  have H' := Lib.hid h'
  clear h h'
  have t0 : ((n : Int) != (n : Int)) = false := by simp
  go_enter Try.func13, Try.ntmps13
  go_wp2
  go_loopw [15] (fun i wr => ∃ k : Nat, k ≤ n ∧ i = .int .i64 k ∧ Below w.heap.size w wr ∧ w.heap.size ≤ wr.heap.size) (fun i _ => n - (intOf i).toNat)
  case atStart => exact ⟨0, Nat.zero_le _, rfl, Below.refl _ _, Nat.le_refl _⟩
  case round =>
    obtain ⟨k, hk, rfl, hb, hsz⟩ := hrel
    by_cases hlt : k < n
    · obtain ⟨s, hs⟩ : ∃ s : Stp, l[k]? = some s := ⟨l[k]'(by have := hl.out; omega), by simp⟩
      obtain ⟨ad, r, rfl, hB, hrs, hbits, hbytes, hc⟩ := (H.out.ext hb).2.2.2 k s hs
      obtain ⟨ad', r', rfl, hB', hrs', hbits', hbytes', hc'⟩ := (H'.out.ext hb).2.2.2 k s hs
      obtain ⟨rs, bA, bn, bc, yA, yn, yc⟩ := r
      obtain ⟨rs', bA', bn', bc', yA', yn', yc'⟩ := r'
      dsimp only [SRow.cells] at hc hc' hrs hrs' hbits hbits' hbytes hbytes'
      have hbn : bn' = bn := by rw [← hbits'.len, ← hbits.len]
      subst hbn
      have hbi := Lib.hid hbits
      have hbi' := Lib.hid hbits'
      have hby := Lib.hid hbytes
      have hby' := Lib.hid hbytes'
      clear hbits hbits' hbytes hbytes'
      rw [hrs] at hc
      rw [hrs'] at hc'
      obtain ⟨X, hX⟩ : ∃ X, ad.add (k * 8) = X := ⟨_, rfl⟩
      obtain ⟨Y, hY⟩ : ∃ Y, ad'.add (k * 8) = Y := ⟨_, rfl⟩
      have hXb : X.block < wr.heap.size := by rw [← hX, add_block]; exact hB
      have hYb : Y.block < wr.heap.size := by rw [← hY, add_block]; exact hB'
      have c0 : wr.cell? X = some (.int .i64 s.kind) := by rw [← hX]; exact hc 0 _ rfl
      have c1 : wr.cell? ⟨X.block, X.off + 1, none⟩ = some (.int .i64 s.conn) := cell8 _ _ _ k 1 hX (by decide) _ (hc 1 _ rfl)
      have c2 : wr.cell? ⟨X.block, X.off + 2, none⟩ = some (.int .i64 s.n) := cell8 _ _ _ k 2 hX (by decide) _ (hc 2 _ rfl)
      have c3 : wr.cell? ⟨X.block, X.off + 3, none⟩ = some (.int .i64 s.s) := cell8 _ _ _ k 3 hX (by decide) _ (hc 3 _ rfl)
      have c4 : wr.cell? ⟨X.block, X.off + 4, none⟩ = some (.int .i64 s.place) := cell8 _ _ _ k 4 hX (by decide) _ (hc 4 _ rfl)
      have c5 : wr.cell? ⟨X.block, X.off + 5, none⟩ = some (.int .u32 (w32 s.x)) := cell8 _ _ _ k 5 hX (by decide) _ (hc 5 _ rfl)
      have c6 : wr.cell? ⟨X.block, X.off + 6, none⟩ = some (.slice bA bn' bc) := cell8 _ _ _ k 6 hX (by decide) _ (hc 6 _ rfl)
      have c7 : wr.cell? ⟨X.block, X.off + 7, none⟩ = some (.slice yA yn yc) := cell8 _ _ _ k 7 hX (by decide) _ (hc 7 _ rfl)
      have d0 : wr.cell? Y = some (.int .i64 s.kind) := by rw [← hY]; exact hc' 0 _ rfl
      have d1 : wr.cell? ⟨Y.block, Y.off + 1, none⟩ = some (.int .i64 s.conn) := cell8 _ _ _ k 1 hY (by decide) _ (hc' 1 _ rfl)
      have d2 : wr.cell? ⟨Y.block, Y.off + 2, none⟩ = some (.int .i64 s.n) := cell8 _ _ _ k 2 hY (by decide) _ (hc' 2 _ rfl)
      have d3 : wr.cell? ⟨Y.block, Y.off + 3, none⟩ = some (.int .i64 s.s) := cell8 _ _ _ k 3 hY (by decide) _ (hc' 3 _ rfl)
      have d4 : wr.cell? ⟨Y.block, Y.off + 4, none⟩ = some (.int .i64 s.place) := cell8 _ _ _ k 4 hY (by decide) _ (hc' 4 _ rfl)
      have d5 : wr.cell? ⟨Y.block, Y.off + 5, none⟩ = some (.int .u32 (w32 s.x)) := cell8 _ _ _ k 5 hY (by decide) _ (hc' 5 _ rfl)
      have d6 : wr.cell? ⟨Y.block, Y.off + 6, none⟩ = some (.slice bA' bn' bc') := cell8 _ _ _ k 6 hY (by decide) _ (hc' 6 _ rfl)
      have d7 : wr.cell? ⟨Y.block, Y.off + 7, none⟩ = some (.slice yA' yn' yc') := cell8 _ _ _ k 7 hY (by decide) _ (hc' 7 _ rfl)
      have hi : (k : Int) < n := by omega
      have hi0 : (0 : Int) ≤ (k : Int) := by omega
      clear hc hc' hB hB'
      go_wp2
      go_region
      all_goals
        clear c0 c1 c2 c3 c4 c5 c6 c7 d0 d1 d2 d3 d4 d5 d6 d7
        go_wp2_with (first | (go_at_call 27; refine (sameU64_same _ _ _ _ _ s.bits _ (hbi.out.ext (below_two _ _ _)) (hbi'.out.ext (below_two _ _ _))).mono ?_; rintro e wz ⟨rfl, q1, rfl⟩) | (go_at_call 20; (refine (same_bytes _ _ _ _ _ _ s.bytes _ (hby.out.ext (below_two' _ _ _ _)) (hby'.out.ext (below_two' _ _ _ _))).mono ?_; rintro e wz ⟨rfl, q2, rfl⟩)))
        go_roundw
        case rel => exact ⟨k + 1, by omega, by go_num, hb.trans (below_le hsz (below_two' _ _ _ _)), by simp; omega⟩
        case measure => simp [intOf]; omega
    · have hkn : k = n := by omega
      subst hkn
      go_wp2
      go_ret
      exact ⟨rfl, hb⟩
end Go.Proofs.Ytcggnphoekmoaaa

/-
  The walks of frame.low and frame.number, of the document's Num and Big.
-/
import Derived.Test.YtcggnphoekmoaaaLe
import Derived.Test.YtcggnphoekmoaaaCut
namespace Go.Proofs.Ytcggnphoekmoaaa
open Go.RowKit
attribute [local go_sem] w8_nn w8_256 wrap_i64_w8 wrap64_w8 pastA_zero pastA_some
attribute [local go_sem ↓] sliced_past

theorem grown_set (w : World) (g i : Nat) (v : Value) : w.grownBy (w.setCell ⟨g, i, none⟩ v) (some g) :=
  ⟨rfl, rfl, rfl, by simp, fun k _ hk => Below.heap_setCell w _ v k (fun e => hk (by rw [e]))⟩
set_option maxRecDepth 100000 in
set_option maxHeartbeats 400000 in
theorem low_any (g off n c : Nat) (t : TypeId) (L : List UInt8) (x : Nat) (w : World) (hb : Bb w g t L) (hn : off + n ≤ L.length) (hs : n ≤ 8) :
    Calls Try.prog 28 #[.slice (some ⟨g, off, none⟩) n c, .int .u64 x] w fun e w' => e = .returned (.tuple #[]) ∧ Bb w' g t (laid L off (leB n x)) ∧ w.grownBy w' (some g) := by
  go_enter Try.func28, Try.ntmps28
  go_wp2
  go_loopw [7] (fun i wr => ∃ k : Nat, k ≤ n ∧ i = .int .i64 k ∧ Bb wr g t (laid L off (leB k x)) ∧ w.grownBy wr (some g)) (fun i _ => n - (intOf i).toNat)
  case atStart => exact ⟨0, Nat.zero_le _, rfl, by rw [show leB 0 x = [] from rfl, laid_nil]; exact hb, ⟨rfl, rfl, rfl, Nat.le_refl _, fun _ _ _ => rfl⟩⟩
  case round =>
    obtain ⟨k, hk, rfl, hbk, hg⟩ := hrel
    by_cases hlt : k < n
    · have hi : (k : Int) < n := by omega
      have hl : (laid L off (leB k x)).length = L.length := laid_len _ _ _ (by rw [leB_len]; omega)
      obtain ⟨y, hy, hc⟩ := hbk.get (i := off + k) (by omega)
      have hf := hbk.thaw (off + k)
      have Hb := Lib.hid hbk
      have Hl := Lib.hid hl
      clear hbk hl hy
      go_wp2
      go_roundw
      case rel =>
        refine ⟨k + 1, by omega, by go_num, ?_, hg.trans (grown_set _ _ _ _)⟩
        have h1 := Hb.out.put (off + k) (byteAt x k)
        have h2 := laid_snoc L (leB k x) off (byteAt x k) (by rw [leB_len]; have := Hl.out; omega)
        rw [leB_len] at h2
        rw [h2, ← leB_snoc, ← byteAt_w8] at h1
        exact h1
      case measure => simp [intOf]; omega
    · have hkn : k = n := by omega
      subst hkn
      go_wp2
      go_end0
      exact ⟨rfl, hbk, hg⟩
/-- the same, of an Int -/
theorem low_int (g off n c : Nat) (t : TypeId) (L : List UInt8) (x : Int) (w : World) (h0 : 0 ≤ x) (hb : Bb w g t L) (hn : off + n ≤ L.length) (hs : n ≤ 8) (w0 : World) (B : Nat) (hbel : Below B w0 w) (hB : B ≤ g) (hBs : B ≤ w.heap.size) :
    Calls Try.prog 28 #[.slice (some ⟨g, off, none⟩) n c, .int .u64 x] w fun e w' => e = .returned (.tuple #[]) ∧ Bb w' g t (laid L off (leB n x.toNat)) ∧ Below B w0 w' := by
  obtain ⟨k, rfl⟩ := Int.eq_ofNat_of_zero_le h0
  refine (low_any g off n c t L k w hb hn hs).mono ?_
  rintro e w' ⟨he, hb', hg⟩
  exact ⟨he, hb', hbel.grown hg hBs fun j hj => by injection hj with hj; omega⟩
set_option maxRecDepth 100000 in
set_option maxHeartbeats 400000 in
theorem number_any (A : Option Addr) (n c : Nat) (l : List UInt8) (w : World) (hr : RdB w A n c l) (hs : n ≤ 8) :
    Calls Try.prog 31 #[.slice A n c] w fun e w' => e = .returned (.int .i64 (wrapN (leN l))) ∧ w = w' := by
  have hl := Lib.hid hr.len
  go_enter Try.func31, Try.ntmps31
  go_wp2
  go_loop [3, 8] (fun s i => ∃ k : Nat, k ≤ n ∧ i = .int .i64 k ∧ s = .int .i64 (wrapN (leN (l.take k)))) (fun _ i => n - (intOf i).toNat)
  case atStart => exact ⟨0, Nat.zero_le _, rfl, rfl⟩
  case round =>
    obtain ⟨k, hk, rfl, rfl⟩ := hrel
    by_cases hlt : k < n
    · have hi : (k : Int) < n := by omega
      obtain ⟨ad, x, rfl, hx, hxk, hc⟩ := hr.get hlt
      have hk7 : k ≤ 7 := by omega
      have hlt8 := leN_lt (l.take k)
      rw [List.length_take, Nat.min_eq_left (by have := hl.out; omega), pow256] at hlt8
      have hst := or_step (leN (l.take k)) k x hk7 hlt8
      have Hl8 := Lib.hid (show leN (l.take (k + 1)) = leN (l.take k) + 2 ^ (8 * k) * x.toNat by rw [hx.out, leN_snoc, List.length_take, Nat.min_eq_left (by have := hl.out; omega), pow256])
      clear hr hxk hlt8
      go_wp2
      go_round
      case rel => exact ⟨k + 1, by omega, by go_num, by rw [Hl8.out]⟩
      case measure => simp [intOf]; omega
    · have hkn : k = n := by omega
      subst hkn
      go_wp2
      go_ret
      refine ⟨ret_int ?_, rfl⟩
      rw [← hl.out, List.take_length]
set_option maxRecDepth 100000 in
set_option maxHeartbeats 400000 in
theorem big_any (A : Option Addr) (n c : Nat) (l : List UInt8) (w : World) (hr : RdB w A n c l) (hs : n ≤ 8) :
    Calls Try.prog 36 #[.slice A n c] w fun e w' => e = .returned (.int .u64 (leN l)) ∧ w = w' := by
  have hl := Lib.hid hr.len
  go_enter Try.func36, Try.ntmps36
  go_wp2
  go_loop [3, 4] (fun s i => ∃ k : Nat, k ≤ n ∧ i = .int .i64 ((k : Int) - 1) ∧ s = .int .u64 (leN (l.drop k))) (fun _ i => (intOf i + 1).toNat)
  case atStart => exact ⟨n, Nat.le_refl _, rfl, by rw [List.drop_of_length_le (by have := hl.out; omega)]; rfl⟩
  case round =>
    obtain ⟨k, hk, rfl, rfl⟩ := hrel
    by_cases hlt : 0 < k
    · obtain ⟨j, rfl⟩ : ∃ j, k = j + 1 := ⟨k - 1, by omega⟩
      have hi : (j : Int) < n := by omega
      obtain ⟨ad, x, rfl, hx, hxk, hc⟩ := hr.get (show j < n by omega)
      have hlt8 := leN_lt (l.drop (j + 1))
      rw [List.length_drop, pow256] at hlt8
      have hp := pow8_le (l.length - (j + 1)) (by have := hl.out; omega)
      have hst := shl_step' (leN (l.drop (j + 1))) x (by omega)
      have Hl8 := Lib.hid (leN_drop l j x hxk.out)
      clear hr hx hxk hlt8 hp
      go_wp2
      go_round
      case rel => exact ⟨j, by omega, rfl, by rw [Hl8.out]; simp⟩
      case measure => simp [intOf]
    · have hkn : k = 0 := by omega
      subst hkn
      go_wp2
      go_ret
      exact ⟨rfl, rfl⟩
set_option maxRecDepth 100000 in
set_option maxHeartbeats 400000 in
theorem num_any (A : Option Addr) (n c : Nat) (l : List UInt8) (x m : Nat) (w : World) (hr : RdB w A n c l) (hn : n ≤ 1000000) (hs : m ≤ 8) :
    Calls Try.prog 34 #[.slice A n c, .int .u64 x, .int .i64 m] w fun e w' => ∃ A' c', e = .returned (.slice A' (n + m) c') ∧ OwnB w' w.heap.size (.slice A' (n + m) c') (l ++ leB m x) ∧ Below w.heap.size w w' := by
  have hl := Lib.hid hr.len
  go_enter Try.func34, Try.ntmps34
  go_wp2_with (at_builtin; refine wpList_append_bytes rfl (.tmp 9) (.tmp 10) rfl w.heap.size w _ [] rfl (OwnB.empty w w.heap.size (Nat.le_refl _)) A n c l rfl (hr.ext ((Below.refl _ _).alloc (Nat.le_refl _) _)) (by simp; omega) ((Below.refl _ _).alloc (Nat.le_refl _) _) (by simp) n (by simp) ?_; intro A2 c2 w2 hown2 hb2 hB2)
  rw [List.nil_append] at hown2
  clear hr
  go_loopw [7, 8] (fun o i wr => ∃ (k : Nat) (A3 : Option Addr) (c3 : Nat), k ≤ m ∧ i = .int .i64 k ∧ o = .slice A3 (n + k) c3 ∧ Hid (OwnB wr w.heap.size (.slice A3 (n + k) c3) (l ++ leB k x)) ∧ Below w.heap.size w wr ∧ w.heap.size ≤ wr.heap.size) (fun _ i _ => m - (intOf i).toNat)
  case atStart => exact ⟨0, A2, c2, Nat.zero_le _, rfl, rfl, by rw [show leB 0 x = [] from rfl, List.append_nil]; exact hown2, hb2, hB2⟩
  case round =>
    obtain ⟨k, A3, c3, hk, rfl, rfl, hown, hb, hB⟩ := hrel
    by_cases hlt : k < m
    · have hi : (k : Int) < m := by omega
      have hby := byteAt_w8 x k
      go_wp2_with (at_builtin; refine wpList_append_bytes rfl (.tmp 17) (.tmp 23) rfl w.heap.size w (.slice A3 (n + k) c3) (l ++ leB k x) rfl (World.ownsRow.alloc hown.out _) (some ⟨wr.heap.size, 0, none⟩) 1 1 [byteAt x k] rfl (RdB.const wr [byteAt x k] _ rfl 5 (0, 0) 1 rfl (by omega)) (by rw [List.length_append, leB_len, hl.out]; omega) (hb.alloc hB _) (by simp; omega) (n + k + 1) (by rw [List.length_append, leB_len, hl.out]) ?_; intro A4 c4 w4 hown4 hb4 hB4)
      rw [List.append_assoc, ← leB_snoc] at hown4
      go_roundw
      case rel => exact ⟨k + 1, A4, c4, by omega, by go_num, rfl, hown4, hb4, hB4⟩
      case measure => simp [intOf]; omega
    · have hkn : k = m := by omega
      subst hkn
      go_wp2
      go_ret
      exact ⟨_, _, rfl, hown.out, hb⟩
/-- the same, of an Int -/
theorem num_int (A : Option Addr) (n c : Nat) (l : List UInt8) (x mz : Int) (m : Nat) (hm : mz = m) (w : World) (h0 : 0 ≤ x) (hr : RdB w A n c l) (hn : n ≤ 1000000) (hs : m ≤ 8) :
    Calls Try.prog 34 #[.slice A n c, .int .u64 x, .int .i64 mz] w fun e w' => ∃ A' c', e = .returned (.slice A' (n + m) c') ∧ OwnB w' w.heap.size (.slice A' (n + m) c') (l ++ leB m x.toNat) ∧ Below w.heap.size w w' := by
  obtain ⟨k, rfl⟩ := Int.eq_ofNat_of_zero_le h0
  subst hm
  exact num_any A n c l k m w hr hn hs
end Go.Proofs.Ytcggnphoekmoaaa

/-
  The walks of package crc: the table is that of every byte's eight steps; On and Sum compute the fold.
-/
import Derived.Test.YtcggnphoekmoaaaBase
import Derived.Test.YtcggnphoekmoaaaCrcMath
namespace Go.Proofs.Ytcggnphoekmoaaa
open Go.RowKit CrcMath

/-- the table at a byte; its cells -/
def tbl (y : UInt8) : BitVec 32 := oct (y.toBitVec.setWidth 32)
def tab : Array Value := (Array.range 256).map fun i => .int .u32 (w32 (tbl (UInt8.ofNat i)))
def IsTable (w : World) (g : Nat) : Prop := Bk w g 65 tab
theorem IsTable.cell {w : World} {g : Nat} (h : IsTable w g) (y : UInt8) : w.cell? ⟨g, (w8 y).toNat, none⟩ = some (.int .u32 (w32 (tbl y))) := by
  rw [Bk.cell h]
  have := y.toNat_lt
  have e : (w8 y).toNat = y.toNat := by unfold w8; omega
  rw [e]
  unfold tab
  rw [Array.getElem?_map, Array.getElem?_range, if_pos (by omega)]
  simp
theorem one_tbl (c : BitVec 32) (x : UInt8) : one c x.toBitVec = tbl (lowB c ^^^ x) ^^^ (c >>> 8) := one_table c x.toBitVec

theorem xor_poly (c : BitVec 32) : bits .xor .u32 (w32 c) 2197175160 = w32 (c ^^^ poly) := xor_u32 c poly
attribute [local go_sem] xor_u32 xor_u8 not_u32 signed_u32 low_u32 xor_poly shr8_u32 shr1_u32 w8_nn w8_256

set_option maxRecDepth 100000 in
set_option maxHeartbeats 400000 in
theorem on_any (g : Nat) (c0 : BitVec 32) (A : Option Addr) (n c : Nat) (l : List UInt8) (w : World) (ht : IsTable w g) (hr : RdB w A n c l) :
    Calls Try.prog 38 #[.pointer (some ⟨g, 0, none⟩), .int .u32 (w32 c0), .slice A n c] w fun e w' =>
      e = .returned (.int .u32 (w32 (on c0 l))) ∧ w = w' := by
  have hn : n ≤ 9223372036854775807 := Nat.le_trans hr.cap hr.big
  have hl := Lib.hid hr.len
  go_enter Try.func38, Try.ntmps38
  go_wp2
  go_loop [1, 13] (fun s i => ∃ k : Nat, k ≤ n ∧ i = .int .i64 k ∧ s = .int .u32 (w32 (fold (~~~ c0) (l.take k)))) (fun _ i => n - (intOf i).toNat)
  case atStart =>
    exact ⟨0, Nat.zero_le _, rfl, rfl⟩
  case round =>
    obtain ⟨k, hk, rfl, rfl⟩ := hrel
    by_cases hlt : k < n
    · obtain ⟨ad, x, rfl, hx, _, hc⟩ := hr.get hlt
      clear hr
      have hi : (k : Int) < n := by omega
      have hT := ht.cell (lowB (fold (~~~ c0) (l.take k)) ^^^ x)
      go_wp2
      go_round
      case rel =>
        refine ⟨k + 1, by omega, by go_num, ?_⟩
        rw [hx.out, fold_snoc, one_tbl]
      case measure => simp [intOf]; omega
    · have hkn : k = n := by omega
      subst hkn
      go_wp2
      go_ret
      refine ⟨ret_u32 ?_, rfl⟩
      rw [← hl.out, List.take_length]
      rfl

set_option maxRecDepth 100000 in
set_option maxHeartbeats 400000 in
theorem sum_any (g : Nat) (A : Option Addr) (n c : Nat) (l : List UInt8) (w : World) (ht : IsTable w g) (hr : RdB w A n c l) :
    Calls Try.prog 30 #[.pointer (some ⟨g, 0, none⟩), .slice A n c] w fun e w' =>
      e = .returned (.int .u32 (w32 (on 0#32 l))) ∧ w = w' := by
  have e0 : (0 : Int) = w32 0#32 := rfl
  have H := Lib.hid (on_any g 0#32 A n c l w ht hr)
  rw [← e0] at H
  clear hr ht e0
  go_enter Try.func30, Try.ntmps30
  go_wp2_with fail
  refine H.out.mono ?_
  rintro e w' ⟨rfl, rfl⟩
  go_wp2_with fail
  go_ret
  exact ⟨rfl, rfl⟩

/-- the table as it is filled: the first k are there -/
def tabAt (k : Nat) : Array Value := (Array.range 256).map fun i => .int .u32 (if i < k then w32 (tbl (UInt8.ofNat i)) else 0)
theorem tabAt_zero : tabAt 0 = Array.replicate 256 (.int .u32 0) := by
  unfold tabAt
  apply Array.ext
  · simp
  · intro i h1 h2; simp
theorem tabAt_full : tabAt 256 = tab := by
  unfold tabAt tab
  apply Array.ext
  · simp
  · intro i h1 h2
    simp at h1
    simp [h1]
theorem tabAt_put (k : Nat) : (tabAt k).setIfInBounds k (.int .u32 (w32 (tbl (UInt8.ofNat k)))) = tabAt (k + 1) := by
  unfold tabAt
  apply Array.ext
  · simp
  · intro i h1 h2
    have hi : i < 256 := by simpa using h2
    rw [Array.getElem_setIfInBounds (by simpa using hi)]
    by_cases e : k = i
    · subst e; simp
    · by_cases h : i < k
      · simp [e, h, Nat.lt_succ_of_lt h]
      · simp [e, h, show ¬ i < k + 1 by omega]
def zeros : Array Value := Array.replicate 256 (.int .u32 0)
theorem zero_table (w : World) : (zeroValue 65).run Try.prog w = .ok (.agg zeros) w := by kernel_rfl

set_option maxRecDepth 100000 in
set_option maxHeartbeats 400000 in
theorem make_any (w : World) : Calls Try.prog 29 #[] w fun e w' => e = .returned (.pointer (some ⟨w.heap.size, 0, none⟩)) ∧ IsTable w' w.heap.size ∧ Below w.heap.size w w' := by
  have hz := zero_table
  go_enter Try.func29, Try.ntmps29
  go_wp2
  go_loopw [7] (fun i wr => ∃ k : Nat, k ≤ 256 ∧ i = .int .i64 k ∧ Bk wr w.heap.size 65 (tabAt k) ∧ Below w.heap.size w wr) (fun i _ => 256 - (intOf i).toNat)
  case atStart =>
    refine ⟨0, Nat.zero_le _, rfl, ?_, (Below.refl _ _).alloc (Nat.le_refl _) _⟩
    rw [tabAt_zero]
    exact Bk.made _ _ _
  case round =>
    obtain ⟨k, hk, rfl, hbk, hbel⟩ := hrel
    obtain ⟨wo, rfl⟩ : ∃ wo : World, wo = wr := ⟨_, rfl⟩
    by_cases hlt : k < 256
    · have hi : (k : Int) < 256 := by omega
      have hc := hbk.cell k
      have hold : ∃ v, (tabAt k)[k]? = some v := ⟨_, Array.getElem?_eq_getElem (by simp [tabAt]; exact hlt)⟩
      obtain ⟨v, hv⟩ := hold
      rw [hv] at hc
      clear hv
      have hf := hbk.thaw k
      have hbk := Lib.hid hbk
      go_wp2
      go_loop [3, 12] (fun s i => ∃ j : Nat, j ≤ 8 ∧ i = .int .i64 j ∧ s = .int .u32 (w32 (bitn j (BitVec.ofNat 32 k)))) (fun _ i => 8 - (intOf i).toNat)
      case atStart =>
        refine ⟨0, Nat.zero_le _, rfl, ?_⟩
        have e : w32 (bitn 0 (BitVec.ofNat 32 k)) = (k : Int) := by
          show ((BitVec.ofNat 32 k).toNat : Int) = k
          rw [BitVec.toNat_ofNat]; omega
        rw [e]
      case round =>
        obtain ⟨j, hj, rfl, rfl⟩ := hrel
        by_cases hlj : j < 8
        · have hji : (j : Int) < 8 := by omega
          by_cases hbit : (bitn j (BitVec.ofNat 32 k)).getLsbD 0 = true
          · have hand : bits .and .u32 (w32 (bitn j (BitVec.ofNat 32 k))) 1 = 1 := by rw [and1_u32, if_pos hbit]
            have hbit := Lib.hid hbit
            go_wp2
            go_round
            case rel =>
              refine ⟨j + 1, by omega, by go_num, ?_⟩
              have e : bitn (j + 1) (BitVec.ofNat 32 k) = bitn j (BitVec.ofNat 32 k) >>> 1 ^^^ poly := by
                show bit _ = _
                unfold bit
                rw [if_pos hbit.out]
              rw [e]
            case measure => simp [intOf]; omega
          · have hand : bits .and .u32 (w32 (bitn j (BitVec.ofNat 32 k))) 1 = 0 := by rw [and1_u32, if_neg hbit]
            have hbit := Lib.hid hbit
            go_wp2
            go_round
            case rel =>
              refine ⟨j + 1, by omega, by go_num, ?_⟩
              have e : bitn (j + 1) (BitVec.ofNat 32 k) = bitn j (BitVec.ofNat 32 k) >>> 1 := by
                show bit _ = _
                unfold bit
                rw [if_neg hbit.out]
              rw [e]
            case measure => simp [intOf]; omega
        · have hj8 : j = 8 := by omega
          subst hj8
          go_wp2
          go_roundw
          case rel =>
            refine ⟨k + 1, by omega, by go_num, ?_, ?_⟩
            · have h := hbk.out.put k (.int .u32 (w32 (bitn 8 (BitVec.ofNat 32 k))))
              have e : bitn 8 (BitVec.ofNat 32 k) = tbl (UInt8.ofNat k) := by
                show oct _ = oct _
                congr 1
                apply BitVec.eq_of_toNat_eq
                simp
                omega
              rw [e, tabAt_put] at h
              rw [e]
              exact h
            · exact hbel.setCell (Nat.le_refl _) _
          case measure => simp [intOf]; omega
    · have hk : k = 256 := by omega
      subst hk
      go_wp2
      go_ret
      refine ⟨rfl, ?_, hbel⟩
      rw [tabAt_full] at hbk
      exact hbk
end Go.Proofs.Ytcggnphoekmoaaa

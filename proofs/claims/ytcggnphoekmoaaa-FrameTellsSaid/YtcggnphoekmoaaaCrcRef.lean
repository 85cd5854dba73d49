/-
  The walk of the document's own Crc; small words for tables and bytes behind draws and calls.
-/
import Derived.Test.YtcggnphoekmoaaaCrc
import Derived.Test.YtcggnphoekmoaaaBook
namespace Go.Proofs.Ytcggnphoekmoaaa
open Go.RowKit CrcMath

attribute [local go_sem] xor_u32 xor_u8 not_u32 signed_u32 low_u32 xor_poly shr8_u32 shr1_u32 w8_nn w8_256

theorem IsTable.ext {w w' : World} {g : Nat} (h : IsTable w g) (hb : Below w.heap.size w w') : IsTable w' g := Bk.ext h hb
theorem RdB.nil (w : World) : RdB w none 0 0 [] := Rd.nil w _
theorem RdB.drew1 {w : World} {A : Option Addr} {n c : Nat} {l : List UInt8} (h : RdB w A n c l) : RdB w.drew A n c l := h.drawn 1
theorem IsTable.drew1 {w : World} {g : Nat} (h : IsTable w g) : IsTable w.drew g := h
def ones : BitVec 32 := ~~~ 0#32
/-- a byte into the lowest eight bits -/
def mixB (c : BitVec 32) (x : UInt8) : BitVec 32 := c ^^^ x.toBitVec.setWidth 32
theorem mixB_u32 (c : BitVec 32) (x : UInt8) : bits .xor .u32 (w32 c) (w8 x % 4294967296) = w32 (mixB c x) := by
  have e : w8 x % 4294967296 = w32 (x.toBitVec.setWidth 32) := by
    unfold w8 w32
    rw [BitVec.toNat_setWidth]
    have := x.toNat_lt
    show (x.toNat : Int) % 4294967296 = ((x.toNat % 4294967296 : Nat) : Int)
    omega
  rw [e, xor_u32]
  rfl
attribute [local go_sem] mixB_u32
set_option maxRecDepth 100000 in
set_option maxHeartbeats 400000 in
theorem refCrc_any (A : Option Addr) (n c : Nat) (l : List UInt8) (w : World) (hr : RdB w A n c l) :
    Calls Try.prog 35 #[.slice A n c] w fun e w' => e = .returned (.int .u32 (w32 (on 0#32 l))) ∧ w = w' := by
  have hn : n ≤ 9223372036854775807 := Nat.le_trans hr.cap hr.big
  have hl := Lib.hid hr.len
  go_enter Try.func35, Try.ntmps35
  go_wp2
  go_loop [3, 9] (fun s i => ∃ k : Nat, k ≤ n ∧ i = .int .i64 k ∧ s = .int .u32 (w32 (fold ones (l.take k)))) (fun _ i => n - (intOf i).toNat)
  case atStart => exact ⟨0, Nat.zero_le _, rfl, rfl⟩
  case round =>
    obtain ⟨k, hk, rfl, rfl⟩ := hrel
    by_cases hlt : k < n
    · obtain ⟨ad, x, rfl, hx, _, hc⟩ := hr.get hlt
      clear hr
      have hi : (k : Int) < n := by omega
      go_wp2
      go_loop [3, 6] (fun s i => ∃ j : Nat, j ≤ 8 ∧ i = .int .i64 j ∧ s = .int .u32 (w32 (bitn j (mixB (fold ones (l.take k)) x)))) (fun _ i => 8 - (intOf i).toNat)
      case atStart => exact ⟨0, Nat.zero_le _, rfl, rfl⟩
      case round =>
        obtain ⟨j, hj, rfl, rfl⟩ := hrel
        generalize hc0 : mixB (fold ones (l.take k)) x = c0 at *
        have Hc := Lib.hid hc0
        clear hc0
        by_cases hlj : j < 8
        · have hji : (j : Int) < 8 := by omega
          by_cases hbit : (bitn j c0).getLsbD 0 = true
          · have hand : bits .and .u32 (w32 (bitn j c0)) 1 = 1 := by rw [and1_u32, if_pos hbit]
            have e : bitn (j + 1) c0 = bitn j c0 >>> 1 ^^^ poly := by
              show bit _ = _
              unfold bit
              rw [if_pos hbit]
            have He := Lib.hid e
            clear hbit e
            go_wp2
            go_round
            case rel => exact ⟨j + 1, by omega, by go_num, by rw [He.out]⟩
            case measure => simp [intOf]; omega
          · have hand : bits .and .u32 (w32 (bitn j c0)) 1 = 0 := by rw [and1_u32, if_neg hbit]
            have e : bitn (j + 1) c0 = bitn j c0 >>> 1 := by
              show bit _ = _
              unfold bit
              rw [if_neg hbit]
            have He := Lib.hid e
            clear hbit e
            go_wp2
            go_round
            case rel => exact ⟨j + 1, by omega, by go_num, by rw [He.out]⟩
            case measure => simp [intOf]; omega
        · have hj8 : j = 8 := by omega
          subst hj8
          go_wp2
          go_round
          case rel =>
            refine ⟨k + 1, by omega, by go_num, ?_⟩
            rw [hx.out, fold_snoc, ← Hc.out]
            rfl
          case measure => simp [intOf]; omega
    · have hkn : k = n := by omega
      subst hkn
      go_wp2
      go_ret
      refine ⟨ret_u32 ?_, rfl⟩
      rw [← hl.out, List.take_length]
      rfl

end Go.Proofs.Ytcggnphoekmoaaa

/-
  The walks of the document's own Crc, and of the law CrcRuns.
-/
import Derived.Test.YtljpefpdpgalgaaCrc
import Derived.Test.YtljpefpdpgalgaaBook
import Derived.Test.YtljpefpdpgalgaaOpen
namespace Go.Proofs.Ytljpefpdpgalgaa
open Go.RowKit CrcMath

attribute [local go_sem] xor_u32 xor_u8 not_u32 signed_u32 low_u32 xor_poly shr8_u32 shr1_u32 w8_nn w8_256

def digits : List UInt8 := [49, 50, 51, 52, 53, 54, 55, 56, 57]
theorem IsTable.ext {w w' : World} {g : Nat} (h : IsTable w g) (hb : Below w.heap.size w w') : IsTable w' g := Bk.ext h hb
theorem RdB.nil (w : World) : RdB w none 0 0 [] := Rd.nil w _
theorem digits_sum : on 0#32 digits = 3808858755#32 := by decide +kernel

set_option maxRecDepth 100000 in
set_option maxHeartbeats 400000 in
theorem crcRuns_any (w : World) : Calls Try.prog 3 #[] w fun e w' => e = .returned (.bool true) ∧ Below w.heap.size w w' := by
  have kc := kc_bytes
  go_enter Try.func3, Try.ntmps3
  go_wp2_with fail
  refine (make_any _).mono ?_
  rintro e w1 ⟨rfl, ht, hb1⟩
  have Ht := Lib.hid ht
  clear ht
  go_wp2_with fail
  have hb2 := hb1.alloc hb1.size (.cells (bvs digits).toArray 5 (9, 10))
  have hs := sum_any w.heap.size _ 9 9 digits _ (Ht.out.ext (Below.alloc (Below.refl w1.heap.size w1) (Nat.le_refl _) (.cells (bvs digits).toArray 5 (9, 10)))) (RdB.const w1 digits _ rfl 5 (9, 10) 9 rfl (by omega))
  rw [digits_sum] at hs
  refine hs.mono ?_
  clear hs
  rintro e w2 ⟨rfl, rfl⟩
  have e1 : w32 3808858755#32 = 3808858755 := rfl
  go_wp2_with fail
  have h0 := sum_any w.heap.size none 0 0 [] _ (Ht.out.ext (Below.alloc (Below.refl w1.heap.size w1) (Nat.le_refl _) (.cells (bvs digits).toArray 5 (9, 10)))) (RdB.nil _)
  rw [on_nil] at h0
  refine h0.mono ?_
  clear h0
  rintro e w2 ⟨rfl, rfl⟩
  have e2 : w32 0#32 = 0 := rfl
  go_wp2_with fail
  go_ret
  exact ⟨rfl, hb2⟩

def ones : BitVec 32 := ~~~ 0#32
/-- a byte into the lowest eight bits -/
def mixB (c : BitVec 32) (x : UInt8) : BitVec 32 := c ^^^ x.toBitVec.setWidth 32
theorem mixB_u32 (c : BitVec 32) (x : UInt8) : bits .xor .u32 (w32 c) (w8 x % 4294967296) = w32 (mixB c x) := by
  have e : w8 x % 4294967296 = w32 (x.toBitVec.setWidth 32) := by
    unfold w8 w32
    rw [BitVec.toNat_setWidth]
    have := x.toNat_lt
    show (x.toNat : Int) % 4294967296 = ((x.toNat % 4294967296 : Nat) : Int)
    omega
  rw [e, xor_u32]
  rfl
attribute [local go_sem] mixB_u32
set_option maxRecDepth 100000 in
set_option maxHeartbeats 400000 in
theorem refCrc_any (A : Option Addr) (n c : Nat) (l : List UInt8) (w : World) (hr : RdB w A n c l) :
    Calls Try.prog 13 #[.slice A n c] w fun e w' => e = .returned (.int .u32 (w32 (on 0#32 l))) ∧ w = w' := by
  have hn : n ≤ 9223372036854775807 := Nat.le_trans hr.cap hr.big
  have hl := Lib.hid hr.len
  go_enter Try.func13, Try.ntmps13
  go_wp2
  go_loop [3, 9] (fun s i => ∃ k : Nat, k ≤ n ∧ i = .int .i64 k ∧ s = .int .u32 (w32 (fold ones (l.take k)))) (fun _ i => n - (intOf i).toNat)
  case atStart => exact ⟨0, Nat.zero_le _, rfl, rfl⟩
  case round =>
    obtain ⟨k, hk, rfl, rfl⟩ := hrel
    by_cases hlt : k < n
    · obtain ⟨ad, x, rfl, hx, _, hc⟩ := hr.get hlt
      clear hr
      have hi : (k : Int) < n := by omega
      go_wp2
      go_loop [3, 6] (fun s i => ∃ j : Nat, j ≤ 8 ∧ i = .int .i64 j ∧ s = .int .u32 (w32 (bitn j (mixB (fold ones (l.take k)) x)))) (fun _ i => 8 - (intOf i).toNat)
      case atStart => exact ⟨0, Nat.zero_le _, rfl, rfl⟩
      case round =>
        obtain ⟨j, hj, rfl, rfl⟩ := hrel
        generalize hc0 : mixB (fold ones (l.take k)) x = c0 at *
        have Hc := Lib.hid hc0
        clear hc0
        by_cases hlj : j < 8
        · have hji : (j : Int) < 8 := by omega
          by_cases hbit : (bitn j c0).getLsbD 0 = true
          · have hand : bits .and .u32 (w32 (bitn j c0)) 1 = 1 := by rw [and1_u32, if_pos hbit]
            have e : bitn (j + 1) c0 = bitn j c0 >>> 1 ^^^ poly := by
              show bit _ = _
              unfold bit
              rw [if_pos hbit]
            have He := Lib.hid e
            clear hbit e
            go_wp2
            go_round
            case rel => exact ⟨j + 1, by omega, by go_num, by rw [He.out]⟩
            case measure => simp [intOf]; omega
          · have hand : bits .and .u32 (w32 (bitn j c0)) 1 = 0 := by rw [and1_u32, if_neg hbit]
            have e : bitn (j + 1) c0 = bitn j c0 >>> 1 := by
              show bit _ = _
              unfold bit
              rw [if_neg hbit]
            have He := Lib.hid e
            clear hbit e
            go_wp2
            go_round
            case rel => exact ⟨j + 1, by omega, by go_num, by rw [He.out]⟩
            case measure => simp [intOf]; omega
        · have hj8 : j = 8 := by omega
          subst hj8
          go_wp2
          go_round
          case rel =>
            refine ⟨k + 1, by omega, by go_num, ?_⟩
            rw [hx.out, fold_snoc, ← Hc.out]
            rfl
          case measure => simp [intOf]; omega
    · have hkn : k = n := by omega
      subst hkn
      go_wp2
      go_ret
      refine ⟨ret_u32 ?_, rfl⟩
      rw [← hl.out, List.take_length]
      rfl

theorem RdB.drew1 {w : World} {A : Option Addr} {n c : Nat} {l : List UInt8} (h : RdB w A n c l) : RdB w.drew A n c l := h.drawn 1
theorem IsTable.drew1 {w : World} {g : Nat} (h : IsTable w g) : IsTable w.drew g := h
theorem below_drawn {B : Nat} {a w : World} (h : Below B a w) (n : Nat) : Below B a (w.drewN n) := ⟨h.os, h.tape, h.output, h.size, h.block⟩

set_option maxRecDepth 100000 in
set_option maxHeartbeats 1000000 in
theorem crcTells_any {H : Type} {enc : TypeId × Value → H} {base : Nat} {v0 v1 : Value} {d0 d1 : DataW H} {p0 p1 : List MemPlace} (w : World) (h0 : Came enc w base 26 v0 d0 p0) (h1 : Came enc w base 3 v1 d1 p1) :
    Calls Try.prog 4 #[v0, v1] w fun e w' => e = .returned (.bool true) ∧ Below w.heap.size w w' := by
  obtain ⟨A, n, c, l, rfl, hr⟩ := h0.bytes
  obtain ⟨z, rfl, hz1, hz2⟩ := h1.int
  clear h0 h1
  have hcap := hr.cap
  have hbig := hr.big
  obtain ⟨m, hmin, hmn, hm, _⟩ := cut_min n 200 (by omega)
  have hr2 := hr.upto m hmn
  generalize l.take m = L at hr2
  clear hr
  have hmc : m ≤ c := by omega
  go_enter Try.func4, Try.ntmps4
  go_wp2_with fail
  refine (make_any _).mono ?_
  rintro e w1 ⟨rfl, ht, hb1⟩
  have Ht := Lib.hid ht
  clear ht
  go_wp2_with fail
  refine (roomy_any _ _ _ _ 7 _ (hr2.ext hb1) (by omega)).mono ?_
  rintro e w2 ⟨rfl, hfull, hb2⟩
  have Hfull := Lib.hid hfull
  clear hfull
  go_wp2_with fail
  refine (within_nat _ _ _ (by omega) (by omega) hz1 hz2).mono ?_
  rintro e w2' ⟨k, rfl, hk, rfl⟩
  have hb02 := hb1.trans (hb2.mono hb1.size)
  have hA := (hr2.ext hb1).ext hb2
  have ht2 := Ht.out.ext hb2
  have hF := Hfull.out.reads 0 m (m + 80) (by rw [List.length_append, hr2.len, rep_len]; omega) (by omega) (by omega)
  rw [List.drop_zero, List.take_append_of_le_length (by rw [hr2.len]; exact Nat.le_refl _), ← hr2.len, List.take_length, hr2.len] at hF
  have hW := Hfull.out.whole (m + 80) (m + 80) (by rw [List.length_append, hr2.len, rep_len]) (Nat.le_refl _) (by omega)
  have hSum := Lib.hid fun t : Ext w2 => ext_of_same (sum_any _ _ _ _ _ t.w (ht2.ext t.below) (hF.ext t.below))
  have hCrc := Lib.hid fun t : Ext w2 => ext_of_same (refCrc_any _ _ _ _ t.w (hA.ext t.below))
  have hSumK := Lib.hid fun t : Ext w2 => ext_of_same (sum_any _ _ _ _ _ t.w (ht2.ext t.below) ((hA.upto k (by omega)).ext t.below))
  have hOn1 := fun t : Ext w2 => ext_of_same (on_any _ (on 0#32 (L.take k)) _ _ _ _ t.w (ht2.ext t.below) ((hA.past k (by omega)).ext t.below))
  rw [← on_append, List.take_append_drop] at hOn1
  have hOn := Lib.hid hOn1
  have hOn2 := fun t : Ext w2 => ext_of_same (on_any _ 0#32 _ _ _ _ t.w (ht2.ext t.below) (hA.ext t.below))
  rw [show w32 0#32 = 0 from rfl] at hOn2
  have hOn0 := Lib.hid hOn2
  have hInt1 := fun t : Ext w2 => ext_of_drawn (intact_any _ _ _ _ _ _ _ _ 7 t.w (hW.ext t.below) (hA.ext t.below) (by omega))
  rw [decide_eq_true rfl, show w8 7 = 7 from rfl] at hInt1
  have hInt := Lib.hid hInt1
  clear hA ht2 hF hOn1 hOn2 hInt1 hr2 hW
  go_wp2_with fail
  refine wp_region_ext (by kernel_rfl) (by kernel_rfl) ?_
  repeat (go_big_quiet_step (first
    | (go_at_call 10; with_reducible exact hSum.out _)
    | (go_at_call 10; with_reducible exact hSumK.out _)
    | (go_at_call 13; with_reducible exact hCrc.out _)
    | (go_at_call 14; with_reducible exact hOn.out _)
    | (go_at_call 14; with_reducible exact hOn0.out _)
    | (go_at_call 15; with_reducible exact hInt.out _)
    | (go_at_call 3; exact ext_of (crcRuns_any _))))
  refine wpQuiet_nil ?_
  intro _ hw'
  obtain ⟨t, hw''⟩ := hw'
  subst hw''
  go_wp2
  all_goals
    go_ret
    exact ⟨rfl, hb02.trans (t.below.mono hb02.size)⟩
end Go.Proofs.Ytljpefpdpgalgaa

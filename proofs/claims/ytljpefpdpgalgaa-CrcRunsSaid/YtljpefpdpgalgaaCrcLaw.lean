/-
  The walks of the document's own Crc, and of the law CrcRuns.
-/
import Derived.Test.YtljpefpdpgalgaaCrc
import Derived.Test.YtljpefpdpgalgaaBook
namespace Go.Proofs.Ytljpefpdpgalgaa
open Go.RowKit CrcMath

attribute [local go_sem] xor_u32 xor_u8 not_u32 signed_u32 low_u32 xor_poly shr8_u32 shr1_u32 w8_nn w8_256

def digits : List UInt8 := [49, 50, 51, 52, 53, 54, 55, 56, 57]
theorem IsTable.ext {w w' : World} {g : Nat} (h : IsTable w g) (hb : Below w.heap.size w w') : IsTable w' g := Bk.ext h hb
theorem RdB.nil (w : World) : RdB w none 0 0 [] := Rd.nil w _
theorem digits_sum : on 0#32 digits = 3808858755#32 := by decide +kernel

set_option maxRecDepth 100000 in
set_option maxHeartbeats 400000 in
theorem crcRuns_any (w : World) : Calls Try.prog 3 #[] w fun e w' => e = .returned (.bool true) ∧ Below w.heap.size w w' := by
  have kc := kc_bytes
  go_enter Try.func3, Try.ntmps3
  go_wp2_with fail
  refine (make_any _).mono ?_
  rintro e w1 ⟨rfl, ht, hb1⟩
  have Ht := Lib.hid ht
  clear ht
  go_wp2_with fail
  have hb2 := hb1.alloc hb1.size (.cells (bvs digits).toArray 5 (9, 10))
  have hs := sum_any w.heap.size _ 9 9 digits _ (Ht.out.ext (Below.alloc (Below.refl w1.heap.size w1) (Nat.le_refl _) (.cells (bvs digits).toArray 5 (9, 10)))) (RdB.const w1 digits _ rfl 5 (9, 10) 9 rfl (by omega))
  rw [digits_sum] at hs
  refine hs.mono ?_
  clear hs
  rintro e w2 ⟨rfl, rfl⟩
  have e1 : w32 3808858755#32 = 3808858755 := rfl
  go_wp2_with fail
  have h0 := sum_any w.heap.size none 0 0 [] _ (Ht.out.ext (Below.alloc (Below.refl w1.heap.size w1) (Nat.le_refl _) (.cells (bvs digits).toArray 5 (9, 10)))) (RdB.nil _)
  rw [on_nil] at h0
  refine h0.mono ?_
  clear h0
  rintro e w2 ⟨rfl, rfl⟩
  have e2 : w32 0#32 = 0 := rfl
  go_wp2_with fail
  go_ret
  exact ⟨rfl, hb2⟩
end Go.Proofs.Ytljpefpdpgalgaa

/-
  The closed sentence of entries; few.
-/
import Derived.Test.YtpfdbbcfcimmfaaGreatDoorEPutW
import Derived.Test.YtpfdbbcfcimmfaaGreatDoorESameB
namespace Go.Proofs.YtpfdbbcfcimmfaaGreatDoor
open Go.RowKit
attribute [local go_sem ↓] ldE_eq stE_eq

def run1 : Ent := ⟨2, ⟨#[116]⟩, nul, 0, 0, 0, 0, noB⟩
def run2 : Ent := ⟨5, ⟨#[116]⟩, nul, 1, 0, 0, 2, noB⟩
theorem put_run1 : putE run1 = [2, 1, 0, 116] := by decide
theorem put_run2 : putE run2 = [5, 1, 0, 116, 1, 2, 0, 0, 0, 0, 0, 0, 0] := by decide
set_option maxRecDepth 100000 in
set_option maxHeartbeats 2000000 in
theorem entryRuns_any (w : World) : Calls Tryz.prog 22 #[] w fun e w' => e = .returned (.bool true) ∧ Below w.heap.size w w' := by
  have HP1 := Lib.hid (ePut_any run1 none 0 0 w (RdT.nil w))
  go_enter Tryz.func22, Tryz.ntmps22
  go_wp2_with fail
  refine HP1.out.mono ?_
  rintro e w1 ⟨A1, M1, c1, rfl, ho1, hb1⟩
  rw [put_run1] at ho1
  have hr1 := ho1.rd
  have hbn1 := below_new w1 (.cells #[.int .u8 2, .int .u8 1, .int .u8 0, .int .u8 116] 5)
  have hs1 := sameB_any A1 M1 c1 [2, 1, 0, 116] (some ⟨w1.heap.size, 0, none⟩) 4 4 [2, 1, 0, 116] _ (hr1.ext hbn1) (RdB.const w1 [2, 1, 0, 116] #[.int .u8 2, .int .u8 1, .int .u8 0, .int .u8 116] rfl 5 (0, 0) 4 rfl (by omega))
  rw [decide_eq_true rfl] at hs1
  have HS1 := Lib.hid hs1
  have HB1 := Lib.hid (hb1.trans (below_le hb1.size hbn1))
  clear hs1 ho1 hr1 hbn1 hb1 HP1
  go_wp2_with fail
  refine HS1.out.mono ?_
  rintro e w2 ⟨rfl, q, rfl⟩
  have HB2 := Lib.hid (below_drawn HB1.out q)
  have HP2 := Lib.hid (fun w => ePut_any run2 none 0 0 w (RdT.nil w))
  go_wp2_with fail
  refine (HP2.out _).mono ?_
  rintro e w3 ⟨A3, M3, c3, rfl, ho3, hb3⟩
  rw [put_run2] at ho3
  have hr3 := ho3.rd
  have hbn3 := below_new w3 (.cells #[.int .u8 5, .int .u8 1, .int .u8 0, .int .u8 116, .int .u8 1, .int .u8 2, .int .u8 0, .int .u8 0, .int .u8 0, .int .u8 0, .int .u8 0, .int .u8 0, .int .u8 0] 5)
  have hs3 := sameB_any A3 M3 c3 [5, 1, 0, 116, 1, 2, 0, 0, 0, 0, 0, 0, 0] (some ⟨w3.heap.size, 0, none⟩) 13 13 [5, 1, 0, 116, 1, 2, 0, 0, 0, 0, 0, 0, 0] _ (hr3.ext hbn3) (RdB.const w3 [5, 1, 0, 116, 1, 2, 0, 0, 0, 0, 0, 0, 0] #[.int .u8 5, .int .u8 1, .int .u8 0, .int .u8 116, .int .u8 1, .int .u8 2, .int .u8 0, .int .u8 0, .int .u8 0, .int .u8 0, .int .u8 0, .int .u8 0, .int .u8 0] rfl 5 (0, 0) 13 rfl (by omega))
  rw [decide_eq_true rfl] at hs3
  have HS3 := Lib.hid hs3
  have hb3' := HB2.out.trans (below_le HB2.out.size hb3)
  have HB3 := Lib.hid (hb3'.trans (below_le hb3'.size hbn3))
  clear hs3 ho3 hr3 hbn3 hb3 hb3' HP2
  go_wp2_with fail
  refine HS3.out.mono ?_
  rintro e w4 ⟨rfl, q4, rfl⟩
  go_wp2_with fail
  go_ret
  exact ⟨rfl, below_drawn HB3.out q4⟩
end Go.Proofs.YtpfdbbcfcimmfaaGreatDoor

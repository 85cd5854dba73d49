/-
  stavelaw22: AskRuns.
-/
import Derived.Test.YtpfdbbcfcimmfaaGreatDoorAsk
import Derived.Test.YtpfdbbcfcimmfaaGreatDoorAErr3
import Derived.Test.YtpfdbbcfcimmfaaGreatDoorESameB
namespace Go.Proofs.YtpfdbbcfcimmfaaGreatDoor
open Go.RowKit
attribute [local go_sem ↓] ldA_eq stA_eq
attribute [local go_sem] w8_nn w8_256 wrap_i64_w8 wrap64_w8

/-- the ask of chapter 22's run -/
def runA : Ask := ⟨258, 6, nul, nul, 0, 0, 0, 0, 0, 0, noB⟩
theorem put_runA : putA runA = [1, 6, 2, 1, 0, 0] := by decide
theorem get_run1 : getA [2, 6, 2, 1, 0, 0] = .error (258, 14) := by rfl
theorem get_run2 : getA [1, 99, 2, 1, 0, 0] = .error (258, 2) := by rfl
set_option maxRecDepth 100000 in
set_option maxHeartbeats 4000000 in
theorem askRuns_any (w : World) (hl : ErrLaid w) : Calls Tryz.prog 4 #[] w fun e w' => e = .returned (.bool true) ∧ Below w.heap.size w w' := by
  have hbn := below_new w (.cells #[.int .u8 2, .int .u8 6, .int .u8 2, .int .u8 1, .int .u8 0, .int .u8 0] 5)
  have HG1 := Lib.hid (aget_err _ 6 6 [2, 6, 2, 1, 0, 0] (w.alloc (.cells #[.int .u8 2, .int .u8 6, .int .u8 2, .int .u8 1, .int .u8 0, .int .u8 0] 5)) (RdB.const w [2, 6, 2, 1, 0, 0] _ rfl 5 (0, 0) 6 rfl (by omega)) (by omega) 258 14 get_run1)
  have HBn := Lib.hid hbn
  have HL := Lib.hid hl
  clear hbn hl
  go_enter Tryz.func4, Tryz.ntmps4
  go_wp2_with fail
  with_reducible refine HG1.out.mono ?_
  rintro er w1 ⟨A1, n1, c1, v1, d1, rfl, _, hd1, hke1, hb1⟩
  have hst1 := stA_newAt w1 w1.heap.size rfl 258 0 ⟨#[]⟩ ⟨#[]⟩ 0 0 0 0 0 0 0 0 0 A1 n1 c1 #[.int .i64 0, .int .i64 0, .string ⟨#[]⟩, .string ⟨#[]⟩, .int .i64 0, .int .i64 0, .int .i64 0, .int .i64 0, .int .i64 0, .int .i64 0, .int .i64 0, .int .i64 0, .int .i64 0, .slice none 0 0] rfl
  have hk1 := Bk.made w1 47 #[.int .i64 258, .int .i64 0, .string ⟨#[]⟩, .string ⟨#[]⟩, .int .i64 0, .int .i64 0, .int .i64 0, .int .i64 0, .int .i64 0, .int .i64 0, .int .i64 0, .int .i64 0, .int .i64 0, .slice A1 n1 c1]
  have hbn1 := below_new w1 (.cells #[.int .i64 258, .int .i64 0, .string ⟨#[]⟩, .string ⟨#[]⟩, .int .i64 0, .int .i64 0, .int .i64 0, .int .i64 0, .int .i64 0, .int .i64 0, .int .i64 0, .int .i64 0, .int .i64 0, .slice A1 n1 c1] 47)
  have hbm := below_new (w1.alloc (.cells #[.int .i64 258, .int .i64 0, .string ⟨#[]⟩, .string ⟨#[]⟩, .int .i64 0, .int .i64 0, .int .i64 0, .int .i64 0, .int .i64 0, .int .i64 0, .int .i64 0, .int .i64 0, .int .i64 0, .slice A1 n1 c1] 47)) (.cells #[.int .u8 1, .int .u8 99, .int .u8 2, .int .u8 1, .int .u8 0, .int .u8 0] 5)
  have HK1 := Lib.hid (hk1.ext hbm)
  have HB1 := Lib.hid (HBn.out.trans (below_le HBn.out.size (hb1.trans (below_le hb1.size (hbn1.trans (below_le hbn1.size hbm))))))
  have HE1 := Lib.hid hke1
  have hrd2 : RdB ((w1.alloc (.cells #[.int .i64 258, .int .i64 0, .string ⟨#[]⟩, .string ⟨#[]⟩, .int .i64 0, .int .i64 0, .int .i64 0, .int .i64 0, .int .i64 0, .int .i64 0, .int .i64 0, .int .i64 0, .int .i64 0, .slice A1 n1 c1] 47)).alloc (.cells #[.int .u8 1, .int .u8 99, .int .u8 2, .int .u8 1, .int .u8 0, .int .u8 0] 5)) (some ⟨w1.heap.size + 1, 0, none⟩) 6 6 [1, 99, 2, 1, 0, 0] := by
    have h := RdB.const (w1.alloc (.cells #[.int .i64 258, .int .i64 0, .string ⟨#[]⟩, .string ⟨#[]⟩, .int .i64 0, .int .i64 0, .int .i64 0, .int .i64 0, .int .i64 0, .int .i64 0, .int .i64 0, .int .i64 0, .int .i64 0, .slice A1 n1 c1] 47)) [1, 99, 2, 1, 0, 0] #[.int .u8 1, .int .u8 99, .int .u8 2, .int .u8 1, .int .u8 0, .int .u8 0] rfl 5 (0, 0) 6 rfl (by omega)
    rw [show (w1.alloc (.cells #[.int .i64 258, .int .i64 0, .string ⟨#[]⟩, .string ⟨#[]⟩, .int .i64 0, .int .i64 0, .int .i64 0, .int .i64 0, .int .i64 0, .int .i64 0, .int .i64 0, .int .i64 0, .int .i64 0, .slice A1 n1 c1] 47)).heap.size = w1.heap.size + 1 by simp] at h
    exact h
  have HG2 := Lib.hid (aget_err _ 6 6 [1, 99, 2, 1, 0, 0] _ hrd2 (by omega) 258 2 get_run2)
  clear hk1 hb1 hbn1 hbm hke1 HG1 HBn hrd2
  go_wp2_with fail
  with_reducible refine HG2.out.mono ?_
  rintro er w2 ⟨A2, n2, c2, v2, d2, rfl, _, hd2, hke2, hb2⟩
  have hst2 := stA_newAt w2 w2.heap.size rfl 258 0 ⟨#[]⟩ ⟨#[]⟩ 0 0 0 0 0 0 0 0 0 A2 n2 c2 #[.int .i64 0, .int .i64 0, .string ⟨#[]⟩, .string ⟨#[]⟩, .int .i64 0, .int .i64 0, .int .i64 0, .int .i64 0, .int .i64 0, .int .i64 0, .int .i64 0, .int .i64 0, .int .i64 0, .slice none 0 0] rfl
  have hk2 := Bk.made w2 47 #[.int .i64 258, .int .i64 0, .string ⟨#[]⟩, .string ⟨#[]⟩, .int .i64 0, .int .i64 0, .int .i64 0, .int .i64 0, .int .i64 0, .int .i64 0, .int .i64 0, .int .i64 0, .int .i64 0, .slice A2 n2 c2]
  have hbn2 := below_new w2 (.cells #[.int .i64 258, .int .i64 0, .string ⟨#[]⟩, .string ⟨#[]⟩, .int .i64 0, .int .i64 0, .int .i64 0, .int .i64 0, .int .i64 0, .int .i64 0, .int .i64 0, .int .i64 0, .int .i64 0, .slice A2 n2 c2] 47)
  have HK1' := Lib.hid ((HK1.out.ext hb2).ext hbn2)
  have HK2 := Lib.hid hk2
  have HB2 := Lib.hid (HB1.out.trans (below_le HB1.out.size (hb2.trans (below_le hb2.size hbn2))))
  have HE2 := Lib.hid hke2
  have HP : Hid (Calls Tryz.prog 24 #[.agg #[.int .i64 258, .int .i64 6, .string ⟨#[]⟩, .string ⟨#[]⟩, .int .i64 0, .int .i64 0, .int .i64 0, .int .i64 0, .int .i64 0, .int .i64 0, .int .i64 0, .int .i64 0, .int .i64 0, .slice none 0 0]] (w2.alloc (.cells #[.int .i64 258, .int .i64 0, .string ⟨#[]⟩, .string ⟨#[]⟩, .int .i64 0, .int .i64 0, .int .i64 0, .int .i64 0, .int .i64 0, .int .i64 0, .int .i64 0, .int .i64 0, .int .i64 0, .slice A2 n2 c2] 47)) fun er w' => ∃ A' M c', er = .returned (.slice A' M c') ∧ OwnB w' (w2.alloc (.cells #[.int .i64 258, .int .i64 0, .string ⟨#[]⟩, .string ⟨#[]⟩, .int .i64 0, .int .i64 0, .int .i64 0, .int .i64 0, .int .i64 0, .int .i64 0, .int .i64 0, .int .i64 0, .int .i64 0, .slice A2 n2 c2] 47)).heap.size (.slice A' M c') (putA runA) ∧ Below (w2.alloc (.cells #[.int .i64 258, .int .i64 0, .string ⟨#[]⟩, .string ⟨#[]⟩, .int .i64 0, .int .i64 0, .int .i64 0, .int .i64 0, .int .i64 0, .int .i64 0, .int .i64 0, .int .i64 0, .int .i64 0, .slice A2 n2 c2] 47)).heap.size (w2.alloc (.cells #[.int .i64 258, .int .i64 0, .string ⟨#[]⟩, .string ⟨#[]⟩, .int .i64 0, .int .i64 0, .int .i64 0, .int .i64 0, .int .i64 0, .int .i64 0, .int .i64 0, .int .i64 0, .int .i64 0, .slice A2 n2 c2] 47)) w') := aPut_any runA none 0 0 _ (RdT.nil _)
  clear hk2 hb2 hbn2 hke2 hst1 HG2 HK1 HB1
  go_wp2_with fail
  with_reducible refine HP.out.mono ?_
  rintro er w3 ⟨A3, M3, c3, rfl, ho3, hb3⟩
  rw [put_runA] at ho3
  have hr3 := ho3.rd
  have hbn3 := below_new w3 (.cells #[.int .u8 1, .int .u8 6, .int .u8 2, .int .u8 1, .int .u8 0, .int .u8 0] 5)
  have hS := sameB_any A3 M3 c3 [1, 6, 2, 1, 0, 0] (some ⟨w3.heap.size, 0, none⟩) 6 6 [1, 6, 2, 1, 0, 0] (w3.alloc (.cells #[.int .u8 1, .int .u8 6, .int .u8 2, .int .u8 1, .int .u8 0, .int .u8 0] 5)) (RdB.ext hr3 hbn3) (RdB.const w3 [1, 6, 2, 1, 0, 0] _ rfl 5 (0, 0) 6 rfl (by omega))
  rw [decide_eq_true rfl] at hS
  have HS := Lib.hid hS
  have hb23 := hb3.trans (below_le hb3.size hbn3)
  have HK1 := Lib.hid (HK1'.out.ext hb23)
  have HK2' := Lib.hid (HK2.out.ext hb23)
  have HB3 := Lib.hid (HB2.out.trans (below_le HB2.out.size hb23))
  clear hst2 ho3 hb3 hr3 hbn3 hS hb23 HP HK1' HK2 HB2
  go_wp2_with fail
  with_reducible refine HS.out.mono ?_
  rintro er w4 ⟨rfl, q, rfl⟩
  have HK1' := Lib.hid (HK1.out.drawn q)
  have HK2 := Lib.hid (HK2'.out.drawn q)
  have HB4 := Lib.hid (below_drawn HB3.out q)
  clear HK1 HK2' HB3 HS
  generalize (w3.alloc (.cells #[.int .u8 1, .int .u8 6, .int .u8 2, .int .u8 1, .int .u8 0, .int .u8 0] 5)).drewN q = w4 at HK1' HK2 HB4 ⊢
  have e0 : w4.cell? ⟨w1.heap.size, 0, none⟩ = some (.int .i64 258) := HK1'.out.cell 0
  have e1 : w4.cell? ⟨w1.heap.size, 1, none⟩ = some (.int .i64 0) := HK1'.out.cell 1
  have HKa := Lib.hid (kind_err3 HE1.out hd1 w4 (ErrLaid.below HL.out HB4.out))
  go_wp2_with fail
  with_reducible refine HKa.out.mono ?_
  rintro er w5 ⟨rfl, hb5⟩
  have e2 : w5.cell? ⟨w2.heap.size, 0, none⟩ = some (.int .i64 258) := (HK2.out.ext hb5).cell 0
  have HB5 := Lib.hid (HB4.out.trans (below_le HB4.out.size hb5))
  have HKb := Lib.hid (kind_err3 HE2.out hd2 w5 (ErrLaid.below HL.out HB5.out))
  clear hb5 HB4 e0 e1
  go_wp2_with fail
  with_reducible refine HKb.out.mono ?_
  rintro er w6 ⟨rfl, hb6⟩
  go_wp2_with fail
  go_ret
  exact ⟨rfl, HB5.out.trans (below_le HB5.out.size hb6)⟩
end Go.Proofs.YtpfdbbcfcimmfaaGreatDoor

/-
  entry: Put.
-/
import Derived.Test.YtpfdbbcfcimmfaaGreatDoorERightW
namespace Go.Proofs.YtpfdbbcfcimmfaaGreatDoor
open Go.RowKit
attribute [local go_sem ↓] ldB_eq stB_eq ldE_eq stE_eq

set_option maxRecDepth 100000 in
set_option maxHeartbeats 4000000 in
theorem ePut_any (e : Ent) (A : Option Addr) (n c : Nat) (w : World) (hr : RdT w A n c e.bat.vals) :
    Calls Tryz.prog 10 #[.agg #[.int .i64 e.kind, .string e.topic, .string e.group, .int .i64 e.part, .int .i64 e.parts, .int .i64 e.first, .int .i64 e.off, .int .i64 e.bat.time, .int .i64 e.bat.prod, .int .i64 e.bat.seq, .slice A n c]] w fun er w' => ∃ A' M c', er = .returned (.slice A' M c') ∧ OwnB w' w.heap.size (.slice A' M c') (putE e) ∧ Below w.heap.size w w' := by
  have hbn := below_new w (.cells #[.int .i64 e.kind, .string e.topic, .string e.group, .int .i64 e.part, .int .i64 e.parts, .int .i64 e.first, .int .i64 e.off, .int .i64 e.bat.time, .int .i64 e.bat.prod, .int .i64 e.bat.seq, .slice A n c] 26)
  have hbk := Bk.made w 26 #[.int .i64 e.kind, .string e.topic, .string e.group, .int .i64 e.part, .int .i64 e.parts, .int .i64 e.first, .int .i64 e.off, .int .i64 e.bat.time, .int .i64 e.bat.prod, .int .i64 e.bat.seq, .slice A n c]
  have hld := ldE_bk hbk
  have HBK := Lib.hid hbk
  have HR := Lib.hid hr
  have HB0 := Lib.hid hbn
  clear hbn hbk hr
  go_enter Tryz.func10, Tryz.ntmps10
  go_wp2_with fail
  refine calls_cut (fun w' => Bk w' w.heap.size 26 #[.int .i64 e.kind, .string e.topic, .string e.group, .int .i64 e.part, .int .i64 e.parts, .int .i64 e.first, .int .i64 e.off, .int .i64 e.bat.time, .int .i64 e.bat.prod, .int .i64 e.bat.seq, .slice A n c] ∧ Below w.heap.size w w') ⟨HBK.out, HB0.out⟩ ?_
  clear hld HBK HB0
  rintro w1 ⟨hk1, hb1⟩
  obtain ⟨r, hre⟩ : ∃ r, rightE e = r := ⟨_, rfl⟩
  refine (eRight_any e A n c w1 (HR.out.ext hb1) r hre).mono ?_
  rintro er w2 ⟨rfl, hb2⟩
  have hk2 := hk1.ext hb2
  have HB2 := Lib.hid (hb1.trans (below_le hb1.size hb2))
  have Hre := Lib.hid hre
  cases r
  · clear hre hk1 hb1 hb2 hk2
    go_wp2_with fail
    go_ret
    exact ⟨none, 0, 0, rfl, by rw [putE_no Hre.out]; exact OwnB.nil _ _, HB2.out⟩
  · have hok := Lib.hid (right_facts hre).1
    have hkd := Lib.hid (right_kind hre)
    have FS : Hid (∀ w', Below w2.heap.size w2 w' → (Below w2.heap.size w2 w' ∧ w'.cell? ⟨w.heap.size, 0, none⟩ = some (.int .i64 e.kind) ∧ (ldE (.pointer (some ⟨w.heap.size, 0, none⟩))).run Tryz.prog w' = .ok (.agg #[.int .i64 e.kind, .string e.topic, .string e.group, .int .i64 e.part, .int .i64 e.parts, .int .i64 e.first, .int .i64 e.off, .int .i64 e.bat.time, .int .i64 e.bat.prod, .int .i64 e.bat.seq, .slice A n c]) w')) := fun w' hb => ⟨hb, (hk2.ext hb).cell 0, ldE_bk (hk2.ext hb)⟩
    have r0 := below_drew1 (Below.refl w2.heap.size w2)
    have HF := Lib.hid (fields_any e.kind w2.drew w2 w2.heap.size r0 r0.size)
    have HR2 := Lib.hid (HR.out.ext HB2.out)
    clear hre hk1 hb1 hb2 hk2 HR
    go_wp2_with fail
    go_region_held3 (fun w' => Below w2.heap.size w2 w' ∧ w'.cell? ⟨w.heap.size, 0, none⟩ = some (.int .i64 e.kind) ∧ (ldE (.pointer (some ⟨w.heap.size, 0, none⟩))).run Tryz.prog w' = .ok (.agg #[.int .i64 e.kind, .string e.topic, .string e.group, .int .i64 e.part, .int .i64 e.parts, .int .i64 e.first, .int .i64 e.off, .int .i64 e.bat.time, .int .i64 e.bat.prod, .int .i64 e.bat.seq, .slice A n c]) w') (first | exact FS.out _ r0 | exact FS.out _ hb5 | exact FS.out _ hx4 | exact FS.out _ hb3) (first | (go_at_call 37; (with_reducible refine HF.out.mono ?_); rintro er w3 ⟨v3, rfl, hf3, hb3⟩; obtain ⟨A3, n3, c3, rfl, hrf, hn3, _⟩ := hf3; have Hrf := Lib.hid hrf) | (go_at_call 38; (with_reducible refine (values_any e.kind e.topic e.group e.part e.parts e.first e.off e.bat.time e.bat.prod e.bat.seq e.bat.vals A n c _ w3 w3.heap.size (HR2.out.ext hb3) (Below.refl _ _) (Nat.le_refl _)).mono ?_); rintro er w4 ⟨v4, rfl, hv4, hb4, hs4⟩; obtain ⟨A4, n4, c4, ms, rfl, hrv, hvs⟩ := hv4; have Hrv := Lib.hid hrv; have Hvs := Lib.hid hvs; have Hf4 := Lib.hid (Hrf.out.ext hb4); have hx4 : Below w2.heap.size w2 w4 := hb3.trans (below_le hb3.size hb4)) | (go_at_call 36; (with_reducible refine (fput_r A3 n3 c3 (fldsE e.kind) A4 n4 c4 ms w4 (flds_some _) Hf4.out Hrv.out hn3 w2 w2.heap.size hx4 hx4.size).mono ?_); rintro er w5 ⟨A5, M5, c5, v5, rfl, hp5, hb5⟩) | fail)
    all_goals
      rw [Hvs.out] at hp5
      have e0 := (FS.out _ hb5).2.1
      rcases hp5 with ⟨_, rfl, ho5⟩ | ⟨hno, _⟩
      · have HO5 := Lib.hid ho5
        have HB5 := Lib.hid (HB2.out.trans (below_le HB2.out.size hb5))
        have hkk : e.kind % 256 = e.kind := by have := hkd.out; omega
        have hw8 : Hid (w8 (UInt8.ofNat e.kind.toNat) = e.kind) := w8_kind hkd.out
        have hown : OwnB (w5.alloc (.cells #[.int .u8 (w8 (UInt8.ofNat e.kind.toNat))] 5)) w.heap.size (.slice (some ⟨w5.heap.size, 0, none⟩) 1 1) [UInt8.ofNat e.kind.toNat] :=
          ((show Bb (w5.alloc (.cells #[.int .u8 (w8 (UInt8.ofNat e.kind.toNat))] 5)) w5.heap.size 5 [UInt8.ofNat e.kind.toNat] from Bk.made w5 5 _).owns (n := 1) rfl (by omega)).own HB5.out.size 1 rfl
        rw [hw8.out] at hown
        have Hown := Lib.hid hown
        have hM5 : Hid (M5 = (bytesAll (fldsE e.kind) (valsE e)).length) := ho5.rd.len.symm
        have hM6 : Hid (M5 ≤ 600) := by
          show M5 ≤ 600
          have := putE_len e
          rw [putE_eq Hre.out, List.length_cons] at this
          rw [hM5.out]
          omega
        have hbn := Lib.hid (below_new w5 (.cells #[.int .u8 e.kind] 5))
        clear ho5 hown hw8
        go_wp2_with (first | (at_builtin; refine wpList_append_bytes rfl (.tmp 20) (.tmp 21) rfl w.heap.size w _ [UInt8.ofNat e.kind.toNat] rfl Hown.out A5 M5 c5 (bytesAll (fldsE e.kind) (valsE e)) rfl (HO5.out.rd.ext hbn.out) (by have := hM6.out; simp; omega) (HB5.out.trans (below_le HB5.out.size hbn.out)) (Nat.le_trans HB5.out.size hbn.out.size) (1 + M5) rfl ?_; intro A6 c6 w6 ho6 hb6 hs6) | fail)
        go_ret
        refine ⟨_, _, _, rfl, ?_, hb6⟩
        rw [putE_eq Hre.out]
        exact ho6.out
      · rw [hok.out] at hno
        cases hno
end Go.Proofs.YtpfdbbcfcimmfaaGreatDoor

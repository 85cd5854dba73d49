import Derived.Test.YtkdlofgfkfhofaaGreatDoorP31
import Derived.Test.YtkdlofgfkfhofaaGreatDoorP28
import Derived.Test.YtkdlofgfkfhofaaGreatDoorP00
import Derived.Test.YtkdlofgfkfhofaaGreatDoorP01
import Derived.LaidEql
import Derived.Stop.Asserts
import Derived.RowKitTokens
/-
  ask: Right.
-/
namespace Go.Proofs.YtkdlofgfkfhofaaGreatDoor
open Go.RowKit
attribute [local go_sem ↓] ldB_eq stB_eq ldE_eq stE_eq ldA_eq stA_eq

set_option maxRecDepth 100000 in
set_option maxHeartbeats 4000000 in
theorem aRight_any (a : Ask) (A : Option Addr) (n c : Nat) (w : World) (hr : RdT w A n c a.bat.vals) (r : Bool) (hre : rightA a = r) : Calls Tryz.prog 41 #[.agg #[.int .i64 a.corr, .int .i64 a.kind, .string a.topic, .string a.group, .int .i64 a.part, .int .i64 a.parts, .int .i64 a.first, .int .i64 a.off, .int .i64 a.most, .int .i64 a.time, .int .i64 a.bat.time, .int .i64 a.bat.prod, .int .i64 a.bat.seq, .slice A n c]] w fun er w' => er = .returned (.bool r) ∧ Below w.heap.size w w' := by
  have hbk := Bk.made w 32 #[.int .i64 a.corr, .int .i64 a.kind, .string a.topic, .string a.group, .int .i64 a.part, .int .i64 a.parts, .int .i64 a.first, .int .i64 a.off, .int .i64 a.most, .int .i64 a.time, .int .i64 a.bat.time, .int .i64 a.bat.prod, .int .i64 a.bat.seq, .slice A n c]
  have hbn := below_new w (.cells #[.int .i64 a.corr, .int .i64 a.kind, .string a.topic, .string a.group, .int .i64 a.part, .int .i64 a.parts, .int .i64 a.first, .int .i64 a.off, .int .i64 a.most, .int .i64 a.time, .int .i64 a.bat.time, .int .i64 a.bat.prod, .int .i64 a.bat.seq, .slice A n c] 32)
  have hld := ldA_bk hbk
  have HBK := Lib.hid hbk
  have HBn := Lib.hid hbn
  have Hr := Lib.hid (hr.ext hbn)
  have Hre := Lib.hid hre
  have HW := Lib.hid (writes_any a.kind (w.alloc (.cells #[.int .i64 a.corr, .int .i64 a.kind, .string a.topic, .string a.group, .int .i64 a.part, .int .i64 a.parts, .int .i64 a.first, .int .i64 a.off, .int .i64 a.most, .int .i64 a.time, .int .i64 a.bat.time, .int .i64 a.bat.prod, .int .i64 a.bat.seq, .slice A n c] 32)))
  clear hbk hbn hr hre
  by_cases h0 : a.corr < 0
  · have q0 : decide (a.corr < 0) = true := decide_eq_true h0
    go_enter Tryz.func41, Tryz.ntmps41
    go_wp2_with fail
    go_ret
    refine ⟨ret_bool ?_, HBn.out⟩
    rw [← Hre.out]
    unfold rightA
    rw [decide_eq_false (by omega), Bool.false_and]
  · have q0 : decide (a.corr < 0) = false := decide_eq_false h0
    by_cases h1 : 4294967295 < a.corr
    · have q1 : decide (4294967295 < a.corr) = true := decide_eq_true h1
      go_enter Tryz.func41, Tryz.ntmps41
      go_wp2_with fail
      go_ret
      refine ⟨ret_bool ?_, HBn.out⟩
      rw [← Hre.out]
      unfold rightA
      rw [decide_eq_false (show ¬ a.corr ≤ 4294967295 by omega), Bool.false_and, Bool.and_false]
    · have q1 : decide (4294967295 < a.corr) = false := decide_eq_false h1
      have hri : rightA a = (if writK a.kind then decide (a.most = 0) && (decide (a.time = 0) && rightE a.ent) else readsA a) := by
        unfold rightA
        rw [decide_eq_true (show 0 ≤ a.corr by omega), decide_eq_true (show a.corr ≤ 4294967295 by omega)]
        rfl
      rw [Hre.out] at hri
      have Hri := Lib.hid hri
      clear hri
      go_enter Tryz.func41, Tryz.ntmps41
      go_wp2_with fail
      with_reducible refine HW.out.mono ?_
      rintro er w1 ⟨rfl, rfl⟩
      cases hw : writK a.kind
      · have hri := Hri.out
        rw [hw, if_neg (by decide)] at hri
        have HRd := Lib.hid (reads_any a A n c _ Hr.out r hri.symm)
        clear hri hw
        go_wp2_with fail
        with_reducible refine HRd.out.mono ?_
        rintro er w2 ⟨rfl, hb2⟩
        have HB2 := Lib.hid (HBn.out.trans (below_le HBn.out.size hb2))
        clear hb2
        go_wp2_with fail
        go_ret
        exact ⟨rfl, HB2.out⟩
      · have hri := Hri.out
        rw [hw, if_pos rfl] at hri
        have Hri := Lib.hid hri
        clear hri hw
        by_cases hm : a.most = 0
        · have q2 : (a.most == 0) = true := by simp [hm]
          have Hm := Lib.hid hm
          clear hm
          by_cases ht : a.time = 0
          · have q3 : (a.time == 0) = true := by simp [ht]
            have Ht := Lib.hid ht
            clear ht
            have HE := Lib.hid (aent_any a A n c (w.alloc (.cells #[.int .i64 a.corr, .int .i64 a.kind, .string a.topic, .string a.group, .int .i64 a.part, .int .i64 a.parts, .int .i64 a.first, .int .i64 a.off, .int .i64 a.most, .int .i64 a.time, .int .i64 a.bat.time, .int .i64 a.bat.prod, .int .i64 a.bat.seq, .slice A n c] 32)))
            go_wp2_with fail
            with_reducible refine HE.out.mono ?_
            rintro er w2 ⟨rfl, hb2⟩
            have hrr : rightE a.ent = r := by
              have h := Hri.out
              rw [decide_eq_true Hm.out, decide_eq_true Ht.out] at h
              exact h.symm
            have HR2 : Hid (Calls Tryz.prog 81 #[.agg #[.int .i64 a.kind, .string a.topic, .string a.group, .int .i64 a.part, .int .i64 a.parts, .int .i64 a.first, .int .i64 a.off, .int .i64 a.bat.time, .int .i64 a.bat.prod, .int .i64 a.bat.seq, .slice A n c]] w2 fun er w' => er = .returned (.bool r) ∧ Below w2.heap.size w2 w') := eRight_any a.ent A n c w2 (RdT.ext Hr.out hb2) r hrr
            have HB2 := Lib.hid (HBn.out.trans (below_le HBn.out.size hb2))
            clear hb2 hrr
            go_wp2_with fail
            with_reducible refine HR2.out.mono ?_
            rintro er w3 ⟨rfl, hb3⟩
            have HB3 := Lib.hid (HB2.out.trans (below_le HB2.out.size hb3))
            clear hb3
            go_wp2_with fail
            go_ret
            exact ⟨rfl, HB3.out⟩
          · have q3 : (a.time == 0) = false := by simp [ht]
            have Ht := Lib.hid ht
            clear ht
            go_wp2_with fail
            go_ret
            refine ⟨ret_bool ?_, HBn.out⟩
            rw [Hri.out, decide_eq_false Ht.out, Bool.false_and, Bool.and_false]
        · have q2 : (a.most == 0) = false := by simp [hm]
          have Hm := Lib.hid hm
          clear hm
          go_wp2_with fail
          go_ret
          refine ⟨ret_bool ?_, HBn.out⟩
          rw [Hri.out, decide_eq_false Hm.out, Bool.false_and]
end Go.Proofs.YtkdlofgfkfhofaaGreatDoor

/-
  ask: Put.
-/
namespace Go.Proofs.YtkdlofgfkfhofaaGreatDoor
open Go.RowKit
attribute [local go_sem ↓] ldB_eq stB_eq ldE_eq stE_eq ldA_eq stA_eq sliced_past

theorem hdr_is (a : Ask) (hk : 1 ≤ a.kind ∧ a.kind ≤ 9) (hc : 0 ≤ a.corr ∧ a.corr ≤ 4294967295) : (#[.int .u8 1, .int .u8 a.kind, .int .u8 (a.corr % 256), .int .u8 (a.corr / 256 % 256), .int .u8 (a.corr / 65536 % 256), .int .u8 (a.corr / 16777216 % 256)] : Array Value) = (bvs (headA a.kind a.corr)).toArray := by
  have e1 : w8 (UInt8.ofNat a.kind.toNat) = a.kind := w8_kindA hk
  have b0 : w8 (byteAt a.corr.toNat 0) = a.corr % 256 := by rw [← byteAt_w8, Int.toNat_of_nonneg hc.1]; simp only [Nat.mul_zero, Int.pow_zero]; omega
  have b1 : w8 (byteAt a.corr.toNat 1) = a.corr / 256 % 256 := by rw [← byteAt_w8, Int.toNat_of_nonneg hc.1]; simp only [Nat.mul_one, Int.reducePow]
  have b2 : w8 (byteAt a.corr.toNat 2) = a.corr / 65536 % 256 := by rw [← byteAt_w8, Int.toNat_of_nonneg hc.1]; simp only [Nat.reduceMul, Int.reducePow]
  have b3 : w8 (byteAt a.corr.toNat 3) = a.corr / 16777216 % 256 := by rw [← byteAt_w8, Int.toNat_of_nonneg hc.1]; simp only [Nat.reduceMul, Int.reducePow]
  show _ = (#[.int .u8 (w8 1), .int .u8 (w8 (UInt8.ofNat a.kind.toNat)), .int .u8 (w8 (byteAt a.corr.toNat 0)), .int .u8 (w8 (byteAt a.corr.toNat 1)), .int .u8 (w8 (byteAt a.corr.toNat 2)), .int .u8 (w8 (byteAt a.corr.toNat 3))] : Array Value)
  rw [e1, b0, b1, b2, b3]
  rfl
theorem hdr_own (a : Ask) (hk : 1 ≤ a.kind ∧ a.kind ≤ 9) (hc : 0 ≤ a.corr ∧ a.corr ≤ 4294967295) (w1 : World) (B : Nat) (hB : B ≤ w1.heap.size) : OwnB (w1.alloc (.cells #[.int .u8 1, .int .u8 a.kind, .int .u8 (a.corr % 256), .int .u8 (a.corr / 256 % 256), .int .u8 (a.corr / 65536 % 256), .int .u8 (a.corr / 16777216 % 256)] 5)) B (.slice (some ⟨w1.heap.size, 0, none⟩) 6 6) (headA a.kind a.corr) := by
  rw [hdr_is a hk hc]
  exact ((show Bb (w1.alloc (.cells (bvs (headA a.kind a.corr)).toArray 5)) w1.heap.size 5 (headA a.kind a.corr) from Bk.made w1 5 _).owns (n := 6) rfl (by omega)).own hB 6 rfl
theorem readsA_of {a : Ask} (h : rightA a = true) (hw : writK a.kind = false) : readsA a = true := by
  obtain ⟨_, ⟨h1, _⟩ | ⟨_, h1⟩⟩ := rightA_facts h
  · rw [hw] at h1; cases h1
  · exact h1
theorem restA_len {a : Ask} (h : rightA a = true) (hw : writK a.kind = false) : (bytesAll (fldsA a.kind) (valsA a)).length ≤ 600 := by
  obtain ⟨hk, hok, _⟩ := reads_facts (readsA_of h hw)
  obtain ⟨t1, t2⟩ := topicA_le hk hok
  rcases read_cases hk with k | k | k | k
  · have e1 : bytesAll (fldsA a.kind) (valsA a) = [] := by unfold fldsA valsA; rw [k]; rfl
    rw [e1]; simp
  · have e1 : bytesAll (fldsA a.kind) (valsA a) = txtB a.topic ++ (leB 1 a.part.toNat ++ (leB 8 a.off.toNat ++ (leB 4 a.most.toNat ++ []))) := by unfold fldsA valsA; rw [k]; rfl
    rw [e1]
    simp only [List.length_append, txtB_len, leB_len, List.length_nil]
    have := t1 (by omega)
    omega
  · have e1 : bytesAll (fldsA a.kind) (valsA a) = txtB a.topic ++ (leB 1 a.part.toNat ++ (leB 8 a.time.toNat ++ [])) := by unfold fldsA valsA; rw [k]; rfl
    rw [e1]
    simp only [List.length_append, txtB_len, leB_len, List.length_nil]
    have := t1 (by omega)
    omega
  · have e1 : bytesAll (fldsA a.kind) (valsA a) = txtB a.group ++ (txtB a.topic ++ (leB 1 a.part.toNat ++ [])) := by unfold fldsA valsA; rw [k]; rfl
    rw [e1]
    simp only [List.length_append, txtB_len, leB_len, List.length_nil]
    have := t1 (by omega)
    have := t2 k
    omega
theorem putA_len (a : Ask) : (putA a).length ≤ 606 := by
  cases hr : rightA a
  · rw [putA_no hr]; simp
  · rw [putA_eq hr, List.length_append]
    have h6 : (headA a.kind a.corr).length = 6 := rfl
    cases hw : writK a.kind
    · have e1 : restA a = bytesAll (fldsA a.kind) (valsA a) := by unfold restA; rw [if_neg (by rw [hw]; decide)]
      have := restA_len hr hw
      rw [e1, h6]; omega
    · have e1 : restA a = (putE a.ent).drop 1 := by unfold restA; rw [if_pos hw]
      have := putE_len a.ent
      rw [e1, h6, List.length_drop]; omega
set_option maxRecDepth 100000 in
set_option maxHeartbeats 4000000 in
theorem aPut_any (a : Ask) (A : Option Addr) (n c : Nat) (w : World) (hr : RdT w A n c a.bat.vals) :
    Calls Tryz.prog 25 #[.agg #[.int .i64 a.corr, .int .i64 a.kind, .string a.topic, .string a.group, .int .i64 a.part, .int .i64 a.parts, .int .i64 a.first, .int .i64 a.off, .int .i64 a.most, .int .i64 a.time, .int .i64 a.bat.time, .int .i64 a.bat.prod, .int .i64 a.bat.seq, .slice A n c]] w fun er w' => ∃ A' M c', er = .returned (.slice A' M c') ∧ OwnB w' w.heap.size (.slice A' M c') (putA a) ∧ Below w.heap.size w w' := by
  have hbk := Bk.made w 32 #[.int .i64 a.corr, .int .i64 a.kind, .string a.topic, .string a.group, .int .i64 a.part, .int .i64 a.parts, .int .i64 a.first, .int .i64 a.off, .int .i64 a.most, .int .i64 a.time, .int .i64 a.bat.time, .int .i64 a.bat.prod, .int .i64 a.bat.seq, .slice A n c]
  have hbn := below_new w (.cells #[.int .i64 a.corr, .int .i64 a.kind, .string a.topic, .string a.group, .int .i64 a.part, .int .i64 a.parts, .int .i64 a.first, .int .i64 a.off, .int .i64 a.most, .int .i64 a.time, .int .i64 a.bat.time, .int .i64 a.bat.prod, .int .i64 a.bat.seq, .slice A n c] 32)
  have hld := ldA_bk hbk
  have HBK := Lib.hid hbk
  have HBn := Lib.hid hbn
  have Hr := Lib.hid (hr.ext hbn)
  obtain ⟨r, hre⟩ : ∃ r, rightA a = r := ⟨_, rfl⟩
  have HRt := Lib.hid (aRight_any a A n c _ Hr.out r hre)
  have Hre := Lib.hid hre
  clear hbk hbn hr hre
  go_enter Tryz.func25, Tryz.ntmps25
  go_wp2_with fail
  with_reducible refine HRt.out.mono ?_
  rintro er w1 ⟨rfl, hb1⟩
  have HK1 := Lib.hid (HBK.out.ext hb1)
  have HB1 := Lib.hid (HBn.out.trans (below_le HBn.out.size hb1))
  have HR1 := Lib.hid (RdT.ext Hr.out hb1)
  clear hb1 hld HRt HBK HBn Hr
  cases r
  · go_wp2_with fail
    go_ret
    exact ⟨none, 0, 0, rfl, by rw [putA_no Hre.out]; exact OwnB.nil _ _, HB1.out⟩
  · have c0 : w1.cell? ⟨w.heap.size, 0, none⟩ = some (.int .i64 a.corr) := HK1.out.cell 0
    have c1 : w1.cell? ⟨w.heap.size, 1, none⟩ = some (.int .i64 a.kind) := HK1.out.cell 1
    have hfc := (rightA_facts Hre.out).1
    have hkd := right_kindA Hre.out
    have hkk : a.kind % 256 = a.kind := by omega
    have hho := hdr_own a hkd hfc w1 w.heap.size HB1.out.size
    have hbh := below_new w1 (.cells #[.int .u8 1, .int .u8 a.kind, .int .u8 (a.corr % 256), .int .u8 (a.corr / 256 % 256), .int .u8 (a.corr / 65536 % 256), .int .u8 (a.corr / 16777216 % 256)] 5)
    have HK2 := Lib.hid (HK1.out.ext hbh)
    have HB2 := Lib.hid (HB1.out.trans (below_le HB1.out.size hbh))
    have HR2 := Lib.hid (RdT.ext HR1.out hbh)
    have HO := Lib.hid hho
    have HW := Lib.hid (writes_any a.kind (w1.alloc (.cells #[.int .u8 1, .int .u8 a.kind, .int .u8 (a.corr % 256), .int .u8 (a.corr / 256 % 256), .int .u8 (a.corr / 65536 % 256), .int .u8 (a.corr / 16777216 % 256)] 5)))
    have d1 : (w1.alloc (.cells #[.int .u8 1, .int .u8 a.kind, .int .u8 (a.corr % 256), .int .u8 (a.corr / 256 % 256), .int .u8 (a.corr / 65536 % 256), .int .u8 (a.corr / 16777216 % 256)] 5)).cell? ⟨w.heap.size, 1, none⟩ = some (.int .i64 a.kind) := HK2.out.cell 1
    clear hho hbh hfc hkd
    go_wp2_with fail
    with_reducible refine HW.out.mono ?_
    rintro er w2 ⟨rfl, rfl⟩
    clear d1 c0 c1 HW
    generalize w1.heap.size = g1 at HO ⊢
    generalize w1.alloc (.cells #[.int .u8 1, .int .u8 a.kind, .int .u8 (a.corr % 256), .int .u8 (a.corr / 256 % 256), .int .u8 (a.corr / 65536 % 256), .int .u8 (a.corr / 16777216 % 256)] 5) = w2 at HK2 HB2 HR2 HO ⊢
    cases hw : writK a.kind
    · have Hw := Lib.hid hw
      clear hw
      have c1 : w2.cell? ⟨w.heap.size, 1, none⟩ = some (.int .i64 a.kind) := HK2.out.cell 1
      have HF := Lib.hid (afields_any a.kind w2)
      go_wp2_with fail
      with_reducible refine HF.out.mono ?_
      rintro er w3 ⟨A3, n3, c3, ok, rfl, _, hrf, hn3, hb3⟩
      have l3 := ldA_bk (HK2.out.ext hb3)
      have HV := Lib.hid (aValues a A n c w3)
      have Hrf := Lib.hid hrf
      have Hb3 := Lib.hid hb3
      have Hn3 := Lib.hid hn3
      clear hrf hb3 hn3 HF c1
      go_wp2_with fail
      with_reducible refine HV.out.mono ?_
      rintro er w4 ⟨A4, n4, c4, ms, rfl, hrv, hvs, hb4⟩
      have HP := Lib.hid (fput_r A3 n3 c3 (fldsA a.kind) A4 n4 c4 ms w4 (fldsA_some _) (Hrf.out.ext hb4) hrv Hn3.out w4 w4.heap.size (Below.refl _ _) (Nat.le_refl _))
      have Hvs := Lib.hid hvs
      have Hb4 := Lib.hid (Hb3.out.trans (below_le Hb3.out.size hb4))
      clear hrv hvs hb4 HV l3
      go_wp2_with fail
      with_reducible refine HP.out.mono ?_
      rintro er w5 ⟨A5, M5, c5, v5, rfl, hp5, hb5⟩
      rw [Hvs.out] at hp5
      have hok := (reads_facts (readsA_of Hre.out Hw.out)).2.1
      rcases hp5 with ⟨_, rfl, ho5⟩ | ⟨hno, _⟩
      · have Hb5 := Lib.hid (Hb4.out.trans (below_le Hb4.out.size hb5))
        have HO5 := Lib.hid (OwnB.ext HO.out Hb5.out)
        have HR5 := Lib.hid ho5.rd
        have HM5 := Lib.hid ho5.rd.len
        have HM6 : Hid (M5 ≤ 600) := by
          show M5 ≤ 600
          rw [← HM5.out]
          exact restA_len Hre.out Hw.out
        have HB5 := Lib.hid (HB2.out.trans (below_le HB2.out.size Hb5.out))
        clear ho5 hb5 hok
        go_wp2_with (first | (at_builtin; go_loud (refine wpList_append_bytes rfl (.tmp 52) (.tmp 53) rfl w.heap.size w _ (headA a.kind a.corr) rfl HO5.out A5 M5 c5 (bytesAll (fldsA a.kind) (valsA a)) rfl HR5.out (by have := HM6.out; simp [headA]; omega) HB5.out HB5.out.size (6 + M5) (by simp [headA]) ?_; intro A6 c6 w6 ho6 hb6 hs6)) | fail)
        go_ret
        refine ⟨_, _, _, rfl, ?_, hb6⟩
        rw [putA_eq Hre.out]
        unfold restA
        rw [if_neg (by rw [Hw.out]; decide)]
        exact ho6.out
      · rw [hok] at hno
        cases hno
    · have Hw := Lib.hid hw
      clear hw
      have hre2 : rightE a.ent = true := by
        obtain ⟨_, ⟨_, _, _, h⟩ | ⟨h, _⟩⟩ := rightA_facts Hre.out
        · exact h
        · rw [Hw.out] at h; cases h
      have HRe := Lib.hid hre2
      have l2 := ldA_bk HK2.out
      have HE := Lib.hid (aent_any a A n c w2)
      clear hre2
      go_wp2_with fail
      with_reducible refine HE.out.mono ?_
      rintro er w3 ⟨rfl, hb3⟩
      have HP3 : Hid (Calls Tryz.prog 56 #[.agg #[.int .i64 a.kind, .string a.topic, .string a.group, .int .i64 a.part, .int .i64 a.parts, .int .i64 a.first, .int .i64 a.off, .int .i64 a.bat.time, .int .i64 a.bat.prod, .int .i64 a.bat.seq, .slice A n c]] w3 fun er w' => ∃ A' M c', er = .returned (.slice A' M c') ∧ OwnB w' w3.heap.size (.slice A' M c') (putE a.ent) ∧ Below w3.heap.size w3 w') := ePut_any a.ent A n c w3 (RdT.ext HR2.out hb3)
      have Hb3 := Lib.hid hb3
      clear hb3 l2 HE
      go_wp2_with fail
      with_reducible refine HP3.out.mono ?_
      rintro er w4 ⟨A4, M4, c4, rfl, ho4, hb4⟩
      have Hb4 := Lib.hid (Hb3.out.trans (below_le Hb3.out.size hb4))
      have hl4 := ho4.rd.len
      have hM4 := putE_len a.ent
      have hM1 : 0 < M4 := by rw [← hl4, putE_eq HRe.out]; simp
      rw [hl4] at hM4
      have hcap := ho4.rd.cap
      have HM4 := Lib.hid hM4
      have HR4 := Lib.hid (ho4.rd.past' 1 (by omega))
      have HO4 := Lib.hid (OwnB.ext HO.out Hb4.out)
      have HB4 := Lib.hid (HB2.out.trans (below_le HB2.out.size Hb4.out))
      have hi1 : (1 : Int) ≤ (M4 : Int) := by omega
      have hi2 : (M4 : Int) ≤ (c4 : Int) := by omega
      clear ho4 hb4 hl4 hM4 HP3
      go_wp2_with (first | (at_builtin; go_loud (refine wpList_append_bytes rfl (.tmp 33) (.tmp 37) rfl w.heap.size w _ (headA a.kind a.corr) rfl HO4.out _ (M4 - 1) (c4 - 1) ((putE a.ent).drop 1) rfl HR4.out (by have := HM4.out; simp [headA]; omega) HB4.out HB4.out.size (6 + (M4 - 1)) (by simp [headA]) ?_; intro A6 c6 w6 ho6 hb6 hs6)) | fail)
      go_ret
      refine ⟨_, _, _, rfl, ?_, hb6⟩
      rw [putA_eq Hre.out]
      unfold restA
      rw [if_pos Hw.out]
      exact ho6.out
end Go.Proofs.YtkdlofgfkfhofaaGreatDoor

/-
  errors.As at a refusal's number: what fault.Kind finds. (The '4' in a type's handle is how many package-level variables the translation has.)
-/
namespace Go.Proofs.YtkdlofgfkfhofaaGreatDoor
open Go.RowKit Go.Extern.Stop Go.Stop Go.Extern

theorem valueOfP (t : Addr) (w : World) : (ReflectliteValue.unpack (.iface 97 (.pointer (some t)))).run Tryz.prog w
    = .ok (.agg #[.pointer (some ⟨4, 97, none⟩), .pointer (some ⟨w.heap.size, 0, none⟩), .int .u64 150]) (w.alloc (.cells #[.pointer (some t)] 97)) := by kernel_rfl
theorem typeP (a : Addr) (w : World) : (ReflectliteValue.methodAny (ReflectliteValue.valueError "reflectlite.Value.Type" 0) (fun t _ _ _ => ReflectliteType.toType t) #[.agg #[.pointer (some ⟨4, 97, none⟩), .pointer (some a), .int .u64 150]]).run Tryz.prog w
    = .ok (.iface 245 (.agg #[.pointer (some ⟨4, 97, none⟩)])) w := by kernel_rfl
theorem kindP (w : World) : ((ReflectliteType.abiMethod fun t => (fun a : Nat => Value.int IntKind.u8 (a : Int)) <$> Rtype.kind t) #[.pointer (some ⟨4, 97, none⟩)]).run Tryz.prog w = .ok (.int .u8 22) w := by kernel_rfl
theorem kindE (w : World) : ((ReflectliteType.abiMethod fun t => (fun a : Nat => Value.int IntKind.u8 (a : Int)) <$> Rtype.kind t) #[.pointer (some ⟨4, 40, none⟩)]).run Tryz.prog w = .ok (.int .u8 2) w := by kernel_rfl
theorem rlm (z : Sem Value) (f : TypeId → Addr → Nat → Nat → Sem Value) (v : Value) :
    ReflectliteValue.method z f #[v] = (do match ← ReflectliteValue.parts v with | none => z | some (t, a, fl) => f t a fl (fl % 32)) := rfl
theorem partsP (a : Addr) (w : World) : (ReflectliteValue.parts (.agg #[.pointer (some ⟨4, 97, none⟩), .pointer (some a), .int .u64 150])).run Tryz.prog w = .ok (some (97, a, 150)) w := by kernel_rfl
theorem isNilP (a p : Addr) (W : World) (ha : W.cell? a = some (.pointer (some p))) :
    (ReflectliteValue.method (ReflectliteValue.valueError "reflectlite.Value.IsNil" 0) ReflectliteValue.isNil #[.agg #[.pointer (some ⟨4, 97, none⟩), .pointer (some a), .int .u64 150]]).run Tryz.prog W = .ok (.bool false) W := by
  rw [rlm]
  simp only [Sem.run_bind, partsP, Result.andThen]
  simp [ReflectliteValue.isNil, loadVar, isAgg, underlying, Tryz.underlying97, ha, Result.andThen]
theorem elemP (w : World) : (ReflectliteType.method ReflectliteType.elem #[.agg #[.pointer (some ⟨4, 97, none⟩)]]).run Tryz.prog w = .ok (.iface 245 (.agg #[.pointer (some ⟨4, 40, none⟩)])) w := by kernel_rfl
theorem implementsE (w : World) : (ReflectliteType.relation "Implements" ReflectliteType.implements_ #[.agg #[.pointer (some ⟨4, 40, none⟩)], .iface 245 (.agg #[.pointer (some ⟨4, 52, none⟩)])]).run Tryz.prog w = .ok (.bool true) w := by kernel_rfl
theorem typeOfE (v : Value) (w : World) : (ReflectliteType.typeOf #[.iface 40 v]).run Tryz.prog w = .ok (.iface 245 (.agg #[.pointer (some ⟨4, 40, none⟩)])) w := by kernel_rfl
theorem typeOfF (v : Value) (w : World) : (ReflectliteType.typeOf #[.iface 154 v]).run Tryz.prog w = .ok (.iface 245 (.agg #[.pointer (some ⟨4, 154, none⟩)])) w := by kernel_rfl
theorem assignableE (w : World) : (ReflectliteType.relation "AssignableTo" ReflectliteType.assignableTo #[.agg #[.pointer (some ⟨4, 40, none⟩)], .iface 245 (.agg #[.pointer (some ⟨4, 40, none⟩)])]).run Tryz.prog w = .ok (.bool true) w := by kernel_rfl
theorem assignableF (w : World) : (ReflectliteType.relation "AssignableTo" ReflectliteType.assignableTo #[.agg #[.pointer (some ⟨4, 154, none⟩)], .iface 245 (.agg #[.pointer (some ⟨4, 40, none⟩)])]).run Tryz.prog w = .ok (.bool false) w := by kernel_rfl
theorem valueOfE (k : Int) (w : World) : (ReflectliteValue.unpack (.iface 40 (.int .i64 k))).run Tryz.prog w
    = .ok (.agg #[.pointer (some ⟨4, 40, none⟩), .pointer (some ⟨w.heap.size, 0, none⟩), .int .u64 130]) (w.alloc (.cells #[.int .i64 k] 40)) := by kernel_rfl
theorem elemOfP (w : World) : (Rtype.elem? 97).run Tryz.prog w = .ok (some 40) w := by kernel_rfl
theorem mkE (p : Addr) (w : World) : (ReflectliteValue.mk 40 p ReflectliteValue.flagAddr).run Tryz.prog w = .ok (.agg #[.pointer (some ⟨4, 40, none⟩), .pointer (some p), .int .u64 386]) w := by kernel_rfl
theorem elemV (a p : Addr) (W : World) (ha : W.cell? a = some (.pointer (some p))) :
    (ReflectliteValue.method (ReflectliteValue.valueError "reflectlite.Value.Elem" 0) ReflectliteValue.elem #[.agg #[.pointer (some ⟨4, 97, none⟩), .pointer (some a), .int .u64 150]]).run Tryz.prog W
      = .ok (.agg #[.pointer (some ⟨4, 40, none⟩), .pointer (some p), .int .u64 386]) W := by
  rw [rlm]
  simp only [Sem.run_bind, partsP, Result.andThen]
  simp [ReflectliteValue.elem, loadVar, isAgg, underlying, Tryz.underlying97, ha, Result.andThen, elemOfP, mkE]
theorem rls (v x : Value) : ReflectliteValue.set #[v, x] = (do
    let (some (dst, a, fl), some (src, b, _)) := (← ReflectliteValue.parts v, ← ReflectliteValue.parts x)
      | unsupported (.noEntry "extern/(internal/reflectlite.Value).Set.zeroValue")
    if fl / ReflectliteValue.flagAddr % 2 == 0 then unsupported (.noEntry "extern/(internal/reflectlite.Value).Set.unaddressable")
    let val ← loadVar src b
    if ← Rtype.directlyAssignable dst src then storeVar dst a val
    else if ← Rtype.implements dst src then
      if (← Rtype.kind src) == 20 then
        match val with
        | .nilIface => unsupported (.noEntry "extern/reflectlite: a nil value of one interface type handed on as a value of another")
        | _ => storeVar dst a val
      else storeVar dst a (.iface src val)
    else panicString ("reflectlite.Set: value of type " ++ (← Rtype.spelt src) ++ " is not assignable to type " ++ (← Rtype.spelt dst))
    pure (.tuple #[])) := rfl
theorem partsEa (a : Addr) (w : World) : (ReflectliteValue.parts (.agg #[.pointer (some ⟨4, 40, none⟩), .pointer (some a), .int .u64 386])).run Tryz.prog w = .ok (some (40, a, 386)) w := by kernel_rfl
theorem partsE (a : Addr) (w : World) : (ReflectliteValue.parts (.agg #[.pointer (some ⟨4, 40, none⟩), .pointer (some a), .int .u64 130])).run Tryz.prog w = .ok (some (40, a, 130)) w := by kernel_rfl
theorem directE (w : World) : (Rtype.directlyAssignable 40 40).run Tryz.prog w = .ok true w := by kernel_rfl
theorem setE (ta b : Addr) (k : Int) (old : Value) (W : World) (hb : W.cell? b = some (.int .i64 k)) (ht : W.cell? ta = some old) (hf : W.frozen? ta = false) :
    (ReflectliteValue.set #[.agg #[.pointer (some ⟨4, 40, none⟩), .pointer (some ta), .int .u64 386], .agg #[.pointer (some ⟨4, 40, none⟩), .pointer (some b), .int .u64 130]]).run Tryz.prog W
      = .ok (.tuple #[]) (W.setCell ta (.int .i64 k)) := by
  rw [rls]
  simp only [Sem.run_bind, partsEa, partsE, Result.andThen]
  simp [ReflectliteValue.flagAddr, loadVar, isAgg, underlying, Tryz.underlying40, hb, Result.andThen, directE, storeVar, Value.cells, storeCells, Addr.add]
  rw [run_store Tryz.prog W ta _ _ (by rfl)]
  simp [ht, hf]

theorem methKind (n : Nat) (h : Value) (w : World) : (Go.method (n + 1) 245 (.agg #[h]) "Kind").run Tryz.prog w = .ok (347, h) w := by kernel_rfl
theorem methElem (n : Nat) (h : Value) (w : World) : (Go.method (n + 1) 245 (.agg #[h]) "Elem").run Tryz.prog w = .ok (364, .agg #[h]) w := by kernel_rfl
theorem methImpl (n : Nat) (h : Value) (w : World) : (Go.method (n + 1) 245 (.agg #[h]) "Implements").run Tryz.prog w = .ok (365, .agg #[h]) w := by kernel_rfl
theorem methAssi (n : Nat) (h : Value) (w : World) : (Go.method (n + 1) 245 (.agg #[h]) "AssignableTo").run Tryz.prog w = .ok (362, .agg #[h]) w := by kernel_rfl
theorem methUnwr (n : Nat) (x y z : Value) (w : World) : (Go.method (n + 1) 154 (.agg #[x, y, z]) "Unwrap").run Tryz.prog w = .ok (354, .agg #[x, y, z]) w := by kernel_rfl
end Go.Proofs.YtkdlofgfkfhofaaGreatDoor

/-
  errors.As at a Fault that holds a refusal's number: the walk.
-/
namespace Go.Proofs.YtkdlofgfkfhofaaGreatDoor
open Go.RowKit Go.Extern.Stop Go.Stop Go.Extern

theorem hasAs (v : Value) (xT : TypeId) (w : World) : (Instr.typeAssert (.iface 154 v) xT 249 true).run Tryz.prog w = .ok (.tuple #[.nilIface, .bool false]) w :=
  run_typeAssert_lacksB Tryz.underlying249 (by kernel_rfl) (by kernel_rfl) v xT w
theorem hasUn (v : Value) (xT : TypeId) (w : World) : (Instr.typeAssert (.iface 154 v) xT 252 true).run Tryz.prog w = .ok (.tuple #[.iface 154 v, .bool true]) w :=
  run_typeAssert_hasB Tryz.underlying252 (by kernel_rfl) v xT w
set_option maxRecDepth 100000 in
set_option maxHeartbeats 4000000 in
theorem as_walk (op : ByteArray) (at_ k : Int) (t a : Addr) (old : Value) (w : World) (ha : w.cell? a = some (.pointer (some t))) (ht0 : w.cell? t = some old) (hf0 : w.frozen? t = false) :
    Calls Tryz.prog 86 #[.iface 154 (.agg #[.string op, .int .i64 at_, .iface 40 (.int .i64 k)]), .iface 97 (.pointer (some t)), .agg #[.pointer (some ⟨4, 97, none⟩), .pointer (some a), .int .u64 150],
      .iface 245 (.agg #[.pointer (some ⟨4, 40, none⟩)])] w fun e w' => e = .returned (.bool true) ∧ w'.cell? t = some (.int .i64 k) ∧ w.grownBy w' (some t.block) := by
  have h38 := @run_callFunc_extern Tryz.prog 83 _ (fun args => ReflectliteValue.unpack (args.getD 0 (.tuple #[]))) Tryz.func83 (by kernel_rfl) (by kernel_rfl) (by kernel_rfl) (by kernel_rfl)
  have h42 := @run_callFunc_extern Tryz.prog 87 _ ReflectliteType.typeOf Tryz.func87 (by kernel_rfl) (by kernel_rfl) (by kernel_rfl) (by kernel_rfl)
  have h84 := @run_callFunc_extern Tryz.prog 362 _ (ReflectliteType.relation "AssignableTo" ReflectliteType.assignableTo) Tryz.func362 (by kernel_rfl) (by kernel_rfl) (by kernel_rfl) (by kernel_rfl)
  have h49 := @run_callFunc_extern Tryz.prog 136 _ (ReflectliteValue.method (ReflectliteValue.valueError "reflectlite.Value.Elem" 0) ReflectliteValue.elem) Tryz.func136 (by kernel_rfl) (by kernel_rfl) (by kernel_rfl) (by kernel_rfl)
  have h50 := @run_callFunc_extern Tryz.prog 137 _ ReflectliteValue.set Tryz.func137 (by kernel_rfl) (by kernel_rfl) (by kernel_rfl) (by kernel_rfl)
  have tE := typeOfE
  have tF := typeOfF
  have mA := methAssi
  have aE := assignableE
  have aF := assignableF
  have vE := valueOfE
  have mU := methUnwr
  have hA := hasAs
  have hU := hasUn
  have hb1 := below_new w (.cells #[.pointer (some ⟨4, 97, none⟩), .pointer (some a), .int .u64 150] 164)
  have hb2 := hb1.trans (below_le hb1.size (below_new _ (.cells #[.string op, .int .i64 at_, .iface 40 (.int .i64 k)] 154)))
  have hb3 := hb2.trans (below_le hb2.size (below_new _ (.cells #[.int .i64 k] 40)))
  have eV := elemV a t _ ((hb2.cell (cell_lt ha)).trans ha)
  have sE := setE t ⟨w.heap.size + 1 + 1, 0, none⟩ k old _ (by rw [World.cell?_alloc_at _ _ _ _ (by simp)]; rfl) ((hb3.cell (cell_lt ht0)).trans ht0) ((hb3.frozen (cell_lt ht0)).trans hf0)
  have HB3 := Lib.hid hb3
  clear hb1 hb2 hb3
  go_enter Tryz.func86, Tryz.ntmps86
  go_wp2
  refine wp_loop_rounds 2 ?_
  rw [rounds_succ]
  go_wp2
  rw [rounds_succ]
  go_wp2
  go_ret
  exact ⟨rfl, World.cell?_setCell_same _ _ _ ((HB3.out.cell (cell_lt ht0)).trans ht0), ((grown_of_below HB3.out).but _).trans (grown_set _ _ _)⟩
end Go.Proofs.YtkdlofgfkfhofaaGreatDoor

/-
  errors.As at a Fault that holds a refusal's number: the walk.
-/
namespace Go.Proofs.YtkdlofgfkfhofaaGreatDoor
open Go.RowKit Go.Extern.Stop Go.Stop Go.Extern

end Go.Proofs.YtkdlofgfkfhofaaGreatDoor

/-
  fault.Kind at nil and at a Fault that holds a refusal's number.
-/
namespace Go.Proofs.YtkdlofgfkfhofaaGreatDoor
open Go.RowKit Go.Extern.Stop Go.Stop Go.Extern

/-- errors' own variable holds what start-up lays -/
def ErrLaid (w : World) : Prop := w.cell? ⟨0, 0, none⟩ = some (.iface 245 (.agg #[.pointer (some ⟨4, 52, none⟩)]))
theorem ErrLaid.below {w w' : World} (h : ErrLaid w) (hb : Below w.heap.size w w') : ErrLaid w' := (hb.cell (cell_lt h)).trans h
/-- a Fault with a refusal's number -/
def faultV (op : ByteArray) (at_ k : Int) : Value := .iface 154 (.agg #[.string op, .int .i64 at_, .iface 40 (.int .i64 k)])

end Go.Proofs.YtkdlofgfkfhofaaGreatDoor

/-
  errors.As at a Fault in a Fault that holds a refusal's number: the walk.
-/
namespace Go.Proofs.YtkdlofgfkfhofaaGreatDoor
open Go.RowKit Go.Extern.Stop Go.Stop Go.Extern

set_option maxRecDepth 100000 in
set_option maxHeartbeats 4000000 in
theorem as_walk2 (op : ByteArray) (at_ : Int) (op2 : ByteArray) (at2 k : Int) (t a : Addr) (old : Value) (w : World) (ha : w.cell? a = some (.pointer (some t))) (ht0 : w.cell? t = some old) (hf0 : w.frozen? t = false) :
    Calls Tryz.prog 86 #[.iface 154 (.agg #[.string op, .int .i64 at_, .iface 154 (.agg #[.string op2, .int .i64 at2, .iface 40 (.int .i64 k)])]), .iface 97 (.pointer (some t)), .agg #[.pointer (some ⟨4, 97, none⟩), .pointer (some a), .int .u64 150],
      .iface 245 (.agg #[.pointer (some ⟨4, 40, none⟩)])] w fun e w' => e = .returned (.bool true) ∧ w'.cell? t = some (.int .i64 k) ∧ w.grownBy w' (some t.block) := by
  have h38 := @run_callFunc_extern Tryz.prog 83 _ (fun args => ReflectliteValue.unpack (args.getD 0 (.tuple #[]))) Tryz.func83 (by kernel_rfl) (by kernel_rfl) (by kernel_rfl) (by kernel_rfl)
  have h42 := @run_callFunc_extern Tryz.prog 87 _ ReflectliteType.typeOf Tryz.func87 (by kernel_rfl) (by kernel_rfl) (by kernel_rfl) (by kernel_rfl)
  have h84 := @run_callFunc_extern Tryz.prog 362 _ (ReflectliteType.relation "AssignableTo" ReflectliteType.assignableTo) Tryz.func362 (by kernel_rfl) (by kernel_rfl) (by kernel_rfl) (by kernel_rfl)
  have h49 := @run_callFunc_extern Tryz.prog 136 _ (ReflectliteValue.method (ReflectliteValue.valueError "reflectlite.Value.Elem" 0) ReflectliteValue.elem) Tryz.func136 (by kernel_rfl) (by kernel_rfl) (by kernel_rfl) (by kernel_rfl)
  have h50 := @run_callFunc_extern Tryz.prog 137 _ ReflectliteValue.set Tryz.func137 (by kernel_rfl) (by kernel_rfl) (by kernel_rfl) (by kernel_rfl)
  have tE := typeOfE
  have tF := typeOfF
  have mA := methAssi
  have aE := assignableE
  have aF := assignableF
  have vE := valueOfE
  have mU := methUnwr
  have hA := hasAs
  have hU := hasUn
  have hb1 := below_new w (.cells #[.pointer (some ⟨4, 97, none⟩), .pointer (some a), .int .u64 150] 164)
  have hb2 := hb1.trans (below_le hb1.size (below_new _ (.cells #[.string op, .int .i64 at_, .iface 154 (.agg #[.string op2, .int .i64 at2, .iface 40 (.int .i64 k)])] 154)))
  have hb2a := hb2.trans (below_le hb2.size (below_new _ (.cells #[.string op2, .int .i64 at2, .iface 40 (.int .i64 k)] 154)))
  have hb3 := hb2a.trans (below_le hb2a.size (below_new _ (.cells #[.int .i64 k] 40)))
  have eV := elemV a t _ ((hb2a.cell (cell_lt ha)).trans ha)
  have sE := setE t ⟨w.heap.size + 1 + 1 + 1, 0, none⟩ k old _ (by rw [World.cell?_alloc_at _ _ _ _ (by simp)]; rfl) ((hb3.cell (cell_lt ht0)).trans ht0) ((hb3.frozen (cell_lt ht0)).trans hf0)
  have HB3 := Lib.hid hb3
  clear hb1 hb2 hb2a hb3
  go_enter Tryz.func86, Tryz.ntmps86
  go_wp2
  refine wp_loop_rounds 3 ?_
  rw [rounds_succ]
  go_wp2
  rw [rounds_succ]
  go_wp2
  rw [rounds_succ]
  go_wp2
  go_ret
  exact ⟨rfl, World.cell?_setCell_same _ _ _ ((HB3.out.cell (cell_lt ht0)).trans ht0), ((grown_of_below HB3.out).but _).trans (grown_set _ _ _)⟩
end Go.Proofs.YtkdlofgfkfhofaaGreatDoor

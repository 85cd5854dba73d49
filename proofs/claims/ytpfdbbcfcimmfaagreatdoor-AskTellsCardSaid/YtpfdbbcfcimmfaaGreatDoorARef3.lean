/-
  staveref19: PutAsk.
-/
import Derived.Test.YtpfdbbcfcimmfaaGreatDoorARef2
import Derived.Test.YtpfdbbcfcimmfaaGreatDoorAsk
import Derived.Deep.CutRange
import Derived.Deep.RegionHeld3
namespace Go.Proofs.YtpfdbbcfcimmfaaGreatDoor
open Go.RowKit
attribute [local go_sem ↓] ldB_eq stB_eq ldE_eq stE_eq ldA_eq stA_eq sliced_past
attribute [local go_sem] w8_nn w8_256 wrap_i64_w8 wrap64_w8 pastA_zero

theorem corr_le4 (c : Int) : leB 4 c.toNat = [byteAt c.toNat 0, byteAt c.toNat 1, byteAt c.toNat 2, byteAt c.toNat 3] := by
  rw [leB_snoc, leB_snoc, leB_snoc, leB_snoc]
  rfl
theorem head_is (k c : Int) : [1, UInt8.ofNat k.toNat] ++ leB 4 c.toNat = headA k c := by
  rw [corr_le4]
  rfl
theorem own_mono {w : World} {B B' : Nat} {v : Value} {l : List UInt8} (h : OwnB w B v l) (hb : B' ≤ B) : OwnB w B' v l := by
  refine ⟨h.1, ?_⟩
  rcases h.2 with h2 | ⟨g, cap, cur, e, h3, h4⟩
  · exact .inl h2
  · exact .inr ⟨g, cap, cur, e, Nat.le_trans hb h3, h4⟩
theorem two_own (k : Int) (hk : 1 ≤ k ∧ k ≤ 9) (w1 : World) (B : Nat) (hB : B ≤ w1.heap.size) : OwnB (w1.alloc (.cells #[.int .u8 1, .int .u8 (IntKind.u8.wrap k)] 5)) B (.slice (some ⟨w1.heap.size, 0, none⟩) 2 2) [1, UInt8.ofNat k.toNat] := by
  have h := ((show Bb (w1.alloc (.cells (bvs [1, UInt8.ofNat k.toNat]).toArray 5)) w1.heap.size 5 [1, UInt8.ofNat k.toNat] from Bk.made w1 5 _).owns (n := 2) rfl (by omega)).own hB 2 rfl
  have e : (bvs [1, UInt8.ofNat k.toNat]).toArray = #[.int .u8 1, .int .u8 k] := by
    show #[Value.int .u8 (w8 1), Value.int .u8 (w8 (UInt8.ofNat k.toNat))] = _
    rw [w8_kindA hk]
    rfl
  rw [e] at h
  have e2 : IntKind.u8.wrap k = k := by rw [IntKind.wrap_u8]; omega
  rw [e2]
  exact h
set_option maxRecDepth 100000 in
set_option maxHeartbeats 4000000 in
theorem refPutA_any (a : Ask) (A : Option Addr) (n c : Nat) (w : World) (hr : RdT w A n c a.bat.vals) :
    Calls Tryz.prog 32 #[.agg #[.int .i64 a.corr, .int .i64 a.kind, .string a.topic, .string a.group, .int .i64 a.part, .int .i64 a.parts, .int .i64 a.first, .int .i64 a.off, .int .i64 a.most, .int .i64 a.time, .int .i64 a.bat.time, .int .i64 a.bat.prod, .int .i64 a.bat.seq, .slice A n c]] w fun er w' => ∃ A' M c', er = .returned (.slice A' M c') ∧ RdB w' A' M c' (putA a) ∧ Below w.heap.size w w' := by
  have hbk := Bk.made w 47 #[.int .i64 a.corr, .int .i64 a.kind, .string a.topic, .string a.group, .int .i64 a.part, .int .i64 a.parts, .int .i64 a.first, .int .i64 a.off, .int .i64 a.most, .int .i64 a.time, .int .i64 a.bat.time, .int .i64 a.bat.prod, .int .i64 a.bat.seq, .slice A n c]
  have hbn := below_new w (.cells #[.int .i64 a.corr, .int .i64 a.kind, .string a.topic, .string a.group, .int .i64 a.part, .int .i64 a.parts, .int .i64 a.first, .int .i64 a.off, .int .i64 a.most, .int .i64 a.time, .int .i64 a.bat.time, .int .i64 a.bat.prod, .int .i64 a.bat.seq, .slice A n c] 47)
  have hld := ldA_bk hbk
  have HBK := Lib.hid hbk
  have HBn := Lib.hid hbn
  have Hr := Lib.hid (hr.ext hbn)
  obtain ⟨r, hre⟩ : ∃ r, rightA a = r := ⟨_, rfl⟩
  have HRt := Lib.hid (refRightA_any a A n c _ Hr.out r hre)
  have Hre := Lib.hid hre
  clear hbk hbn hr hre
  go_enter Tryz.func32, Tryz.ntmps32
  go_wp2_with fail
  with_reducible refine HRt.out.mono ?_
  rintro er W ⟨rfl, hb1⟩
  have HK1 := Lib.hid (HBK.out.ext hb1)
  have HB1 := Lib.hid (HBn.out.trans (below_le HBn.out.size hb1))
  have HR1 := Lib.hid (RdT.ext Hr.out hb1)
  clear hb1 hld HRt HBK HBn Hr
  cases r
  · go_wp2_with fail
    go_ret
    exact ⟨none, 0, 0, rfl, by rw [putA_no Hre.out]; exact (OwnB.nil W 0).rd, HB1.out⟩
  · have hfc := (rightA_facts Hre.out).1
    have hkd := right_kindA Hre.out
    have hkk : a.kind % 256 = a.kind := by omega
    have hcu : IntKind.u64.wrap a.corr = a.corr := by rw [IntKind.wrap_u64]; omega
    have HNu : Hid (∀ (w' : World), Calls Tryz.prog 61 #[.slice none 0 0,   .int .u64 (IntKind.u64.wrap a.corr), .int .i64 4] w' fun e w'' => ∃ A' c', e = .returned (.slice A' 4 c') ∧ OwnB w'' w'.heap.size (.slice A' 4 c') (leB 4 a.corr.toNat) ∧ Below w'.heap.size w' w'') := fun w' => by
      rw [hcu]
      refine (refNum_int none 0 0 [] a.corr 4 4 rfl w' hfc.1 (Rd.nil _ _) (by omega) (by omega)).mono ?_
      rintro er w'' ⟨A', c', rfl, ho, hb⟩
      exact ⟨A', c', rfl, ho, hb⟩
    have Hkd := Lib.hid hkd
    have Hfc := Lib.hid hfc
    clear hfc hkd hcu
    go_upto_region 3 with fail
    go_cut [3] from 10 to 40 (fun s3 wx => ∃ (A3 : Option Addr) (c3 : Nat), s3 = .slice A3 6 c3 ∧ OwnB wx W.heap.size (.slice A3 6 c3) (headA a.kind a.corr) ∧ Below W.heap.size W wx)
    case first =>
      have FS : Hid (∀ w', Below W.heap.size W w' → (Below W.heap.size W w' ∧ w'.cell? ⟨w.heap.size, 0, none⟩ = some (.int .i64 a.corr) ∧ w'.cell? ⟨w.heap.size, 1, none⟩ = some (.int .i64 a.kind))) := fun w' hb => ⟨hb, (HK1.out.ext hb).cell 0, (HK1.out.ext hb).cell 1⟩
      have KC : Hid (∀ (w' w'' : World) (R : Prop), Below W.heap.size W w' ∧ R → Below w'.heap.size w' w'' → Below W.heap.size W w'') := fun w' w'' R h hb => h.1.trans (below_le h.1.size hb)
      have KA : Hid (∀ (w' : World) (o : Obj) (R : Prop), Below W.heap.size W w' ∧ R → Below W.heap.size W (w'.alloc o)) := fun w' o R h => h.1.alloc h.1.size o
      have r0 := below_drew1 (Below.refl W.heap.size W)
      have rA : ∀ o, Below W.heap.size W (W.alloc o).drew := fun o => below_drew1 (below_new W o)
      go_region_held3 (fun w' => Below W.heap.size W w' ∧ w'.cell? ⟨w.heap.size, 0, none⟩ = some (.int .i64 a.corr) ∧ w'.cell? ⟨w.heap.size, 1, none⟩ = some (.int .i64 a.kind)) (first | exact FS.out _ (rA _) | exact FS.out _ r0 | exact FS.out _ hb5 | exact FS.out _ q4 | exact FS.out _ (q4.alloc q4.size _)) (first | (go_at_call 61; go_loud (with_reducible refine (HNu.out _).mono ?_); go_loud (rintro er w4 ⟨A4, c4, rfl, ho4, hb4⟩); go_loud (have HO4 := Lib.hid ho4); go_loud (have q4 : Below W.heap.size W w4 := KC.out _ _ _ (by assumption) hb4); go_loud (clear ho4)) | (go_loud (refine step_append_bytes (by rfl) (.tmp 13) (.tmp 17) (by rfl) W.heap.size W _ [1, UInt8.ofNat a.kind.toNat] (by rfl) (OwnB.ext (World.ownsRow.drew (two_own a.kind Hkd.out W W.heap.size (Nat.le_refl _))) hb4) A4 4 c4 (leB 4 a.corr.toNat) (by rfl) HO4.out.rd (by simp) q4 q4.size 6 rfl ?_); go_loud (intro A5 c5 w5 ho5 hb5 hs5 hg5)) | (go_loud (refine step_append_bytes (by rfl) (.tmp 13) (.tmp 17) (by rfl) W.heap.size W _ [1, UInt8.ofNat a.kind.toNat] (by rfl) (two_own a.kind Hkd.out w4 W.heap.size q4.size) A4 4 c4 (leB 4 a.corr.toNat) (by rfl) (HO4.out.rd.ext (below_new w4 _)) (by simp) (q4.alloc q4.size _) (q4.alloc q4.size _).size 6 rfl ?_); go_loud (intro A5 c5 w5 ho5 hb5 hs5 hg5)) | fail)
      all_goals
        go_wp2_with fail
        go_meet
        refine ⟨A5, c5, rfl, ?_, hb5⟩
        rw [← head_is]
        exact ho5.out
    case rest =>
      obtain ⟨A3, c3, rfl, ho3, hb3⟩ := hcut
      have HO3 := Lib.hid ho3
      have HK3 := Lib.hid (HK1.out.ext hb3)
      have HB3 := Lib.hid (HB1.out.trans (below_le HB1.out.size hb3))
      have HR3 := Lib.hid (HR1.out.ext hb3)
      have Hz := Lib.hid (Nat.le_trans HB1.out.size (Nat.le_refl W.heap.size))
      clear ho3 hb3 HB1 HR1 HNu hkk HK1
      generalize wc = W3 at HO3 HK3 HB3 HR3 ⊢
      have c1 : W3.cell? ⟨w.heap.size, 1, none⟩ = some (.int .i64 a.kind) := HK3.out.cell 1
      have l3 := ldA_bk HK3.out
      have HW := Lib.hid (refWrites_any a.kind W3)
      go_wp2_with fail
      with_reducible refine HW.out.mono ?_
      rintro er w4 ⟨rfl, rfl⟩
      clear HW
      cases hw : writK a.kind
      · have Hw := Lib.hid hw
        have hok := (reads_facts (readsA_of Hre.out hw)).2.1
        have hq : fldsQ a.kind = fldsA a.kind := fldsQ_r hw
        have Hok := Lib.hid hok
        have Hq := Lib.hid hq
        have Hlen := Lib.hid (restA_len Hre.out hw)
        clear hw hok hq c1 l3
        go_upto_region 6 with fail
        go_cut [4] from 28 to 40 (fun s4 wx => ∃ (A4 : Option Addr) (M4 c4 : Nat), s4 = .slice A4 M4 c4 ∧ RdB wx A4 M4 c4 (bytesAll (fldsA a.kind) (valsA a)) ∧ Below W3.heap.size W3 wx)
        case first =>
          have FS : Hid (∀ w', Below W3.heap.size W3 w' → (Below W3.heap.size W3 w' ∧ w'.cell? ⟨w.heap.size, 1, none⟩ = some (.int .i64 a.kind) ∧ (ldA (.pointer (some ⟨w.heap.size, 0, none⟩))).run Tryz.prog w' = .ok (.agg #[.int .i64 a.corr, .int .i64 a.kind, .string a.topic, .string a.group, .int .i64 a.part, .int .i64 a.parts, .int .i64 a.first, .int .i64 a.off, .int .i64 a.most, .int .i64 a.time, .int .i64 a.bat.time, .int .i64 a.bat.prod, .int .i64 a.bat.seq, .slice A n c]) w')) := fun w' hb => ⟨hb, (HK3.out.ext hb).cell 1, ldA_bk (HK3.out.ext hb)⟩
          have KC : Hid (∀ (w' w'' : World) (R : Prop), Below W3.heap.size W3 w' ∧ R → Below w'.heap.size w' w'' → Below W3.heap.size W3 w'') := fun w' w'' R h hb => h.1.trans (below_le h.1.size hb)
          have HFf : Hid (∀ w', Calls Tryz.prog 58 #[.int .i64 a.kind] w' fun e w'' => ∃ A n c, e = .returned (.slice A n c) ∧ RdF w'' A n c (fldsQ a.kind) ∧ n ≤ 100 ∧ A.isSome = decide (1 ≤ a.kind ∧ a.kind ≤ 9) ∧ Below w'.heap.size w' w'') := fun w' => refAFlds_any a.kind w'
          have HVv : Hid (∀ w', Calls Tryz.prog 59 #[.agg #[.int .i64 a.corr, .int .i64 a.kind, .string a.topic, .string a.group, .int .i64 a.part, .int .i64 a.parts, .int .i64 a.first, .int .i64 a.off, .int .i64 a.most, .int .i64 a.time, .int .i64 a.bat.time, .int .i64 a.bat.prod, .int .i64 a.bat.seq, .slice A n c]] w' fun e w'' => ∃ A' n' c' ms, e = .returned (.slice A' n' c') ∧ RdV w'' A' n' c' ms ∧ vsOf ms = valsA a ∧ Below w'.heap.size w' w'') := fun w' => refAVals a A n c w'
          have HPp : Hid (∀ (A3 : Option Addr) (n3 c3 : Nat) (A4 : Option Addr) (n4 c4 : Nat) (ms4 : List MVal) (w3 w' : World), RdF w3 A3 n3 c3 (fldsQ a.kind) → n3 ≤ 100 → Below w3.heap.size w3 w' → RdV w' A4 n4 c4 ms4 → vsOf ms4 = valsA a → Calls Tryz.prog 45 #[.slice A3 n3 c3, .slice A4 n4 c4] w' fun er w'' => ∃ (A5 : Option Addr) (M5 c5 : Nat) (z i : Int), er = .returned (.tuple #[.slice A5 M5 c5, .int .i64 z, .int .i64 i]) ∧ RdB w'' A5 M5 c5 (bytesAll (fldsA a.kind) (valsA a)) ∧ Below w'.heap.size w' w'') := fun A3 n3 c3 A4 n4 c4 ms4 w3 w' hf hn hb hv hvs => by
            rw [Hq.out] at hf
            refine (refPut_any A3 n3 c3 (fldsA a.kind) A4 n4 c4 ms4 w' (fldsA_some _) (hf.ext hb) hv hn).mono ?_
            rintro er w5 ⟨Ap, M5, cp, k5, i5, rfl, hp5, hb5⟩
            rw [hvs] at hp5
            refine ⟨Ap, M5, cp, k5, i5, rfl, ?_, hb5⟩
            rcases hp5 with ⟨_, rfl, ho⟩ | ⟨hno, _⟩
            · exact ho.rd
            · rw [Hok.out] at hno; cases hno
          go_region_held3 (fun w' => Below W3.heap.size W3 w' ∧ w'.cell? ⟨w.heap.size, 1, none⟩ = some (.int .i64 a.kind) ∧ (ldA (.pointer (some ⟨w.heap.size, 0, none⟩))).run Tryz.prog w' = .ok (.agg #[.int .i64 a.corr, .int .i64 a.kind, .string a.topic, .string a.group, .int .i64 a.part, .int .i64 a.parts, .int .i64 a.first, .int .i64 a.off, .int .i64 a.most, .int .i64 a.time, .int .i64 a.bat.time, .int .i64 a.bat.prod, .int .i64 a.bat.seq, .slice A n c]) w') (first | exact FS.out _ (below_drew1 (Below.refl _ _)) | exact FS.out _ (KC.out _ _ _ (by assumption) (by first | exact hb7 | exact hb6 | exact hb5))) (first | (go_at_call 58; go_loud (with_reducible refine (HFf.out _).mono ?_); go_loud (rintro er w5 ⟨A5, n5, c5, rfl, hrf5, hn5, _, hb5⟩); go_loud (have Hrf5 := Lib.hid hrf5); go_loud (have Hn5 := Lib.hid hn5); go_loud (clear hrf5 hn5)) | (go_at_call 59; go_loud (with_reducible refine (HVv.out _).mono ?_); go_loud (rintro er w6 ⟨A6, n6, c6, ms6, rfl, hrv6, hvs6, hb6⟩); go_loud (have Hrv6 := Lib.hid hrv6); go_loud (have Hvs6 := Lib.hid hvs6); go_loud (clear hrv6 hvs6)) | (go_at_call 45; go_loud (with_reducible refine (HPp.out _ _ _ _ _ _ _ _ _ Hrf5.out Hn5.out (by first | exact hb6 | exact Below.refl _ _) Hrv6.out Hvs6.out).mono ?_); go_loud (rintro er w7 ⟨A7, M7, c7, z7, i7, rfl, hr7, hb7⟩); go_loud (have Hr7 := Lib.hid hr7); go_loud (clear hr7)) | fail)
          all_goals
            go_wp2_with fail
            go_meet
            exact ⟨A7, M7, c7, rfl, Hr7.out, (‹Below W3.heap.size W3 _ ∧ _›).1⟩
        case rest =>
          obtain ⟨A4, M4, c4, rfl, hr4, hb4⟩ := hcut
          have HO4 := Lib.hid (OwnB.ext HO3.out hb4)
          have HB4 := Lib.hid (HB3.out.trans (below_le HB3.out.size hb4))
          have HO5 := Lib.hid (own_mono HO4.out Hz.out)
          have HR4 := Lib.hid hr4
          have hl4 := hr4.len
          have Hl4 := Lib.hid hl4
          clear hr4 hb4 hl4 HO3 HK3 HB3 HR3
          go_wp2_with (first | (at_builtin; go_loud (refine wpList_append_bytes rfl (.tmp 38) (.tmp 39) rfl w.heap.size w _ (headA a.kind a.corr) rfl HO5.out A4 M4 c4 (bytesAll (fldsA a.kind) (valsA a)) rfl HR4.out (by have h1 := Hlen.out; have h2 := Hl4.out; simp [headA]; omega) HB4.out HB4.out.size (6 + M4) (by simp [headA]) ?_); go_loud (intro A6 c6 w6 ho6 hb6 hs6)) | fail)
          go_ret
          refine ⟨_, _, _, rfl, ?_, hb6⟩
          rw [putA_eq Hre.out]
          unfold restA
          rw [if_neg (by rw [Hw.out]; decide)]
          exact ho6.out.rd
      · have Hw := Lib.hid hw
        clear hw
        have hre2 : rightE a.ent = true := by
          obtain ⟨_, ⟨_, _, _, h⟩ | ⟨h, _⟩⟩ := rightA_facts Hre.out
          · exact h
          · rw [Hw.out] at h; cases h
        have HRe := Lib.hid hre2
        have HE := Lib.hid (refEntOf_any a A n c W3)
        clear hre2 c1
        go_wp2_with fail
        with_reducible refine HE.out.mono ?_
        rintro er w4 ⟨rfl, hb4⟩
        have HP4 : Hid (Calls Tryz.prog 14 #[.agg #[.int .i64 a.kind, .string a.topic, .string a.group, .int .i64 a.part, .int .i64 a.parts, .int .i64 a.first, .int .i64 a.off, .int .i64 a.bat.time, .int .i64 a.bat.prod, .int .i64 a.bat.seq, .slice A n c]] w4 fun er w' => ∃ A' M c', er = .returned (.slice A' M c') ∧ RdB w' A' M c' (putE a.ent) ∧ Below w4.heap.size w4 w') := refPutE_any a.ent A n c w4 (RdT.ext HR3.out hb4)
        have Hb4 := Lib.hid hb4
        clear hb4 l3 HE
        go_wp2_with fail
        with_reducible refine HP4.out.mono ?_
        rintro er w5 ⟨A5, M5, c5, rfl, ho5, hb5⟩
        have Hb5 := Lib.hid (Hb4.out.trans (below_le Hb4.out.size hb5))
        have hl5 := ho5.len
        have hM5 := putE_len a.ent
        have hM1 : 0 < M5 := by rw [← hl5, putE_eq HRe.out]; simp
        rw [hl5] at hM5
        have hcap := ho5.cap
        have HM5 := Lib.hid hM5
        have HR5 := Lib.hid (ho5.past' 1 (by omega))
        have HO5 := Lib.hid (own_mono (OwnB.ext HO3.out Hb5.out) Hz.out)
        have HB5 := Lib.hid (HB3.out.trans (below_le HB3.out.size Hb5.out))
        have hi1 : (1 : Int) ≤ (M5 : Int) := by omega
        have hi2 : (M5 : Int) ≤ (c5 : Int) := by omega
        clear ho5 hb5 hl5 hM5 HP4
        go_wp2_with (first | (at_builtin; go_loud (refine wpList_append_bytes rfl (.tmp 22) (.tmp 26) rfl w.heap.size w _ (headA a.kind a.corr) rfl HO5.out _ (M5 - 1) (c5 - 1) ((putE a.ent).drop 1) rfl HR5.out (by have := HM5.out; simp [headA]; omega) HB5.out HB5.out.size (6 + (M5 - 1)) (by simp [headA]) ?_); go_loud (intro A6 c6 w6 ho6 hb6 hs6)) | fail)
        go_ret
        refine ⟨_, _, _, rfl, ?_, hb6⟩
        rw [putA_eq Hre.out]
        unfold restA
        rw [if_pos Hw.out]
        exact ho6.out.rd
end Go.Proofs.YtpfdbbcfcimmfaaGreatDoor

/-
  AskCanon: the walk.
-/
import Derived.Test.YtpfdbbcfcimmfaaGreatDoorAFew
import Derived.Test.YtpfdbbcfcimmfaaGreatDoorAKeep
import Derived.Test.YtpfdbbcfcimmfaaGreatDoorARuns
import Derived.Deep.CutRange
import Derived.Deep.QuietTactic
import Derived.BigQuiet
namespace Go.Proofs.YtpfdbbcfcimmfaaGreatDoor
open Go.RowKit
attribute [local go_sem ↓] ldA_eq stA_eq sliced_past
attribute [local go_sem] w8_nn w8_256 wrap_i64_w8 wrap64_w8 pastA_zero xor_u8

theorem getA_co {v k c0 c1 c2 c3 : UInt8} {r : List UInt8} {co e : Int} (h : getA (v :: k :: c0 :: c1 :: c2 :: c3 :: r) = .error (co, e)) : co = corr4 c0 c1 c2 c3 := by
  change getA6 v k c0 c1 c2 c3 r = .error (co, e) at h
  unfold getA6 at h
  split at h
  · split at h
    · split at h
      · cases h
      · injection h with h
        injection h with h1 h2
        exact h1.symm
    · injection h with h
      injection h with h1 h2
      exact h1.symm
  · injection h with h
    injection h with h1 h2
    exact h1.symm
set_option maxRecDepth 100000 in
set_option maxHeartbeats 8000000 in
theorem askCanon_w (e : Ask) (A : Option Addr) (n c : Nat) (Ab : Option Addr) (nb cb : Nat) (lb : List UInt8) (z : Int) (hz : fitI z) (b0 : UInt8) (w : World) (hl : ErrLaid w) (hr : RdT w A n c e.bat.vals) (hb : RdB w Ab nb cb lb) :
    Calls Tryz.prog 8 #[.agg #[.int .i64 e.corr, .int .i64 e.kind, .string e.topic, .string e.group, .int .i64 e.part, .int .i64 e.parts, .int .i64 e.first, .int .i64 e.off, .int .i64 e.most, .int .i64 e.time, .int .i64 e.bat.time, .int .i64 e.bat.prod, .int .i64 e.bat.seq, .slice A n c], .slice Ab nb cb, .int .i64 z, .int .u8 (w8 b0)] w fun er w' => er = .returned (.bool true) ∧ Below w.heap.size w w' := by
  have hbn := below_new w (.cells #[.int .i64 e.corr, .int .i64 e.kind, .string e.topic, .string e.group, .int .i64 e.part, .int .i64 e.parts, .int .i64 e.first, .int .i64 e.off, .int .i64 e.most, .int .i64 e.time, .int .i64 e.bat.time, .int .i64 e.bat.prod, .int .i64 e.bat.seq, .slice A n c] 47)
  have hld := ldA_bk (Bk.made w 47 #[.int .i64 e.corr, .int .i64 e.kind, .string e.topic, .string e.group, .int .i64 e.part, .int .i64 e.parts, .int .i64 e.first, .int .i64 e.off, .int .i64 e.most, .int .i64 e.time, .int .i64 e.bat.time, .int .i64 e.bat.prod, .int .i64 e.bat.seq, .slice A n c])
  have HF := Lib.hid (afew_any e A n c _ (hr.ext hbn))
  have HB0 := Lib.hid hbn
  have HL := Lib.hid hl
  have HRb := Lib.hid hb
  have hnb1 := hb.cap
  have hnb2 := hb.big
  have hnb3 := Lib.hid hb.len
  clear hbn hr hl hb
  go_enter Tryz.func8, Tryz.ntmps8
  go_wp2_with fail
  with_reducible refine HF.out.mono ?_
  rintro er w1 ⟨y, A1, n1, c1, rfl, hr1, hb1⟩
  have hst1 := stA_newAt w1 w1.heap.size rfl y.corr y.kind y.topic y.group y.part y.parts y.first y.off y.most y.time y.bat.time y.bat.prod y.bat.seq A1 n1 c1 #[.int .i64 0, .int .i64 0, .string ⟨#[]⟩, .string ⟨#[]⟩, .int .i64 0, .int .i64 0, .int .i64 0, .int .i64 0, .int .i64 0, .int .i64 0, .int .i64 0, .int .i64 0, .int .i64 0, .slice none 0 0] rfl
  have hbn1 := below_new w1 (.cells #[.int .i64 y.corr, .int .i64 y.kind, .string y.topic, .string y.group, .int .i64 y.part, .int .i64 y.parts, .int .i64 y.first, .int .i64 y.off, .int .i64 y.most, .int .i64 y.time, .int .i64 y.bat.time, .int .i64 y.bat.prod, .int .i64 y.bat.seq, .slice A1 n1 c1] 47)
  have HK1 := Lib.hid (Bk.made w1 47 #[.int .i64 y.corr, .int .i64 y.kind, .string y.topic, .string y.group, .int .i64 y.part, .int .i64 y.parts, .int .i64 y.first, .int .i64 y.off, .int .i64 y.most, .int .i64 y.time, .int .i64 y.bat.time, .int .i64 y.bat.prod, .int .i64 y.bat.seq, .slice A1 n1 c1])
  have HR1 := Lib.hid (RdT.ext hr1 hbn1)
  have HB1 := Lib.hid (HB0.out.trans (below_le HB0.out.size (hb1.trans (below_le hb1.size hbn1))))
  clear hr1 hb1 hbn1 HF HB0
  go_upto_region 2 with fail
  clear hst1 hld
  generalize w1.heap.size = g1 at HK1 ⊢
  generalize w1.alloc (.cells #[.int .i64 y.corr, .int .i64 y.kind, .string y.topic, .string y.group, .int .i64 y.part, .int .i64 y.parts, .int .i64 y.first, .int .i64 y.off, .int .i64 y.most, .int .i64 y.time, .int .i64 y.bat.time, .int .i64 y.bat.prod, .int .i64 y.bat.seq, .slice A1 n1 c1] 47) = W1 at HK1 HR1 HB1 ⊢
  have hbe := below_new W1 (.cells #[] 5)
  have hld1 := ldA_bk (HK1.out.ext hbe)
  have HEm := Lib.hid (OwnB.empty W1 W1.heap.size (Nat.le_refl _))
  have HP := Lib.hid (aPut_any y A1 n1 c1 _ (RdT.ext HR1.out hbe))
  have Hbe := Lib.hid hbe
  clear hbe
  go_wp2_with fail
  with_reducible refine HP.out.mono ?_
  rintro er w2 ⟨A2, M2, c2, rfl, ho2, hb2⟩
  have HE2 := Lib.hid (HEm.out.ext hb2)
  have HB2 := Lib.hid (Hbe.out.trans (below_le Hbe.out.size hb2))
  have HRd2 := Lib.hid ho2.rd
  have hM2 := Lib.hid ho2.rd.len
  have hM3 := putA_len y
  have hlen2 := hM2.out
  rw [hlen2] at hM3
  clear ho2 hb2 hld1 HP HEm Hbe
  by_cases hzero : M2 = 0
  · subst hzero
    have hy0 : putA y = [] := List.eq_nil_of_length_eq_zero hlen2
    rw [hy0] at HRd2
    obtain ⟨m, hm1, hm2, hm3⟩ := int_min nb 60 (by omega)
    have hm4 : (m : Int) ≤ (nb : Int) := by omega
    have hm5 : (0 : Int) ≤ (m : Int) := by omega
    have hmn : (m : Int).toNat = m := by omega
    have hm60 : m ≤ 60 := by omega
    clear hy0 hlen2 hM3
    go_wp2_with (first | (at_builtin; refine wpList_append_bytes rfl (.tmp 17) (.tmp 19) rfl W1.heap.size W1 _ [] rfl HE2.out A2 0 c2 [] rfl HRd2.out (by simp) HB2.out HB2.out.size 0 (by simp) ?_; intro A3 c3 w3 ho3 hb3 hs3; have hb3' := below_new w3 (.cells #[] 5); have HB3 := Lib.hid (HB1.out.trans (below_le HB1.out.size hb3)); have HR3 := Lib.hid (RdB.ext HRb.out HB3.out); clear ho3) | (at_builtin; go_loud (refine wpList_append_bytes rfl (.tmp 46) (.tmp 51) rfl w.heap.size w _ [] rfl (OwnB.empty' w3 w.heap.size _ rfl HB3.out.size) Ab m cb (lb.take m) rfl (RdB.ext (RdB.upto HR3.out m hm2) hb3') (by simp; omega) (HB3.out.trans (below_le HB3.out.size hb3')) (Nat.le_trans HB3.out.size hb3'.size) m (by simp) ?_; intro A4 c4 w4 ho4 hb4 hs4; have HB4 := Lib.hid hb4; have HR4 := Lib.hid (show RdB w4 A4 m c4 (lb.take m) from ho4.out.rd); clear ho4 hb4 hs4)) | fail)
    cases hga : getA (lb.take m) with
    | error p =>
      obtain ⟨co, ek⟩ := p
      have hG := aget_err (A4) m c4 (lb.take m) w4 HR4.out (by omega) co ek hga
      with_reducible refine hG.mono ?_
      rintro er w5 ⟨A5, n5, c5, v5, d5, rfl, hr5, hd5, hke5, hb5⟩
      have hst5 := stA_newAt w5 w5.heap.size rfl co 0 ⟨#[]⟩ ⟨#[]⟩ 0 0 0 0 0 0 0 0 0 A5 n5 c5 #[.int .i64 0, .int .i64 0, .string ⟨#[]⟩, .string ⟨#[]⟩, .int .i64 0, .int .i64 0, .int .i64 0, .int .i64 0, .int .i64 0, .int .i64 0, .int .i64 0, .int .i64 0, .int .i64 0, .slice none 0 0] rfl
      have hbn5 := below_new w5 (.cells #[.int .i64 co, .int .i64 0, .string ⟨#[]⟩, .string ⟨#[]⟩, .int .i64 0, .int .i64 0, .int .i64 0, .int .i64 0, .int .i64 0, .int .i64 0, .int .i64 0, .int .i64 0, .int .i64 0, .slice A5 n5 c5] 47)
      have HK5 := Lib.hid (Bk.made w5 47 #[.int .i64 co, .int .i64 0, .string ⟨#[]⟩, .string ⟨#[]⟩, .int .i64 0, .int .i64 0, .int .i64 0, .int .i64 0, .int .i64 0, .int .i64 0, .int .i64 0, .int .i64 0, .int .i64 0, .slice A5 n5 c5])
      have HB5 := Lib.hid ((HB4.out.trans (below_le HB4.out.size hb5)).trans (below_le (Nat.le_trans HB4.out.size hb5.size) hbn5))
      have HRL := Lib.hid ((RdB.ext HR4.out hb5).ext hbn5)
      have HRx := Lib.hid (RdT.ext hr5 hbn5)
      have hne5 := hke5.ne
      have hgu5 := hke5.guardN 69
      clear hr5 hbn5 hb5 hG HB4 HR4 hke5
      by_cases h6 : m < 6
      · have hh6 : ¬ (6 : Int) ≤ (m : Int) := by omega
        rw [getA_short (by rw [HRL.out.len]; exact h6)] at hga
        injection hga with hga
        injection hga with h1 h2
        subst h1
        have hld5 := ldA_bk HK5.out
        have HA := Lib.hid (show Calls Tryz.prog 35 #[.agg #[.int .i64 0, .int .i64 0, .string ⟨#[]⟩, .string ⟨#[]⟩, .int .i64 0, .int .i64 0, .int .i64 0, .int .i64 0, .int .i64 0, .int .i64 0, .int .i64 0, .int .i64 0, .int .i64 0, .slice A5 n5 c5], .agg #[.int .i64 0, .int .i64 0, .string ⟨#[]⟩, .string ⟨#[]⟩, .int .i64 0, .int .i64 0, .int .i64 0, .int .i64 0, .int .i64 0, .int .i64 0, .int .i64 0, .int .i64 0, .int .i64 0, .slice none 0 0]] (w5.alloc (.cells #[.int .i64 0, .int .i64 0, .string ⟨#[]⟩, .string ⟨#[]⟩, .int .i64 0, .int .i64 0, .int .i64 0, .int .i64 0, .int .i64 0, .int .i64 0, .int .i64 0, .int .i64 0, .int .i64 0, .slice A5 n5 c5] 47)) (fun e w' => e = .returned (.bool true) ∧ Below ((w5.alloc (.cells #[.int .i64 0, .int .i64 0, .string ⟨#[]⟩, .string ⟨#[]⟩, .int .i64 0, .int .i64 0, .int .i64 0, .int .i64 0, .int .i64 0, .int .i64 0, .int .i64 0, .int .i64 0, .int .i64 0, .slice A5 n5 c5] 47))).heap.size ((w5.alloc (.cells #[.int .i64 0, .int .i64 0, .string ⟨#[]⟩, .string ⟨#[]⟩, .int .i64 0, .int .i64 0, .int .i64 0, .int .i64 0, .int .i64 0, .int .i64 0, .int .i64 0, .int .i64 0, .int .i64 0, .slice A5 n5 c5] 47))) w') from asks_any (noA.num 0) (noA.num 0) A5 none n5 c5 0 0 true (sameAll_iff.2 rfl) _ HRx.out (RdT.nil _))
        clear h2
        go_wp2_with fail
        with_reducible refine HA.out.mono ?_
        rintro er w6 ⟨rfl, hb6⟩
        have HB6 := Lib.hid (HB5.out.trans (below_le HB5.out.size hb6))
        clear hb6
        go_wp2_with fail
        refine (askRuns_any _ (ErrLaid.below HL.out HB6.out)).mono ?_
        rintro er w9 ⟨rfl, hb9⟩
        go_wp2_with fail
        go_ret
        exact ⟨rfl, HB6.out.trans (below_le HB6.out.size hb9)⟩
      · have hh6 : (6 : Int) ≤ (m : Int) := by omega
        obtain ⟨ad, v, kk, c0, c1, c2', c3, r, hA, hL, hadw, d0, d1, d2, d3, d4, d5'⟩ := six_bytes HRL.out (by omega)
        rw [hL] at hga
        have hco := getA_co hga
        subst hco
        subst hA
        rw [add_pos' _ _ (by omega)] at d1 d2 d3 d4 d5'
        have hi2 : (2 : Int) < (m : Int) := by omega
        have hi3 : (3 : Int) < (m : Int) := by omega
        have hi4 : (4 : Int) < (m : Int) := by omega
        have hi5 : (5 : Int) < (m : Int) := by omega
        clear hga d0 d1 hL HRL
        have hor := or4 c0 c1 c2' c3
        go_upto_region 14 with fail
        clear hst5
        generalize w5.heap.size = g5 at HK5 ⊢
        generalize w5.alloc (.cells #[.int .i64 (corr4 c0 c1 c2' c3), .int .i64 0, .string ⟨#[]⟩, .string ⟨#[]⟩, .int .i64 0, .int .i64 0, .int .i64 0, .int .i64 0, .int .i64 0, .int .i64 0, .int .i64 0, .int .i64 0, .int .i64 0, .slice A5 n5 c5] 47) = W5 at HK5 HB5 HRx d2 d3 d4 d5' ⊢
        go_quiet (fail)
        clear hor d2 d3 d4 d5'
        obtain ⟨co, hco⟩ : ∃ co, corr4 c0 c1 c2' c3 = co := ⟨_, rfl⟩
        rw [hco] at HK5 ⊢
        clear hco
        have hdn := below_drawn (Below.refl W5.heap.size W5) nq
        have HB6 := Lib.hid (HB5.out.trans (below_le HB5.out.size hdn))
        have hld6 := ldA_bk (HK5.out.ext hdn)
        have HRx6 := RdT.ext HRx.out hdn
        clear hdn
        generalize W5.drewN nq = W6 at HB6 hld6 HRx6 ⊢
        have HA := Lib.hid (show Calls Tryz.prog 35 #[.agg #[.int .i64 co, .int .i64 0, .string ⟨#[]⟩, .string ⟨#[]⟩, .int .i64 0, .int .i64 0, .int .i64 0, .int .i64 0, .int .i64 0, .int .i64 0, .int .i64 0, .int .i64 0, .int .i64 0, .slice A5 n5 c5], .agg #[.int .i64 co, .int .i64 0, .string ⟨#[]⟩, .string ⟨#[]⟩, .int .i64 0, .int .i64 0, .int .i64 0, .int .i64 0, .int .i64 0, .int .i64 0, .int .i64 0, .int .i64 0, .int .i64 0, .slice none 0 0]] W6 (fun e w' => e = .returned (.bool true) ∧ Below (W6).heap.size (W6) w') from asks_any (noA.num co) (noA.num co) A5 none n5 c5 0 0 true (sameAll_iff.2 rfl) _ HRx6 (RdT.nil _))
        clear HRx6
        go_wp2_with fail
        with_reducible refine HA.out.mono ?_
        rintro er w6 ⟨rfl, hb6⟩
        have HB7 := Lib.hid (HB6.out.trans (below_le HB6.out.size hb6))
        clear hb6
        go_wp2_with fail
        refine (askRuns_any _ (ErrLaid.below HL.out HB7.out)).mono ?_
        rintro er w9 ⟨rfl, hb9⟩
        go_wp2_with fail
        go_ret
        exact ⟨rfl, HB7.out.trans (below_le HB7.out.size hb9)⟩
    | ok x =>
      have hG := aget_ok (A4) m c4 (lb.take m) w4 HR4.out (by omega) x hga
      obtain ⟨hR, hP⟩ := getA_inv hga
      with_reducible refine hG.mono ?_
      rintro er w5 ⟨A5, n5, c5, rfl, hr5, hb5, _⟩
      have hst5 := stA_newAt w5 w5.heap.size rfl x.corr x.kind x.topic x.group x.part x.parts x.first x.off x.most x.time x.bat.time x.bat.prod x.bat.seq A5 n5 c5 #[.int .i64 0, .int .i64 0, .string ⟨#[]⟩, .string ⟨#[]⟩, .int .i64 0, .int .i64 0, .int .i64 0, .int .i64 0, .int .i64 0, .int .i64 0, .int .i64 0, .int .i64 0, .int .i64 0, .slice none 0 0] rfl
      have hbn5 := below_new w5 (.cells #[.int .i64 x.corr, .int .i64 x.kind, .string x.topic, .string x.group, .int .i64 x.part, .int .i64 x.parts, .int .i64 x.first, .int .i64 x.off, .int .i64 x.most, .int .i64 x.time, .int .i64 x.bat.time, .int .i64 x.bat.prod, .int .i64 x.bat.seq, .slice A5 n5 c5] 47)
      have hk5 := Bk.made w5 47 #[.int .i64 x.corr, .int .i64 x.kind, .string x.topic, .string x.group, .int .i64 x.part, .int .i64 x.parts, .int .i64 x.first, .int .i64 x.off, .int .i64 x.most, .int .i64 x.time, .int .i64 x.bat.time, .int .i64 x.bat.prod, .int .i64 x.bat.seq, .slice A5 n5 c5]
      have hld5 := ldA_bk hk5
      have HB5 := Lib.hid ((HB4.out.trans (below_le HB4.out.size hb5)).trans (below_le (Nat.le_trans HB4.out.size hb5.size) hbn5))
      have HRL := Lib.hid ((RdB.ext HR4.out hb5).ext hbn5)
      have HRx := Lib.hid (RdT.ext hr5 hbn5)
      have HK5 := Lib.hid hk5
      have HRt := Lib.hid (aRight_any x A5 n5 c5 _ HRx.out true hR)
      have HPt := Lib.hid (fun w hr => aPut_any x A5 n5 c5 w hr)
      clear hr5 hbn5 hk5 hb5 hG HB4 HR4 hR hga
      go_wp2_with fail
      with_reducible refine HRt.out.mono ?_
      rintro er w6 ⟨rfl, hb6⟩
      have hld6 := ldA_bk (HK5.out.ext hb6)
      have HB6 := Lib.hid (HB5.out.trans (below_le HB5.out.size hb6))
      have HRL6 := Lib.hid (RdB.ext HRL.out hb6)
      have HRx6 := Lib.hid (RdT.ext HRx.out hb6)
      clear hld5 hb6 HB5 HRL HRx HK5 HRt hst5
      go_wp2_with fail
      with_reducible refine (HPt.out _ HRx6.out).mono ?_
      rintro er w7 ⟨A7, M7, c7, rfl, ho7, hb7⟩
      rw [hP] at ho7
      have hS7 := sameB_any A7 M7 c7 _ _ _ _ _ w7 ho7.rd (RdB.ext HRL6.out hb7)
      rw [decide_eq_true rfl] at hS7
      have HS7 := Lib.hid hS7
      have HB7 := Lib.hid (HB6.out.trans (below_le HB6.out.size hb7))
      clear hS7 ho7 hb7 hld6 HPt
      go_wp2_with fail
      with_reducible refine HS7.out.mono ?_
      rintro er w8 ⟨rfl, q, rfl⟩
      have HB8 := Lib.hid (below_drawn HB7.out q)
      go_wp2_with fail
      refine (askRuns_any _ (ErrLaid.below HL.out HB8.out)).mono ?_
      rintro er w9 ⟨rfl, hb9⟩
      go_wp2_with fail
      go_ret
      exact ⟨rfl, HB8.out.trans (below_le HB8.out.size hb9)⟩
  · have hpos : 0 < M2 := by omega
    have hne : ((M2 : Int) == 0) = false := by simp; omega
    have hgt : (0 : Int) < (M2 : Int) := by omega
    have hra : rightA y = true := by
      cases h : rightA y
      · have := hlen2
        rw [putA_no h] at this
        exact (hzero this.symm).elim
      · rfl
    have Hra := Lib.hid hra
    have h6 := putA_len6 hra
    rw [hlen2] at h6
    clear hlen2 hra hzero
    go_wp2_with (first | (at_builtin; go_loud (refine wpList_append_more rfl (.tmp 17) (.tmp 19) rfl W1.heap.size W1 _ [] rfl HE2.out A2 M2 c2 (putA y) rfl HRd2.out (by simp; omega) HB2.out HB2.out.size M2 (by simp) hpos ?_; intro g cap w3 hg hcap1 hcap2 ho3 hb3 hs3; have HO3 := Lib.hid (show OwnAt w3 g cap (putA y) from ho3.out); have HB3 := Lib.hid hb3; have e1 : w3.cell? ⟨g1, 1, none⟩ = some (.int .i64 y.kind) := (HK1.out.ext hb3).cell 1; clear ho3 hb3 hs3)) | fail)
    have hgB : w.heap.size ≤ g := Nat.le_trans HB1.out.size hg
    with_reducible refine (writes_any y.kind w3).mono ?_
    rintro er wX ⟨rfl, rfl⟩
    cases hw : writK y.kind
    · have HOx := Lib.hid HO3.out
      have HBx := Lib.hid (HB1.out.trans (below_le HB1.out.size HB3.out))
      clear hw e1 HE2 HB2 HRd2 HO3
      obtain ⟨wX, hwX⟩ : ∃ wX, wX = w3 := ⟨_, rfl⟩
      rw [← hwX] at HOx HBx ⊢
      clear hwX
      have hwr : wrap64 ((M2 : Int) - 1) = (M2 : Int) - 1 := IntWalk.wrap64_in _ ⟨by omega, by omega⟩
      obtain ⟨k, hk⟩ : ∃ k : Nat, within z 0 ((M2 : Int) - 1) = k := ⟨(within z 0 ((M2 : Int) - 1)).toNat, by have := within_in z 0 ((M2 : Int) - 1) (by omega); omega⟩
      have hkM : k < M2 := by have := within_in z 0 ((M2 : Int) - 1) (by omega); omega
      have hk1 : (k : Int) < (M2 : Int) := by omega
      have hk0 : (0 : Int) ≤ (k : Int) := by omega
      obtain ⟨u, _, hcell⟩ := HOx.out.get (i := k) (Nat.lt_of_lt_of_eq hkM hM2.out.symm)
      have hth := HOx.out.thaw k
      have hW := within_any z 0 ((M2 : Int) - 1) wX (by omega) (by omega) (by omega) hz.1 hz.2
      rw [hk] at hW
      have HO4 := Lib.hid (HOx.out.put k (u ^^^ b0))
      have HB4a := Lib.hid (below_grown HBx.out HBx.out.size (grown_set wX ⟨g, k, none⟩ (.int .u8 (w8 (u ^^^ b0)))) hgB)
      have hlen4 : ((putA y).set k (u ^^^ b0)).length = M2 := by rw [List.length_set]; exact hM2.out
      obtain ⟨L4, hL4⟩ : ∃ L4, (putA y).set k (u ^^^ b0) = L4 := ⟨_, rfl⟩
      rw [hL4] at HO4 hlen4
      have HR4a := Lib.hid (HO4.out.whole M2 cap hlen4.symm hcap1 hcap2)
      have HWi := Lib.hid hW
      clear hL4 hlen4 HO4 hW hk
      go_wp2_with fail
      with_reducible refine HWi.out.mono ?_
      rintro er w4 ⟨rfl, rfl⟩
      go_wp2_with fail
      generalize wX.setCell ⟨g, k, none⟩ (.int .u8 (w8 (u ^^^ b0))) = w4 at HR4a HB4a ⊢
      have HB4 := Lib.hid HB4a.out
      have HR4 := Lib.hid HR4a.out
      clear HB4a HR4a hcell hth hk0 hk1 hkM hwr HOx
      cases hga : getA L4 with
      | error p =>
        obtain ⟨co, ek⟩ := p
        have hG := aget_err (some ⟨g, 0, none⟩) M2 cap L4 w4 HR4.out (by omega) co ek hga
        with_reducible refine hG.mono ?_
        rintro er w5 ⟨A5, n5, c5, v5, d5, rfl, hr5, hd5, hke5, hb5⟩
        have hst5 := stA_newAt w5 w5.heap.size rfl co 0 ⟨#[]⟩ ⟨#[]⟩ 0 0 0 0 0 0 0 0 0 A5 n5 c5 #[.int .i64 0, .int .i64 0, .string ⟨#[]⟩, .string ⟨#[]⟩, .int .i64 0, .int .i64 0, .int .i64 0, .int .i64 0, .int .i64 0, .int .i64 0, .int .i64 0, .int .i64 0, .int .i64 0, .slice none 0 0] rfl
        have hbn5 := below_new w5 (.cells #[.int .i64 co, .int .i64 0, .string ⟨#[]⟩, .string ⟨#[]⟩, .int .i64 0, .int .i64 0, .int .i64 0, .int .i64 0, .int .i64 0, .int .i64 0, .int .i64 0, .int .i64 0, .int .i64 0, .slice A5 n5 c5] 47)
        have HK5 := Lib.hid (Bk.made w5 47 #[.int .i64 co, .int .i64 0, .string ⟨#[]⟩, .string ⟨#[]⟩, .int .i64 0, .int .i64 0, .int .i64 0, .int .i64 0, .int .i64 0, .int .i64 0, .int .i64 0, .int .i64 0, .int .i64 0, .slice A5 n5 c5])
        have HB5 := Lib.hid ((HB4.out.trans (below_le HB4.out.size hb5)).trans (below_le (Nat.le_trans HB4.out.size hb5.size) hbn5))
        have HRL := Lib.hid ((RdB.ext HR4.out hb5).ext hbn5)
        have HRx := Lib.hid (RdT.ext hr5 hbn5)
        have hne5 := hke5.ne
        have hgu5 := hke5.guardN 69
        clear hr5 hbn5 hb5 hG HB4 HR4 hke5
        by_cases h6 : M2 < 6
        · omega
        · have hh6 : (6 : Int) ≤ (M2 : Int) := by omega
          obtain ⟨ad, v, kk, c0, c1, c2', c3, r, hA, hL, hadw, d0, d1, d2, d3, d4, d5'⟩ := six_bytes HRL.out (by omega)
          rw [hL] at hga
          have hco := getA_co hga
          subst hco
          injection hA with hA
          subst hA
          rw [add_pos' _ _ (by omega)] at d1 d2 d3 d4 d5'
          have hi2 : (2 : Int) < (M2 : Int) := by omega
          have hi3 : (3 : Int) < (M2 : Int) := by omega
          have hi4 : (4 : Int) < (M2 : Int) := by omega
          have hi5 : (5 : Int) < (M2 : Int) := by omega
          clear hga d0 d1 hL HRL
          have hor := or4 c0 c1 c2' c3
          go_upto_region 14 with fail
          clear hst5
          generalize w5.heap.size = g5 at HK5 ⊢
          generalize w5.alloc (.cells #[.int .i64 (corr4 c0 c1 c2' c3), .int .i64 0, .string ⟨#[]⟩, .string ⟨#[]⟩, .int .i64 0, .int .i64 0, .int .i64 0, .int .i64 0, .int .i64 0, .int .i64 0, .int .i64 0, .int .i64 0, .int .i64 0, .slice A5 n5 c5] 47) = W5 at HK5 HB5 HRx d2 d3 d4 d5' ⊢
          go_quiet (fail)
          clear hor d2 d3 d4 d5'
          obtain ⟨co, hco⟩ : ∃ co, corr4 c0 c1 c2' c3 = co := ⟨_, rfl⟩
          rw [hco] at HK5 ⊢
          clear hco
          have hdn := below_drawn (Below.refl W5.heap.size W5) nq
          have HB6 := Lib.hid (HB5.out.trans (below_le HB5.out.size hdn))
          have hld6 := ldA_bk (HK5.out.ext hdn)
          have HRx6 := RdT.ext HRx.out hdn
          clear hdn
          generalize W5.drewN nq = W6 at HB6 hld6 HRx6 ⊢
          have HA := Lib.hid (show Calls Tryz.prog 35 #[.agg #[.int .i64 co, .int .i64 0, .string ⟨#[]⟩, .string ⟨#[]⟩, .int .i64 0, .int .i64 0, .int .i64 0, .int .i64 0, .int .i64 0, .int .i64 0, .int .i64 0, .int .i64 0, .int .i64 0, .slice A5 n5 c5], .agg #[.int .i64 co, .int .i64 0, .string ⟨#[]⟩, .string ⟨#[]⟩, .int .i64 0, .int .i64 0, .int .i64 0, .int .i64 0, .int .i64 0, .int .i64 0, .int .i64 0, .int .i64 0, .int .i64 0, .slice none 0 0]] W6 (fun e w' => e = .returned (.bool true) ∧ Below (W6).heap.size (W6) w') from asks_any (noA.num co) (noA.num co) A5 none n5 c5 0 0 true (sameAll_iff.2 rfl) _ HRx6 (RdT.nil _))
          clear HRx6
          go_wp2_with fail
          with_reducible refine HA.out.mono ?_
          rintro er w6 ⟨rfl, hb6⟩
          have HB7 := Lib.hid (HB6.out.trans (below_le HB6.out.size hb6))
          clear hb6
          go_wp2_with fail
          refine (askRuns_any _ (ErrLaid.below HL.out HB7.out)).mono ?_
          rintro er w9 ⟨rfl, hb9⟩
          go_wp2_with fail
          go_ret
          exact ⟨rfl, HB7.out.trans (below_le HB7.out.size hb9)⟩
      | ok x =>
        have hG := aget_ok (some ⟨g, 0, none⟩) M2 cap L4 w4 HR4.out (by omega) x hga
        obtain ⟨hR, hP⟩ := getA_inv hga
        with_reducible refine hG.mono ?_
        rintro er w5 ⟨A5, n5, c5, rfl, hr5, hb5, _⟩
        have hst5 := stA_newAt w5 w5.heap.size rfl x.corr x.kind x.topic x.group x.part x.parts x.first x.off x.most x.time x.bat.time x.bat.prod x.bat.seq A5 n5 c5 #[.int .i64 0, .int .i64 0, .string ⟨#[]⟩, .string ⟨#[]⟩, .int .i64 0, .int .i64 0, .int .i64 0, .int .i64 0, .int .i64 0, .int .i64 0, .int .i64 0, .int .i64 0, .int .i64 0, .slice none 0 0] rfl
        have hbn5 := below_new w5 (.cells #[.int .i64 x.corr, .int .i64 x.kind, .string x.topic, .string x.group, .int .i64 x.part, .int .i64 x.parts, .int .i64 x.first, .int .i64 x.off, .int .i64 x.most, .int .i64 x.time, .int .i64 x.bat.time, .int .i64 x.bat.prod, .int .i64 x.bat.seq, .slice A5 n5 c5] 47)
        have hk5 := Bk.made w5 47 #[.int .i64 x.corr, .int .i64 x.kind, .string x.topic, .string x.group, .int .i64 x.part, .int .i64 x.parts, .int .i64 x.first, .int .i64 x.off, .int .i64 x.most, .int .i64 x.time, .int .i64 x.bat.time, .int .i64 x.bat.prod, .int .i64 x.bat.seq, .slice A5 n5 c5]
        have hld5 := ldA_bk hk5
        have HB5 := Lib.hid ((HB4.out.trans (below_le HB4.out.size hb5)).trans (below_le (Nat.le_trans HB4.out.size hb5.size) hbn5))
        have HRL := Lib.hid ((RdB.ext HR4.out hb5).ext hbn5)
        have HRx := Lib.hid (RdT.ext hr5 hbn5)
        have HK5 := Lib.hid hk5
        have HRt := Lib.hid (aRight_any x A5 n5 c5 _ HRx.out true hR)
        have HPt := Lib.hid (fun w hr => aPut_any x A5 n5 c5 w hr)
        clear hr5 hbn5 hk5 hb5 hG HB4 HR4 hR hga
        go_wp2_with fail
        with_reducible refine HRt.out.mono ?_
        rintro er w6 ⟨rfl, hb6⟩
        have hld6 := ldA_bk (HK5.out.ext hb6)
        have HB6 := Lib.hid (HB5.out.trans (below_le HB5.out.size hb6))
        have HRL6 := Lib.hid (RdB.ext HRL.out hb6)
        have HRx6 := Lib.hid (RdT.ext HRx.out hb6)
        clear hld5 hb6 HB5 HRL HRx HK5 HRt hst5
        go_wp2_with fail
        with_reducible refine (HPt.out _ HRx6.out).mono ?_
        rintro er w7 ⟨A7, M7, c7, rfl, ho7, hb7⟩
        rw [hP] at ho7
        have hS7 := sameB_any A7 M7 c7 _ _ _ _ _ w7 ho7.rd (RdB.ext HRL6.out hb7)
        rw [decide_eq_true rfl] at hS7
        have HS7 := Lib.hid hS7
        have HB7 := Lib.hid (HB6.out.trans (below_le HB6.out.size hb7))
        clear hS7 ho7 hb7 hld6 HPt
        go_wp2_with fail
        with_reducible refine HS7.out.mono ?_
        rintro er w8 ⟨rfl, q, rfl⟩
        have HB8 := Lib.hid (below_drawn HB7.out q)
        go_wp2_with fail
        refine (askRuns_any _ (ErrLaid.below HL.out HB8.out)).mono ?_
        rintro er w9 ⟨rfl, hb9⟩
        go_wp2_with fail
        go_ret
        exact ⟨rfl, HB8.out.trans (below_le HB8.out.size hb9)⟩
    · have Hw := Lib.hid hw
      have l3 := ldA_bk (HK1.out.ext HB3.out)
      have HE := Lib.hid (aent_any y A1 n1 c1 w3)
      have hre2 : rightE y.ent = true := by
        obtain ⟨_, ⟨_, _, _, h⟩ | ⟨h, _⟩⟩ := rightA_facts Hra.out
        · exact h
        · rw [hw] at h; cases h
      have HRe := Lib.hid hre2
      clear hw hre2
      go_wp2_with fail
      with_reducible refine HE.out.mono ?_
      rintro er w5' ⟨rfl, hb5'⟩
      have HP3 : Hid (Calls Tryz.prog 10 #[.agg #[.int .i64 y.kind, .string y.topic, .string y.group, .int .i64 y.part, .int .i64 y.parts, .int .i64 y.first, .int .i64 y.off, .int .i64 y.bat.time, .int .i64 y.bat.prod, .int .i64 y.bat.seq, .slice A1 n1 c1]] w5' fun er w' => ∃ A' M c', er = .returned (.slice A' M c') ∧ OwnB w' w5'.heap.size (.slice A' M c') (putE y.ent) ∧ Below w5'.heap.size w5' w') := ePut_any y.ent A1 n1 c1 w5' (RdT.ext (RdT.ext HR1.out HB3.out) hb5')
      have Hb5' := Lib.hid hb5'
      clear hb5' l3 HE
      go_wp2_with fail
      with_reducible refine HP3.out.mono ?_
      rintro er w6' ⟨A6, M6, c6, rfl, ho6, hb6'⟩
      have Hb36 := Lib.hid (Hb5'.out.trans (below_le Hb5'.out.size hb6'))
      have hl6 := ho6.rd.len
      have hM61 : 0 < M6 := by rw [← hl6, putE_eq HRe.out]; simp
      have hcap6 := ho6.rd.cap
      have HRo := Lib.hid ((HO3.out.whole M2 cap hM2.out.symm hcap1 hcap2).ext Hb36.out)
      have hdr : (putA y).drop 6 = (putE y.ent).drop 1 := by
        rw [putA_eq Hra.out]
        show restA y = _
        unfold restA
        rw [if_pos Hw.out]
      have hSm := Lib.hid (fun t : Ext w6' => ext_of_drawn (v := .bool true) (by
        have h := sameB_any _ (M2 - 6) (cap - 6) ((putA y).drop 6) _ (M6 - 1) (c6 - 1) ((putE y.ent).drop 1) t.w (RdB.ext (HRo.out.past' 6 h6) t.below) (RdB.ext (ho6.rd.past' 1 (by omega)) t.below)
        rw [decide_eq_true hdr] at h
        exact h))
      have i1 : (6 : Int) ≤ (M2 : Int) := by omega
      have i2 : (M2 : Int) ≤ (cap : Int) := by omega
      have i3 : (1 : Int) ≤ (M6 : Int) := by omega
      have i4 : (M6 : Int) ≤ (c6 : Int) := by omega
      have i5 : decide ((M6 : Int) < 1) = false := decide_eq_false (by omega)
      have i6 : ¬ (M6 : Int) < 1 := by omega
      clear ho6 hb6' hl6 HP3 Hb5'
      go_upto_region 5 with fail
      refine wp_region_ext (by kernel_rfl) (by kernel_rfl) ?_
      repeat (go_big_quiet_step (first | (go_at_call 13; with_reducible exact hSm.out _)))
      refine wpQuiet_nil ?_
      intro _ hw'
      obtain ⟨t, hw''⟩ := hw'
      subst hw''
      have HOx := Lib.hid ((HO3.out.ext Hb36.out).ext t.below)
      have hb1 := HB1.out.trans (below_le HB1.out.size HB3.out)
      have hb2 := hb1.trans (below_le hb1.size Hb36.out)
      have HBx := Lib.hid (hb2.trans (below_le hb2.size t.below))
      clear hb1 hb2 hSm e1 HE2 HB2 HRd2 HO3 HRo hdr
      generalize t.w = wX at HOx HBx ⊢
      have hwr : wrap64 ((M2 : Int) - 1) = (M2 : Int) - 1 := IntWalk.wrap64_in _ ⟨by omega, by omega⟩
      obtain ⟨k, hk⟩ : ∃ k : Nat, within z 0 ((M2 : Int) - 1) = k := ⟨(within z 0 ((M2 : Int) - 1)).toNat, by have := within_in z 0 ((M2 : Int) - 1) (by omega); omega⟩
      have hkM : k < M2 := by have := within_in z 0 ((M2 : Int) - 1) (by omega); omega
      have hk1 : (k : Int) < (M2 : Int) := by omega
      have hk0 : (0 : Int) ≤ (k : Int) := by omega
      obtain ⟨u, _, hcell⟩ := HOx.out.get (i := k) (Nat.lt_of_lt_of_eq hkM hM2.out.symm)
      have hth := HOx.out.thaw k
      have hW := within_any z 0 ((M2 : Int) - 1) wX (by omega) (by omega) (by omega) hz.1 hz.2
      rw [hk] at hW
      have HO4 := Lib.hid (HOx.out.put k (u ^^^ b0))
      have HB4a := Lib.hid (below_grown HBx.out HBx.out.size (grown_set wX ⟨g, k, none⟩ (.int .u8 (w8 (u ^^^ b0)))) hgB)
      have hlen4 : ((putA y).set k (u ^^^ b0)).length = M2 := by rw [List.length_set]; exact hM2.out
      obtain ⟨L4, hL4⟩ : ∃ L4, (putA y).set k (u ^^^ b0) = L4 := ⟨_, rfl⟩
      rw [hL4] at HO4 hlen4
      have HR4a := Lib.hid (HO4.out.whole M2 cap hlen4.symm hcap1 hcap2)
      have HWi := Lib.hid hW
      clear hL4 hlen4 HO4 hW hk
      go_wp2_with fail
      with_reducible refine HWi.out.mono ?_
      rintro er w4 ⟨rfl, rfl⟩
      go_wp2_with fail
      generalize wX.setCell ⟨g, k, none⟩ (.int .u8 (w8 (u ^^^ b0))) = w4 at HR4a HB4a ⊢
      have HB4 := Lib.hid HB4a.out
      have HR4 := Lib.hid HR4a.out
      clear HB4a HR4a hcell hth hk0 hk1 hkM hwr HOx
      cases hga : getA L4 with
      | error p =>
        obtain ⟨co, ek⟩ := p
        have hG := aget_err (some ⟨g, 0, none⟩) M2 cap L4 w4 HR4.out (by omega) co ek hga
        with_reducible refine hG.mono ?_
        rintro er w5 ⟨A5, n5, c5, v5, d5, rfl, hr5, hd5, hke5, hb5⟩
        have hst5 := stA_newAt w5 w5.heap.size rfl co 0 ⟨#[]⟩ ⟨#[]⟩ 0 0 0 0 0 0 0 0 0 A5 n5 c5 #[.int .i64 0, .int .i64 0, .string ⟨#[]⟩, .string ⟨#[]⟩, .int .i64 0, .int .i64 0, .int .i64 0, .int .i64 0, .int .i64 0, .int .i64 0, .int .i64 0, .int .i64 0, .int .i64 0, .slice none 0 0] rfl
        have hbn5 := below_new w5 (.cells #[.int .i64 co, .int .i64 0, .string ⟨#[]⟩, .string ⟨#[]⟩, .int .i64 0, .int .i64 0, .int .i64 0, .int .i64 0, .int .i64 0, .int .i64 0, .int .i64 0, .int .i64 0, .int .i64 0, .slice A5 n5 c5] 47)
        have HK5 := Lib.hid (Bk.made w5 47 #[.int .i64 co, .int .i64 0, .string ⟨#[]⟩, .string ⟨#[]⟩, .int .i64 0, .int .i64 0, .int .i64 0, .int .i64 0, .int .i64 0, .int .i64 0, .int .i64 0, .int .i64 0, .int .i64 0, .slice A5 n5 c5])
        have HB5 := Lib.hid ((HB4.out.trans (below_le HB4.out.size hb5)).trans (below_le (Nat.le_trans HB4.out.size hb5.size) hbn5))
        have HRL := Lib.hid ((RdB.ext HR4.out hb5).ext hbn5)
        have HRx := Lib.hid (RdT.ext hr5 hbn5)
        have hne5 := hke5.ne
        have hgu5 := hke5.guardN 69
        clear hr5 hbn5 hb5 hG HB4 HR4 hke5
        by_cases h6 : M2 < 6
        · omega
        · have hh6 : (6 : Int) ≤ (M2 : Int) := by omega
          obtain ⟨ad, v, kk, c0, c1, c2', c3, r, hA, hL, hadw, d0, d1, d2, d3, d4, d5'⟩ := six_bytes HRL.out (by omega)
          rw [hL] at hga
          have hco := getA_co hga
          subst hco
          injection hA with hA
          subst hA
          rw [add_pos' _ _ (by omega)] at d1 d2 d3 d4 d5'
          have hi2 : (2 : Int) < (M2 : Int) := by omega
          have hi3 : (3 : Int) < (M2 : Int) := by omega
          have hi4 : (4 : Int) < (M2 : Int) := by omega
          have hi5 : (5 : Int) < (M2 : Int) := by omega
          clear hga d0 d1 hL HRL
          have hor := or4 c0 c1 c2' c3
          go_upto_region 14 with fail
          clear hst5
          generalize w5.heap.size = g5 at HK5 ⊢
          generalize w5.alloc (.cells #[.int .i64 (corr4 c0 c1 c2' c3), .int .i64 0, .string ⟨#[]⟩, .string ⟨#[]⟩, .int .i64 0, .int .i64 0, .int .i64 0, .int .i64 0, .int .i64 0, .int .i64 0, .int .i64 0, .int .i64 0, .int .i64 0, .slice A5 n5 c5] 47) = W5 at HK5 HB5 HRx d2 d3 d4 d5' ⊢
          go_quiet (fail)
          clear hor d2 d3 d4 d5'
          obtain ⟨co, hco⟩ : ∃ co, corr4 c0 c1 c2' c3 = co := ⟨_, rfl⟩
          rw [hco] at HK5 ⊢
          clear hco
          have hdn := below_drawn (Below.refl W5.heap.size W5) nq
          have HB6 := Lib.hid (HB5.out.trans (below_le HB5.out.size hdn))
          have hld6 := ldA_bk (HK5.out.ext hdn)
          have HRx6 := RdT.ext HRx.out hdn
          clear hdn
          generalize W5.drewN nq = W6 at HB6 hld6 HRx6 ⊢
          have HA := Lib.hid (show Calls Tryz.prog 35 #[.agg #[.int .i64 co, .int .i64 0, .string ⟨#[]⟩, .string ⟨#[]⟩, .int .i64 0, .int .i64 0, .int .i64 0, .int .i64 0, .int .i64 0, .int .i64 0, .int .i64 0, .int .i64 0, .int .i64 0, .slice A5 n5 c5], .agg #[.int .i64 co, .int .i64 0, .string ⟨#[]⟩, .string ⟨#[]⟩, .int .i64 0, .int .i64 0, .int .i64 0, .int .i64 0, .int .i64 0, .int .i64 0, .int .i64 0, .int .i64 0, .int .i64 0, .slice none 0 0]] W6 (fun e w' => e = .returned (.bool true) ∧ Below (W6).heap.size (W6) w') from asks_any (noA.num co) (noA.num co) A5 none n5 c5 0 0 true (sameAll_iff.2 rfl) _ HRx6 (RdT.nil _))
          clear HRx6
          go_wp2_with fail
          with_reducible refine HA.out.mono ?_
          rintro er w6 ⟨rfl, hb6⟩
          have HB7 := Lib.hid (HB6.out.trans (below_le HB6.out.size hb6))
          clear hb6
          go_wp2_with fail
          refine (askRuns_any _ (ErrLaid.below HL.out HB7.out)).mono ?_
          rintro er w9 ⟨rfl, hb9⟩
          go_wp2_with fail
          go_ret
          exact ⟨rfl, HB7.out.trans (below_le HB7.out.size hb9)⟩
      | ok x =>
        have hG := aget_ok (some ⟨g, 0, none⟩) M2 cap L4 w4 HR4.out (by omega) x hga
        obtain ⟨hR, hP⟩ := getA_inv hga
        with_reducible refine hG.mono ?_
        rintro er w5 ⟨A5, n5, c5, rfl, hr5, hb5, _⟩
        have hst5 := stA_newAt w5 w5.heap.size rfl x.corr x.kind x.topic x.group x.part x.parts x.first x.off x.most x.time x.bat.time x.bat.prod x.bat.seq A5 n5 c5 #[.int .i64 0, .int .i64 0, .string ⟨#[]⟩, .string ⟨#[]⟩, .int .i64 0, .int .i64 0, .int .i64 0, .int .i64 0, .int .i64 0, .int .i64 0, .int .i64 0, .int .i64 0, .int .i64 0, .slice none 0 0] rfl
        have hbn5 := below_new w5 (.cells #[.int .i64 x.corr, .int .i64 x.kind, .string x.topic, .string x.group, .int .i64 x.part, .int .i64 x.parts, .int .i64 x.first, .int .i64 x.off, .int .i64 x.most, .int .i64 x.time, .int .i64 x.bat.time, .int .i64 x.bat.prod, .int .i64 x.bat.seq, .slice A5 n5 c5] 47)
        have hk5 := Bk.made w5 47 #[.int .i64 x.corr, .int .i64 x.kind, .string x.topic, .string x.group, .int .i64 x.part, .int .i64 x.parts, .int .i64 x.first, .int .i64 x.off, .int .i64 x.most, .int .i64 x.time, .int .i64 x.bat.time, .int .i64 x.bat.prod, .int .i64 x.bat.seq, .slice A5 n5 c5]
        have hld5 := ldA_bk hk5
        have HB5 := Lib.hid ((HB4.out.trans (below_le HB4.out.size hb5)).trans (below_le (Nat.le_trans HB4.out.size hb5.size) hbn5))
        have HRL := Lib.hid ((RdB.ext HR4.out hb5).ext hbn5)
        have HRx := Lib.hid (RdT.ext hr5 hbn5)
        have HK5 := Lib.hid hk5
        have HRt := Lib.hid (aRight_any x A5 n5 c5 _ HRx.out true hR)
        have HPt := Lib.hid (fun w hr => aPut_any x A5 n5 c5 w hr)
        clear hr5 hbn5 hk5 hb5 hG HB4 HR4 hR hga
        go_wp2_with fail
        with_reducible refine HRt.out.mono ?_
        rintro er w6 ⟨rfl, hb6⟩
        have hld6 := ldA_bk (HK5.out.ext hb6)
        have HB6 := Lib.hid (HB5.out.trans (below_le HB5.out.size hb6))
        have HRL6 := Lib.hid (RdB.ext HRL.out hb6)
        have HRx6 := Lib.hid (RdT.ext HRx.out hb6)
        clear hld5 hb6 HB5 HRL HRx HK5 HRt hst5
        go_wp2_with fail
        with_reducible refine (HPt.out _ HRx6.out).mono ?_
        rintro er w7 ⟨A7, M7, c7, rfl, ho7, hb7⟩
        rw [hP] at ho7
        have hS7 := sameB_any A7 M7 c7 _ _ _ _ _ w7 ho7.rd (RdB.ext HRL6.out hb7)
        rw [decide_eq_true rfl] at hS7
        have HS7 := Lib.hid hS7
        have HB7 := Lib.hid (HB6.out.trans (below_le HB6.out.size hb7))
        clear hS7 ho7 hb7 hld6 HPt
        go_wp2_with fail
        with_reducible refine HS7.out.mono ?_
        rintro er w8 ⟨rfl, q, rfl⟩
        have HB8 := Lib.hid (below_drawn HB7.out q)
        go_wp2_with fail
        refine (askRuns_any _ (ErrLaid.below HL.out HB8.out)).mono ?_
        rintro er w9 ⟨rfl, hb9⟩
        go_wp2_with fail
        go_ret
        exact ⟨rfl, HB8.out.trans (below_le HB8.out.size hb9)⟩
end Go.Proofs.YtpfdbbcfcimmfaaGreatDoor

/-
  EntryKinds: the walk.
-/
import Derived.Test.YtpfdbbcfcimmfaaDoorEFew
import Derived.Test.YtpfdbbcfcimmfaaDoorEKeep
import Derived.Test.YtpfdbbcfcimmfaaDoorEErrK
import Derived.Deep.CutRange
import Derived.Deep.QuietTactic
import Derived.BigQuiet
namespace Go.Proofs.YtpfdbbcfcimmfaaDoor
open Go.RowKit
attribute [local go_sem ↓] ldE_eq stE_eq
attribute [local go_sem] w8_nn w8_256 wrap_i64_w8 wrap64_w8 pastA_zero

theorem right_of_put {x : Ent} (h : putE x ≠ []) : rightE x = true := by
  cases hr : rightE x
  · exact (h (putE_no hr)).elim
  · rfl
theorem put_cons {x : Ent} (h : putE x ≠ []) : ∃ u r, putE x = u :: r ∧ w8 u = x.kind := by
  have hr := right_of_put h
  exact ⟨_, _, putE_eq hr, w8_kind (right_kind hr)⟩
set_option maxRecDepth 100000 in
set_option maxHeartbeats 4000000 in
theorem entryKinds_w (e : Ent) (A : Option Addr) (n c : Nat) (kd : UInt8) (w : World) (hl : ErrLaid w) (hr : RdT w A n c e.bat.vals) :
    Calls Tryd.prog 7 #[.agg #[.int .i64 e.kind, .string e.topic, .string e.group, .int .i64 e.part, .int .i64 e.parts, .int .i64 e.first, .int .i64 e.off, .int .i64 e.bat.time, .int .i64 e.bat.prod, .int .i64 e.bat.seq, .slice A n c], .int .u8 (w8 kd)] w fun er w' => er = .returned (.bool true) ∧ Below w.heap.size w w' := by
  have hbn := below_new w (.cells #[.int .i64 e.kind, .string e.topic, .string e.group, .int .i64 e.part, .int .i64 e.parts, .int .i64 e.first, .int .i64 e.off, .int .i64 e.bat.time, .int .i64 e.bat.prod, .int .i64 e.bat.seq, .slice A n c] 29)
  have hld := ldE_bk (Bk.made w 29 #[.int .i64 e.kind, .string e.topic, .string e.group, .int .i64 e.part, .int .i64 e.parts, .int .i64 e.first, .int .i64 e.off, .int .i64 e.bat.time, .int .i64 e.bat.prod, .int .i64 e.bat.seq, .slice A n c])
  have HF := Lib.hid (few_any e A n c _ (hr.ext hbn))
  have HB0 := Lib.hid hbn
  have HL := Lib.hid hl
  clear hbn hr hl
  go_enter Tryd.func7, Tryd.ntmps7
  go_wp2_with fail
  with_reducible refine HF.out.mono ?_
  rintro er w1 ⟨x, A1, n1, c1, rfl, hr1, hb1⟩
  have hst1 := stE_newAt w1 w1.heap.size rfl x.kind x.topic x.group x.part x.parts x.first x.off x.bat.time x.bat.prod x.bat.seq A1 n1 c1 #[.int .i64 0, .string ⟨#[]⟩, .string ⟨#[]⟩, .int .i64 0, .int .i64 0, .int .i64 0, .int .i64 0, .int .i64 0, .int .i64 0, .int .i64 0, .slice none 0 0] rfl
  have hbn1 := below_new w1 (.cells #[.int .i64 x.kind, .string x.topic, .string x.group, .int .i64 x.part, .int .i64 x.parts, .int .i64 x.first, .int .i64 x.off, .int .i64 x.bat.time, .int .i64 x.bat.prod, .int .i64 x.bat.seq, .slice A1 n1 c1] 29)
  have hk1 := Bk.made w1 29 #[.int .i64 x.kind, .string x.topic, .string x.group, .int .i64 x.part, .int .i64 x.parts, .int .i64 x.first, .int .i64 x.off, .int .i64 x.bat.time, .int .i64 x.bat.prod, .int .i64 x.bat.seq, .slice A1 n1 c1]
  have hld1 := ldE_bk hk1
  have HK1 := Lib.hid hk1
  have HR1 := Lib.hid (hr1.ext hbn1)
  have hB1 := HB0.out.trans (below_le HB0.out.size hb1)
  have HB1 := Lib.hid (hB1.trans (below_le hB1.size hbn1))
  have HP := Lib.hid (ePut_any x A1 n1 c1 _ HR1.out)
  clear hk1 hr1 hb1 hB1 hbn1 HF HB0
  go_wp2_with fail
  with_reducible refine HP.out.mono ?_
  rintro er w2 ⟨A2, M2, c2, rfl, ho2, hb2⟩
  clear hld1 hst1 hld HP
  generalize w1.heap.size = g1 at HK1 ⊢
  generalize w1.alloc (.cells #[.int .i64 x.kind, .string x.topic, .string x.group, .int .i64 x.part, .int .i64 x.parts, .int .i64 x.first, .int .i64 x.off, .int .i64 x.bat.time, .int .i64 x.bat.prod, .int .i64 x.bat.seq, .slice A1 n1 c1] 29) = W1 at HK1 HR1 HB1 ho2 hb2
  have HK2 := Lib.hid (HK1.out.ext hb2)
  have HR2 := Lib.hid (RdT.ext HR1.out hb2)
  have HB2 := Lib.hid (HB1.out.trans (below_le HB1.out.size hb2))
  have Hb12 := Lib.hid hb2
  have Ho2 := Lib.hid ho2
  clear hb2 ho2
  rcases OwnB.open_ Ho2.out with ⟨hv, hnil⟩ | ⟨g, cap, hv, hg, hat⟩
  · injection hv with hA hM hc
    subst hA hM hc
    clear hnil
    have hG := Lib.hid (eget_any none 0 0 [] w2 (Rd.nil _ _))
    go_wp2_with fail
    with_reducible refine hG.out.mono ?_
    rintro er w3 ⟨n0, A3, n3, c3, v3, rfl, hg3, hb3⟩
    obtain ⟨hr3, hv3⟩ := hg3
    obtain ⟨rfl, d3, k3, hd3, hke3, rfl⟩ : n0 = noE ∧ ∃ d k, d ≤ 1 ∧ IsErr (d + 1) v3 k ∧ k = 3 := by
      rcases hv3 with ⟨_, h⟩ | ⟨h0, d, k, h1, h2, h3⟩
      · exact absurd h (by simp [getE])
      · exact ⟨h0, d, k, h1, h2, by injection h3 with h4; exact h4.symm⟩
    have hst3 := stE_newAt w3 w3.heap.size rfl noE.kind noE.topic noE.group noE.part noE.parts noE.first noE.off noE.bat.time noE.bat.prod noE.bat.seq A3 n3 c3 #[.int .i64 0, .string ⟨#[]⟩, .string ⟨#[]⟩, .int .i64 0, .int .i64 0, .int .i64 0, .int .i64 0, .int .i64 0, .int .i64 0, .int .i64 0, .slice none 0 0] rfl
    have hbn3 := below_new w3 (.cells #[.int .i64 noE.kind, .string noE.topic, .string noE.group, .int .i64 noE.part, .int .i64 noE.parts, .int .i64 noE.first, .int .i64 noE.off, .int .i64 noE.bat.time, .int .i64 noE.bat.prod, .int .i64 noE.bat.seq, .slice A3 n3 c3] 29)
    have hb23 := hb3.trans (below_le hb3.size hbn3)
    have HB3 := Lib.hid (HB2.out.trans (below_le HB2.out.size hb23))
    have Hb23 := Lib.hid hb23
    have HKd := Lib.hid (kind_err hke3 hd3 _ (ErrLaid.below HL.out HB3.out))
    clear hr3 hv3 hke3 hbn3 hb3 hG hb23
    go_wp2_with fail
    with_reducible refine HKd.out.mono ?_
    rintro er w4 ⟨rfl, hb4⟩
    have Hb24 := Lib.hid (Hb23.out.trans (below_le Hb23.out.size hb4))
    have HB4 := Lib.hid (HB2.out.trans (below_le HB2.out.size Hb24.out))
    clear hst3 hb4 Hb23 HB3 HKd
    go_wp2_with fail
    refine (entryRuns_any _).mono ?_
    rintro er wz ⟨rfl, hbz⟩
    go_wp2_with fail
    go_ret
    exact ⟨rfl, HB4.out.trans (below_le HB4.out.size hbz)⟩
  · have hlen := Ho2.out.rd.len
    injection hv with hA hM hc
    subst hA hc
    have Hlen := Lib.hid hlen
    clear hM
    by_cases hpos : 0 < M2
    · have hpos' : 0 < (putE x).length := by rw [hlen]; exact hpos
      clear hlen
      have hne := List.ne_nil_of_length_pos hpos'
      obtain ⟨u, r, hput, hu⟩ := put_cons hne
      have HRt := Lib.hid (right_of_put hne)
      have Hput := Lib.hid hput
      have Hat := Lib.hid hat
      have Hg := Lib.hid hg
      clear hne hput hat hg
      have hG := Lib.hid (eget_any none 0 0 [] w2 (Rd.nil _ _))
      go_wp2_with fail
      with_reducible refine hG.out.mono ?_
      rintro er w3 ⟨n0, A3, n3, c3, v3, rfl, hg3, hb3⟩
      obtain ⟨hr3, hv3⟩ := hg3
      obtain ⟨rfl, d3, k3, hd3, hke3, rfl⟩ : n0 = noE ∧ ∃ d k, d ≤ 1 ∧ IsErr (d + 1) v3 k ∧ k = 3 := by
        rcases hv3 with ⟨_, h⟩ | ⟨h0, d, k, h1, h2, h3⟩
        · exact absurd h (by simp [getE])
        · exact ⟨h0, d, k, h1, h2, by injection h3 with h4; exact h4.symm⟩
      have hst3 := stE_newAt w3 w3.heap.size rfl noE.kind noE.topic noE.group noE.part noE.parts noE.first noE.off noE.bat.time noE.bat.prod noE.bat.seq A3 n3 c3 #[.int .i64 0, .string ⟨#[]⟩, .string ⟨#[]⟩, .int .i64 0, .int .i64 0, .int .i64 0, .int .i64 0, .int .i64 0, .int .i64 0, .int .i64 0, .slice none 0 0] rfl
      have hbn3 := below_new w3 (.cells #[.int .i64 noE.kind, .string noE.topic, .string noE.group, .int .i64 noE.part, .int .i64 noE.parts, .int .i64 noE.first, .int .i64 noE.off, .int .i64 noE.bat.time, .int .i64 noE.bat.prod, .int .i64 noE.bat.seq, .slice A3 n3 c3] 29)
      have hb23 := hb3.trans (below_le hb3.size hbn3)
      have HB3 := Lib.hid (HB2.out.trans (below_le HB2.out.size hb23))
      have Hb23 := Lib.hid hb23
      have HKd := Lib.hid (kind_err hke3 hd3 _ (ErrLaid.below HL.out HB3.out))
      clear hr3 hv3 hke3 hbn3 hb3 hG hb23
      go_wp2_with fail
      with_reducible refine HKd.out.mono ?_
      rintro er w4 ⟨rfl, hb4⟩
      have Hb24 := Lib.hid (Hb23.out.trans (below_le Hb23.out.size hb4))
      have HB4 := Lib.hid (HB2.out.trans (below_le HB2.out.size Hb24.out))
      clear hst3 hb4 Hb23 HB3 HKd
      have hnz : ((M2 : Int) == 0) = false := by simp; omega
      have hm0 : (0 : Int) < (M2 : Int) := by omega
      have HA4 := Lib.hid (Hat.out.ext Hb24.out)
      obtain ⟨u', hu0, hcell⟩ := HA4.out.get (i := 0) (by rw [Hlen.out]; exact hpos)
      obtain rfl : u' = u := by
        have h := hu0.out
        rw [Hput.out] at h
        simpa using h.symm
      have hth := HA4.out.thaw 0
      have hk4 := HK2.out.ext Hb24.out
      have dk : w4.cell? ⟨g1, 0, none⟩ = some (.int .i64 x.kind) := hk4.cell 0
      have hku : (w8 u' == x.kind) = true := by rw [hu]; simp
      have hkn : (w8 u' != x.kind) = false := by rw [hu]; simp
      have HK4 := Lib.hid hk4
      have Hu := Lib.hid hu
      clear hk4 hu hu0
      go_upto_region 8 with fail
      go_quiet (fail)
      go_wp2_with fail
      have hb14 := below_drawn (Hb12.out.trans (below_le Hb12.out.size Hb24.out)) nq
      have hbW := below_grown hb14 hb14.size (grown_set (w4.drewN nq) ⟨g, 0, none⟩ (.int .u8 (w8 kd))) Hg.out
      have hA5 := (HA4.out.drawn nq).put 0 kd
      have hl5 : (putE x).set 0 kd = kd :: r := by rw [Hput.out]; rfl
      rw [hl5] at hA5
      have hlr : M2 = (kd :: r).length := by rw [← Hlen.out, Hput.out]; rfl
      have HRb := Lib.hid (hA5.whole M2 c2 hlr (by rw [hlr]; exact hA5.room) hA5.big)
      have HbW := Lib.hid hbW
      have HL5 := Lib.hid hl5
      clear hb14 hbW hA5 hlr hcell hth dk hku hkn hl5
      generalize (w4.drewN nq).setCell ⟨g, 0, none⟩ (.int .u8 (w8 kd)) = w5 at HRb HbW ⊢
      have HK5 := Lib.hid (HK1.out.ext HbW.out)
      have HR5 := Lib.hid (RdT.ext HR1.out HbW.out)
      have HB5 := Lib.hid (HB1.out.trans (below_le HB1.out.size HbW.out))
      refine (eget_any (some ⟨g, 0, none⟩) M2 c2 (kd :: r) w5 HRb.out).mono ?_
      rintro er w6 ⟨y, A5, n5, c5, v5, rfl, hg6, hb6⟩
      obtain ⟨hr6, hv6⟩ := hg6
      have hst6 := stE_newAt w6 w6.heap.size rfl y.kind y.topic y.group y.part y.parts y.first y.off y.bat.time y.bat.prod y.bat.seq A5 n5 c5 #[.int .i64 0, .string ⟨#[]⟩, .string ⟨#[]⟩, .int .i64 0, .int .i64 0, .int .i64 0, .int .i64 0, .int .i64 0, .int .i64 0, .int .i64 0, .slice none 0 0] rfl
      have hbn6 := below_new w6 (.cells #[.int .i64 y.kind, .string y.topic, .string y.group, .int .i64 y.part, .int .i64 y.parts, .int .i64 y.first, .int .i64 y.off, .int .i64 y.bat.time, .int .i64 y.bat.prod, .int .i64 y.bat.seq, .slice A5 n5 c5] 29)
      have hb57 := hb6.trans (below_le hb6.size hbn6)
      have HY := Lib.hid (Bk.made w6 29 #[.int .i64 y.kind, .string y.topic, .string y.group, .int .i64 y.part, .int .i64 y.parts, .int .i64 y.first, .int .i64 y.off, .int .i64 y.bat.time, .int .i64 y.bat.prod, .int .i64 y.bat.seq, .slice A5 n5 c5])
      have HRy := Lib.hid (RdT.ext hr6 hbn6)
      have HK7 := Lib.hid (HK5.out.ext hb57)
      have HR7 := Lib.hid (RdT.ext HR5.out hb57)
      have HB7 := Lib.hid (HB5.out.trans (below_le HB5.out.size hb57))
      clear hr6 hb6 hbn6 hb57
      by_cases hlo : 1 ≤ w8 kd ∧ w8 kd ≤ 5
      · have hlo1 : ¬ (w8 kd < 1) := by omega
        have hlo2 : ¬ (5 < w8 kd) := by omega
        have hlo3 : decide (w8 kd < 1) = false := by simp; omega
        have hlo4 : decide (5 < w8 kd) = false := by simp; omega
        go_upto_region 14 with fail
        clear hst6 hlo1 hlo2 hlo3 hlo4
        generalize w6.heap.size = g9 at HY ⊢
        generalize w6.alloc (.cells #[.int .i64 y.kind, .string y.topic, .string y.group, .int .i64 y.part, .int .i64 y.parts, .int .i64 y.first, .int .i64 y.off, .int .i64 y.bat.time, .int .i64 y.bat.prod, .int .i64 y.bat.seq, .slice A5 n5 c5] 29) = W8 at HY HRy HK7 HR7 HB7 ⊢
        have hRuns := Lib.hid (fun t : Ext W8 => ext_of (entryRuns_any t.w))
        have dk : ∀ t : Ext W8, t.w.cell? ⟨g1, 0, none⟩ = some (.int .i64 x.kind) := fun t => (HK7.out.ext t.below).cell 0
        have dy : ∀ t : Ext W8, t.w.cell? ⟨g9, 0, none⟩ = some (.int .i64 y.kind) := fun t => (HY.out.ext t.below).cell 0
        have lx := fun t : Ext W8 => ldE_bk (HK7.out.ext t.below)
        have ly := fun t : Ext W8 => ldE_bk (HY.out.ext t.below)
        rcases hv6 with ⟨rfl, hok⟩ | ⟨hy, d, k, hd, hke, hge⟩
        · by_cases hkx : w8 kd = x.kind
          · have hyx : y = x := by
              have h1 := getE_put HRt.out
              rw [Hput.out, show u' = kd from w8_inj (by rw [hkx, Hu.out])] at h1
              rw [h1] at hok
              injection hok with h2
              exact h2.symm
            subst hyx
            have hb1 : (w8 kd == y.kind) = true := by rw [hkx]; simp
            have hb2 : (y.kind == w8 kd) = true := by rw [hkx]; simp
            have hEn := Lib.hid (fun t : Ext W8 => ext_of (entries_any y y A5 A1 n5 c5 n1 c1 true (by rw [(same_iff.2 rfl).1, (same_iff.2 rfl).2]; rfl) t.w (RdT.ext HRy.out t.below) (RdT.ext HR7.out t.below)))
            clear hkx hok
            refine wp_region_ext (by kernel_rfl) (by kernel_rfl) ?_
            repeat (go_big_quiet_step (first | (go_at_call 14; with_reducible exact hEn.out _) | (go_at_call 3; with_reducible exact hRuns.out _)))
            refine wpQuiet_nil ?_
            intro _ hw'
            obtain ⟨t, hw''⟩ := hw'
            subst hw''
            go_wp2
            go_ret
            exact ⟨rfl, HB7.out.trans (below_le HB7.out.size t.below)⟩
          · have hyk : y.kind = w8 kd := by
              obtain ⟨_, _, b, r', h1, h2⟩ := getE_inv hok
              injection h1 with h3
              rw [← h2, h3]
            have hb1 : (w8 kd == x.kind) = false := by simpa using hkx
            have hb2 : (y.kind == w8 kd) = true := by rw [hyk]; simp
            have hEn := Lib.hid (fun t : Ext W8 => ext_of (entries_any y x A5 A1 n5 c5 n1 c1 false (by unfold sameR; rw [decide_eq_false (show ¬ y.kind = x.kind by rw [hyk]; exact hkx)]; simp) t.w (RdT.ext HRy.out t.below) (RdT.ext HR7.out t.below)))
            clear hkx hok hyk
            refine wp_region_ext (by kernel_rfl) (by kernel_rfl) ?_
            repeat (go_big_quiet_step (first | (go_at_call 14; with_reducible exact hEn.out _) | (go_at_call 3; with_reducible exact hRuns.out _)))
            refine wpQuiet_nil ?_
            intro _ hw'
            obtain ⟨t, hw''⟩ := hw'
            subst hw''
            go_wp2
            go_ret
            exact ⟨rfl, HB7.out.trans (below_le HB7.out.size t.below)⟩
        · have hkx : ¬ w8 kd = x.kind := fun h => by
            have h1 := getE_put HRt.out
            rw [Hput.out, show u' = kd from w8_inj (by rw [h, Hu.out]), hge] at h1
            cases h1
          have hb1 : (w8 kd == x.kind) = false := by simpa using hkx
          have hn1 := hke.ne_nil
          have hn2 := hke.guard 58
          have hn3 := hke.ne
          have hn4 := hke.guardN 67
          have hEn := Lib.hid True.intro
          clear hkx hge hke hy
          refine wp_region_ext (by kernel_rfl) (by kernel_rfl) ?_
          repeat (go_big_quiet_step (first | (go_at_call 3; with_reducible exact hRuns.out _)))
          refine wpQuiet_nil ?_
          intro _ hw'
          obtain ⟨t, hw''⟩ := hw'
          subst hw''
          go_wp2
          go_ret
          exact ⟨rfl, HB7.out.trans (below_le HB7.out.size t.below)⟩
      · have herr : getE (kd :: r) = .error 2 := getE_none (by omega)
        obtain ⟨d5, k5, hd5, hke5, rfl⟩ : ∃ d k, d ≤ 1 ∧ IsErr (d + 1) v5 k ∧ k = 2 := by
          rcases hv6 with ⟨_, h⟩ | ⟨_, d, k, h1, h2, h3⟩
          · rw [herr] at h; cases h
          · rw [herr] at h3; exact ⟨d, k, h1, h2, by injection h3 with h4; exact h4.symm⟩
        have HKd := Lib.hid (kind_err hke5 hd5 _ (ErrLaid.below HL.out HB7.out))
        clear hke5 herr hv6
        rcases Decidable.em (w8 kd < 1) with h1 | h1
        · go_wp2_with fail
          with_reducible refine HKd.out.mono ?_
          rintro er w8' ⟨rfl, hb8⟩
          go_wp2_with fail
          refine (entryRuns_any _).mono ?_
          rintro er wz ⟨rfl, hbz⟩
          go_wp2_with fail
          go_ret
          have hb9 := HB7.out.trans (below_le HB7.out.size hb8)
          exact ⟨rfl, hb9.trans (below_le hb9.size hbz)⟩
        · have h5 : 5 < w8 kd := by omega
          go_wp2_with fail
          with_reducible refine HKd.out.mono ?_
          rintro er w8' ⟨rfl, hb8⟩
          go_wp2_with fail
          refine (entryRuns_any _).mono ?_
          rintro er wz ⟨rfl, hbz⟩
          go_wp2_with fail
          go_ret
          have hb9 := HB7.out.trans (below_le HB7.out.size hb8)
          exact ⟨rfl, hb9.trans (below_le hb9.size hbz)⟩
    · obtain rfl : M2 = 0 := by omega
      clear hlen hat hg hpos
      have hG := Lib.hid (eget_any none 0 0 [] w2 (Rd.nil _ _))
      go_wp2_with fail
      with_reducible refine hG.out.mono ?_
      rintro er w3 ⟨n0, A3, n3, c3, v3, rfl, hg3, hb3⟩
      obtain ⟨hr3, hv3⟩ := hg3
      obtain ⟨rfl, d3, k3, hd3, hke3, rfl⟩ : n0 = noE ∧ ∃ d k, d ≤ 1 ∧ IsErr (d + 1) v3 k ∧ k = 3 := by
        rcases hv3 with ⟨_, h⟩ | ⟨h0, d, k, h1, h2, h3⟩
        · exact absurd h (by simp [getE])
        · exact ⟨h0, d, k, h1, h2, by injection h3 with h4; exact h4.symm⟩
      have hst3 := stE_newAt w3 w3.heap.size rfl noE.kind noE.topic noE.group noE.part noE.parts noE.first noE.off noE.bat.time noE.bat.prod noE.bat.seq A3 n3 c3 #[.int .i64 0, .string ⟨#[]⟩, .string ⟨#[]⟩, .int .i64 0, .int .i64 0, .int .i64 0, .int .i64 0, .int .i64 0, .int .i64 0, .int .i64 0, .slice none 0 0] rfl
      have hbn3 := below_new w3 (.cells #[.int .i64 noE.kind, .string noE.topic, .string noE.group, .int .i64 noE.part, .int .i64 noE.parts, .int .i64 noE.first, .int .i64 noE.off, .int .i64 noE.bat.time, .int .i64 noE.bat.prod, .int .i64 noE.bat.seq, .slice A3 n3 c3] 29)
      have hb23 := hb3.trans (below_le hb3.size hbn3)
      have HB3 := Lib.hid (HB2.out.trans (below_le HB2.out.size hb23))
      have Hb23 := Lib.hid hb23
      have HKd := Lib.hid (kind_err hke3 hd3 _ (ErrLaid.below HL.out HB3.out))
      clear hr3 hv3 hke3 hbn3 hb3 hG hb23
      go_wp2_with fail
      with_reducible refine HKd.out.mono ?_
      rintro er w4 ⟨rfl, hb4⟩
      have Hb24 := Lib.hid (Hb23.out.trans (below_le Hb23.out.size hb4))
      have HB4 := Lib.hid (HB2.out.trans (below_le HB2.out.size Hb24.out))
      clear hst3 hb4 Hb23 HB3 HKd
      go_wp2_with fail
      refine (entryRuns_any _).mono ?_
      rintro er wz ⟨rfl, hbz⟩
      go_wp2_with fail
      go_ret
      exact ⟨rfl, HB4.out.trans (below_le HB4.out.size hbz)⟩
end Go.Proofs.YtpfdbbcfcimmfaaDoor

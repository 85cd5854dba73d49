/-
  EntryCanon: the walk.
-/
import Derived.Test.YtpfdbbcfcimmfaaDoorEFew
import Derived.Test.YtpfdbbcfcimmfaaDoorEKeep
namespace Go.Proofs.YtpfdbbcfcimmfaaDoor
open Go.RowKit
attribute [local go_sem ↓] ldE_eq stE_eq
attribute [local go_sem] w8_nn w8_256 wrap_i64_w8 wrap64_w8 pastA_zero xor_u8

def xC (x : Ent) (A : Option Addr) (n c : Nat) : Array Value := #[.int .i64 x.kind, .string x.topic, .string x.group, .int .i64 x.part, .int .i64 x.parts, .int .i64 x.first, .int .i64 x.off, .int .i64 x.bat.time, .int .i64 x.bat.prod, .int .i64 x.bat.seq, .slice A n c]
set_option maxRecDepth 100000 in
set_option maxHeartbeats 4000000 in
theorem entryCanon_w (e : Ent) (A : Option Addr) (n c : Nat) (Ab : Option Addr) (nb cb : Nat) (lb : List UInt8) (z : Int) (hz : fitI z) (b0 : UInt8) (w : World) (hr : RdT w A n c e.bat.vals) (hb : RdB w Ab nb cb lb) :
    Calls Tryd.prog 5 #[.agg #[.int .i64 e.kind, .string e.topic, .string e.group, .int .i64 e.part, .int .i64 e.parts, .int .i64 e.first, .int .i64 e.off, .int .i64 e.bat.time, .int .i64 e.bat.prod, .int .i64 e.bat.seq, .slice A n c], .slice Ab nb cb, .int .i64 z, .int .u8 (w8 b0)] w fun er w' => er = .returned (.bool true) ∧ Below w.heap.size w w' := by
  have hbn := below_two w (.cells #[.int .i64 e.kind, .string e.topic, .string e.group, .int .i64 e.part, .int .i64 e.parts, .int .i64 e.first, .int .i64 e.off, .int .i64 e.bat.time, .int .i64 e.bat.prod, .int .i64 e.bat.seq, .slice A n c] 29) (.cells #[] 5)
  have hld := ldE_bk ((Bk.made w 29 #[.int .i64 e.kind, .string e.topic, .string e.group, .int .i64 e.part, .int .i64 e.parts, .int .i64 e.first, .int .i64 e.off, .int .i64 e.bat.time, .int .i64 e.bat.prod, .int .i64 e.bat.seq, .slice A n c]).alloc (.cells #[] 5))
  have hemp := OwnB.empty' (w.alloc (.cells #[.int .i64 e.kind, .string e.topic, .string e.group, .int .i64 e.part, .int .i64 e.parts, .int .i64 e.first, .int .i64 e.off, .int .i64 e.bat.time, .int .i64 e.bat.prod, .int .i64 e.bat.seq, .slice A n c] 29)) w.heap.size (w.heap.size + 1) (by simp) (by simp)
  have HF := Lib.hid (few_any e A n c _ (hr.ext hbn))
  have HEm := Lib.hid hemp
  have HB0 := Lib.hid hbn
  have HRb := Lib.hid hb
  have hnb1 := hb.cap
  have hnb2 := hb.big
  have hnb3 := Lib.hid hb.len
  clear hbn hr hemp hb
  go_enter Tryd.func5, Tryd.ntmps5
  go_wp2_with fail
  with_reducible refine HF.out.mono ?_
  rintro er w1 ⟨y, A1, n1, c1, rfl, hr1, hb1⟩
  have HE1 := Lib.hid (HEm.out.ext hb1)
  have hB1 := HB0.out.trans (below_le HB0.out.size hb1)
  have HP := Lib.hid (ePut_any y A1 n1 c1 w1 hr1)
  clear hld hr1 hb1 HF HEm HB0
  go_wp2_with fail
  with_reducible refine HP.out.mono ?_
  rintro er w2 ⟨A2, M2, c2, rfl, ho2, hb2⟩
  have HE2 := Lib.hid (HE1.out.ext hb2)
  have hB2 := hB1.trans (below_le hB1.size hb2)
  have HO2 := Lib.hid ho2
  have HRd2 := Lib.hid ho2.rd
  have hM2 := Lib.hid ho2.rd.len
  have hM3 := Lib.hid (putE_len y)
  clear ho2 hb2 hB1 HE1 HP
  have hlen2 := hM2.out
  have hlim2 := hM3.out
  by_cases hzero : M2 = 0
  · subst hzero
    have hy0 : putE y = [] := List.eq_nil_of_length_eq_zero hlen2
    rw [hy0] at HO2 HRd2
    obtain ⟨m, hm1, hm2, hm3⟩ := int_min nb 60 (by omega)
    have hm4 : (m : Int) ≤ (nb : Int) := by omega
    have hm5 : (0 : Int) ≤ (m : Int) := by omega
    have hmn : (m : Int).toNat = m := by omega
    clear hy0 hlen2 hlim2
    go_wp2_with (first | (at_builtin; refine wpList_append_bytes rfl (.tmp 12) (.tmp 15) rfl w.heap.size w _ [] rfl HE2.out A2 0 c2 [] rfl HRd2.out (by simp) hB2 hB2.size 0 (by simp) ?_; intro A3 c3 w3 ho3 hb3 hs3; have hb3' := below_new w3 (.cells #[] 5); have HB3 := Lib.hid hb3; have HR3 := Lib.hid (RdB.ext HRb.out hb3); clear ho3) | (at_builtin; go_loud (refine wpList_append_bytes rfl (.tmp 20) (.tmp 25) rfl w.heap.size w _ [] rfl (OwnB.empty' w3 w.heap.size _ rfl HB3.out.size) Ab m cb (lb.take m) rfl (RdB.ext (RdB.upto HR3.out m hm2) hb3') (by simp; omega) (HB3.out.trans (below_le HB3.out.size hb3')) (Nat.le_trans HB3.out.size hb3'.size) m (by simp) ?_; intro A4 c4 w4 ho4 hb4 hs4; have HB4 := Lib.hid hb4; have HR4 := Lib.hid (show RdB w4 A4 m c4 (lb.take m) from ho4.out.rd); clear ho4 hb4 hs4)) | fail)
    have hG := eget_any (A4) m c4 (lb.take m) w4 HR4.out
    with_reducible refine hG.mono ?_
    rintro er w5 ⟨x, A5, n5, c5, v5, rfl, hg5, hb5⟩
    obtain ⟨hr5, hv5⟩ := hg5
    have hst5 := stE_newAt w5 w5.heap.size rfl x.kind x.topic x.group x.part x.parts x.first x.off x.bat.time x.bat.prod x.bat.seq A5 n5 c5 #[.int .i64 0, .string ⟨#[]⟩, .string ⟨#[]⟩, .int .i64 0, .int .i64 0, .int .i64 0, .int .i64 0, .int .i64 0, .int .i64 0, .int .i64 0, .slice none 0 0] rfl
    have hbn5 := below_new w5 (.cells #[.int .i64 x.kind, .string x.topic, .string x.group, .int .i64 x.part, .int .i64 x.parts, .int .i64 x.first, .int .i64 x.off, .int .i64 x.bat.time, .int .i64 x.bat.prod, .int .i64 x.bat.seq, .slice A5 n5 c5] 29)
    have hk5 := Bk.made w5 29 #[.int .i64 x.kind, .string x.topic, .string x.group, .int .i64 x.part, .int .i64 x.parts, .int .i64 x.first, .int .i64 x.off, .int .i64 x.bat.time, .int .i64 x.bat.prod, .int .i64 x.bat.seq, .slice A5 n5 c5]
    have hld5 := ldE_bk hk5
    have HB5 := Lib.hid ((HB4.out.trans (below_le HB4.out.size hb5)).trans (below_le (Nat.le_trans HB4.out.size hb5.size) hbn5))
    have HRL := Lib.hid ((RdB.ext HR4.out hb5).ext hbn5)
    have HRx := Lib.hid (RdT.ext hr5 hbn5)
    have HK5 := Lib.hid hk5
    clear hr5 hbn5 hk5 hb5 hG HB4 HR4
    rcases hv5 with ⟨rfl, hok⟩ | ⟨rfl, d, kk, _, hke, hge⟩
    · obtain ⟨hR, hP, _⟩ := getE_inv hok
      have HRt := Lib.hid (eRight_any x A5 n5 c5 _ HRx.out true hR)
      have HPt := Lib.hid (fun w hr => ePut_any x A5 n5 c5 w hr)
      clear hR hok
      go_wp2_with fail
      with_reducible refine HRt.out.mono ?_
      rintro er w6 ⟨rfl, hb6⟩
      have hld6 := ldE_bk (HK5.out.ext hb6)
      have HB6 := Lib.hid (HB5.out.trans (below_le HB5.out.size hb6))
      have HRL6 := Lib.hid (RdB.ext HRL.out hb6)
      have HRx6 := Lib.hid (RdT.ext HRx.out hb6)
      clear hld5 hb6 HB5 HRL HRx HK5 HRt hst5
      go_wp2_with fail
      with_reducible refine (HPt.out _ HRx6.out).mono ?_
      rintro er w7 ⟨A7, M7, c7, rfl, ho7, hb7⟩
      rw [hP] at ho7
      have hS7 := sameB_any A7 M7 c7 _ _ _ _ _ w7 ho7.rd (RdB.ext HRL6.out hb7)
      rw [decide_eq_true rfl] at hS7
      have HS7 := Lib.hid hS7
      have HB7 := Lib.hid (HB6.out.trans (below_le HB6.out.size hb7))
      clear hS7 ho7 hb7 hld6 HPt
      go_wp2_with fail
      with_reducible refine HS7.out.mono ?_
      rintro er w8 ⟨rfl, q, rfl⟩
      have HB8 := Lib.hid (below_drawn HB7.out q)
      go_wp2_with fail
      refine (entryRuns_any _).mono ?_
      rintro er w9 ⟨rfl, hb9⟩
      go_wp2_with fail
      go_ret
      exact ⟨rfl, HB8.out.trans (below_le HB8.out.size hb9)⟩
    · have hne5 := hke.ne
      have hgu5 := hke.guardN 43
      have hEn := entries_any noE noE A5 none n5 c5 0 0 true (by rfl) _ HRx.out (RdT.nil _)
      have HEn := Lib.hid hEn
      clear hEn hke hge
      go_wp2_with fail
      refine HEn.out.mono ?_
      rintro er w6 ⟨rfl, hb6⟩
      have HB6 := Lib.hid (HB5.out.trans (below_le HB5.out.size hb6))
      go_wp2_with fail
      refine (entryRuns_any _).mono ?_
      rintro er w9 ⟨rfl, hb9⟩
      go_wp2_with fail
      go_ret
      exact ⟨rfl, HB6.out.trans (below_le HB6.out.size hb9)⟩
  · have hpos : 0 < M2 := by omega
    have hne : ((M2 : Int) == 0) = false := by simp; omega
    have hwr : wrap64 ((M2 : Int) - 1) = (M2 : Int) - 1 := IntWalk.wrap64_in _ ⟨by omega, by omega⟩
    clear hlen2
    go_wp2_with (first | (at_builtin; go_loud (refine wpList_append_more rfl (.tmp 12) (.tmp 15) rfl w.heap.size w _ [] rfl HE2.out A2 M2 c2 (putE y) rfl HRd2.out (by have := hM2.out; simp; omega) hB2 hB2.size M2 (by simp) hpos ?_; intro g cap w3 hg hcap1 hcap2 ho3 hb3 hs3; have HO3 := Lib.hid (show OwnAt w3 g cap (putE y) from ho3.out); have HB3 := Lib.hid hb3; clear ho3 hb3 hs3)) | fail)
    obtain ⟨k, hk⟩ : ∃ k : Nat, within z 0 ((M2 : Int) - 1) = k := ⟨(within z 0 ((M2 : Int) - 1)).toNat, by have := within_in z 0 ((M2 : Int) - 1) (by omega); omega⟩
    have hkM : k < M2 := by have := within_in z 0 ((M2 : Int) - 1) (by omega); omega
    have hk1 : (k : Int) < (M2 : Int) := by omega
    have hk0 : (0 : Int) ≤ (k : Int) := by omega
    obtain ⟨u, _, hcell⟩ := HO3.out.get (i := k) (Nat.lt_of_lt_of_eq hkM hM2.out.symm)
    have hth := HO3.out.thaw k
    have hW := within_any z 0 ((M2 : Int) - 1) w3 (by omega) (by omega) (by have := hM2.out; have := hM3.out; omega) hz.1 hz.2
    rw [hk] at hW
    have HO4 := Lib.hid (HO3.out.put k (u ^^^ b0))
    have HB4a := Lib.hid (below_grown HB3.out HB3.out.size (grown_set w3 ⟨g, k, none⟩ (.int .u8 (w8 (u ^^^ b0)))) hg)
    have hlen4 : ((putE y).set k (u ^^^ b0)).length = M2 := by rw [List.length_set]; exact hM2.out
    obtain ⟨L4, hL4⟩ : ∃ L4, (putE y).set k (u ^^^ b0) = L4 := ⟨_, rfl⟩
    rw [hL4] at HO4 hlen4
    have HR4a := Lib.hid (HO4.out.whole M2 cap hlen4.symm hcap1 hcap2)
    clear hL4 hlen4 HO4
    with_reducible refine hW.mono ?_
    rintro er w4 ⟨rfl, rfl⟩
    go_wp2_with fail
    generalize w3.setCell ⟨g, k, none⟩ (.int .u8 (w8 (u ^^^ b0))) = w4 at HR4a HB4a ⊢
    have HB4 := Lib.hid HB4a.out
    have HR4 := Lib.hid HR4a.out
    clear HB4a HR4a hcell hth
    have hG := eget_any (some ⟨g, 0, none⟩) M2 cap L4 w4 HR4.out
    with_reducible refine hG.mono ?_
    rintro er w5 ⟨x, A5, n5, c5, v5, rfl, hg5, hb5⟩
    obtain ⟨hr5, hv5⟩ := hg5
    have hst5 := stE_newAt w5 w5.heap.size rfl x.kind x.topic x.group x.part x.parts x.first x.off x.bat.time x.bat.prod x.bat.seq A5 n5 c5 #[.int .i64 0, .string ⟨#[]⟩, .string ⟨#[]⟩, .int .i64 0, .int .i64 0, .int .i64 0, .int .i64 0, .int .i64 0, .int .i64 0, .int .i64 0, .slice none 0 0] rfl
    have hbn5 := below_new w5 (.cells #[.int .i64 x.kind, .string x.topic, .string x.group, .int .i64 x.part, .int .i64 x.parts, .int .i64 x.first, .int .i64 x.off, .int .i64 x.bat.time, .int .i64 x.bat.prod, .int .i64 x.bat.seq, .slice A5 n5 c5] 29)
    have hk5 := Bk.made w5 29 #[.int .i64 x.kind, .string x.topic, .string x.group, .int .i64 x.part, .int .i64 x.parts, .int .i64 x.first, .int .i64 x.off, .int .i64 x.bat.time, .int .i64 x.bat.prod, .int .i64 x.bat.seq, .slice A5 n5 c5]
    have hld5 := ldE_bk hk5
    have HB5 := Lib.hid ((HB4.out.trans (below_le HB4.out.size hb5)).trans (below_le (Nat.le_trans HB4.out.size hb5.size) hbn5))
    have HRL := Lib.hid ((RdB.ext HR4.out hb5).ext hbn5)
    have HRx := Lib.hid (RdT.ext hr5 hbn5)
    have HK5 := Lib.hid hk5
    clear hr5 hbn5 hk5 hb5 hG HB4 HR4
    rcases hv5 with ⟨rfl, hok⟩ | ⟨rfl, d, kk, _, hke, hge⟩
    · obtain ⟨hR, hP, _⟩ := getE_inv hok
      have HRt := Lib.hid (eRight_any x A5 n5 c5 _ HRx.out true hR)
      have HPt := Lib.hid (fun w hr => ePut_any x A5 n5 c5 w hr)
      clear hR hok
      go_wp2_with fail
      with_reducible refine HRt.out.mono ?_
      rintro er w6 ⟨rfl, hb6⟩
      have hld6 := ldE_bk (HK5.out.ext hb6)
      have HB6 := Lib.hid (HB5.out.trans (below_le HB5.out.size hb6))
      have HRL6 := Lib.hid (RdB.ext HRL.out hb6)
      have HRx6 := Lib.hid (RdT.ext HRx.out hb6)
      clear hld5 hb6 HB5 HRL HRx HK5 HRt hst5
      go_wp2_with fail
      with_reducible refine (HPt.out _ HRx6.out).mono ?_
      rintro er w7 ⟨A7, M7, c7, rfl, ho7, hb7⟩
      rw [hP] at ho7
      have hS7 := sameB_any A7 M7 c7 _ _ _ _ _ w7 ho7.rd (RdB.ext HRL6.out hb7)
      rw [decide_eq_true rfl] at hS7
      have HS7 := Lib.hid hS7
      have HB7 := Lib.hid (HB6.out.trans (below_le HB6.out.size hb7))
      clear hS7 ho7 hb7 hld6 HPt
      go_wp2_with fail
      with_reducible refine HS7.out.mono ?_
      rintro er w8 ⟨rfl, q, rfl⟩
      have HB8 := Lib.hid (below_drawn HB7.out q)
      go_wp2_with fail
      refine (entryRuns_any _).mono ?_
      rintro er w9 ⟨rfl, hb9⟩
      go_wp2_with fail
      go_ret
      exact ⟨rfl, HB8.out.trans (below_le HB8.out.size hb9)⟩
    · have hne5 := hke.ne
      have hgu5 := hke.guardN 43
      have hEn := entries_any noE noE A5 none n5 c5 0 0 true (by rfl) _ HRx.out (RdT.nil _)
      have HEn := Lib.hid hEn
      clear hEn hke hge
      go_wp2_with fail
      refine HEn.out.mono ?_
      rintro er w6 ⟨rfl, hb6⟩
      have HB6 := Lib.hid (HB5.out.trans (below_le HB5.out.size hb6))
      go_wp2_with fail
      refine (entryRuns_any _).mono ?_
      rintro er w9 ⟨rfl, hb9⟩
      go_wp2_with fail
      go_ret
      exact ⟨rfl, HB6.out.trans (below_le HB6.out.size hb9)⟩
end Go.Proofs.YtpfdbbcfcimmfaaDoor
